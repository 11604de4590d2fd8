/- Package nlri: Bytes, Size: contracts by walking the Go text. -/
import Derived.Test.YtkkfigdfgagimaaNlC
import Derived.Test.YtkkfigdfgagimaaPartL
namespace Go.Proofs.Ytkkfigdfgagimaa
open Go.RowKit
set_option linter.unusedVariables false
set_option linter.unusedSimpArgs false

/-- The parts of the form, and the form. -/
def partsN (add : Bool) (xs : List RtI) : List (List Int) := xs.map (formR add)
def formN (add : Bool) (xs : List RtI) : List Int := xs.flatMap (formR add)
theorem cat_partsN (add : Bool) (xs : List RtI) : catL (partsN add xs) = formN add xs := rfl
theorem take_snocR {α : Type} (xs : List α) (j : Nat) (x : α) (h : xs[j]? = some x) : xs.take (j + 1) = xs.take j ++ [x] := by
  obtain ⟨h1, h2⟩ := List.getElem?_eq_some_iff.1 h
  rw [List.take_succ_eq_append_getElem h1, h2]
theorem partsN_snoc (add : Bool) (xs : List RtI) (j : Nat) (x : RtI) (h : xs[j]? = some x) : partsN add (xs.take (j + 1)) = partsN add (xs.take j) ++ [formR add x] := by
  rw [take_snocR xs j x h]
  simp [partsN]
theorem formN_len (add : Bool) (xs : List RtI) (h : ∀ x ∈ xs, validP x.pre = true) : (formN add xs).length ≤ 21 * xs.length := by
  induction xs with
  | nil => simp [formN]
  | cons x xs ih =>
    have h1 := ih (fun y hy => h y (by simp [hy]))
    have h2 := formR_len (add := add) (h x (by simp))
    simp only [formN, List.flatMap_cons, List.length_append, List.length_cons] at h1 ⊢
    omega
theorem validL_pre {fam : Int} {add : Bool} {xs : List RtI} (h : validL fam add xs = true) : ∀ x ∈ xs, validP x.pre = true := fun x hx => by
  have := List.all_eq_true.1 h x hx
  unfold okR at this
  simp only [Bool.and_eq_true] at this
  exact this.1.1
theorem formed_of {w w' w1 : World} {xs : List Int} {A : Option Addr} {c : Nat} (h : w'.ownsRow w1.heap.size 5 1 (.slice A xs.length c) xs.length (bs xs)) (k1 : Kp NoB w w1) (k : Kp NoB w1 w') (e : Ending) (he : e = .returned (.tuple #[.slice A xs.length c, .bool true])) : FormedP w xs e w' :=
  ⟨A, c, he, own_down h k1.size, k1.and k⟩

theorem nbytes_bad (fam : Int) (add : Bool) (A : Option Addr) (c : Nat) (xs : List RtI) (w : World) (hx : RtL w A xs) (hn : xs.length ≤ 1000000) (hv : validL fam add xs = false) :
    Calls Try.prog 24 #[.int .i64 fam, .bool add, .slice A xs.length c] w (Stay (.tuple #[.slice none 0 0, .bool false]) w) := by
  have HV := Lib.hid (nvalid_any fam add A c xs w hx hn)
  rw [hv] at HV
  clear hx hv
  obtain ⟨n, hnn⟩ : ∃ n, xs.length = n := ⟨_, rfl⟩
  rw [hnn] at hn HV ⊢
  clear hnn
  go_enter Try.func24, Try.ntmps24
  go_wp2_with (go_at_call 22; refine HV.out.mono ?_; rintro e w1 ⟨rfl, hK1⟩)
  go_ret2
  exact ⟨rfl, hK1⟩

set_option maxRecDepth 100000 in
set_option maxHeartbeats 4000000 in
theorem nbytes_good (fam : Int) (add : Bool) (A : Option Addr) (c : Nat) (xs : List RtI) (w : World) (hx : RtL w A xs) (hn : xs.length ≤ 1000000) (hv : validL fam add xs = true) :
    Calls Try.prog 24 #[.int .i64 fam, .bool add, .slice A xs.length c] w (FormedP w (formN add xs)) := by
  have HV := Lib.hid (nvalid_any fam add A c xs w hx hn)
  have HP := Lib.hid (validL_pre hv)
  rw [hv] at HV
  have HL := Lib.hid (formN_len add xs (validL_pre hv))
  have HX := Lib.hid hx
  clear hx hv
  obtain ⟨i0, hi, hz0, hz1, hz2⟩ := info_parts infoByS
  obtain ⟨F, hF⟩ : ∃ F, formN add xs = F := ⟨_, rfl⟩
  have HF := Lib.hid hF
  rw [hF] at HL ⊢
  clear hF
  obtain ⟨n, hnn⟩ : ∃ n, xs.length = n := ⟨_, rfl⟩
  have HN := Lib.hid hnn
  rw [hnn] at hn HV HL ⊢
  clear hnn
  go_enter Try.func24, Try.ntmps24
  go_wp2_with (go_at_call 22; refine HV.out.mono ?_; rintro e w1 ⟨rfl, hK1⟩)
  go_loopw [8, 18] (fun v i wr => ∃ (j : Nat) (A' : Option Addr) (c' : Nat) (ps : List Value), j ≤ n ∧ i = .int .i64 j ∧ v = .slice A' j c' ∧ Hid (wr.ownsRow w.heap.size 42 1 (.slice A' j c') j ps ∧ OwnL w wr (partsN add (xs.take j)) ps) ∧ Hid (Kp NoB w wr)) (fun _ i _ => n - (intOf i).toNat)
  case atStart => exact ⟨0, none, 0, [], Nat.zero_le _, rfl, rfl, Lib.hid ⟨World.ownsRow_nil _ _ _ _, OwnL.nil _ _⟩, Lib.hid hK1⟩
  case round =>
    obtain ⟨j, A', c', ps, hj, rfl, rfl, HO, HK⟩ := hrel
    by_cases hlt : j < n
    · obtain ⟨ad, x, hxj, hxB, hA, hc⟩ := (HX.out.and HK.out).at (by rw [HN.out]; exact hlt)
      subst hA
      have HC := Lib.hid hc
      have HS := Lib.hid (partsN_snoc add xs j x hxj)
      have h19 := rtC_length hxB.2.2.2.1
      have HI := Lib.hid (show (Try.prog.info? 31).map (·.size) = some (rtC x).length by rw [h19]; exact (size_of infoRt).2)
      have hpv := HP.out x (List.mem_of_getElem? hxj)
      have HFM := Lib.hid (fun w => form_any add x w hxB hpv)
      have HFL := Lib.hid (And.intro (formR_len (add := add) hpv) (formR_isB (add := add) hxB hpv))
      have HO1 := Lib.hid (all_oneCell_toArray (rtC_one x))
      unfold RtI.val at HFM
      obtain ⟨rs, hrs⟩ : ∃ rs, rtC x = rs := ⟨_, rfl⟩
      obtain ⟨L, hL⟩ : ∃ L, formR add x = L := ⟨_, rfl⟩
      rw [hrs] at HFM HC HI h19 HO1
      rw [hL] at HFM HFL HS
      clear hc hxj hxB hpv hrs hL
      have HI2 := Lib.hid (show (Try.prog.info? 31).map (·.size) = some rs.toArray.size from by rw [List.size_toArray]; exact HI.out)
      have HS19 := Lib.hid (show rs.toArray.size = 19 by rw [List.size_toArray]; exact h19)
      clear h19
      go_wp2_with (first
        | (refine wpList_load_at rfl 31 (.tmp 20) rfl (ad.add (j * 19)) rfl rs _ HC.out Try.underlying31 rfl HI.out ?_)
        | (refine wpList_store_new (w := wr) rfl 31 (.tmp 10) (.tmp 21) rfl _ rs.toArray rfl rfl 31 HI2.out HS19.out.symm HO1.out ?_)
        | (refine wpList_load_at rfl 31 (.tmp 10) rfl ⟨wr.heap.size, 0, none⟩ rfl rs _ (CellsAt.of_bk (Bk.fresh wr _ _)) Try.underlying31 rfl HI.out ?_)
        | (go_at_call 31; (with_reducible refine (HFM.out _).mono ?_); rintro e w2 ⟨A2, c2, rfl, hown2, hK2⟩; replace hown2 := Lib.hid hown2; replace hK2 := Lib.hid hK2)
        | (at_builtin; refine wpList_app (((HK.out.alloc _).and hK2.out).alloc _) rfl (.tmp 22) (.tmp 26) 78 rfl 42 i0 (.slice none 0 0) 1 24 Try.underlying78 hi hz0 hz1 hz2 rfl (by decide) _ j ps rfl ((((Kp.refl NoB _).alloc _).and hK2.out |>.alloc _).own HO.out.1 (fun _ _ q => q)) _ 1 1 [.slice A2 L.length c2] rfl rfl (Arr.one w2 _ _) (by simp [Value.oneCell']) (by omega) (by decide) (j + 1) rfl ?_; intro A3 c3 w3 hown3 hK3 hG _; replace hown3 := Lib.hid hown3; replace hK3 := Lib.hid hK3; replace hG := Lib.hid hG))
      go_roundw
      case rel =>
        refine ⟨j + 1, A3, c3, _, by omega, by go_num, rfl, Lib.hid ⟨hown3.out, ?_⟩, hK3⟩
        have hKa := ((Kp.refl NoB wr).alloc (.cells rs.toArray 31)).and hK2.out
        rw [HS.out]
        have h1 := (HO.out.2.and hKa).snoc ⟨A2, c2, rfl, HFL.out.2, own_down hown2.out (by have := HK.out.size; simp; omega)⟩
        have h2 := h1.and ((Kp.refl NoB w2).alloc (.cells #[.slice A2 L.length c2] 42))
        exact h2.keep (Kp.of_grown hG.out) (spares_own ((hKa.alloc _).own HO.out.1 (fun _ _ q => q)) (by decide))
      case measure => simp [intOf]; omega
    · have hj : j = n := by omega
      subst hj
      obtain ⟨hown, hps⟩ := HO.out
      have hxt : xs.take j = xs := List.take_of_length_le (by rw [HN.out]; omega)
      rw [hxt] at hps
      have hcat := cat_any A' c' (partsN add xs) wr (hps.sl (Arr.of_own hown)) (by rw [partsN, List.length_map, HN.out]; omega) (by rw [cat_partsN, HF.out]; have := HL.out; omega)
      rw [cat_partsN, HF.out, show (partsN add xs).length = j by rw [partsN, List.length_map, HN.out]] at hcat
      have HCAT := Lib.hid hcat
      clear hcat hxt hps hown
      go_wp2_with (go_at_call 45; refine HCAT.out.mono ?_; rintro e w2 ⟨A2, c2, rfl, hown2, hK2⟩)
      go_ret2
      exact formed_of hown2 HK.out hK2 _ rfl

end Go.Proofs.Ytkkfigdfgagimaa
