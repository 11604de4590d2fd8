/- The reference's routes: Bytes: its contracts by walking the Go text. -/
import Derived.Test.YtkkfigdfgagimaaRNlA
namespace Go.Proofs.Ytkkfigdfgagimaa
open Go.RowKit
set_option linter.unusedVariables false
set_option linter.unusedSimpArgs false

theorem formN_app (add : Bool) (xs : List RtI) (j : Nat) (x : RtI) (h : xs[j]? = some x) : formN add (xs.take (j + 1)) = formN add (xs.take j) ++ formR add x := by
  rw [take_snocR xs j x h]
  simp [formN]

theorem rnbytes_bad (fam : Int) (add : Bool) (A : Option Addr) (c : Nat) (xs : List RtI) (w : World) (hx : RtL w A xs) (hn : xs.length ≤ 1000000) (hv : validL fam add xs = false) :
    Calls Try.prog 27 #[.int .i64 fam, .bool add, .slice A xs.length c] w (Stay (.tuple #[.slice none 0 0, .bool false]) w) := by
  have HV := Lib.hid (rnvalid_any fam add A c xs w hx hn)
  rw [hv] at HV
  clear hx hv
  obtain ⟨n, hnn⟩ : ∃ n, xs.length = n := ⟨_, rfl⟩
  rw [hnn] at hn HV ⊢
  clear hnn
  go_enter Try.func27, Try.ntmps27
  go_wp2_with (go_at_call 23; refine HV.out.mono ?_; rintro e w1 ⟨rfl, hK1⟩)
  go_ret2
  exact ⟨rfl, hK1⟩

set_option maxRecDepth 100000 in
set_option maxHeartbeats 4000000 in
theorem rnbytes_good (fam : Int) (add : Bool) (A : Option Addr) (c : Nat) (xs : List RtI) (w : World) (hx : RtL w A xs) (hn : xs.length ≤ 1000000) (hv : validL fam add xs = true) :
    Calls Try.prog 27 #[.int .i64 fam, .bool add, .slice A xs.length c] w (FormedP w (formN add xs)) := by
  have HV := Lib.hid (rnvalid_any fam add A c xs w hx hn)
  have HP := Lib.hid (validL_pre hv)
  rw [hv] at HV
  have HL := Lib.hid (fun j => formN_len add (xs.take j) (fun x hx => validL_pre hv x (List.mem_of_mem_take hx)))
  have HX := Lib.hid hx
  clear hx hv
  obtain ⟨i0, hi, hz0, hz1, hz2⟩ := info_parts infoU8
  obtain ⟨n, hnn⟩ : ∃ n, xs.length = n := ⟨_, rfl⟩
  have HN := Lib.hid hnn
  have HF : Hid (∀ j, j = n → formN add xs = formN add (xs.take j)) := Lib.hid (fun j hj => by rw [List.take_of_length_le (by omega)])
  rw [hnn] at hn HV ⊢
  clear hnn
  go_enter Try.func27, Try.ntmps27
  go_wp2_with (go_at_call 23; refine HV.out.mono ?_; rintro e w1 ⟨rfl, hK1⟩)
  go_loopw [8, 9] (fun v i wr => ∃ (j s : Nat) (A' : Option Addr) (c' : Nat), j ≤ n ∧ i = .int .i64 j ∧ v = .slice A' s c' ∧ Hid (s = (formN add (xs.take j)).length) ∧ Hid (wr.ownsRow w.heap.size 5 1 (.slice A' s c') s (bs (formN add (xs.take j)))) ∧ Hid (Kp NoB w wr)) (fun _ i _ => n - (intOf i).toNat)
  case atStart => exact ⟨0, 0, none, 0, Nat.zero_le _, rfl, rfl, Lib.hid rfl, Lib.hid (World.ownsRow_nil _ _ _ _), Lib.hid hK1⟩
  case round =>
    obtain ⟨j, s, A', c', hj, rfl, rfl, HS, HO, HK⟩ := hrel
    by_cases hlt : j < n
    · obtain ⟨ad, x, hxj, hxB, hA, hc⟩ := (HX.out.and HK.out).at (by rw [HN.out]; exact hlt)
      subst hA
      have HC := Lib.hid hc
      have HSN := Lib.hid (formN_app add xs j x hxj)
      have hsl : s ≤ 21 * j := by have h1 := HL.out j; have h2 := HS.out; have h3 := List.length_take_le j xs; omega
      have HI := Lib.hid (show (Try.prog.info? 31).map (·.size) = some (rtC x).length by rw [rtC_length hxB.2.2.2.1]; exact (size_of infoRt).2)
      have hpv := HP.out x (List.mem_of_getElem? hxj)
      have HFM := Lib.hid (fun w => rform_any add x w hxB hpv)
      have hfl := formR_len (add := add) hpv
      unfold RtI.val at HFM
      obtain ⟨rs, hrs⟩ : ∃ rs, rtC x = rs := ⟨_, rfl⟩
      obtain ⟨L, hL⟩ : ∃ L, formR add x = L := ⟨_, rfl⟩
      rw [hrs] at HFM HC HI
      rw [hL] at HFM hfl HSN
      clear hc hxj hxB hpv hrs hL
      go_wp2_with (first
        | (refine wpList_load_at rfl 31 (.tmp 25) rfl (ad.add (j * 19)) rfl rs _ HC.out Try.underlying31 rfl HI.out ?_)
        | (go_at_call 32; (with_reducible refine (HFM.out _).mono ?_); rintro e w2 ⟨A2, c2, rfl, hown2, hK2⟩; replace hown2 := Lib.hid hown2; replace hK2 := Lib.hid hK2)
        | (at_builtin; refine wpList_app (HK.out.and hK2.out) rfl (.tmp 21) (.tmp 27) 42 rfl 5 i0 (.int .u8 0) 1 1 Try.underlying42 hi hz0 hz1 hz2 rfl (by decide) (.slice A' s c') s (bs (formN add (xs.take j))) rfl (hK2.out.own HO.out (fun _ _ q => q)) A2 L.length c2 (bs L) rfl (by rw [bs_length, Nat.mul_one]) (Arr.of_own hown2.out) (bs_one L) (by omega) (by decide) (s + L.length) rfl ?_; intro A3 c3 w3 hown3 hK3 hG _; replace hown3 := Lib.hid hown3; replace hK3 := Lib.hid hK3))
      go_roundw
      case rel => exact ⟨j + 1, s + L.length, A3, c3, by omega, by go_num, rfl, Lib.hid (by rw [HSN.out, HS.out, List.length_append]), Lib.hid (by rw [HSN.out, bs_append]; exact hown3.out), hK3⟩
      case measure => simp [intOf]; omega
    · have hj' : j = n := by omega
      have HFF := Lib.hid (HF.out j hj')
      go_wp2
      go_ret2
      rw [HFF.out]
      have hs := HS.out
      subst hs
      exact ⟨A', c', rfl, HO.out, HK.out⟩

end Go.Proofs.Ytkkfigdfgagimaa
