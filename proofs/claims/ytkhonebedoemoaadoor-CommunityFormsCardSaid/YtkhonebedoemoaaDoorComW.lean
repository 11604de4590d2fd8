/- Package community: Bytes. No condition but the bounds that arguments have. -/
import Derived.Test.YtkhonebedoemoaaDoorComV
import Derived.Test.YtkhonebedoemoaaDoorPartL
import Derived.Test.YtkhonebedoemoaaDoorPutO
namespace Go.Proofs.YtkhonebedoemoaaDoor
open Go.RowKit
set_option linter.unusedVariables false
set_option linter.unusedSimpArgs false

/-- The bytes of numbers, one string each; joined. -/
def partsU (xs : List Int) : List (List Int) := xs.map (putL 4)
def bytesU (xs : List Int) : List Int := catL (partsU xs)
theorem bytesU_len (xs : List Int) : (bytesU xs).length = 4 * xs.length := by
  unfold bytesU catL partsU
  induction xs with
  | nil => rfl
  | cons x xs ih => rw [List.map_cons, List.flatten_cons, List.length_append, ih, putL_length, List.length_cons]; omega
theorem bytesU_isB (xs : List Int) : IsB (bytesU xs) := flat_isB _ (fun ys hy => by
  obtain ⟨x, _, rfl⟩ := List.mem_map.1 hy
  exact putL_isB 4 x)
theorem bytesU_snoc (xs : List Int) (x : Int) : bytesU (xs ++ [x]) = bytesU xs ++ putL 4 x := by
  simp [bytesU, catL, partsU]
theorem partsU_snoc (xs : List Int) (j : Nat) (x : Int) (h : xs[j]? = some x) : partsU (xs.take (j + 1)) = partsU (xs.take j) ++ [putL 4 x] := by
  unfold partsU
  rw [List.take_add_one, h, List.map_append]
  rfl
/-- What Bytes leaves. -/
def BytesU (w : World) (b : Bool) (l : List Int) (e : Ending) (w' : World) : Prop :=
  ∃ A c, e = .returned (.tuple #[.slice A l.length c, .bool b]) ∧ w'.ownsRow w.heap.size 5 1 (.slice A l.length c) l.length (bs l) ∧ Kp NoB w w'

theorem own_lower {w : World} {base base' n size : Nat} {e : TypeId} {v : Value} {xs : List Value} (h : w.ownsRow base e size v n xs) (hb : base' ≤ base) : w.ownsRow base' e size v n xs := by
  obtain ⟨h1, h2⟩ := h
  refine ⟨h1, ?_⟩
  rcases h2 with h2 | ⟨g, cap, cur, q1, q2, q3⟩
  · exact .inl h2
  · exact .inr ⟨g, cap, cur, q1, Nat.le_trans hb q2, q3⟩

theorem cbytes_bad (z : AtI) (ok : z.Ok) (w : World) (hv : validC z = false) : Calls Tryd.prog 17 #[z.val] w (BytesU w false []) := by
  have HV := Lib.hid (fun W => valid_any z ok W)
  rw [hv] at HV
  unfold AtI.val AtI.cs at *
  go_enter Tryd.func17, Tryd.ntmps17
  go_wp2_with (go_at_call 19; (with_reducible refine Calls.mono (HV.out _) ?_); rintro e w1 ⟨rfl, hK⟩; have hk1 := Lib.hid (((Kp.refl NoB w).alloc _).and hK); clear hK)
  go_ret2
  exact ⟨none, 0, rfl, World.ownsRow_nil _ _ _ _, hk1.out⟩

set_option maxRecDepth 100000 in
set_option maxHeartbeats 3200000 in
theorem cbytes_good (z : AtI) (ok : z.Ok) (xs : List Int) (w : World) (hx : InUs w z.L z.ln z.lc xs) (hl : z.ln ≤ 1000) (hv : validC z = true) : Calls Tryd.prog 17 #[z.val] w (BytesU w true (bytesU xs)) := by
  have HV := Lib.hid (fun W => valid_any z ok W)
  rw [hv] at HV
  obtain ⟨i0, hi, hz0, hz1, hz2⟩ := info_parts infoByS
  have HX := Lib.hid (fun W (k : Kp NoB w W) j (hj : j < z.ln) => (show ∃ ad x, z.L = some ad ∧ xs[j]? = some x ∧ W.cell? (ad.add j) = some (.int .u32 x) ∧ 0 ≤ x ∧ x < 4294967296 by
    have hjl : j < xs.length := by rw [hx.1]; exact hj
    obtain ⟨ad, e, hc⟩ := (hx.2.2.2.1.and k).at (j := j) (u := .int .u32 xs[j]) (by simp [us, hjl])
    have hb := hx.2.2.2.2 xs[j] (List.getElem_mem hjl)
    exact ⟨ad, xs[j], e, List.getElem?_eq_getElem hjl, hc, hb.1, hb.2⟩))
  have HP := Lib.hid (fun x W (h0 : 0 ≤ x) (h1 : x < 4294967296) => put_yes4 x W h0 h1)
  unfold PutYes at HP
  have HN := Lib.hid hx.1
  have HB := Lib.hid (Bk.fresh w 28 z.cs)
  clear hx hv
  unfold AtI.val at *
  unfold AtI.cs at HV ⊢
  go_enter Tryd.func17, Tryd.ntmps17
  go_wp2_with (go_at_call 19; (with_reducible refine Calls.mono (HV.out _) ?_); rintro e w1 ⟨rfl, hK⟩; have hk1 := Lib.hid (((Kp.refl NoB w).alloc _).and hK); obtain ⟨x0, x1, x2, x3, x4, x5, x6, x7, x8⟩ := (HB.out.and hK).attr; clear hK)
  clear x0 x1 x2 x3 x4 x5 x6 x7 x8
  go_loopw [4, 15] (fun v i wr => ∃ (j : Nat) (A' : Option Addr) (c' : Nat) (ps : List Value), j ≤ z.ln ∧ i = .int .i64 j ∧ v = .slice A' j c' ∧ Hid (wr.ownsRow w.heap.size 25 1 (.slice A' j c') j ps ∧ OwnL w wr (partsU (xs.take j)) ps) ∧ Hid (Kp NoB w wr)) (fun _ i _ => z.ln - (intOf i).toNat)
  case atStart => exact ⟨0, none, 0, [], Nat.zero_le _, rfl, rfl, Lib.hid ⟨World.ownsRow_nil _ _ _ _, OwnL.nil _ _⟩, hk1⟩
  case round =>
    obtain ⟨j, A', c', ps, hj, rfl, rfl, HO, HK⟩ := hrel
    by_cases hlt : j < z.ln
    · obtain ⟨ad, x, hA, hxj, hc, h0, h1⟩ := HX.out _ HK.out j hlt
      have HS := Lib.hid (partsU_snoc xs j x hxj)
      have HPX := Lib.hid (fun W => HP.out x W h0 h1)
      clear hxj h0 h1
      rw [hA]
      go_wp2_with (first
        | (go_at_call 33; (with_reducible refine Calls.mono (HPX.out _) ?_); rintro e w2 ⟨A2, c2, rfl, hown2, hK2⟩; replace hown2 := Lib.hid hown2; replace hK2 := Lib.hid hK2)
        | (at_builtin; refine wpList_app ((HK.out.and hK2.out).alloc _) rfl (.tmp 24) (.tmp 26) 56 rfl 25 i0 (.slice none 0 0) 1 24 Tryd.underlying56 hi hz0 hz1 hz2 rfl (by decide) _ j ps rfl ((hK2.out.and ((Kp.refl NoB _).alloc _)).own HO.out.1 (fun _ _ q => q)) _ 1 1 [.slice A2 4 c2] rfl rfl (Arr.one w2 _ _) (by simp [Value.oneCell']) (by omega) (by decide) (j + 1) rfl ?_; intro A3 c3 w3 hown3 hK3 hG _; replace hown3 := Lib.hid hown3; replace hK3 := Lib.hid hK3; replace hG := Lib.hid hG))
      go_roundw
      case rel =>
        refine ⟨j + 1, A3, c3, _, by omega, by go_num, rfl, Lib.hid ⟨hown3.out, ?_⟩, hK3⟩
        rw [HS.out]
        have hl4 := putL_length 4 x
        have hob : OwnB w w2 (putL 4 x) (.slice A2 4 c2) := ⟨A2, c2, by rw [hl4], putL_isB 4 x, by rw [hl4]; exact own_lower hown2.out HK.out.size⟩
        have h1 := (HO.out.2.and hK2.out).snoc hob
        have h2 := h1.and ((Kp.refl NoB w2).alloc (.cells #[.slice A2 4 c2] 25))
        exact h2.keep (Kp.of_grown hG.out) (spares_own ((hK2.out.and ((Kp.refl NoB _).alloc _)).own HO.out.1 (fun _ _ q => q)) (by decide))
      case measure => simp [intOf]; omega
    · have hjz : j = z.ln := by omega
      subst hjz
      obtain ⟨hown, hps⟩ := HO.out
      have hxt : xs.take z.ln = xs := List.take_of_length_le (by rw [HN.out]; omega)
      rw [hxt] at hps
      have hpl : (partsU xs).length = z.ln := by rw [partsU, List.length_map, HN.out]
      have hcat := cat_any A' c' (partsU xs) wr (hps.sl (Arr.of_own hown)) (by rw [hpl]; omega) (by show (bytesU xs).length ≤ _; rw [bytesU_len, HN.out]; omega)
      rw [show catL (partsU xs) = bytesU xs from rfl, hpl] at hcat
      have HCAT := Lib.hid hcat
      clear hcat hxt hps hown
      go_wp2_with (go_at_call 34; (with_reducible refine Calls.mono HCAT.out ?_); rintro e w2 ⟨A2, c2, rfl, hown2, hK2⟩)
      go_ret2
      exact ⟨A2, c2, rfl, own_lower hown2 HK.out.size, HK.out.and hK2⟩

end Go.Proofs.YtkhonebedoemoaaDoor
