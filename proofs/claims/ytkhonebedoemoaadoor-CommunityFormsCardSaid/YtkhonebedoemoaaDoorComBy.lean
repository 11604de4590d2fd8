/- The reference's Bytes. No condition but the bounds that arguments have. -/
import Derived.Test.YtkhonebedoemoaaDoorComY
import Derived.Test.YtkhonebedoemoaaDoorROf
namespace Go.Proofs.YtkhonebedoemoaaDoor
open Go.RowKit
set_option linter.unusedVariables false
set_option linter.unusedSimpArgs false

theorem rbytes_bad (z : AtI) (ok : z.Ok) (w : World) (hv : validC z = false) : Calls Tryd.prog 18 #[z.val] w (BytesU w false []) := by
  have HV := Lib.hid (fun W => rvalid_any z ok W)
  rw [hv] at HV
  unfold AtI.val AtI.cs at *
  go_enter Tryd.func18, Tryd.ntmps18
  go_wp2_with (go_at_call 20; (with_reducible refine Calls.mono (HV.out _) ?_); rintro e w1 ⟨rfl, hK⟩; have hk1 := Lib.hid (((Kp.refl NoB w).alloc _).and hK); clear hK)
  go_ret2
  exact ⟨none, 0, rfl, World.ownsRow_nil _ _ _ _, hk1.out⟩

set_option maxRecDepth 100000 in
set_option maxHeartbeats 3200000 in
theorem rbytes_good (z : AtI) (ok : z.Ok) (xs : List Int) (w : World) (hx : InUs w z.L z.ln z.lc xs) (hl : z.ln ≤ 1000) (hv : validC z = true) : Calls Tryd.prog 18 #[z.val] w (BytesU w true (bytesU xs)) := by
  have HV := Lib.hid (fun W => rvalid_any z ok W)
  rw [hv] at HV
  obtain ⟨i0, hi, hz0, hz1, hz2⟩ := info_parts infoU8
  have HX := Lib.hid (fun W (k : Kp NoB w W) j (hj : j < z.ln) => (show ∃ ad x, z.L = some ad ∧ xs[j]? = some x ∧ W.cell? (ad.add j) = some (.int .u32 x) ∧ 0 ≤ x ∧ x < 4294967296 by
    have hjl : j < xs.length := by rw [hx.1]; exact hj
    obtain ⟨ad, e, hc⟩ := (hx.2.2.2.1.and k).at (j := j) (u := .int .u32 xs[j]) (by simp [us, hjl])
    have hb := hx.2.2.2.2 xs[j] (List.getElem_mem hjl)
    exact ⟨ad, xs[j], e, List.getElem?_eq_getElem hjl, hc, hb.1, hb.2⟩))
  have HP := Lib.hid (fun x W (h0 : 0 ≤ x) (h1 : x < 4294967296) => rof_4 x W h0 h1)
  unfold OfYes at HP
  have HN := Lib.hid hx.1
  have HB := Lib.hid (Bk.fresh w 28 z.cs)
  clear hx hv
  unfold AtI.val at *
  unfold AtI.cs at HV ⊢
  go_enter Tryd.func18, Tryd.ntmps18
  go_wp2_with (go_at_call 20; (with_reducible refine Calls.mono (HV.out _) ?_); rintro e w1 ⟨rfl, hK⟩; have hk1 := Lib.hid (((Kp.refl NoB w).alloc _).and hK); have hb1 := Lib.hid (HB.out.and hK); clear hK)
  go_loopw [4, 5] (fun v i wr => ∃ (j : Nat) (A' : Option Addr) (c' : Nat), j ≤ z.ln ∧ i = .int .i64 j ∧ v = .slice A' (4 * j) c' ∧ Hid (wr.ownsRow w.heap.size 5 1 (.slice A' (4 * j) c') (4 * j) (bs (bytesU (xs.take j)))) ∧ Hid (Kp NoB w wr) ∧ Hid (Bk wr w.heap.size 28 z.cs)) (fun _ i _ => z.ln - (intOf i).toNat)
  case atStart => exact ⟨0, none, 0, Nat.zero_le _, rfl, rfl, Lib.hid (World.ownsRow_nil _ _ _ _), hk1, hb1⟩
  case round =>
    obtain ⟨j, A', c', hj, rfl, rfl, HO, HK, HB1⟩ := hrel
    obtain ⟨x0, x1, x2, x3, x4, x5, x6, x7, x8⟩ := HB1.out.attr
    by_cases hlt : j < z.ln
    · obtain ⟨ad, x, hA, hxj, hc, h0, h1⟩ := HX.out _ HK.out j hlt
      have HS : Hid (bytesU (xs.take (j + 1)) = bytesU (xs.take j) ++ putL 4 x) := Lib.hid (by rw [List.take_add_one, hxj]; exact bytesU_snoc _ x)
      have HPX := Lib.hid (fun W => HP.out x W h0 h1)
      clear hxj h0 h1
      rw [hA] at x5
      rw [hA]
      clear x0 x1 x2 x3 x4 x6 x7 x8
      obtain ⟨m, hm⟩ : ∃ m, 4 * j = m := ⟨_, rfl⟩
      rw [hm] at HO
      rw [hm]
      go_wp2_with (first
        | (go_at_call 35; (with_reducible refine Calls.mono (HPX.out _) ?_); rintro e w2 ⟨A2, c2, rfl, hown2, hK2⟩; have ha2 := Lib.hid (Arr.of_own hown2); have hk2 := Lib.hid (HK.out.and hK2); have ho2 := Lib.hid (hK2.own HO.out (fun _ _ q => q)); have hb2 := Lib.hid (HB1.out.and hK2); clear hown2 hK2)
        | (at_builtin; refine wpList_app (w0 := w) (S := NoB) hk2.out rfl (.tmp 16) (.tmp 22) 25 rfl 5 i0 (.int .u8 0) 1 1 Tryd.underlying25 hi hz0 hz1 hz2 rfl (by decide) (.slice A' m c') m (bs (bytesU (xs.take j))) rfl ho2.out A2 4 c2 (bs (putL 4 x)) rfl (by rw [bs_length, putL_length]) ha2.out (bs_one _) (by omega) (by decide) (m + 4) rfl ?_; intro A3 c3 w3 hown3 hK3 hG _; have ho3 := Lib.hid hown3; have hk3 := Lib.hid hK3; have hb3 := Lib.hid (hb2.out.keep (Kp.of_grown hG) (fun e => own_off ho2.out hb2.out (by decide) e.symm)); clear hown3 hK3 hG))
      go_roundw
      case rel =>
        refine ⟨j + 1, A3, c3, by omega, by go_num, by rw [show 4 * (j + 1) = m + 4 by omega], Lib.hid ?_, hk3, hb3⟩
        rw [HS.out, show 4 * (j + 1) = m + 4 by omega]
        have h := ho3.out
        simpa [bs] using h
      case measure => simp [intOf]; omega
    · have hjz : j = z.ln := by omega
      subst hjz
      have hxt : xs.take z.ln = xs := List.take_of_length_le (by rw [HN.out]; omega)
      rw [hxt] at HO
      have HLE : Hid ((bytesU xs).length = 4 * z.ln) := Lib.hid (by rw [bytesU_len, HN.out])
      obtain ⟨m, hm⟩ : ∃ m, 4 * z.ln = m := ⟨_, rfl⟩
      rw [hm] at HO HLE
      rw [hm]
      clear x0 x1 x2 x3 x4 x6 x7 x8
      go_wp2
      go_ret2
      exact ⟨A', c', by rw [HLE.out]; rfl, by rw [HLE.out]; exact HO.out, HK.out⟩

end Go.Proofs.YtkhonebedoemoaaDoor
