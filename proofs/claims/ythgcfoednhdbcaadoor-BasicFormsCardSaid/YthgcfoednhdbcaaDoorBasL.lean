/- Chapter 7: the reference's Bytes. No condition but the bounds that arguments have. -/
import Derived.Test.YthgcfoednhdbcaaDoorBasK
import Derived.Test.YthgcfoednhdbcaaDoorROf
import Derived.Deep.RegionHeld3
namespace Go.Proofs.YthgcfoednhdbcaaDoor
open Go.RowKit
set_option linter.unusedVariables false
set_option linter.unusedSimpArgs false

set_option maxHeartbeats 1000000 in
theorem rof_0 (x : Int) (w : World) : Calls Tryd.prog 29 #[.int .i64 0, .int .u32 x] w (Stay (.slice none 0 0) w) := by
  go_enter Tryd.func29, Tryd.ntmps29
  go_wp2
  refine wp_loop_rounds 1 ?_
  rw [rounds_succ]
  go_wp2
  go_ret
  exact ⟨rfl, Kp.refl _ _⟩

/-- What Of leaves. -/
def OfM (w : World) (k : Nat) (x : Int) (e : Ending) (w' : World) : Prop := ∃ A c, e = .returned (.slice A k c) ∧ Arr w' A (bs (putL k x)) ∧ Kp NoB w w'
theorem of_any {k a m c : Int} (h : wdO k = some (a, m, c)) (x : Int) (h0 : 0 ≤ x) (h1 : x ≤ m) (w : World) : Calls Tryd.prog 29 #[.int .i64 a, .int .u32 x] w (OfM w (wdT k) x) := by
  obtain ⟨hw, _⟩ := wdO_a h
  rcases wdO_kinds h with ⟨_, rfl, rfl, _⟩ | ⟨_, rfl, rfl, _⟩ | ⟨_, rfl, rfl, _⟩
  · rw [show wdT k = 1 by omega]
    exact (rof_1 x w h0 (by omega)).mono fun e w' ⟨A, c, h2, h3, h4⟩ => ⟨A, c, h2, Arr.of_own h3, h4⟩
  · rw [show wdT k = 4 by omega]
    exact (rof_4 x w h0 (by omega)).mono fun e w' ⟨A, c, h2, h3, h4⟩ => ⟨A, c, h2, Arr.of_own h3, h4⟩
  · rw [show wdT k = 0 by omega]
    exact (rof_0 x w).mono fun e w' ⟨h2, h4⟩ => ⟨none, 0, h2, Arr.nil _ _, h4⟩

/-- What the reference's Bytes leaves. -/
def RBytesM (w : World) (z : AtI) (e : Ending) (w' : World) : Prop :=
  ∃ A c, e = .returned (.tuple #[.slice A (bytesA z).length c, .bool (validA z)]) ∧ Arr w' A (bs (bytesA z)) ∧ Kp NoB w w'

set_option maxRecDepth 100000 in
set_option maxHeartbeats 800000 in
theorem rbytes_good (z : AtI) (hn : 0 ≤ z.n ∧ z.n < 4294967296) (a m c : Int) (hk : wdO z.t = some (a, m, c)) (hm : z.n ≤ m) (hv : validA z = true) (w : World) : Calls Tryd.prog 21 #[z.val] w (RBytesM w z) := by
  have HV := Lib.hid (fun W => rvalid_any z hn W)
  have HO := Lib.hid (fun W => of_any hk z.n hn.1 hm W)
  have HW := Lib.hid (fun W => rwidth_any z.t W)
  have hB : bytesA z = putL (wdT z.t) z.n := by unfold bytesA; rw [if_pos hv]
  have hl : (bytesA z).length = wdT z.t := by rw [hB, putL_length]
  have HF := Lib.hid (fun (A : Option Addr) (c : Nat) (w' : World) (h : Arr w' A (bs (putL (wdT z.t) z.n))) (hK : Kp NoB w w') => (show RBytesM w z (.returned (.tuple #[.slice A (wdT z.t) c, .bool true])) w' from ⟨A, c, by rw [hl, hv], by rw [hB]; exact h, hK⟩))
  rw [wdR_some hk] at HW
  simp only [hv] at HV
  unfold OfM at HO
  clear hB hl hv hk hm hn
  unfold AtI.val AtI.cs at *
  go_enter Tryd.func21, Tryd.ntmps21
  go_wp2_with (go_at_call 14; refine Calls.mono (HV.out _) ?_; rintro e w1 ⟨rfl, hK⟩; obtain ⟨hk1', hZ'⟩ := fin_at (z := z) hK; have hk1 := Lib.hid hk1'; have hZ := Lib.hid hZ'; obtain ⟨x0, x1, x2, x3, x4, x5, x6, x7, x8⟩ := hZ'.attr; clear hK hk1' hZ')
  go_region_held3 (fun w' => w'.cell? ⟨w.heap.size, 0, none⟩ = some (.int .i64 z.t) ∧ w'.cell? ⟨w.heap.size, 2, none⟩ = some (.int .u32 z.n)) (go_keep)
    (first
      | (go_at_call 34; refine Calls.mono (HW.out _) ?_; rintro e w2 ⟨rfl, rfl⟩)
      | (go_at_call 29; refine Calls.mono (HO.out _) ?_; rintro e w3 ⟨A, c', rfl, hA, hK⟩; have hk3 := Lib.hid (hk1.out.drew.and hK); have hA3 := Lib.hid hA; have hZ3 := Lib.hid ((bk_drew hZ.out).and hK); clear x0 x1 x2 x3 x4 x5 x6 x7 x8 hK hA; obtain ⟨x0, x1, x2, x3, x4, x5, x6, x7, x8⟩ := hZ3.out.attr))
  go_wp2
  go_ret2
  exact HF.out _ _ _ hA3.out hk3.out

theorem rbytes_bad (z : AtI) (hn : 0 ≤ z.n ∧ z.n < 4294967296) (hv : validA z = false) (w : World) : Calls Tryd.prog 21 #[z.val] w (Stay (.tuple #[.slice none 0 0, .bool false]) w) := by
  have HV := Lib.hid (fun W => rvalid_any z hn W)
  simp only [hv] at HV
  clear hn hv
  unfold AtI.val AtI.cs at *
  go_enter Tryd.func21, Tryd.ntmps21
  go_wp2_with (go_at_call 14; refine Calls.mono (HV.out _) ?_; rintro e w1 ⟨rfl, hK⟩; have hk1 := Lib.hid (((Kp.refl NoB w).alloc _).and hK); clear hK)
  go_ret2
  exact ⟨rfl, hk1.out⟩

theorem rbytes_any (z : AtI) (hn : 0 ≤ z.n ∧ z.n < 4294967296) (w : World) : Calls Tryd.prog 21 #[z.val] w (RBytesM w z) := by
  cases hv : validA z with
  | false => exact (rbytes_bad z hn hv w).mono fun e w' ⟨he, hK⟩ => ⟨none, 0, by unfold bytesA; rw [he, hv]; rfl, by unfold bytesA; rw [hv]; exact Arr.nil _ _, hK⟩
  | true =>
    cases hk : wdO z.t with
    | none => unfold validA at hv; rw [hk] at hv; cases hv
    | some r =>
      obtain ⟨a, m, c⟩ := r
      have hv' := hv
      unfold validA at hv'
      rw [hk] at hv'
      simp only [Bool.and_eq_true, decide_eq_true_eq] at hv'
      exact rbytes_good z hn a m c hk hv'.2 hv w

end Go.Proofs.YthgcfoednhdbcaaDoor
