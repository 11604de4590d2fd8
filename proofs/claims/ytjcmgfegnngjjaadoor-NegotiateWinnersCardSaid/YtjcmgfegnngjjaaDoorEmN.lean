/- What two ends without capabilities have agreed on: contracts. No condition. -/
import Derived.Test.YtjcmgfegnngjjaaDoorEmC
import Derived.Test.YtjcmgfegnngjjaaDoorOpA
import Derived.Deep.RegionHeld3
import Derived.LoopN
import Derived.WalkLawsBesides
namespace Go.Proofs.YtjcmgfegnngjjaaDoor
open Go.RowKit
set_option linter.unusedVariables false
set_option linter.unusedSimpArgs false

/-- An OPEN without capabilities. -/
def ev (s h i : Int) : Value := .agg #[.int .u32 s, .int .i64 h, .int .u32 i, .slice none 0 0]
/-- No options. -/
def o0 : Value := .agg #[.bool false, .bool false, .bool false, .bool false, .bool false, .bool false]

theorem esystem0 (s h i : Int) (w : World) : Calls Tryd.prog 49 #[ev s h i] w (Stay (.bool false) w) := by
  have HS := Lib.hid (fun W => system_any none 0 [] [] W (CapL.nil W) (Arr.nil _ _) (by decide))
  rw [show sysV [] = 0 from rfl, show sysB [] = false from rfl, show ([] : List CapI).length = 0 from rfl] at HS
  unfold ev
  go_enter Tryd.func49, Tryd.ntmps49
  go_wp2_with (go_at_call 61; refine (HS.out _).mono ?_; rintro e w1 ⟨rfl, hK⟩; replace hK := Lib.hid hK)
  go_ret
  exact ⟨rfl, ((Kp.refl NoB w).alloc _).and hK.out⟩

theorem eextended0 (s h i : Int) (w : World) : Calls Tryd.prog 50 #[ev s h i] w (Stay (.bool false) w) := by
  have HS := Lib.hid (fun W => has0 6 0 (by decide) W)
  unfold ev
  go_enter Tryd.func50, Tryd.ntmps50
  go_wp2_with (go_at_call 62; refine (HS.out _).mono ?_; rintro e w1 ⟨rfl, hK⟩; replace hK := Lib.hid hK)
  go_ret
  exact ⟨rfl, ((Kp.refl NoB w).alloc _).and hK.out⟩

theorem efour0 (s h i : Int) (w : World) : Calls Tryd.prog 51 #[ev s h i] w (Stay (.bool false) w) := by
  have HS := Lib.hid (fun W => family0 1 (by decide) W)
  unfold ev
  go_enter Tryd.func51, Tryd.ntmps51
  go_wp2_with (go_at_call 63; refine (HS.out _).mono ?_; rintro e w1 ⟨rfl, hK⟩; replace hK := Lib.hid hK)
  go_ret
  exact ⟨rfl, ((Kp.refl NoB w).alloc _).and hK.out⟩

theorem esix0 (s h i : Int) (w : World) : Calls Tryd.prog 52 #[ev s h i] w (Stay (.bool false) w) := by
  have HS := Lib.hid (fun W => family0 2 (by decide) W)
  unfold ev
  go_enter Tryd.func52, Tryd.ntmps52
  go_wp2_with (go_at_call 63; refine (HS.out _).mono ?_; rintro e w1 ⟨rfl, hK⟩; replace hK := Lib.hid hK)
  go_ret
  exact ⟨rfl, ((Kp.refl NoB w).alloc _).and hK.out⟩

theorem ecan0 (s h i k d : Int) (wk : (Lit.int .i64 k).wf = true) (hd : (bits .and .i64 0 d != 0) = false) (w : World) : Calls Tryd.prog 42 #[ev s h i, .int .i64 k, .int .i64 d] w (Stay (.bool false) w) := by
  have HS := Lib.hid (fun W => mode0 k wk W)
  unfold ev
  go_enter Tryd.func42, Tryd.ntmps42
  go_wp2_with (go_at_call 53; refine (HS.out _).mono ?_; rintro e w1 ⟨rfl, hK⟩; replace hK := Lib.hid hK)
  go_ret
  exact ⟨rfl, ((Kp.refl NoB w).alloc _).and hK.out⟩

/-- The four questions. -/
def fv (f : Nat) : Value := .func (.func f) #[] #[]
theorem run_asks (w : World) :
    (Instr.index 98 (.agg #[.func (.func 49) #[] #[], .func (.func 50) #[] #[], .func (.func 51) #[] #[], .func (.func 52) #[] #[]]) (.int .i64 0)).run Tryd.prog w = .ok (.func (.func 49) #[] #[]) w ∧
    (Instr.index 98 (.agg #[.func (.func 49) #[] #[], .func (.func 50) #[] #[], .func (.func 51) #[] #[], .func (.func 52) #[] #[]]) (.int .i64 1)).run Tryd.prog w = .ok (.func (.func 50) #[] #[]) w ∧
    (Instr.index 98 (.agg #[.func (.func 49) #[] #[], .func (.func 50) #[] #[], .func (.func 51) #[] #[], .func (.func 52) #[] #[]]) (.int .i64 2)).run Tryd.prog w = .ok (.func (.func 51) #[] #[]) w ∧
    (Instr.index 98 (.agg #[.func (.func 49) #[] #[], .func (.func 50) #[] #[], .func (.func 51) #[] #[], .func (.func 52) #[] #[]]) (.int .i64 3)).run Tryd.prog w = .ok (.func (.func 52) #[] #[]) w := by
  refine ⟨?_, ?_, ?_, ?_⟩ <;> kernel_rfl

/-- The blocks of 'both'. -/
def BothAt (s h i s' h' i' : Int) (b : Nat) (W : World) : Prop :=
  Bk W b 76 #[.int .u32 s, .int .i64 h, .int .u32 i, .slice none 0 0] ∧ Bk W (b + 1) 76 #[.int .u32 s', .int .i64 h', .int .u32 i', .slice none 0 0] ∧
    Bk W (b + 1 + 1) 52 #[.bool false, .bool false, .bool false, .bool false, .bool false, .bool false] ∧ Bk W (b + 1 + 1 + 1) 96 #[.bool false, .bool false, .bool false, .bool false]
theorem BothAt.and {s h i s' h' i' : Int} {b : Nat} {W W' : World} (r : BothAt s h i s' h' i' b W) (k : Kp NoB W W') : BothAt s h i s' h' i' b W' := ⟨r.1.and k, r.2.1.and k, r.2.2.1.and k, r.2.2.2.and k⟩
theorem BothAt.store {s h i s' h' i' : Int} {b : Nat} {W : World} (r : BothAt s h i s' h' i' b W) (j : Nat) (hj : j < 4) : BothAt s h i s' h' i' b (W.setCell ⟨b + 1 + 1 + 1, j, none⟩ (.bool false)) := by
  refine ⟨r.1.far (by simp; omega) _, r.2.1.far (by simp) _, r.2.2.1.far (by simp) _, ?_⟩
  have := r.2.2.2.set j (.bool false)
  rwa [show (#[.bool false, .bool false, .bool false, .bool false] : Array Value).setIfInBounds j (.bool false) = #[.bool false, .bool false, .bool false, .bool false] by
    have : j = 0 ∨ j = 1 ∨ j = 2 ∨ j = 3 := by omega
    rcases this with rfl | rfl | rfl | rfl <;> rfl] at this

set_option maxRecDepth 100000 in
set_option maxHeartbeats 4000000 in
theorem both0 (s h i s' h' i' : Int) (w : World) : Calls Tryd.prog 41 #[ev s h i, ev s' h' i'] w (Stay o0 w) := by
  have H1 := Lib.hid (fun W => esystem0 s h i W)
  have H2 := Lib.hid (fun W => eextended0 s h i W)
  have H3 := Lib.hid (fun W => efour0 s h i W)
  have H4 := Lib.hid (fun W => esix0 s h i W)
  have ix0 := fun W => (run_asks W).1
  have ix1 := fun W => (run_asks W).2.1
  have ix2 := fun W => (run_asks W).2.2.1
  have ix3 := fun W => (run_asks W).2.2.2
  unfold ev at *
  unfold o0
  have R0 : Hid (BothAt s h i s' h' i' w.heap.size ((((w.alloc (.cells #[.int .u32 s, .int .i64 h, .int .u32 i, .slice none 0 0] 76)).alloc (.cells #[.int .u32 s', .int .i64 h', .int .u32 i', .slice none 0 0] 76)).alloc (.cells #[.bool false, .bool false, .bool false, .bool false, .bool false, .bool false] 52)).alloc (.cells #[.bool false, .bool false, .bool false, .bool false] 96))) := Lib.hid (by
    refine ⟨(((Bk.fresh w _ _).alloc _).alloc _).alloc _, ((Bk.second w _ _ _).alloc _).alloc _, (Bk.third w _ _ _ _).alloc _, ?_⟩
    have := Bk.fresh (((w.alloc (.cells #[.int .u32 s, .int .i64 h, .int .u32 i, .slice none 0 0] 76)).alloc (.cells #[.int .u32 s', .int .i64 h', .int .u32 i', .slice none 0 0] 76)).alloc (.cells #[.bool false, .bool false, .bool false, .bool false, .bool false, .bool false] 52)) 96 #[.bool false, .bool false, .bool false, .bool false]
    rw [World.size_alloc, World.size_alloc, World.size_alloc] at this
    exact this)
  have K0 := Lib.hid (((((Kp.refl NoB w).alloc (.cells #[.int .u32 s, .int .i64 h, .int .u32 i, .slice none 0 0] 76)).alloc (.cells #[.int .u32 s', .int .i64 h', .int .u32 i', .slice none 0 0] 76)).alloc (.cells #[.bool false, .bool false, .bool false, .bool false, .bool false, .bool false] 52)).alloc (.cells #[.bool false, .bool false, .bool false, .bool false] 96))
  go_enter Tryd.func41, Tryd.ntmps41
  go_wp2
  go_loopw [6, 7, 9] (fun _ _ v wr => ∃ j : Nat, j ≤ 4 ∧ v = .int .i64 j ∧ Hid (BothAt s h i s' h' i' w.heap.size wr) ∧ Hid (Kp NoB w wr)) (fun _ _ v _ => 4 - (intOf v).toNat)
  case atStart => exact ⟨0, Nat.zero_le _, rfl, R0, K0⟩
  case round =>
    obtain ⟨j, hj, rfl, HR, HK⟩ := hrel
    have z1 := HR.out.1
    obtain ⟨x1, x2, x3, x4, x5, x6, x7, x8, x9⟩ := z1.four
    rcases (show j = 0 ∨ j = 1 ∨ j = 2 ∨ j = 3 ∨ j = 4 by omega) with hj' | hj' | hj' | hj' | hj'
    all_goals subst hj'
    · go_wp2_with (go_at_call 49; refine (H1.out _).mono ?_; rintro e w1 ⟨rfl, hK1⟩; have R1 := Lib.hid (HR.out.and hK1); have K1 := Lib.hid (HK.out.and hK1); have q0 := R1.out.2.2.2.cell 0; have p0 := R1.out.2.2.2.frozen 0; clear hK1 z1 x1 x2 x3 x4 x5 x6 x7 x8 x9)
      go_roundw
      case rel => exact ⟨0 + 1, by omega, by go_num, Lib.hid (R1.out.store 0 (by decide)), Lib.hid (K1.out.setCell (fun q => by simp at q; omega) _)⟩
      case measure => simp [intOf]
    · go_wp2_with (go_at_call 50; refine (H2.out _).mono ?_; rintro e w1 ⟨rfl, hK1⟩; have R1 := Lib.hid (HR.out.and hK1); have K1 := Lib.hid (HK.out.and hK1); have q0 := R1.out.2.2.2.cell 1; have p0 := R1.out.2.2.2.frozen 1; clear hK1 z1 x1 x2 x3 x4 x5 x6 x7 x8 x9)
      go_roundw
      case rel => exact ⟨1 + 1, by omega, by go_num, Lib.hid (R1.out.store 1 (by decide)), Lib.hid (K1.out.setCell (fun q => by simp at q; omega) _)⟩
      case measure => simp [intOf]
    · go_wp2_with (go_at_call 51; refine (H3.out _).mono ?_; rintro e w1 ⟨rfl, hK1⟩; have R1 := Lib.hid (HR.out.and hK1); have K1 := Lib.hid (HK.out.and hK1); have q0 := R1.out.2.2.2.cell 2; have p0 := R1.out.2.2.2.frozen 2; clear hK1 z1 x1 x2 x3 x4 x5 x6 x7 x8 x9)
      go_roundw
      case rel => exact ⟨2 + 1, by omega, by go_num, Lib.hid (R1.out.store 2 (by decide)), Lib.hid (K1.out.setCell (fun q => by simp at q; omega) _)⟩
      case measure => simp [intOf]
    · go_wp2_with (go_at_call 52; refine (H4.out _).mono ?_; rintro e w1 ⟨rfl, hK1⟩; have R1 := Lib.hid (HR.out.and hK1); have K1 := Lib.hid (HK.out.and hK1); have q0 := R1.out.2.2.2.cell 3; have p0 := R1.out.2.2.2.frozen 3; clear hK1 z1 x1 x2 x3 x4 x5 x6 x7 x8 x9)
      go_roundw
      case rel => exact ⟨3 + 1, by omega, by go_num, Lib.hid (R1.out.store 3 (by decide)), Lib.hid (K1.out.setCell (fun q => by simp at q; omega) _)⟩
      case measure => simp [intOf]
    · have y0 := HR.out.2.2.2.cell 0
      have y1 := HR.out.2.2.2.cell 1
      have y2 := HR.out.2.2.2.cell 2
      have y3 := HR.out.2.2.2.cell 3
      have u0 := HR.out.2.2.1.cell 0
      have u1 := HR.out.2.2.1.cell 1
      have u2 := HR.out.2.2.1.cell 2
      have u3 := HR.out.2.2.1.cell 3
      have u4 := HR.out.2.2.1.cell 4
      have u5 := HR.out.2.2.1.cell 5
      have t0 := HR.out.2.2.1.frozen 0
      have t1 := HR.out.2.2.1.frozen 1
      have t2 := HR.out.2.2.1.frozen 2
      have t3 := HR.out.2.2.1.frozen 3
      have t4 := HR.out.2.2.1.frozen 4
      have t5 := HR.out.2.2.1.frozen 5
      go_wp2
      refine bodyPost_ret (v := .agg #[.bool false, .bool false, .bool false, .bool false, .bool false, .bool false]) (by simp [results, Tryd.results41, go_sem, *]) rfl ⟨rfl, (by repeat (first | exact HK.out | refine Kp.setCell ?_ (fun hq => by simp at hq; omega) _))⟩

end Go.Proofs.YtjcmgfegnngjjaaDoor
