/- The reference's Of: its contracts for one to four bytes. -/
import Derived.Test.YtkhonebedoemoaaDoorPutO
namespace Go.Proofs.YtkhonebedoemoaaDoor
open Go.RowKit
set_option linter.unusedVariables false
set_option linter.unusedSimpArgs false

/-- What 'Of' leaves: the number as k bytes, in a row of its own. -/
def OfYes (w : World) (k : Nat) (x : Int) (e : Ending) (w' : World) : Prop :=
  ∃ A c, e = .returned (.slice A k c) ∧ w'.ownsRow w.heap.size 5 1 (.slice A k c) k (bs (putL k x)) ∧ Kp NoB w w'

set_option maxHeartbeats 2000000 in
theorem rof_1 (x : Int) (w : World) (h0 : 0 ≤ x) (h1 : x < 256) :
    Calls Tryd.prog 35 #[.int .i64 1, .int .u32 x] w (OfYes w 1 x) := by
  obtain ⟨i0, hi, hz0, hz1, hz2⟩ := info_parts infoU8
  have hown0 := World.ownsRow_nil w w.heap.size 5 1
  have hk0 := Kp.refl NoB w
  have a0 := u32_and255 (x) (by omega) (by omega)
  go_enter Tryd.func35, Tryd.ntmps35
  go_wp2
  refine wp_loop_rounds 2 ?_
  rw [rounds_succ]
  go_wp2_with (at_builtin; refine wpList_app (hk0.alloc _) rfl (.tmp 13) (.tmp 21) 25 rfl 5 i0 (.int .u8 0) 1 1 Tryd.underlying25 hi hz0 hz1 hz2 rfl (by decide) _ _ _ rfl (hown0.alloc _) _ 1 1 [.int .u8 (x % 256)] rfl rfl (Arr.one _ _ _) (by simp [Value.oneCell']) (by omega) (by decide) 1 rfl ?_; intro A1 c1 w1 hown1 hk1 _ _; clear hown0 hk0)
  rw [rounds_succ]
  go_wp2
  go_ret
  refine ⟨_, _, rfl, ?_, hk1⟩
  rw [putL_1]
  exact hown1

set_option maxHeartbeats 2000000 in
theorem rof_2 (x : Int) (w : World) (h0 : 0 ≤ x) (h1 : x < 65536) :
    Calls Tryd.prog 35 #[.int .i64 2, .int .u32 x] w (OfYes w 2 x) := by
  obtain ⟨i0, hi, hz0, hz1, hz2⟩ := info_parts infoU8
  have hown0 := World.ownsRow_nil w w.heap.size 5 1
  have hk0 := Kp.refl NoB w
  have a0 := u32_and255 (x / 256) (by omega) (by omega)
  have a1 := u32_and255 (x) (by omega) (by omega)
  go_enter Tryd.func35, Tryd.ntmps35
  go_wp2
  refine wp_loop_rounds 3 ?_
  rw [rounds_succ]
  go_wp2_with (at_builtin; refine wpList_app (hk0.alloc _) rfl (.tmp 13) (.tmp 21) 25 rfl 5 i0 (.int .u8 0) 1 1 Tryd.underlying25 hi hz0 hz1 hz2 rfl (by decide) _ _ _ rfl (hown0.alloc _) _ 1 1 [.int .u8 (x / 256 % 256)] rfl rfl (Arr.one _ _ _) (by simp [Value.oneCell']) (by omega) (by decide) 1 rfl ?_; intro A1 c1 w1 hown1 hk1 _ _; clear hown0 hk0)
  rw [rounds_succ]
  go_wp2_with (at_builtin; refine wpList_app (hk1.alloc _) rfl (.tmp 13) (.tmp 21) 25 rfl 5 i0 (.int .u8 0) 1 1 Tryd.underlying25 hi hz0 hz1 hz2 rfl (by decide) _ _ _ rfl (hown1.alloc _) _ 1 1 [.int .u8 (x % 256)] rfl rfl (Arr.one _ _ _) (by simp [Value.oneCell']) (by omega) (by decide) 2 rfl ?_; intro A2 c2 w2 hown2 hk2 _ _; clear hown1 hk1)
  rw [rounds_succ]
  go_wp2
  go_ret
  refine ⟨_, _, rfl, ?_, hk2⟩
  rw [putL_2]
  exact hown2

set_option maxHeartbeats 2000000 in
theorem rof_3 (x : Int) (w : World) (h0 : 0 ≤ x) (h1 : x < 16777216) :
    Calls Tryd.prog 35 #[.int .i64 3, .int .u32 x] w (OfYes w 3 x) := by
  obtain ⟨i0, hi, hz0, hz1, hz2⟩ := info_parts infoU8
  have hown0 := World.ownsRow_nil w w.heap.size 5 1
  have hk0 := Kp.refl NoB w
  have a0 := u32_and255 (x / 65536) (by omega) (by omega)
  have a1 := u32_and255 (x / 256) (by omega) (by omega)
  have a2 := u32_and255 (x) (by omega) (by omega)
  go_enter Tryd.func35, Tryd.ntmps35
  go_wp2
  refine wp_loop_rounds 4 ?_
  rw [rounds_succ]
  go_wp2_with (at_builtin; refine wpList_app (hk0.alloc _) rfl (.tmp 13) (.tmp 21) 25 rfl 5 i0 (.int .u8 0) 1 1 Tryd.underlying25 hi hz0 hz1 hz2 rfl (by decide) _ _ _ rfl (hown0.alloc _) _ 1 1 [.int .u8 (x / 65536 % 256)] rfl rfl (Arr.one _ _ _) (by simp [Value.oneCell']) (by omega) (by decide) 1 rfl ?_; intro A1 c1 w1 hown1 hk1 _ _; clear hown0 hk0)
  rw [rounds_succ]
  go_wp2_with (at_builtin; refine wpList_app (hk1.alloc _) rfl (.tmp 13) (.tmp 21) 25 rfl 5 i0 (.int .u8 0) 1 1 Tryd.underlying25 hi hz0 hz1 hz2 rfl (by decide) _ _ _ rfl (hown1.alloc _) _ 1 1 [.int .u8 (x / 256 % 256)] rfl rfl (Arr.one _ _ _) (by simp [Value.oneCell']) (by omega) (by decide) 2 rfl ?_; intro A2 c2 w2 hown2 hk2 _ _; clear hown1 hk1)
  rw [rounds_succ]
  go_wp2_with (at_builtin; refine wpList_app (hk2.alloc _) rfl (.tmp 13) (.tmp 21) 25 rfl 5 i0 (.int .u8 0) 1 1 Tryd.underlying25 hi hz0 hz1 hz2 rfl (by decide) _ _ _ rfl (hown2.alloc _) _ 1 1 [.int .u8 (x % 256)] rfl rfl (Arr.one _ _ _) (by simp [Value.oneCell']) (by omega) (by decide) 3 rfl ?_; intro A3 c3 w3 hown3 hk3 _ _; clear hown2 hk2)
  rw [rounds_succ]
  go_wp2
  go_ret
  refine ⟨_, _, rfl, ?_, hk3⟩
  rw [putL_3]
  exact hown3

set_option maxHeartbeats 2000000 in
theorem rof_4 (x : Int) (w : World) (h0 : 0 ≤ x) (h1 : x < 4294967296) :
    Calls Tryd.prog 35 #[.int .i64 4, .int .u32 x] w (OfYes w 4 x) := by
  obtain ⟨i0, hi, hz0, hz1, hz2⟩ := info_parts infoU8
  have hown0 := World.ownsRow_nil w w.heap.size 5 1
  have hk0 := Kp.refl NoB w
  have a0 := u32_and255 (x / 16777216) (by omega) (by omega)
  have a1 := u32_and255 (x / 65536) (by omega) (by omega)
  have a2 := u32_and255 (x / 256) (by omega) (by omega)
  have a3 := u32_and255 (x) (by omega) (by omega)
  go_enter Tryd.func35, Tryd.ntmps35
  go_wp2
  refine wp_loop_rounds 5 ?_
  rw [rounds_succ]
  go_wp2_with (at_builtin; refine wpList_app (hk0.alloc _) rfl (.tmp 13) (.tmp 21) 25 rfl 5 i0 (.int .u8 0) 1 1 Tryd.underlying25 hi hz0 hz1 hz2 rfl (by decide) _ _ _ rfl (hown0.alloc _) _ 1 1 [.int .u8 (x / 16777216 % 256)] rfl rfl (Arr.one _ _ _) (by simp [Value.oneCell']) (by omega) (by decide) 1 rfl ?_; intro A1 c1 w1 hown1 hk1 _ _; clear hown0 hk0)
  rw [rounds_succ]
  go_wp2_with (at_builtin; refine wpList_app (hk1.alloc _) rfl (.tmp 13) (.tmp 21) 25 rfl 5 i0 (.int .u8 0) 1 1 Tryd.underlying25 hi hz0 hz1 hz2 rfl (by decide) _ _ _ rfl (hown1.alloc _) _ 1 1 [.int .u8 (x / 65536 % 256)] rfl rfl (Arr.one _ _ _) (by simp [Value.oneCell']) (by omega) (by decide) 2 rfl ?_; intro A2 c2 w2 hown2 hk2 _ _; clear hown1 hk1)
  rw [rounds_succ]
  go_wp2_with (at_builtin; refine wpList_app (hk2.alloc _) rfl (.tmp 13) (.tmp 21) 25 rfl 5 i0 (.int .u8 0) 1 1 Tryd.underlying25 hi hz0 hz1 hz2 rfl (by decide) _ _ _ rfl (hown2.alloc _) _ 1 1 [.int .u8 (x / 256 % 256)] rfl rfl (Arr.one _ _ _) (by simp [Value.oneCell']) (by omega) (by decide) 3 rfl ?_; intro A3 c3 w3 hown3 hk3 _ _; clear hown2 hk2)
  rw [rounds_succ]
  go_wp2_with (at_builtin; refine wpList_app (hk3.alloc _) rfl (.tmp 13) (.tmp 21) 25 rfl 5 i0 (.int .u8 0) 1 1 Tryd.underlying25 hi hz0 hz1 hz2 rfl (by decide) _ _ _ rfl (hown3.alloc _) _ 1 1 [.int .u8 (x % 256)] rfl rfl (Arr.one _ _ _) (by simp [Value.oneCell']) (by omega) (by decide) 4 rfl ?_; intro A4 c4 w4 hown4 hk4 _ _; clear hown3 hk3)
  rw [rounds_succ]
  go_wp2
  go_ret
  refine ⟨_, _, rfl, ?_, hk4⟩
  rw [putL_4]
  exact hown4

end Go.Proofs.YtkhonebedoemoaaDoor
