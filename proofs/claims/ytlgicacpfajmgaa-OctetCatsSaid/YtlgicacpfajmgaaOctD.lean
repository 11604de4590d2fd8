/- The reference of package octet: contracts by walking the Go text, each under the conditions that it names. -/
import Derived.Test.YtlgicacpfajmgaaOctC
namespace Go.Proofs.Ytlgicacpfajmgaa
open Go.RowKit
set_option linter.unusedVariables false
set_option linter.unusedSimpArgs false

set_option maxHeartbeats 2000000 in
theorem rput_yes1 (x : Int) (w : World) (h0 : 0 ≤ x) (h1 : x < 256) :
    Calls Try.prog 9 #[.int .i64 1, .int .u32 x] w (PutYes w 1 x) := by
  obtain ⟨i0, hi, hz0, hz1, hz2⟩ := info_parts infoU8
  have hown0 := World.ownsRow_nil w w.heap.size 5 1
  have hk0 := Kp.refl NoB w
  have a0 := u32_and255 (x) (by omega) (by omega)
  go_enter Try.func9, Try.ntmps9
  go_wp2
  refine wp_loop_rounds 2 ?_
  rw [rounds_succ]
  go_wp2_with (at_builtin; refine wpList_app (hk0.alloc _) rfl (.tmp 32) (.tmp 40) 23 rfl 5 i0 (.int .u8 0) 1 1 Try.underlying23 hi hz0 hz1 hz2 rfl (by decide) _ _ _ rfl (hown0.alloc _) _ 1 1 [.int .u8 (x % 256)] rfl rfl (Arr.one _ _ _) (by simp [Value.oneCell']) (by omega) (by decide) 1 rfl ?_; intro A1 c1 w1 hown1 hk1 _ _; clear hown0 hk0)
  rw [rounds_succ]
  go_wp2
  go_ret2
  refine ⟨_, _, rfl, ?_, hk1⟩
  rw [putL_1]
  exact hown1

set_option maxHeartbeats 2000000 in
theorem rput_yes2 (x : Int) (w : World) (h0 : 0 ≤ x) (h1 : x < 65536) :
    Calls Try.prog 9 #[.int .i64 2, .int .u32 x] w (PutYes w 2 x) := by
  obtain ⟨i0, hi, hz0, hz1, hz2⟩ := info_parts infoU8
  have hown0 := World.ownsRow_nil w w.heap.size 5 1
  have hk0 := Kp.refl NoB w
  have a0 := u32_and255 (x / 256) (by omega) (by omega)
  have a1 := u32_and255 (x) (by omega) (by omega)
  go_enter Try.func9, Try.ntmps9
  go_wp2
  refine wp_loop_rounds 3 ?_
  rw [rounds_succ]
  go_wp2_with (at_builtin; refine wpList_app (hk0.alloc _) rfl (.tmp 32) (.tmp 40) 23 rfl 5 i0 (.int .u8 0) 1 1 Try.underlying23 hi hz0 hz1 hz2 rfl (by decide) _ _ _ rfl (hown0.alloc _) _ 1 1 [.int .u8 (x / 256 % 256)] rfl rfl (Arr.one _ _ _) (by simp [Value.oneCell']) (by omega) (by decide) 1 rfl ?_; intro A1 c1 w1 hown1 hk1 _ _; clear hown0 hk0)
  rw [rounds_succ]
  go_wp2_with (at_builtin; refine wpList_app (hk1.alloc _) rfl (.tmp 32) (.tmp 40) 23 rfl 5 i0 (.int .u8 0) 1 1 Try.underlying23 hi hz0 hz1 hz2 rfl (by decide) _ _ _ rfl (hown1.alloc _) _ 1 1 [.int .u8 (x % 256)] rfl rfl (Arr.one _ _ _) (by simp [Value.oneCell']) (by omega) (by decide) 2 rfl ?_; intro A2 c2 w2 hown2 hk2 _ _; clear hown1 hk1)
  rw [rounds_succ]
  go_wp2
  go_ret2
  refine ⟨_, _, rfl, ?_, hk2⟩
  rw [putL_2]
  exact hown2

set_option maxHeartbeats 2000000 in
theorem rput_yes3 (x : Int) (w : World) (h0 : 0 ≤ x) (h1 : x < 16777216) :
    Calls Try.prog 9 #[.int .i64 3, .int .u32 x] w (PutYes w 3 x) := by
  obtain ⟨i0, hi, hz0, hz1, hz2⟩ := info_parts infoU8
  have hown0 := World.ownsRow_nil w w.heap.size 5 1
  have hk0 := Kp.refl NoB w
  have a0 := u32_and255 (x / 65536) (by omega) (by omega)
  have a1 := u32_and255 (x / 256) (by omega) (by omega)
  have a2 := u32_and255 (x) (by omega) (by omega)
  go_enter Try.func9, Try.ntmps9
  go_wp2
  refine wp_loop_rounds 4 ?_
  rw [rounds_succ]
  go_wp2_with (at_builtin; refine wpList_app (hk0.alloc _) rfl (.tmp 32) (.tmp 40) 23 rfl 5 i0 (.int .u8 0) 1 1 Try.underlying23 hi hz0 hz1 hz2 rfl (by decide) _ _ _ rfl (hown0.alloc _) _ 1 1 [.int .u8 (x / 65536 % 256)] rfl rfl (Arr.one _ _ _) (by simp [Value.oneCell']) (by omega) (by decide) 1 rfl ?_; intro A1 c1 w1 hown1 hk1 _ _; clear hown0 hk0)
  rw [rounds_succ]
  go_wp2_with (at_builtin; refine wpList_app (hk1.alloc _) rfl (.tmp 32) (.tmp 40) 23 rfl 5 i0 (.int .u8 0) 1 1 Try.underlying23 hi hz0 hz1 hz2 rfl (by decide) _ _ _ rfl (hown1.alloc _) _ 1 1 [.int .u8 (x / 256 % 256)] rfl rfl (Arr.one _ _ _) (by simp [Value.oneCell']) (by omega) (by decide) 2 rfl ?_; intro A2 c2 w2 hown2 hk2 _ _; clear hown1 hk1)
  rw [rounds_succ]
  go_wp2_with (at_builtin; refine wpList_app (hk2.alloc _) rfl (.tmp 32) (.tmp 40) 23 rfl 5 i0 (.int .u8 0) 1 1 Try.underlying23 hi hz0 hz1 hz2 rfl (by decide) _ _ _ rfl (hown2.alloc _) _ 1 1 [.int .u8 (x % 256)] rfl rfl (Arr.one _ _ _) (by simp [Value.oneCell']) (by omega) (by decide) 3 rfl ?_; intro A3 c3 w3 hown3 hk3 _ _; clear hown2 hk2)
  rw [rounds_succ]
  go_wp2
  go_ret2
  refine ⟨_, _, rfl, ?_, hk3⟩
  rw [putL_3]
  exact hown3

set_option maxHeartbeats 2000000 in
theorem rput_yes4 (x : Int) (w : World) (h0 : 0 ≤ x) (h1 : x < 4294967296) :
    Calls Try.prog 9 #[.int .i64 4, .int .u32 x] w (PutYes w 4 x) := by
  obtain ⟨i0, hi, hz0, hz1, hz2⟩ := info_parts infoU8
  have hown0 := World.ownsRow_nil w w.heap.size 5 1
  have hk0 := Kp.refl NoB w
  have a0 := u32_and255 (x / 16777216) (by omega) (by omega)
  have a1 := u32_and255 (x / 65536) (by omega) (by omega)
  have a2 := u32_and255 (x / 256) (by omega) (by omega)
  have a3 := u32_and255 (x) (by omega) (by omega)
  go_enter Try.func9, Try.ntmps9
  go_wp2
  refine wp_loop_rounds 5 ?_
  rw [rounds_succ]
  go_wp2_with (at_builtin; refine wpList_app (hk0.alloc _) rfl (.tmp 32) (.tmp 40) 23 rfl 5 i0 (.int .u8 0) 1 1 Try.underlying23 hi hz0 hz1 hz2 rfl (by decide) _ _ _ rfl (hown0.alloc _) _ 1 1 [.int .u8 (x / 16777216 % 256)] rfl rfl (Arr.one _ _ _) (by simp [Value.oneCell']) (by omega) (by decide) 1 rfl ?_; intro A1 c1 w1 hown1 hk1 _ _; clear hown0 hk0)
  rw [rounds_succ]
  go_wp2_with (at_builtin; refine wpList_app (hk1.alloc _) rfl (.tmp 32) (.tmp 40) 23 rfl 5 i0 (.int .u8 0) 1 1 Try.underlying23 hi hz0 hz1 hz2 rfl (by decide) _ _ _ rfl (hown1.alloc _) _ 1 1 [.int .u8 (x / 65536 % 256)] rfl rfl (Arr.one _ _ _) (by simp [Value.oneCell']) (by omega) (by decide) 2 rfl ?_; intro A2 c2 w2 hown2 hk2 _ _; clear hown1 hk1)
  rw [rounds_succ]
  go_wp2_with (at_builtin; refine wpList_app (hk2.alloc _) rfl (.tmp 32) (.tmp 40) 23 rfl 5 i0 (.int .u8 0) 1 1 Try.underlying23 hi hz0 hz1 hz2 rfl (by decide) _ _ _ rfl (hown2.alloc _) _ 1 1 [.int .u8 (x / 256 % 256)] rfl rfl (Arr.one _ _ _) (by simp [Value.oneCell']) (by omega) (by decide) 3 rfl ?_; intro A3 c3 w3 hown3 hk3 _ _; clear hown2 hk2)
  rw [rounds_succ]
  go_wp2_with (at_builtin; refine wpList_app (hk3.alloc _) rfl (.tmp 32) (.tmp 40) 23 rfl 5 i0 (.int .u8 0) 1 1 Try.underlying23 hi hz0 hz1 hz2 rfl (by decide) _ _ _ rfl (hown3.alloc _) _ 1 1 [.int .u8 (x % 256)] rfl rfl (Arr.one _ _ _) (by simp [Value.oneCell']) (by omega) (by decide) 4 rfl ?_; intro A4 c4 w4 hown4 hk4 _ _; clear hown3 hk3)
  rw [rounds_succ]
  go_wp2
  go_ret2
  refine ⟨_, _, rfl, ?_, hk4⟩
  rw [putL_4]
  exact hown4

theorem rput_range (k x : Int) (w : World) (h : k < 1 ∨ 4 < k) :
    Calls Try.prog 9 #[.int .i64 k, .int .u32 x] w (Stay (.tuple #[.slice none 0 0, .bool false]) w) := by
  rcases h with h | h
  all_goals
    go_enter Try.func9, Try.ntmps9
    go_wp2
    go_ret2
    exact ⟨rfl, Kp.refl _ _⟩

theorem rput_big1 (x : Int) (w : World) (h0 : 256 ≤ x) (h1 : x < 4294967296) :
    Calls Try.prog 9 #[.int .i64 1, .int .u32 x] w (Stay (.tuple #[.slice none 0 0, .bool false]) w) := by
  have hd : (x / 256 != 0) = true := by rw [bne_iff_ne]; omega
  go_enter Try.func9, Try.ntmps9
  go_wp2
  go_ret2
  exact ⟨rfl, Kp.refl _ _⟩

theorem rput_big2 (x : Int) (w : World) (h0 : 65536 ≤ x) (h1 : x < 4294967296) :
    Calls Try.prog 9 #[.int .i64 2, .int .u32 x] w (Stay (.tuple #[.slice none 0 0, .bool false]) w) := by
  have hd : (x / 65536 != 0) = true := by rw [bne_iff_ne]; omega
  go_enter Try.func9, Try.ntmps9
  go_wp2
  go_ret2
  exact ⟨rfl, Kp.refl _ _⟩

theorem rput_big3 (x : Int) (w : World) (h0 : 16777216 ≤ x) (h1 : x < 4294967296) :
    Calls Try.prog 9 #[.int .i64 3, .int .u32 x] w (Stay (.tuple #[.slice none 0 0, .bool false]) w) := by
  have hd : (x / 16777216 != 0) = true := by rw [bne_iff_ne]; omega
  go_enter Try.func9, Try.ntmps9
  go_wp2
  go_ret2
  exact ⟨rfl, Kp.refl _ _⟩

theorem rput_any (k x : Int) (w : World) (h0 : 0 ≤ x) (h1 : x < 4294967296) :
    Calls Try.prog 9 #[.int .i64 k, .int .u32 x] w (PutAny w k x) := by
  by_cases hk : k < 1 ∨ 4 < k
  · exact (rput_range k x w hk).mono fun _ _ h => putAny_no (by simp [fits]; omega) h
  · refine widths (P := fun k => Calls Try.prog 9 #[.int .i64 k, .int .u32 x] w (PutAny w k x)) k hk ?_ ?_ ?_ ?_
    · by_cases hx : x < 256
      · exact (rput_yes1 x w h0 hx).mono fun _ _ h => putAny_yes (k := 1) (by simp [fits]; omega) h
      · exact (rput_big1 x w (by omega) h1).mono fun _ _ h => putAny_no (by simp [fits]; omega) h
    · by_cases hx : x < 65536
      · exact (rput_yes2 x w h0 hx).mono fun _ _ h => putAny_yes (k := 2) (by simp [fits]; omega) h
      · exact (rput_big2 x w (by omega) h1).mono fun _ _ h => putAny_no (by simp [fits]; omega) h
    · by_cases hx : x < 16777216
      · exact (rput_yes3 x w h0 hx).mono fun _ _ h => putAny_yes (k := 3) (by simp [fits]; omega) h
      · exact (rput_big3 x w (by omega) h1).mono fun _ _ h => putAny_no (by simp [fits]; omega) h
    · exact (rput_yes4 x w h0 h1).mono fun _ _ h => putAny_yes (k := 4) (by simp [fits]; omega) h

end Go.Proofs.Ytlgicacpfajmgaa
