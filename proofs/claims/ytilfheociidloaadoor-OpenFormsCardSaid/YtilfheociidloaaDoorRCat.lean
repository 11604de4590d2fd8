/- The reference's Of: its contracts for one to four bytes.  The reference's Cat: its contract. -/
import Derived.Test.YtilfheociidloaaDoorPutO
import Derived.Test.YtilfheociidloaaDoorCat0
namespace Go.Proofs.YtilfheociidloaaDoor
open Go.RowKit
set_option linter.unusedVariables false
set_option linter.unusedSimpArgs false

/-- What 'Of' leaves: the number as k bytes, in a row of its own. -/
def OfYes (w : World) (k : Nat) (x : Int) (e : Ending) (w' : World) : Prop :=
  ∃ A c, e = .returned (.slice A k c) ∧ w'.ownsRow w.heap.size 5 1 (.slice A k c) k (bs (putL k x)) ∧ Kp NoB w w'

set_option maxHeartbeats 2000000 in
theorem rof_1 (x : Int) (w : World) (h0 : 0 ≤ x) (h1 : x < 256) :
    Calls Tryd.prog 24 #[.int .i64 1, .int .u32 x] w (OfYes w 1 x) := by
  obtain ⟨i0, hi, hz0, hz1, hz2⟩ := info_parts infoU8
  have hown0 := World.ownsRow_nil w w.heap.size 5 1
  have hk0 := Kp.refl NoB w
  have a0 := u32_and255 (x) (by omega) (by omega)
  go_enter Tryd.func24, Tryd.ntmps24
  go_wp2
  refine wp_loop_rounds 2 ?_
  rw [rounds_succ]
  go_wp2_with (at_builtin; refine wpList_app (hk0.alloc _) rfl (.tmp 13) (.tmp 21) 28 rfl 5 i0 (.int .u8 0) 1 1 Tryd.underlying28 hi hz0 hz1 hz2 rfl (by decide) _ _ _ rfl (hown0.alloc _) _ 1 1 [.int .u8 (x % 256)] rfl rfl (Arr.one _ _ _) (by simp [Value.oneCell']) (by omega) (by decide) 1 rfl ?_; intro A1 c1 w1 hown1 hk1 _ _; clear hown0 hk0)
  rw [rounds_succ]
  go_wp2
  go_ret
  refine ⟨_, _, rfl, ?_, hk1⟩
  rw [putL_1]
  exact hown1

set_option maxHeartbeats 2000000 in
theorem rof_2 (x : Int) (w : World) (h0 : 0 ≤ x) (h1 : x < 65536) :
    Calls Tryd.prog 24 #[.int .i64 2, .int .u32 x] w (OfYes w 2 x) := by
  obtain ⟨i0, hi, hz0, hz1, hz2⟩ := info_parts infoU8
  have hown0 := World.ownsRow_nil w w.heap.size 5 1
  have hk0 := Kp.refl NoB w
  have a0 := u32_and255 (x / 256) (by omega) (by omega)
  have a1 := u32_and255 (x) (by omega) (by omega)
  go_enter Tryd.func24, Tryd.ntmps24
  go_wp2
  refine wp_loop_rounds 3 ?_
  rw [rounds_succ]
  go_wp2_with (at_builtin; refine wpList_app (hk0.alloc _) rfl (.tmp 13) (.tmp 21) 28 rfl 5 i0 (.int .u8 0) 1 1 Tryd.underlying28 hi hz0 hz1 hz2 rfl (by decide) _ _ _ rfl (hown0.alloc _) _ 1 1 [.int .u8 (x / 256 % 256)] rfl rfl (Arr.one _ _ _) (by simp [Value.oneCell']) (by omega) (by decide) 1 rfl ?_; intro A1 c1 w1 hown1 hk1 _ _; clear hown0 hk0)
  rw [rounds_succ]
  go_wp2_with (at_builtin; refine wpList_app (hk1.alloc _) rfl (.tmp 13) (.tmp 21) 28 rfl 5 i0 (.int .u8 0) 1 1 Tryd.underlying28 hi hz0 hz1 hz2 rfl (by decide) _ _ _ rfl (hown1.alloc _) _ 1 1 [.int .u8 (x % 256)] rfl rfl (Arr.one _ _ _) (by simp [Value.oneCell']) (by omega) (by decide) 2 rfl ?_; intro A2 c2 w2 hown2 hk2 _ _; clear hown1 hk1)
  rw [rounds_succ]
  go_wp2
  go_ret
  refine ⟨_, _, rfl, ?_, hk2⟩
  rw [putL_2]
  exact hown2

set_option maxHeartbeats 2000000 in
theorem rof_3 (x : Int) (w : World) (h0 : 0 ≤ x) (h1 : x < 16777216) :
    Calls Tryd.prog 24 #[.int .i64 3, .int .u32 x] w (OfYes w 3 x) := by
  obtain ⟨i0, hi, hz0, hz1, hz2⟩ := info_parts infoU8
  have hown0 := World.ownsRow_nil w w.heap.size 5 1
  have hk0 := Kp.refl NoB w
  have a0 := u32_and255 (x / 65536) (by omega) (by omega)
  have a1 := u32_and255 (x / 256) (by omega) (by omega)
  have a2 := u32_and255 (x) (by omega) (by omega)
  go_enter Tryd.func24, Tryd.ntmps24
  go_wp2
  refine wp_loop_rounds 4 ?_
  rw [rounds_succ]
  go_wp2_with (at_builtin; refine wpList_app (hk0.alloc _) rfl (.tmp 13) (.tmp 21) 28 rfl 5 i0 (.int .u8 0) 1 1 Tryd.underlying28 hi hz0 hz1 hz2 rfl (by decide) _ _ _ rfl (hown0.alloc _) _ 1 1 [.int .u8 (x / 65536 % 256)] rfl rfl (Arr.one _ _ _) (by simp [Value.oneCell']) (by omega) (by decide) 1 rfl ?_; intro A1 c1 w1 hown1 hk1 _ _; clear hown0 hk0)
  rw [rounds_succ]
  go_wp2_with (at_builtin; refine wpList_app (hk1.alloc _) rfl (.tmp 13) (.tmp 21) 28 rfl 5 i0 (.int .u8 0) 1 1 Tryd.underlying28 hi hz0 hz1 hz2 rfl (by decide) _ _ _ rfl (hown1.alloc _) _ 1 1 [.int .u8 (x / 256 % 256)] rfl rfl (Arr.one _ _ _) (by simp [Value.oneCell']) (by omega) (by decide) 2 rfl ?_; intro A2 c2 w2 hown2 hk2 _ _; clear hown1 hk1)
  rw [rounds_succ]
  go_wp2_with (at_builtin; refine wpList_app (hk2.alloc _) rfl (.tmp 13) (.tmp 21) 28 rfl 5 i0 (.int .u8 0) 1 1 Tryd.underlying28 hi hz0 hz1 hz2 rfl (by decide) _ _ _ rfl (hown2.alloc _) _ 1 1 [.int .u8 (x % 256)] rfl rfl (Arr.one _ _ _) (by simp [Value.oneCell']) (by omega) (by decide) 3 rfl ?_; intro A3 c3 w3 hown3 hk3 _ _; clear hown2 hk2)
  rw [rounds_succ]
  go_wp2
  go_ret
  refine ⟨_, _, rfl, ?_, hk3⟩
  rw [putL_3]
  exact hown3

set_option maxHeartbeats 2000000 in
theorem rof_4 (x : Int) (w : World) (h0 : 0 ≤ x) (h1 : x < 4294967296) :
    Calls Tryd.prog 24 #[.int .i64 4, .int .u32 x] w (OfYes w 4 x) := by
  obtain ⟨i0, hi, hz0, hz1, hz2⟩ := info_parts infoU8
  have hown0 := World.ownsRow_nil w w.heap.size 5 1
  have hk0 := Kp.refl NoB w
  have a0 := u32_and255 (x / 16777216) (by omega) (by omega)
  have a1 := u32_and255 (x / 65536) (by omega) (by omega)
  have a2 := u32_and255 (x / 256) (by omega) (by omega)
  have a3 := u32_and255 (x) (by omega) (by omega)
  go_enter Tryd.func24, Tryd.ntmps24
  go_wp2
  refine wp_loop_rounds 5 ?_
  rw [rounds_succ]
  go_wp2_with (at_builtin; refine wpList_app (hk0.alloc _) rfl (.tmp 13) (.tmp 21) 28 rfl 5 i0 (.int .u8 0) 1 1 Tryd.underlying28 hi hz0 hz1 hz2 rfl (by decide) _ _ _ rfl (hown0.alloc _) _ 1 1 [.int .u8 (x / 16777216 % 256)] rfl rfl (Arr.one _ _ _) (by simp [Value.oneCell']) (by omega) (by decide) 1 rfl ?_; intro A1 c1 w1 hown1 hk1 _ _; clear hown0 hk0)
  rw [rounds_succ]
  go_wp2_with (at_builtin; refine wpList_app (hk1.alloc _) rfl (.tmp 13) (.tmp 21) 28 rfl 5 i0 (.int .u8 0) 1 1 Tryd.underlying28 hi hz0 hz1 hz2 rfl (by decide) _ _ _ rfl (hown1.alloc _) _ 1 1 [.int .u8 (x / 65536 % 256)] rfl rfl (Arr.one _ _ _) (by simp [Value.oneCell']) (by omega) (by decide) 2 rfl ?_; intro A2 c2 w2 hown2 hk2 _ _; clear hown1 hk1)
  rw [rounds_succ]
  go_wp2_with (at_builtin; refine wpList_app (hk2.alloc _) rfl (.tmp 13) (.tmp 21) 28 rfl 5 i0 (.int .u8 0) 1 1 Tryd.underlying28 hi hz0 hz1 hz2 rfl (by decide) _ _ _ rfl (hown2.alloc _) _ 1 1 [.int .u8 (x / 256 % 256)] rfl rfl (Arr.one _ _ _) (by simp [Value.oneCell']) (by omega) (by decide) 3 rfl ?_; intro A3 c3 w3 hown3 hk3 _ _; clear hown2 hk2)
  rw [rounds_succ]
  go_wp2_with (at_builtin; refine wpList_app (hk3.alloc _) rfl (.tmp 13) (.tmp 21) 28 rfl 5 i0 (.int .u8 0) 1 1 Tryd.underlying28 hi hz0 hz1 hz2 rfl (by decide) _ _ _ rfl (hown3.alloc _) _ 1 1 [.int .u8 (x % 256)] rfl rfl (Arr.one _ _ _) (by simp [Value.oneCell']) (by omega) (by decide) 4 rfl ?_; intro A4 c4 w4 hown4 hk4 _ _; clear hown3 hk3)
  rw [rounds_succ]
  go_wp2
  go_ret
  refine ⟨_, _, rfl, ?_, hk4⟩
  rw [putL_4]
  exact hown4

end Go.Proofs.YtilfheociidloaaDoor

namespace Go.Proofs.YtilfheociidloaaDoor
open Go.RowKit
set_option linter.unusedVariables false
set_option linter.unusedSimpArgs false

/-! ### The reference's Cat -/

set_option maxHeartbeats 2000000 in
theorem rcat_any (A : Option Addr) (c : Nat) (xss : List (List Int)) (w : World) (h : Sl ByE 1 w A xss) (hl : xss.length ≤ 140737488355328) (hn : (catL xss).length ≤ 140737488355328) :
    Calls Tryd.prog 23 #[.slice A xss.length c] w (Joined w (catL xss)) := by
  obtain ⟨i0, hi, hz0, hz1, hz2⟩ := info_parts infoU8
  obtain ⟨L, hL⟩ : ∃ L, catL xss = L := ⟨_, rfl⟩
  rw [hL] at hn ⊢
  go_enter Tryd.func23, Tryd.ntmps23
  go_wp2
  go_loopw [3, 4] (fun v i wr => ∃ (k : Nat) (A' : Option Addr) (c' : Nat), k ≤ xss.length ∧ i = .int .i64 k ∧ v = .slice A' (catL (xss.take k)).length c' ∧ wr.ownsRow w.heap.size 5 1 (.slice A' (catL (xss.take k)).length c') (catL (xss.take k)).length (bs (catL (xss.take k))) ∧ Kp NoB w wr) (fun _ i _ => xss.length - (intOf i).toNat)
  case atStart => exact ⟨0, none, 0, Nat.zero_le _, rfl, rfl, World.ownsRow_nil _ _ _ _, Kp.refl _ _⟩
  case round =>
    obtain ⟨k, A', c', hk, rfl, rfl, hown, hKr⟩ := hrel
    by_cases hlt : k < xss.length
    · obtain ⟨ad, B, cB, rfl, hcell, hle, hB, hb⟩ := byE_at (h.and hKr (ByE.and hKr)) k hlt
      have hs := flat_snoc xss k hlt
      have hf := flat_le xss (k + 1)
      rw [hL] at hf
      obtain ⟨T, hT⟩ : ∃ T, catL (xss.take k) = T := ⟨_, rfl⟩
      obtain ⟨y, hy⟩ : ∃ y, xss[k] = y := ⟨_, rfl⟩
      rw [hT] at hown hs ⊢
      rw [hy] at hcell hle hB hs
      have hlen : T.length + y.length ≤ 140737488355328 := by rw [hs, List.length_append] at hf; omega
      have HS := Lib.hid hs
      clear hs hf hT hy hb
      go_wp2_with (at_builtin; refine wpList_app hKr rfl (.tmp 11) (.tmp 15) 28 rfl 5 i0 (.int .u8 0) 1 1 Tryd.underlying28 hi hz0 hz1 hz2 rfl (by decide) _ _ _ rfl hown B y.length cB (bs y) rfl (by simp [bs]) hB (bs_one y) (by omega) (by decide) (T.length + y.length) rfl ?_; intro A2 c2 w2 hown2 hK2 _ _; clear hown hKr)
      go_roundw
      case rel =>
        refine ⟨k + 1, A2, c2, by omega, by go_num, ?_, ?_, hK2⟩
        · rw [HS.out, List.length_append]
        · rw [HS.out, List.length_append, bs_append]; exact hown2
      case measure => simp [intOf]; omega
    · have hkt : xss.take k = xss := by rw [show k = xss.length by omega, List.take_length]
      rw [hkt, hL] at hown
      rw [hkt, hL]
      clear hkt
      go_wp2
      go_ret
      exact ⟨A', c', rfl, hown, hKr⟩

end Go.Proofs.YtilfheociidloaaDoor
