/- Put: its contracts. -/
import Derived.Test.YtffdjfnipnmlcaaDoorClone
namespace Go.Proofs.YtffdjfnipnmlcaaDoor
open Go.RowKit
set_option linter.unusedVariables false
set_option linter.unusedSimpArgs false

/-! ### Put -/

/-- What 'Put' leaves where it succeeds: the number as k bytes, in a row of its own. -/
def PutYes (w : World) (k : Nat) (x : Int) (e : Ending) (w' : World) : Prop :=
  ∃ A c, e = .returned (.tuple #[.slice A k c, .bool true]) ∧ w'.ownsRow w.heap.size 5 1 (.slice A k c) k (bs (putL k x)) ∧ Kp NoB w w'

theorem putYes_of (w : World) (k : Nat) (x : Int) (hk4 : k ≤ 4) (vs : List Int) (h : vs = putL k x) (e : Ending) (he : e = .returned (.tuple #[.slice (some ⟨w.heap.size, 0, none⟩) k k, .bool true])) :
    PutYes w k x e (w.alloc (.cells (bs vs).toArray 5)) := by
  subst h
  have hl : (bs (putL k x)).length = k := by rw [bs_length, putL_length]
  refine ⟨_, _, he, ?_, (Kp.refl _ _).alloc _⟩
  have := own_lit w w.heap.size 5 (bs (putL k x)) (Nat.le_refl _) (by rw [hl]; unfold maxLen; omega)
  rwa [hl] at this

set_option maxHeartbeats 1000000 in
theorem put_yes1 (x : Int) (w : World) (h0 : 0 ≤ x) (h1 : x < 256) :
    Calls Tryd.prog 22 #[.int .i64 1, .int .u32 x] w (PutYes w 1 x) := by
  have hmk : ∀ w, (Instr.makeSlice 35 (.int .i64 1) (.int .i64 1)).run Tryd.prog w = .ok (.slice (some ⟨w.heap.size, 0, none⟩) 1 1) (w.alloc (.cells #[Value.int .u8 0] 5)) := fun _ => by kernel_rfl
  have hfin := putYes_of w 1 x (by decide)
  rw [putL_1] at hfin
  have H := Lib.hid hfin
  clear hfin
  go_enter Tryd.func22, Tryd.ntmps22
  go_wp2
  refine wp_loop_rounds 2 ?_
  rw [rounds_succ]
  go_wp2
  rw [rounds_succ]
  go_wp2
  go_ret2
  refine H.out [x] ?_ _ rfl
  simp only [List.cons.injEq, and_true]
  omega

set_option maxHeartbeats 1000000 in
theorem put_yes2 (x : Int) (w : World) (h0 : 0 ≤ x) (h1 : x < 65536) :
    Calls Tryd.prog 22 #[.int .i64 2, .int .u32 x] w (PutYes w 2 x) := by
  have hmk : ∀ w, (Instr.makeSlice 35 (.int .i64 2) (.int .i64 2)).run Tryd.prog w = .ok (.slice (some ⟨w.heap.size, 0, none⟩) 2 2) (w.alloc (.cells #[Value.int .u8 0, Value.int .u8 0] 5)) := fun _ => by kernel_rfl
  have hfin := putYes_of w 2 x (by decide)
  rw [putL_2] at hfin
  have H := Lib.hid hfin
  clear hfin
  go_enter Tryd.func22, Tryd.ntmps22
  go_wp2
  refine wp_loop_rounds 3 ?_
  rw [rounds_succ]
  go_wp2
  rw [rounds_succ]
  go_wp2
  rw [rounds_succ]
  go_wp2
  go_ret2
  refine H.out [x / 256, x % 256] ?_ _ rfl
  simp only [List.cons.injEq, and_true]
  omega

set_option maxHeartbeats 1000000 in
theorem put_yes3 (x : Int) (w : World) (h0 : 0 ≤ x) (h1 : x < 16777216) :
    Calls Tryd.prog 22 #[.int .i64 3, .int .u32 x] w (PutYes w 3 x) := by
  have hmk : ∀ w, (Instr.makeSlice 35 (.int .i64 3) (.int .i64 3)).run Tryd.prog w = .ok (.slice (some ⟨w.heap.size, 0, none⟩) 3 3) (w.alloc (.cells #[Value.int .u8 0, Value.int .u8 0, Value.int .u8 0] 5)) := fun _ => by kernel_rfl
  have hfin := putYes_of w 3 x (by decide)
  rw [putL_3] at hfin
  have H := Lib.hid hfin
  clear hfin
  go_enter Tryd.func22, Tryd.ntmps22
  go_wp2
  refine wp_loop_rounds 4 ?_
  rw [rounds_succ]
  go_wp2
  rw [rounds_succ]
  go_wp2
  rw [rounds_succ]
  go_wp2
  rw [rounds_succ]
  go_wp2
  go_ret2
  refine H.out [x / 65536, x / 256 % 256, x % 256] ?_ _ rfl
  simp only [List.cons.injEq, and_true]
  omega

set_option maxHeartbeats 1000000 in
theorem put_yes4 (x : Int) (w : World) (h0 : 0 ≤ x) (h1 : x < 4294967296) :
    Calls Tryd.prog 22 #[.int .i64 4, .int .u32 x] w (PutYes w 4 x) := by
  have hmk : ∀ w, (Instr.makeSlice 35 (.int .i64 4) (.int .i64 4)).run Tryd.prog w = .ok (.slice (some ⟨w.heap.size, 0, none⟩) 4 4) (w.alloc (.cells #[Value.int .u8 0, Value.int .u8 0, Value.int .u8 0, Value.int .u8 0] 5)) := fun _ => by kernel_rfl
  have hfin := putYes_of w 4 x (by decide)
  rw [putL_4] at hfin
  have H := Lib.hid hfin
  clear hfin
  go_enter Tryd.func22, Tryd.ntmps22
  go_wp2
  refine wp_loop_rounds 5 ?_
  rw [rounds_succ]
  go_wp2
  rw [rounds_succ]
  go_wp2
  rw [rounds_succ]
  go_wp2
  rw [rounds_succ]
  go_wp2
  rw [rounds_succ]
  go_wp2
  go_ret2
  refine H.out [x / 16777216, x / 65536 % 256, x / 256 % 256, x % 256] ?_ _ rfl
  simp only [List.cons.injEq, and_true]
  omega

/-- What 'Put' leaves where it fails. -/
theorem put_range (k x : Int) (w : World) (h : k < 1 ∨ 4 < k) :
    Calls Tryd.prog 22 #[.int .i64 k, .int .u32 x] w (Stay (.tuple #[.slice none 0 0, .bool false]) w) := by
  rcases h with h | h
  all_goals
    go_enter Tryd.func22, Tryd.ntmps22
    go_wp2
    go_ret2
    exact ⟨rfl, Kp.refl _ _⟩

theorem put_big1 (x : Int) (w : World) (h0 : 256 ≤ x) (h1 : x < 4294967296) :
    Calls Tryd.prog 22 #[.int .i64 1, .int .u32 x] w (Stay (.tuple #[.slice none 0 0, .bool false]) w) := by
  go_enter Tryd.func22, Tryd.ntmps22
  go_wp2
  go_ret2
  exact ⟨rfl, Kp.refl _ _⟩

theorem put_big2 (x : Int) (w : World) (h0 : 65536 ≤ x) (h1 : x < 4294967296) :
    Calls Tryd.prog 22 #[.int .i64 2, .int .u32 x] w (Stay (.tuple #[.slice none 0 0, .bool false]) w) := by
  go_enter Tryd.func22, Tryd.ntmps22
  go_wp2
  go_ret2
  exact ⟨rfl, Kp.refl _ _⟩

theorem put_big3 (x : Int) (w : World) (h0 : 16777216 ≤ x) (h1 : x < 4294967296) :
    Calls Tryd.prog 22 #[.int .i64 3, .int .u32 x] w (Stay (.tuple #[.slice none 0 0, .bool false]) w) := by
  go_enter Tryd.func22, Tryd.ntmps22
  go_wp2
  go_ret2
  exact ⟨rfl, Kp.refl _ _⟩

/-- Does the number x fit into k bytes? -/
def fits (k x : Int) : Bool := decide (1 ≤ k ∧ k ≤ 4 ∧ x < 256 ^ k.toNat)

/-- The number x as k bytes, or none. -/
def putR (k x : Int) : List Int := if fits k x then putL k.toNat x else []
theorem putR_isB (k x : Int) : IsB (putR k x) := by
  unfold putR
  split
  · exact putL_isB _ _
  · exact IsB.nil
theorem putR_length (k x : Int) : (putR k x).length ≤ 4 := by
  unfold putR
  split
  · rename_i h
    simp only [fits, decide_eq_true_eq] at h
    rw [putL_length]
    omega
  · simp

/-- What 'Put' leaves, for every k and every number. -/
def PutAny (w : World) (k x : Int) (e : Ending) (w' : World) : Prop :=
  ∃ A c, e = .returned (.tuple #[.slice A (putR k x).length c, .bool (fits k x)]) ∧
    w'.ownsRow w.heap.size 5 1 (.slice A (putR k x).length c) (putR k x).length (bs (putR k x)) ∧ Kp NoB w w'

theorem putAny_no {w w' : World} {k x : Int} {e : Ending} (hf : fits k x = false) (h : Stay (.tuple #[.slice none 0 0, .bool false]) w e w') : PutAny w k x e w' := by
  obtain ⟨rfl, hK⟩ := h
  have hr : putR k x = [] := by simp [putR, hf]
  refine ⟨none, 0, by rw [hf, hr]; rfl, by rw [hr]; exact World.ownsRow_nil _ _ _ _, hK⟩
theorem putAny_yes {w w' : World} {k : Nat} {x : Int} {e : Ending} (hf : fits k x = true) (h : PutYes w k x e w') : PutAny w k x e w' := by
  obtain ⟨A, c, rfl, hown, hK⟩ := h
  have hr : putR k x = putL k x := by simp [putR, hf]
  refine ⟨A, c, ?_, ?_, hK⟩
  · rw [hf, hr, putL_length]
  · rw [hr, putL_length]; exact hown

/-- The four widths. -/
theorem widths {P : Int → Prop} (k : Int) (h : ¬ (k < 1 ∨ 4 < k)) (h1 : P 1) (h2 : P 2) (h3 : P 3) (h4 : P 4) : P k := by
  rcases (by omega : k = 1 ∨ k = 2 ∨ k = 3 ∨ k = 4) with rfl | rfl | rfl | rfl
  · exact h1
  · exact h2
  · exact h3
  · exact h4

theorem put_any (k x : Int) (w : World) (h0 : 0 ≤ x) (h1 : x < 4294967296) :
    Calls Tryd.prog 22 #[.int .i64 k, .int .u32 x] w (PutAny w k x) := by
  by_cases hk : k < 1 ∨ 4 < k
  · exact (put_range k x w hk).mono fun _ _ h => putAny_no (by simp [fits]; omega) h
  · refine widths (P := fun k => Calls Tryd.prog 22 #[.int .i64 k, .int .u32 x] w (PutAny w k x)) k hk ?_ ?_ ?_ ?_
    · by_cases hx : x < 256
      · exact (put_yes1 x w h0 hx).mono fun _ _ h => putAny_yes (k := 1) (by simp [fits]; omega) h
      · exact (put_big1 x w (by omega) h1).mono fun _ _ h => putAny_no (by simp [fits]; omega) h
    · by_cases hx : x < 65536
      · exact (put_yes2 x w h0 hx).mono fun _ _ h => putAny_yes (k := 2) (by simp [fits]; omega) h
      · exact (put_big2 x w (by omega) h1).mono fun _ _ h => putAny_no (by simp [fits]; omega) h
    · by_cases hx : x < 16777216
      · exact (put_yes3 x w h0 hx).mono fun _ _ h => putAny_yes (k := 3) (by simp [fits]; omega) h
      · exact (put_big3 x w (by omega) h1).mono fun _ _ h => putAny_no (by simp [fits]; omega) h
    · exact (put_yes4 x w h0 h1).mono fun _ _ h => putAny_yes (k := 4) (by simp [fits]; omega) h

end Go.Proofs.YtffdjfnipnmlcaaDoor
