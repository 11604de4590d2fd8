/- The classes of attributes (package flag and its reference): contracts by walking the Go text. No condition. -/
import Derived.Test.YtffdjfnipnmlcaaDoorMapI
import Derived.Test.YtffdjfnipnmlcaaDoorClone
import Derived.Test.YtffdjfnipnmlcaaDoorBits
namespace Go.Proofs.YtffdjfnipnmlcaaDoor
open Go.RowKit Go.Maps
set_option linter.unusedVariables false
set_option linter.unusedSimpArgs false

/-- The class of a type: the document's table. -/
def clsO (k : Int) : Option Int :=
  if k = 1 ∨ k = 2 ∨ k = 3 ∨ k = 5 ∨ k = 6 then some 64
  else if k = 4 ∨ k = 9 ∨ k = 10 ∨ k = 14 ∨ k = 15 then some 128
  else if k = 7 ∨ k = 8 ∨ k = 16 ∨ k = 17 ∨ k = 18 ∨ k = 32 then some 192 else none
def cls (k : Int) : Int := (clsO k).getD 0
def isCls (k : Int) : Bool := (clsO k).isSome

theorem cls_cases (k : Int) : (cls k = 64 ∧ isCls k = true) ∨ (cls k = 128 ∧ isCls k = true) ∨ (cls k = 192 ∧ isCls k = true) ∨ (cls k = 0 ∧ isCls k = false) := by
  unfold cls isCls clsO
  split
  · exact .inl ⟨rfl, rfl⟩
  · split
    · exact .inr (.inl ⟨rfl, rfl⟩)
    · split
      · exact .inr (.inr (.inl ⟨rfl, rfl⟩))
      · exact .inr (.inr (.inr ⟨rfl, rfl⟩))

theorem zeroValueI (w : World) : (zeroValue 3).run Tryd.prog w = .ok (.int .i64 0) w := by kernel_rfl

/-- A map of the classes, made by the call. -/
def ClassMap (w : World) (e : Ending) (w' : World) : Prop := ∃ b, e = .returned (.map (some b)) ∧ MapN Tryd.prog 3 3 w' b 16 clsO ∧ Kp NoB w w'

def clsU : Int → Option Int := upd (upd (upd (upd (upd (upd (upd (upd (upd (upd (upd (upd (upd (upd (upd (upd (fun _ => none) 1 64) 2 64) 3 64) 5 64) 6 64) 4 128) 9 128) 10 128) 14 128) 15 128) 7 192) 8 192) 16 192) 17 192) 18 192) 32 192
theorem clsU_eq : clsU = clsO := by
  funext k
  by_cases h1 : k = 1
  · subst h1; rfl
  by_cases h2 : k = 2
  · subst h2; rfl
  by_cases h3 : k = 3
  · subst h3; rfl
  by_cases h5 : k = 5
  · subst h5; rfl
  by_cases h6 : k = 6
  · subst h6; rfl
  by_cases h4 : k = 4
  · subst h4; rfl
  by_cases h9 : k = 9
  · subst h9; rfl
  by_cases h10 : k = 10
  · subst h10; rfl
  by_cases h14 : k = 14
  · subst h14; rfl
  by_cases h15 : k = 15
  · subst h15; rfl
  by_cases h7 : k = 7
  · subst h7; rfl
  by_cases h8 : k = 8
  · subst h8; rfl
  by_cases h16 : k = 16
  · subst h16; rfl
  by_cases h17 : k = 17
  · subst h17; rfl
  by_cases h18 : k = 18
  · subst h18; rfl
  by_cases h32 : k = 32
  · subst h32; rfl
  simp [clsU, upd, clsO, h1, h2, h3, h5, h6, h4, h9, h10, h14, h15, h7, h8, h16, h17, h18, h32]

set_option maxRecDepth 100000 in
set_option maxHeartbeats 2000000 in
theorem classes_any (w : World) : Calls Tryd.prog 17 #[] w (ClassMap w) := by
  have hmm := @run_makeMap Tryd.prog
  have hm := MapN.made w Tryd.prog 3 3
  have hk := (Kp.refl NoB w).alloc (.map #[] 0)
  go_enter Tryd.func17, Tryd.ntmps17
  go_wp2_with (refine wpList_ins hk rfl (.tmp 1) _ _ 41 rfl Tryd.underlying3 Tryd.underlying3 Tryd.underlying41 hm (by decide) (Nat.le_refl _) _ _ rfl rfl rfl (by decide) (by decide) ?_; intro w1 hm1 hk1; clear hm hk; have hm := hm1; have hk := hk1; clear hm1 hk1)
  go_ret
  refine ⟨_, rfl, ?_, hk⟩
  rw [← clsU_eq]
  exact hm

set_option maxHeartbeats 1000000 in
theorem class_any (k : Int) (wk : (Lit.int .i64 k).wf = true) (w : World) : Calls Tryd.prog 14 #[.int .i64 k] w (Stay (.tuple #[.int .i64 (cls k), .bool (isCls k)]) w) := by
  go_enter Tryd.func14, Tryd.ntmps14
  go_wp2_with (first
    | (go_at_call 17; refine (classes_any _).mono ?_; rintro e w1 ⟨b, rfl, hm, hK⟩)
    | (refine wpList_look rfl (.tmp 7) (.tmp 8) 41 rfl Tryd.underlying3 Tryd.underlying3 Tryd.underlying41 (zeroValueI _) hm k rfl rfl wk ?_))
  go_ret2
  exact ⟨rfl, hK⟩

/-- The reference's Class. -/
theorem rclass_any (k : Int) (w : World) : Calls Tryd.prog 5 #[.int .i64 k] w fun e w' => e = .returned (.tuple #[.int .i64 (cls k), .bool (isCls k)]) ∧ w = w' := by
  by_cases h1 : k = 1
  · subst h1
    go_enter Tryd.func5, Tryd.ntmps5
    go_wp2
    go_ret2
    exact ⟨rfl, rfl⟩
  by_cases h2 : k = 2
  · subst h2
    go_enter Tryd.func5, Tryd.ntmps5
    go_wp2
    go_ret2
    exact ⟨rfl, rfl⟩
  by_cases h3 : k = 3
  · subst h3
    go_enter Tryd.func5, Tryd.ntmps5
    go_wp2
    go_ret2
    exact ⟨rfl, rfl⟩
  by_cases h5 : k = 5
  · subst h5
    go_enter Tryd.func5, Tryd.ntmps5
    go_wp2
    go_ret2
    exact ⟨rfl, rfl⟩
  by_cases h6 : k = 6
  · subst h6
    go_enter Tryd.func5, Tryd.ntmps5
    go_wp2
    go_ret2
    exact ⟨rfl, rfl⟩
  by_cases h4 : k = 4
  · subst h4
    go_enter Tryd.func5, Tryd.ntmps5
    go_wp2
    go_ret2
    exact ⟨rfl, rfl⟩
  by_cases h9 : k = 9
  · subst h9
    go_enter Tryd.func5, Tryd.ntmps5
    go_wp2
    go_ret2
    exact ⟨rfl, rfl⟩
  by_cases h10 : k = 10
  · subst h10
    go_enter Tryd.func5, Tryd.ntmps5
    go_wp2
    go_ret2
    exact ⟨rfl, rfl⟩
  by_cases h14 : k = 14
  · subst h14
    go_enter Tryd.func5, Tryd.ntmps5
    go_wp2
    go_ret2
    exact ⟨rfl, rfl⟩
  by_cases h15 : k = 15
  · subst h15
    go_enter Tryd.func5, Tryd.ntmps5
    go_wp2
    go_ret2
    exact ⟨rfl, rfl⟩
  by_cases h7 : k = 7
  · subst h7
    go_enter Tryd.func5, Tryd.ntmps5
    go_wp2
    go_ret2
    exact ⟨rfl, rfl⟩
  by_cases h8 : k = 8
  · subst h8
    go_enter Tryd.func5, Tryd.ntmps5
    go_wp2
    go_ret2
    exact ⟨rfl, rfl⟩
  by_cases h16 : k = 16
  · subst h16
    go_enter Tryd.func5, Tryd.ntmps5
    go_wp2
    go_ret2
    exact ⟨rfl, rfl⟩
  by_cases h17 : k = 17
  · subst h17
    go_enter Tryd.func5, Tryd.ntmps5
    go_wp2
    go_ret2
    exact ⟨rfl, rfl⟩
  by_cases h18 : k = 18
  · subst h18
    go_enter Tryd.func5, Tryd.ntmps5
    go_wp2
    go_ret2
    exact ⟨rfl, rfl⟩
  by_cases h32 : k = 32
  · subst h32
    go_enter Tryd.func5, Tryd.ntmps5
    go_wp2
    go_ret2
    exact ⟨rfl, rfl⟩
  have hc : cls k = 0 := by simp [cls, clsO, h1, h2, h3, h5, h6, h4, h9, h10, h14, h15, h7, h8, h16, h17, h18, h32]
  have hi : isCls k = false := by simp [isCls, clsO, h1, h2, h3, h5, h6, h4, h9, h10, h14, h15, h7, h8, h16, h17, h18, h32]
  have g1 : (k == 1) = false := by simp [h1]
  have g2 : (k == 2) = false := by simp [h2]
  have g3 : (k == 3) = false := by simp [h3]
  have g5 : (k == 5) = false := by simp [h5]
  have g6 : (k == 6) = false := by simp [h6]
  have g4 : (k == 4) = false := by simp [h4]
  have g9 : (k == 9) = false := by simp [h9]
  have g10 : (k == 10) = false := by simp [h10]
  have g14 : (k == 14) = false := by simp [h14]
  have g15 : (k == 15) = false := by simp [h15]
  have g7 : (k == 7) = false := by simp [h7]
  have g8 : (k == 8) = false := by simp [h8]
  have g16 : (k == 16) = false := by simp [h16]
  have g17 : (k == 17) = false := by simp [h17]
  have g18 : (k == 18) = false := by simp [h18]
  have g32 : (k == 32) = false := by simp [h32]
  clear h1 h2 h3 h5 h6 h4 h9 h10 h14 h15 h7 h8 h16 h17 h18 h32
  have HC := Lib.hid hc
  have HI := Lib.hid hi
  clear hc hi
  go_enter Tryd.func5, Tryd.ntmps5
  go_wp2
  go_ret2
  exact ⟨by rw [HC.out, HI.out]; rfl, rfl⟩

theorem by_cls {P : Bool → Int → Prop} (k : Int) (h1 : P true 64) (h2 : P true 128) (h3 : P true 192) (h4 : P false 0) : P (isCls k) (cls k) := by
  rcases cls_cases k with ⟨e1, e2⟩ | ⟨e1, e2⟩ | ⟨e1, e2⟩ | ⟨e1, e2⟩ <;> rw [e1, e2] <;> assumption

def head (a b c : Int) : Value := .agg #[.int .i64 a, .int .i64 b, .int .i64 c]
/-- Its flags. -/
def canF (p : Bool) (n : Int) (kn : Bool) (c : Int) : Int := (if kn then c else 192) + (if p then 32 else 0) + (if 255 < n then 16 else 0)
/-- Where there is none. -/
def CanBad (k : Int) (p : Bool) (n : Int) (kn : Bool) (c : Int) : Prop := k < 0 ∨ (0 ≤ k ∧ 255 < k) ∨ (0 ≤ k ∧ k ≤ 255 ∧ n < 0) ∨ (0 ≤ k ∧ k ≤ 255 ∧ 0 ≤ n ∧ 65535 < n) ∨ (0 ≤ k ∧ k ≤ 255 ∧ 0 ≤ n ∧ n ≤ 65535 ∧ p = true ∧ kn = true ∧ (c != 192) = true)
def CanGood (k : Int) (p : Bool) (n : Int) (kn : Bool) (c : Int) : Prop := 0 ≤ k ∧ k ≤ 255 ∧ 0 ≤ n ∧ n ≤ 65535 ∧ (p = true → kn = true → c = 192)
theorem can_cases (k : Int) (p : Bool) (n : Int) (kn : Bool) (c : Int) : CanBad k p n kn c ∨ CanGood k p n kn c := by
  unfold CanBad CanGood
  by_cases h : p = true ∧ kn = true ∧ (c != 192) = true
  · obtain ⟨h1, h2, h3⟩ := h
    simp only [h1, h2, h3, and_true, true_implies]
    omega
  · have h' : p = true → kn = true → c = 192 := fun h1 h2 => by
      rcases Classical.em (c = 192) with h3 | h3
      · exact h3
      · exact absurd ⟨h1, h2, by simpa using h3⟩ h
    by_cases hr : 0 ≤ k ∧ k ≤ 255 ∧ 0 ≤ n ∧ n ≤ 65535
    · exact .inr ⟨hr.1, hr.2.1, hr.2.2.1, hr.2.2.2, h'⟩
    · left
      omega

theorem rclass_stay (k : Int) (w : World) : Calls Tryd.prog 5 #[.int .i64 k] w (Stay (.tuple #[.int .i64 (cls k), .bool (isCls k)]) w) :=
  (rclass_any k w).mono fun _ _ ⟨he, hw⟩ => ⟨he, hw ▸ Kp.refl _ _⟩

end Go.Proofs.YtffdjfnipnmlcaaDoor
