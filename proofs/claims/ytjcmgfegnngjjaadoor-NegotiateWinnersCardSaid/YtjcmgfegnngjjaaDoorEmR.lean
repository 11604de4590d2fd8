/- Which end wins: cmp.Compare, cmp.Or, Winner and Internal of the package, Winner of the reference; right: contracts by walking the Go text. No condition but the bounds that arguments have. -/
import Derived.Test.YtjcmgfegnngjjaaDoorOFoA
import Derived.Test.YtjcmgfegnngjjaaDoorOpenOpen
import Derived.Deep.RegionHeld3
import Derived.Deep.Cut
import Derived.Deep.CutRange
import Derived.Deep.DeepCutAuto
import Derived.LoopN
namespace Go.Proofs.YtjcmgfegnngjjaaDoor
open Go.RowKit
set_option linter.unusedVariables false
set_option linter.unusedSimpArgs false

theorem nan_any (x : Int) (w : World) : Calls Tryd.prog 22 #[.int .u32 x] w fun e w' => e = .returned (.bool false) ∧ w' = w := by
  go_enter Tryd.func22, Tryd.ntmps22
  go_wp2
  go_ret
  exact ⟨by simp, rfl⟩

/-- Less, equal, greater. -/
def cmpZ (a b : Int) : Int := if a < b then -1 else if b < a then 1 else 0
theorem cmp_any (a b : Int) (w : World) : Calls Tryd.prog 15 #[.int .u32 a, .int .u32 b] w fun e w' => e = .returned (.int .i64 (cmpZ a b)) ∧ w' = w := by
  have HN := Lib.hid nan_any
  unfold cmpZ
  by_cases h1 : a < b
  · rw [if_pos h1]
    go_enter Tryd.func15, Tryd.ntmps15
    go_wp2_with (go_at_call 22; refine (HN.out _ _).mono ?_; rintro e w1 ⟨rfl, rfl⟩)
    go_ret
    exact ⟨rfl, rfl⟩
  · rw [if_neg h1]
    by_cases h2 : b < a
    · rw [if_pos h2]
      go_enter Tryd.func15, Tryd.ntmps15
      go_wp2_with (go_at_call 22; refine (HN.out _ _).mono ?_; rintro e w1 ⟨rfl, rfl⟩)
      go_ret
      exact ⟨rfl, rfl⟩
    · rw [if_neg h2]
      go_enter Tryd.func15, Tryd.ntmps15
      go_wp2_with (go_at_call 22; refine (HN.out _ _).mono ?_; rintro e w1 ⟨rfl, rfl⟩)
      go_ret
      exact ⟨rfl, rfl⟩

def orZ (x y : Int) : Int := if x ≠ 0 then x else y
theorem or_any (x y : Int) (b : Nat) (w : World) (h0 : w.cell? ⟨b, 0, none⟩ = some (.int .i64 x)) (h1 : w.cell? ⟨b, 1, none⟩ = some (.int .i64 y)) : Calls Tryd.prog 14 #[.slice (some ⟨b, 0, none⟩) 2 2] w fun e w' => e = .returned (.int .i64 (orZ x y)) ∧ w' = w := by
  unfold orZ
  by_cases hx : x = 0
  · subst hx
    rw [if_neg (by simp)]
    by_cases hy : y = 0
    · subst hy
      go_enter Tryd.func14, Tryd.ntmps14
      go_wp2
      refine wp_loop_rounds 3 ?_
      rw [rounds_succ]
      go_wp2
      rw [rounds_succ]
      go_wp2
      rw [rounds_succ]
      go_wp2
      go_ret
      exact ⟨rfl, rfl⟩
    · have hn : (y != 0) = true := by simp [hy]
      go_enter Tryd.func14, Tryd.ntmps14
      go_wp2
      refine wp_loop_rounds 3 ?_
      rw [rounds_succ]
      go_wp2
      rw [rounds_succ]
      go_wp2
      go_ret
      exact ⟨rfl, rfl⟩
  · rw [if_pos hx]
    have hn : (x != 0) = true := by simp [hx]
    go_enter Tryd.func14, Tryd.ntmps14
    go_wp2
    refine wp_loop_rounds 3 ?_
    rw [rounds_succ]
    go_wp2
    go_ret
    exact ⟨rfl, rfl⟩

/-- Who wins. -/
def winZ (i i' s s' : Int) : Int := if i' < i then 1 else if i < i' then 2 else if s' < s then 1 else if s < s' then 2 else 0
theorem win_or (i i' s s' : Int) : (orZ (cmpZ i i') (cmpZ s s') = 1 ∧ winZ i i' s s' = 1) ∨ (orZ (cmpZ i i') (cmpZ s s') = -1 ∧ winZ i i' s s' = 2) ∨ (orZ (cmpZ i i') (cmpZ s s') = 0 ∧ winZ i i' s s' = 0) := by
  unfold orZ cmpZ winZ
  by_cases h1 : i < i' <;> by_cases h2 : i' < i <;> by_cases h3 : s < s' <;> by_cases h4 : s' < s
  all_goals simp [h1, h2, h3, h4]
  all_goals omega
theorem win_both (i i' s s' : Int) : (winZ i i' s s' = 0 ∧ winZ i' i s' s = 0) ∨ (winZ i i' s s' = 1 ∧ winZ i' i s' s = 2) ∨ (winZ i i' s s' = 2 ∧ winZ i' i s' s = 1) := by
  unfold winZ
  by_cases h1 : i < i' <;> by_cases h2 : i' < i <;> by_cases h3 : s < s' <;> by_cases h4 : s' < s
  all_goals simp [h1, h2, h3, h4]
  all_goals omega

/-- An OPEN's cells. -/
abbrev oc (s h i : Int) (A : Option Addr) (n c : Nat) : Array Value := #[.int .u32 s, .int .i64 h, .int .u32 i, .slice A n c]

set_option maxRecDepth 100000 in
set_option maxHeartbeats 4000000 in
theorem winner_any (s h i s' h' i' : Int) (A B : Option Addr) (n c m d : Nat) (w : World) : Calls Tryd.prog 7 #[.agg (oc s h i A n c), .agg (oc s' h' i' B m d)] w (Stay (.int .i64 (winZ i i' s s')) w) := by
  have HC := Lib.hid cmp_any
  have HW := Lib.hid (win_or i i' s s')
  have HO := Lib.hid (fun W => or_any (cmpZ i i') (cmpZ s s') W.heap.size (W.alloc (.cells #[.int .i64 (cmpZ i i'), .int .i64 (cmpZ s s')] 3)) ((Bk.fresh W 3 #[.int .i64 (cmpZ i i'), .int .i64 (cmpZ s s')]).cell 0) ((Bk.fresh W 3 #[.int .i64 (cmpZ i i'), .int .i64 (cmpZ s s')]).cell 1))
  have HC1 := Lib.hid (HC.out i i')
  have HC2 := Lib.hid (HC.out s s')
  obtain ⟨z1, e1⟩ : ∃ z, cmpZ i i' = z := ⟨_, rfl⟩
  obtain ⟨z2, e2⟩ : ∃ z, cmpZ s s' = z := ⟨_, rfl⟩
  rw [e1, e2] at HO HW
  rw [e1] at HC1
  rw [e2] at HC2
  obtain ⟨z3, e3⟩ : ∃ z, orZ z1 z2 = z := ⟨_, rfl⟩
  rw [e3] at HO HW
  obtain ⟨z4, e4⟩ : ∃ z, winZ i i' s s' = z := ⟨_, rfl⟩
  rw [e4] at HW ⊢
  clear e1 e2 e3 e4 HC
  have b1 := (Bk.fresh w 30 (oc s h i A n c)).alloc (.cells (oc s' h' i' B m d) 30)
  have b2 := Bk.second w (.cells (oc s h i A n c) 30) 30 (oc s' h' i' B m d)
  have k0 := Lib.hid (((Kp.refl NoB w).alloc (.cells (oc s h i A n c) 30)).alloc (.cells (oc s' h' i' B m d) 30))
  unfold oc at *
  obtain ⟨x1, x2, x3, x4, -⟩ := b1.four
  obtain ⟨y1, y2, y3, y4, -⟩ := b2.four
  clear b1 b2
  go_enter Tryd.func7, Tryd.ntmps7
  go_upto_region 1 with fail
  obtain ⟨W, hW⟩ : ∃ W, (w.alloc (.cells #[.int .u32 s, .int .i64 h, .int .u32 i, .slice A n c] 30)).alloc (.cells #[.int .u32 s', .int .i64 h', .int .u32 i', .slice B m d] 30) = W := ⟨_, rfl⟩
  rw [hW] at x1 x2 x3 x4 y1 y2 y3 y4 k0 ⊢
  clear hW
  go_cut [16] (fun v wx => v = .int .i64 z3 ∧ Hid (Kp NoB w wx))
  case first =>
    go_region_held3 (fun w' => w'.cell? ⟨w.heap.size, 0, none⟩ = some (.int .u32 s) ∧ w'.cell? ⟨w.heap.size, 2, none⟩ = some (.int .u32 i) ∧ w'.cell? ⟨w.heap.size + 1, 0, none⟩ = some (.int .u32 s') ∧ w'.cell? ⟨w.heap.size + 1, 2, none⟩ = some (.int .u32 i')) (go_keep)
      (first
        | (go_at_call 14; refine (HO.out W.drew).mono ?_; rintro e w4 ⟨rfl, hw⟩; replace hw := hw.symm; subst hw)
        | (go_at_call 15; (with_reducible refine Calls.mono (HC1.out _) ?_); rintro e w2 ⟨rfl, hw⟩; replace hw := hw.symm; subst hw)
        | (go_at_call 15; (with_reducible refine Calls.mono (HC2.out _) ?_); rintro e w3 ⟨rfl, hw⟩; replace hw := hw.symm; subst hw))
    all_goals (go_wp2_with fail; go_meet; exact ⟨rfl, Lib.hid (k0.out.drew.alloc _)⟩)
  case rest =>
  obtain ⟨rfl, hK⟩ := hcut
  rcases HW.out with ⟨rfl, rfl⟩ | ⟨rfl, rfl⟩ | ⟨rfl, rfl⟩
  all_goals
    go_wp2
    go_ret
    exact ⟨rfl, hK.out⟩

theorem internal_any (s h i s' h' i' : Int) (A B : Option Addr) (n c m d : Nat) (w : World) : Calls Tryd.prog 9 #[.agg (oc s h i A n c), .agg (oc s' h' i' B m d)] w (Stay (.bool (s == s')) w) := by
  unfold oc
  go_enter Tryd.func9, Tryd.ntmps9
  go_wp2
  go_ret
  exact ⟨rfl, ((Kp.refl NoB w).alloc _).alloc _⟩

set_option maxRecDepth 100000 in
set_option maxHeartbeats 4000000 in
theorem rwinner_any (s h i s' h' i' : Int) (A B : Option Addr) (n c m d : Nat) (w : World) : Calls Tryd.prog 8 #[.agg (oc s h i A n c), .agg (oc s' h' i' B m d)] w (Stay (.int .i64 (winZ i i' s s')) w) := by
  unfold oc winZ
  by_cases h1 : i = i'
  · subst h1
    have e1 : (i != i) = false := by simp
    rw [if_neg (Int.lt_irrefl i), if_neg (Int.lt_irrefl i)]
    by_cases h2 : s = s'
    · subst h2
      have e2 : (s != s) = false := by simp
      rw [if_neg (Int.lt_irrefl s), if_neg (Int.lt_irrefl s)]
      go_enter Tryd.func8, Tryd.ntmps8
      go_wp2
      go_ret
      exact ⟨rfl, ((Kp.refl NoB w).alloc _).alloc _⟩
    · have e2 : (s != s') = true := by simp [h2]
      by_cases h3 : s' < s
      · rw [if_pos h3]
        clear h2
        go_enter Tryd.func8, Tryd.ntmps8
        go_wp2
        go_ret
        exact ⟨rfl, ((Kp.refl NoB w).alloc _).alloc _⟩
      · have h4 : s < s' := by omega
        rw [if_neg h3, if_pos h4]
        clear h2 h4
        go_enter Tryd.func8, Tryd.ntmps8
        go_wp2
        go_ret
        exact ⟨rfl, ((Kp.refl NoB w).alloc _).alloc _⟩
  · have e1 : (i != i') = true := by simp [h1]
    by_cases h3 : i' < i
    · rw [if_pos h3]
      clear h1
      go_enter Tryd.func8, Tryd.ntmps8
      go_wp2
      go_ret
      exact ⟨rfl, ((Kp.refl NoB w).alloc _).alloc _⟩
    · have h4 : i < i' := by omega
      rw [if_neg h3, if_pos h4]
      clear h1 h4
      go_enter Tryd.func8, Tryd.ntmps8
      go_wp2
      go_ret
      exact ⟨rfl, ((Kp.refl NoB w).alloc _).alloc _⟩

end Go.Proofs.YtjcmgfegnngjjaaDoor
