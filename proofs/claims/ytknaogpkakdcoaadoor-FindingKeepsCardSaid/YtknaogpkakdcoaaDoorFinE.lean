/- Package finding and the references: Worse, Same; few verdicts. No condition but the bounds that arguments have. -/
import Derived.Test.YtknaogpkakdcoaaDoorFinD
import Derived.Test.YtknaogpkakdcoaaDoorOpenV
import Derived.Test.YtknaogpkakdcoaaDoorBEq
namespace Go.Proofs.YtknaogpkakdcoaaDoor
open Go.RowKit
set_option linter.unusedVariables false
set_option linter.unusedSimpArgs false

/-- Is a verdict worse than another one? (kind, offset; kind, offset) -/
def worseV (k a k' a' : Int) : Bool := decide (k' < k ∨ k = k' ∧ a < a')

set_option maxRecDepth 100000 in
set_option maxHeartbeats 1600000 in
theorem fworse_any (k c s : Int) (A : Option Addr) (n m : Nat) (a : Int) (k' c' s' : Int) (A' : Option Addr) (n' m' : Nat) (a' : Int) (w : World) :
    Calls Tryd.prog 14 #[.agg #[.int .i64 k, .int .i64 c, .int .i64 s, .slice A n m, .int .i64 a], .agg #[.int .i64 k', .int .i64 c', .int .i64 s', .slice A' n' m', .int .i64 a']] w (Stay (.bool (worseV k a k' a')) w) := by
  unfold worseV
  by_cases h : k = k'
  · subst h
    rw [show decide (k < k ∨ k = k ∧ a < a') = decide (a < a') by simp]
    go_enter Tryd.func14, Tryd.ntmps14
    go_wp2
    all_goals
      go_ret
      exact ⟨by simp, ((Kp.refl _ _).alloc _).alloc _⟩
  · have h' : ¬ k' = k := fun e => h e.symm
    rw [show decide (k' < k ∨ k = k' ∧ a < a') = decide (k' < k) by simp [h]]
    go_enter Tryd.func14, Tryd.ntmps14
    go_wp2
    all_goals
      go_ret
      exact ⟨by simp_all, ((Kp.refl _ _).alloc _).alloc _⟩

set_option maxRecDepth 100000 in
set_option maxHeartbeats 1600000 in
theorem rworse_any (k c s : Int) (A : Option Addr) (n m : Nat) (a : Int) (k' c' s' : Int) (A' : Option Addr) (n' m' : Nat) (a' : Int) (w : World) :
    Calls Tryd.prog 15 #[.agg #[.int .i64 k, .int .i64 c, .int .i64 s, .slice A n m, .int .i64 a], .agg #[.int .i64 k', .int .i64 c', .int .i64 s', .slice A' n' m', .int .i64 a']] w (Stay (.bool (worseV k a k' a')) w) := by
  unfold worseV
  by_cases h : k = k'
  · subst h
    rw [show decide (k < k ∨ k = k ∧ a < a') = decide (a < a') by simp]
    go_enter Tryd.func15, Tryd.ntmps15
    go_wp2
    all_goals
      go_ret
      exact ⟨by simp, ((Kp.refl _ _).alloc _).alloc _⟩
  · have h' : ¬ k' = k := fun e => h e.symm
    rw [show decide (k' < k ∨ k = k' ∧ a < a') = decide (k' < k) by simp [h]]
    go_enter Tryd.func15, Tryd.ntmps15
    go_wp2
    all_goals
      go_ret
      exact ⟨by simp_all, ((Kp.refl _ _).alloc _).alloc _⟩

/-- Are two verdicts the same? -/
def sameV (k c s : Int) (d : List Int) (a : Int) (k' c' s' : Int) (d' : List Int) (a' : Int) : Bool := decide (k = k' ∧ c = c' ∧ s = s' ∧ a = a' ∧ d = d')

set_option maxRecDepth 100000 in
set_option maxHeartbeats 1600000 in
theorem fsame_any (k c s : Int) (d : List Int) (A : Option Addr) (m : Nat) (a : Int) (k' c' s' : Int) (d' : List Int) (A' : Option Addr) (m' : Nat) (a' : Int) (w : World) (ha : Arr w A (bs d)) (hb : Arr w A' (bs d')) (hx : IsB d) (hy : IsB d') :
    Calls Tryd.prog 16 #[.agg #[.int .i64 k, .int .i64 c, .int .i64 s, .slice A d.length m, .int .i64 a], .agg #[.int .i64 k', .int .i64 c', .int .i64 s', .slice A' d'.length m', .int .i64 a']] w (Stay (.bool (sameV k c s d a k' c' s' d' a')) w) := by
  have HE := Lib.hid (fun W (q : Kp NoB w W) => beq_any A A' m m' d d' W (ha.and q) (hb.and q) hx hy)
  clear ha hb hx hy
  by_cases h : k = k'
  · subst h
    by_cases h : c = c'
    · subst h
      by_cases h : s = s'
      · subst h
        by_cases h : a = a'
        · subst h
          rw [show sameV k c s d a k c s d' a = decide (d = d') by unfold sameV; simp]
          obtain ⟨b, hbb⟩ : ∃ b, decide (d = d') = b := ⟨_, rfl⟩
          rw [hbb] at HE ⊢
          obtain ⟨n, hn⟩ : ∃ n, d.length = n := ⟨_, rfl⟩
          obtain ⟨n', hn'⟩ : ∃ n, d'.length = n := ⟨_, rfl⟩
          rw [hn, hn'] at HE ⊢
          clear hbb hn hn'
          go_enter Tryd.func16, Tryd.ntmps16
          go_wp2_with (go_at_call 34; (with_reducible refine Calls.mono (HE.out _ (((Kp.refl NoB w).alloc _).alloc _)) ?_); rintro e w1 ⟨rfl, hw1⟩; have hk1 := Lib.hid (show Kp NoB w w1 by rw [hw1]; exact ((Kp.refl NoB w).alloc _).alloc _); clear hw1)
          go_ret
          exact ⟨by simp, hk1.out⟩
        · have h' : ¬ a' = a := fun e => h e.symm
          rw [show sameV k c s d a k c s d' a' = false by unfold sameV; simp [h]]
          clear HE
          go_enter Tryd.func16, Tryd.ntmps16
          go_wp2
          all_goals
            go_ret
            exact ⟨by simp_all, ((Kp.refl _ _).alloc _).alloc _⟩
      · have h' : ¬ s' = s := fun e => h e.symm
        rw [show sameV k c s d a k c s' d' a' = false by unfold sameV; simp [h]]
        clear HE
        go_enter Tryd.func16, Tryd.ntmps16
        go_wp2
        all_goals
          go_ret
          exact ⟨by simp_all, ((Kp.refl _ _).alloc _).alloc _⟩
    · have h' : ¬ c' = c := fun e => h e.symm
      rw [show sameV k c s d a k c' s' d' a' = false by unfold sameV; simp [h]]
      clear HE
      go_enter Tryd.func16, Tryd.ntmps16
      go_wp2
      all_goals
        go_ret
        exact ⟨by simp_all, ((Kp.refl _ _).alloc _).alloc _⟩
  · have h' : ¬ k' = k := fun e => h e.symm
    rw [show sameV k c s d a k' c' s' d' a' = false by unfold sameV; simp [h]]
    clear HE
    go_enter Tryd.func16, Tryd.ntmps16
    go_wp2
    all_goals
      go_ret
      exact ⟨by simp_all, ((Kp.refl _ _).alloc _).alloc _⟩

set_option maxRecDepth 100000 in
set_option maxHeartbeats 1600000 in
theorem vsame_any (k c s : Int) (d : List Int) (A : Option Addr) (m : Nat) (a : Int) (k' c' s' : Int) (d' : List Int) (A' : Option Addr) (m' : Nat) (a' : Int) (w : World) (ha : Arr w A (bs d)) (hb : Arr w A' (bs d')) (hx : IsB d) (hy : IsB d') :
    Calls Tryd.prog 17 #[.agg #[.int .i64 k, .int .i64 c, .int .i64 s, .slice A d.length m, .int .i64 a], .agg #[.int .i64 k', .int .i64 c', .int .i64 s', .slice A' d'.length m', .int .i64 a']] w (Stay (.bool (sameV k c s d a k' c' s' d' a')) w) := by
  have HE := Lib.hid (fun W (q : Kp NoB w W) => rsame_any A A' m m' d d' W (ha.and q) (hb.and q) hx hy)
  clear ha hb hx hy
  by_cases h : k = k'
  · subst h
    by_cases h : c = c'
    · subst h
      by_cases h : s = s'
      · subst h
        by_cases h : a = a'
        · subst h
          rw [show sameV k c s d a k c s d' a = decide (d = d') by unfold sameV; simp]
          obtain ⟨b, hbb⟩ : ∃ b, decide (d = d') = b := ⟨_, rfl⟩
          rw [hbb] at HE ⊢
          obtain ⟨n, hn⟩ : ∃ n, d.length = n := ⟨_, rfl⟩
          obtain ⟨n', hn'⟩ : ∃ n, d'.length = n := ⟨_, rfl⟩
          rw [hn, hn'] at HE ⊢
          clear hbb hn hn'
          go_enter Tryd.func17, Tryd.ntmps17
          go_wp2_with (go_at_call 35; (with_reducible refine Calls.mono (HE.out _ (((Kp.refl NoB w).alloc _).alloc _)) ?_); rintro e w1 ⟨rfl, hw1⟩; have hk1 := Lib.hid (show Kp NoB w w1 by rw [hw1]; exact ((Kp.refl NoB w).alloc _).alloc _); clear hw1)
          go_ret
          exact ⟨by simp, hk1.out⟩
        · have h' : ¬ a' = a := fun e => h e.symm
          rw [show sameV k c s d a k c s d' a' = false by unfold sameV; simp [h]]
          clear HE
          go_enter Tryd.func17, Tryd.ntmps17
          go_wp2
          all_goals
            go_ret
            exact ⟨by simp_all, ((Kp.refl _ _).alloc _).alloc _⟩
      · have h' : ¬ s' = s := fun e => h e.symm
        rw [show sameV k c s d a k c s' d' a' = false by unfold sameV; simp [h]]
        clear HE
        go_enter Tryd.func17, Tryd.ntmps17
        go_wp2
        all_goals
          go_ret
          exact ⟨by simp_all, ((Kp.refl _ _).alloc _).alloc _⟩
    · have h' : ¬ c' = c := fun e => h e.symm
      rw [show sameV k c s d a k c' s' d' a' = false by unfold sameV; simp [h]]
      clear HE
      go_enter Tryd.func17, Tryd.ntmps17
      go_wp2
      all_goals
        go_ret
        exact ⟨by simp_all, ((Kp.refl _ _).alloc _).alloc _⟩
  · have h' : ¬ k' = k := fun e => h e.symm
    rw [show sameV k c s d a k' c' s' d' a' = false by unfold sameV; simp [h]]
    clear HE
    go_enter Tryd.func17, Tryd.ntmps17
    go_wp2
    all_goals
      go_ret
      exact ⟨by simp_all, ((Kp.refl _ _).alloc _).alloc _⟩

/-! ### lists of verdicts -/
def ArgV.cs (z : ArgV) : List Value := [.int .i64 z.k, .int .i64 z.c, .int .i64 z.s, .slice z.A z.d.length z.m, .int .i64 z.a]
/-- A list of verdicts. -/
def VsL (w : World) (A : Option Addr) (zs : List ArgV) : Prop := Sl (Flat ArgV.cs) 5 w A zs
theorem VsL.and {w w' : World} {A : Option Addr} {zs : List ArgV} (h : VsL w A zs) (k : Kp NoB w w') : VsL w' A zs := Flat.and h k
theorem vs_at {w : World} {A : Option Addr} {zs : List ArgV} (h : VsL w A zs) {j : Nat} (hj : j < zs.length) : ∃ ad, A = some ad ∧ w.cell? (ad.add (j * 5)) = some (.int .i64 zs[j].k) ∧
    w.cell? ⟨(ad.add (j * 5)).block, (ad.add (j * 5)).off + 1, none⟩ = some (.int .i64 zs[j].c) ∧ w.cell? ⟨(ad.add (j * 5)).block, (ad.add (j * 5)).off + 2, none⟩ = some (.int .i64 zs[j].s) ∧
    w.cell? ⟨(ad.add (j * 5)).block, (ad.add (j * 5)).off + 3, none⟩ = some (.slice zs[j].A zs[j].d.length zs[j].m) ∧ w.cell? ⟨(ad.add (j * 5)).block, (ad.add (j * 5)).off + 4, none⟩ = some (.int .i64 zs[j].a) := by
  obtain ⟨ad, cs, e, _, hcs, hc⟩ := h.at (List.getElem?_eq_getElem hj)
  have hcs' : cs = zs[j].cs := hcs
  subst hcs'
  have g := fun i (hi : 0 < i) v (hv : zs[j].cs[i]? = some v) => (by have := hc i v hv; rwa [add_field ad (j * 5) i hi] at this : w.cell? ⟨(ad.add (j * 5)).block, (ad.add (j * 5)).off + i, none⟩ = some v)
  exact ⟨ad, e, hc 0 _ rfl, g 1 (by decide) _ rfl, g 2 (by decide) _ rfl, g 3 (by decide) _ rfl, g 4 (by decide) _ rfl⟩

/-- What few leaves. -/
def fewB (zs : List ArgV) : Bool := zs.all (fun z => decide (z.d.length ≤ 200)) && decide (zs.length ≤ 50)
theorem all_step (p : ArgV → Bool) (zs : List ArgV) (j : Nat) (hj : j < zs.length) : (zs.drop j).all p = (p zs[j] && (zs.drop (j + 1)).all p) := by
  rw [List.drop_eq_getElem_cons hj, List.all_cons]

set_option maxRecDepth 100000 in
set_option maxHeartbeats 1600000 in
theorem few_any (A : Option Addr) (c : Nat) (zs : List ArgV) (w : World) (h : VsL w A zs) (hn : zs.length ≤ maxLen) :
    Calls Tryd.prog 13 #[.slice A zs.length c] w (Stay (.bool (fewB zs)) w) := by
  unfold maxLen at hn
  have HA := Lib.hid h
  have hf : fewB zs = (zs.all (fun z => decide (z.d.length ≤ 200)) && decide (zs.length ≤ 50)) := rfl
  have HF := Lib.hid hf
  clear h
  obtain ⟨F, hF⟩ : ∃ F, fewB zs = F := ⟨_, rfl⟩
  rw [hF] at HF ⊢
  clear hF hf
  obtain ⟨n, hnn⟩ : ∃ n, zs.length = n := ⟨_, rfl⟩
  have HN := Lib.hid hnn
  rw [hnn] at hn HF ⊢
  clear hnn
  go_enter Tryd.func13, Tryd.ntmps13
  go_wp2
  go_loopw [7] (fun i wr => ∃ j : Nat, j ≤ n ∧ i = .int .i64 j ∧ Hid (Kp NoB w wr) ∧ Hid (zs.all (fun z => decide (z.d.length ≤ 200)) = (zs.drop j).all (fun z => decide (z.d.length ≤ 200)))) (fun i _ => n - (intOf i).toNat)
  case atStart => exact ⟨0, Nat.zero_le _, rfl, Lib.hid (Kp.refl _ _), Lib.hid rfl⟩
  case round =>
    obtain ⟨j, hj, rfl, HK, HD⟩ := hrel
    by_cases hlt : j < n
    · have hjl : j < zs.length := by rw [HN.out]; exact hlt
      obtain ⟨ad, rfl, x0, x1, x2, x3, x4⟩ := vs_at (HA.out.and HK.out) hjl
      have hs := all_step (fun z => decide (z.d.length ≤ 200)) zs j hjl
      obtain ⟨z, hz⟩ : ∃ z, zs[j] = z := ⟨_, rfl⟩
      rw [hz] at x0 x1 x2 x3 x4 hs
      obtain ⟨q, hq⟩ : ∃ q, z.d.length = q := ⟨_, rfl⟩
      rw [hq] at x3 hs
      have HS := Lib.hid hs
      clear hz hs hq
      by_cases h2 : q ≤ 200
      · have h2' : ¬ (200 : Int) < q := by omega
        go_wp2
        go_roundw
        case rel => exact ⟨j + 1, by omega, by go_num, Lib.hid (HK.out.alloc _), Lib.hid (HD.out.trans (by rw [HS.out]; simp [h2]))⟩
        case measure => simp [intOf]; omega
      · have h2' : (200 : Int) < q := by omega
        have HR := Lib.hid (show F = false by rw [HF.out, HD.out, HS.out]; simp [h2])
        go_wp2
        go_ret
        exact ⟨by rw [HR.out]; rfl, HK.out.alloc _⟩
    · have hj' : j = n := by omega
      have HR := Lib.hid (show F = decide (n ≤ 50) by rw [HF.out, HD.out, List.drop_eq_nil_of_le (by rw [HN.out]; omega)]; rfl)
      go_wp2
      go_ret
      have e50 : decide ((n : Int) ≤ 50) = decide (n ≤ 50) := by rw [decide_eq_decide]; omega
      exact ⟨by rw [HR.out, ← e50]; rfl, HK.out⟩

end Go.Proofs.YtknaogpkakdcoaaDoor
