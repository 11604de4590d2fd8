/- Package community and its reference: Group, Valid. No condition but the bounds that arguments have. -/
import Derived.Test.YtkhonebedoemoaaDoorBasC
import Derived.Deep.RegionHeld3
namespace Go.Proofs.YtkhonebedoemoaaDoor
open Go.RowKit
set_option linter.unusedVariables false
set_option linter.unusedSimpArgs false

/-- How many numbers belong together. -/
def grp (k : Int) : Nat := if k = 8 ∨ k = 10 then 1 else if k = 16 then 2 else if k = 32 then 3 else 0

set_option maxRecDepth 100000 in
set_option maxHeartbeats 1600000 in
theorem group_any (k : Int) (w : World) : Calls Tryd.prog 24 #[.int .i64 k] w (Stay (.int .i64 (grp k : Nat)) w) := by
  by_cases h1 : k = 8
  · subst h1
    go_enter Tryd.func24, Tryd.ntmps24
    go_wp2
    go_ret
    exact ⟨rfl, Kp.refl _ _⟩
  · by_cases h2 : k = 10
    · subst h2
      go_enter Tryd.func24, Tryd.ntmps24
      go_wp2
      go_ret
      exact ⟨rfl, Kp.refl _ _⟩
    · by_cases h3 : k = 16
      · subst h3
        go_enter Tryd.func24, Tryd.ntmps24
        go_wp2
        go_ret
        exact ⟨rfl, Kp.refl _ _⟩
      · by_cases h4 : k = 32
        · subst h4
          go_enter Tryd.func24, Tryd.ntmps24
          go_wp2
          go_ret
          exact ⟨rfl, Kp.refl _ _⟩
        · have hg : grp k = 0 := by unfold grp; simp [h1, h2, h3, h4]
          rw [hg]
          go_enter Tryd.func24, Tryd.ntmps24
          go_wp2
          go_ret
          exact ⟨rfl, Kp.refl _ _⟩

set_option maxRecDepth 100000 in
set_option maxHeartbeats 1600000 in
theorem rgroup_any (k : Int) (w : World) : Calls Tryd.prog 25 #[.int .i64 k] w (Stay (.int .i64 (grp k : Nat)) w) := by
  by_cases h1 : k = 8
  · subst h1
    go_enter Tryd.func25, Tryd.ntmps25
    go_wp2
    go_ret
    exact ⟨rfl, Kp.refl _ _⟩
  · by_cases h2 : k = 10
    · subst h2
      go_enter Tryd.func25, Tryd.ntmps25
      go_wp2
      go_ret
      exact ⟨rfl, Kp.refl _ _⟩
    · by_cases h3 : k = 16
      · subst h3
        go_enter Tryd.func25, Tryd.ntmps25
        go_wp2
        go_ret
        exact ⟨rfl, Kp.refl _ _⟩
      · by_cases h4 : k = 32
        · subst h4
          go_enter Tryd.func25, Tryd.ntmps25
          go_wp2
          go_ret
          exact ⟨rfl, Kp.refl _ _⟩
        · have hg : grp k = 0 := by unfold grp; simp [h1, h2, h3, h4]
          rw [hg]
          go_enter Tryd.func25, Tryd.ntmps25
          go_wp2
          go_ret
          exact ⟨rfl, Kp.refl _ _⟩

theorem bk_drewC {w : World} {b : Nat} {t : TypeId} {cs : Array Value} (h : Bk w b t cs) : Bk w.drew b t cs := h
/-- The attribute without its list. -/
def AtI.rest (z : AtI) : AtI := { z with L := none, ln := 0, lc := 0 }
/-- Is an attribute valid? -/
def validC (z : AtI) : Bool := decide (0 < grp z.t) && decide (0 < z.ln) && decide (z.ln % grp z.t = 0) && plainB z.rest []

set_option maxRecDepth 100000 in
set_option maxHeartbeats 3200000 in
theorem valid_any (z : AtI) (ok : z.Ok) (w : World) : Calls Tryd.prog 19 #[z.val] w (Stay (.bool (validC z)) w) := by
  have okr : z.rest.Ok := ⟨ok.t, ok.n, ok.m, ok.f, ⟨ok.l.1, Nat.zero_le _, ok.l.2.2⟩⟩
  have HG := Lib.hid (fun W => group_any z.t W)
  have HP := Lib.hid (fun W => plain_any z.rest okr none 0 [] W (Arr.nil _ _) (by simp))
  have hl := ok.l.2.1
  unfold validC
  obtain ⟨P, hP⟩ : ∃ p, plainB z.rest [] = p := ⟨_, rfl⟩
  obtain ⟨G, hG⟩ : ∃ g, grp z.t = g := ⟨_, rfl⟩
  have hG3 : G ≤ 3 := by rw [← hG]; unfold grp; split <;> (try split) <;> (try split) <;> omega
  rw [hP] at HP ⊢
  rw [hG] at HG ⊢
  clear hP hG ok okr
  unfold AtI.rest at HP
  unfold AtI.val AtI.cs at HP ⊢
  simp only [List.length_nil] at HP
  have hk0 := (Kp.refl NoB w).alloc (.cells #[.int .i64 z.t, .bool z.p, .int .u32 z.n, .int .u32 z.m, .slice z.S z.sn z.sc, .slice z.L z.ln z.lc, .slice z.B z.bn z.bc, .int .i64 z.f, .slice z.R z.rn z.rc] 28)
  have HB0 := Lib.hid (Bk.fresh w 28 #[.int .i64 z.t, .bool z.p, .int .u32 z.n, .int .u32 z.m, .slice z.S z.sn z.sc, .slice z.L z.ln z.lc, .slice z.B z.bn z.bc, .int .i64 z.f, .slice z.R z.rn z.rc])
  have HK0 := Lib.hid hk0
  clear hk0
  go_enter Tryd.func19, Tryd.ntmps19
  go_wp2
  obtain ⟨x0, x1, x2, x3, x4, x5, x6, x7, x8⟩ := Bk.attr (z := z) HB0.out
  go_region_held3 (fun w' => w'.cell? ⟨w.heap.size, 0, none⟩ = some (.int .i64 z.t) ∧ w'.cell? ⟨w.heap.size, 5, none⟩ = some (.slice z.L z.ln z.lc)) (go_keep)
    ((go_at_call 24; (with_reducible refine Calls.mono (HG.out _) ?_); rintro e w1 ⟨rfl, hK⟩; have hk1 := Lib.hid (HK0.out.drew.and hK); have hb1 := Lib.hid (Bk.and (bk_drewC HB0.out) hK); clear x0 x1 x2 x3 x4 x5 x6 x7 x8; obtain ⟨x0, x1, x2, x3, x4, x5, x6, x7, x8⟩ := Bk.attr (z := z) hb1.out; clear hK))
  have f5 := hb1.out.frozen 5
  have hb2 := Lib.hid (show Bk (w1.setCell ⟨w.heap.size, 5, none⟩ (.slice none 0 0)) w.heap.size 28 #[.int .i64 z.t, .bool z.p, .int .u32 z.n, .int .u32 z.m, .slice z.S z.sn z.sc, .slice none 0 0, .slice z.B z.bn z.bc, .int .i64 z.f, .slice z.R z.rn z.rc] from by
    have := hb1.out.set 5 (.slice none 0 0)
    simpa using this)
  have hk2 := Lib.hid (hk1.out.setCell (p := ⟨w.heap.size, 5, none⟩) (fun q => absurd q (Nat.lt_irrefl w.heap.size)) (.slice none 0 0))
  by_cases hg : G = 0
  · subst hg
    clear HP
    go_wp2
    go_ret
    exact ⟨by simp, hk2.out⟩
  · have hgg : (0 : Int) < (G : Int) := by omega
    have hg0 : ¬ (G : Int) = 0 := by omega
    by_cases hn : z.ln = 0
    · have hnn : ¬ (0 : Int) < (z.ln : Int) := by omega
      clear HP
      go_wp2
      go_ret
      exact ⟨by simp [hn], hk2.out⟩
    · have hnn : (0 : Int) < (z.ln : Int) := by omega
      have hy := Bk.attr (z := z.rest) hb2.out
      simp only [AtI.rest] at hy
      obtain ⟨y0, y1, y2, y3, y4, y5, y6, y7, y8⟩ := hy
      have hcast : ((z.ln % G : Nat) : Int) = (z.ln : Int) % (G : Int) := Int.natCast_emod _ _
      by_cases hr : z.ln % G = 0
      · have hrr : ((z.ln : Int) % (G : Int) == 0) = true := by rw [← hcast, hr]; rfl
        go_wp2_with (go_at_call 36; (with_reducible refine Calls.mono (HP.out _) ?_); rintro e w2 ⟨rfl, hK⟩; have hk3 := Lib.hid (hk2.out.and hK); clear hK)
        go_ret
        refine ⟨?_, hk3.out⟩
        have e1 : decide (0 < G) = true := by simp; omega
        have e2 : decide (0 < z.ln) = true := by simp; omega
        simp [e1, e2, hr]
      · have hrr : ((z.ln : Int) % (G : Int) == 0) = false := by rw [← hcast, beq_eq_false_iff_ne]; omega
        clear HP
        go_wp2
        go_ret
        exact ⟨by simp [hr], hk2.out⟩

/-- The reference's words for a valid attribute are the package's. -/
theorem plainB_rest (z : AtI) : plainB z.rest [] = (z.rest.bare && (decide (z.n = 0) && decide (z.m = 0))) := by
  unfold plainB
  obtain ⟨b, hb⟩ : ∃ b, z.rest.bare = b := ⟨_, rfl⟩
  rw [hb]
  show (decide (0 ≤ 2) && decide (0 = z.n) && decide (0 = z.m) && b) = _
  rw [Bool.eq_iff_iff]
  simp only [Bool.and_eq_true, decide_eq_true_eq]
  constructor
  · rintro ⟨⟨⟨_, h1⟩, h2⟩, h3⟩
    exact ⟨h3, h1.symm, h2.symm⟩
  · rintro ⟨h3, h1, h2⟩
    exact ⟨⟨⟨by decide, h1.symm⟩, h2.symm⟩, h3⟩

end Go.Proofs.YtkhonebedoemoaaDoor
