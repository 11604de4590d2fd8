/- The reference's Valid and same. No condition but the bounds that arguments have. -/
import Derived.Test.YtkhonebedoemoaaDoorComA
import Derived.Test.YtkhonebedoemoaaDoorBasH
namespace Go.Proofs.YtkhonebedoemoaaDoor
open Go.RowKit
set_option linter.unusedVariables false
set_option linter.unusedSimpArgs false

set_option maxRecDepth 100000 in
set_option maxHeartbeats 3200000 in
theorem rvalid_any (z : AtI) (ok : z.Ok) (w : World) : Calls Tryd.prog 20 #[z.val] w (Stay (.bool (validC z)) w) := by
  have HG := Lib.hid (fun W => rgroup_any z.t W)
  have HP := Lib.hid (fun W => bare_any z.rest W)
  have hl := ok.l.2.1
  unfold validC
  rw [plainB_rest]
  obtain ⟨P, hP⟩ : ∃ p, z.rest.bare = p := ⟨_, rfl⟩
  obtain ⟨G, hG⟩ : ∃ g, grp z.t = g := ⟨_, rfl⟩
  have hG3 : G ≤ 3 := by rw [← hG]; unfold grp; split <;> (try split) <;> (try split) <;> omega
  rw [hP] at HP ⊢
  rw [hG] at HG ⊢
  clear hP hG ok
  unfold AtI.rest at HP
  unfold AtI.val AtI.cs at HP ⊢
  simp only at HP
  have hk0 := (Kp.refl NoB w).alloc (.cells #[.int .i64 z.t, .bool z.p, .int .u32 z.n, .int .u32 z.m, .slice z.S z.sn z.sc, .slice z.L z.ln z.lc, .slice z.B z.bn z.bc, .int .i64 z.f, .slice z.R z.rn z.rc] 28)
  have HB0 := Lib.hid (Bk.fresh w 28 #[.int .i64 z.t, .bool z.p, .int .u32 z.n, .int .u32 z.m, .slice z.S z.sn z.sc, .slice z.L z.ln z.lc, .slice z.B z.bn z.bc, .int .i64 z.f, .slice z.R z.rn z.rc])
  have HK0 := Lib.hid hk0
  clear hk0
  by_cases hg : G = 0
  · subst hg
    clear HP
    go_enter Tryd.func20, Tryd.ntmps20
    go_wp2_with (go_at_call 25; (with_reducible refine Calls.mono (HG.out _) ?_); rintro e w1 ⟨rfl, hK⟩; have hk1 := Lib.hid (HK0.out.and hK); have hb1 := Lib.hid (HB0.out.and hK); have hlt1 : w.heap.size < w1.heap.size := hb1.out.lt; have hne1 := Nat.ne_of_lt hlt1; obtain ⟨x0, x1, x2, x3, x4, x5, x6, x7, x8⟩ := Bk.attr (z := z) hb1.out; clear hK)
    go_ret
    exact ⟨by simp, hk1.out.alloc _⟩
  · have hgg : (0 : Int) < (G : Int) := by omega
    have hg0 : ¬ (G : Int) = 0 := by omega
    have e1 : decide (0 < G) = true := by simp; omega
    by_cases hn : z.ln = 0
    · have hnn : ¬ (0 : Int) < (z.ln : Int) := by omega
      have e2 : decide (0 < z.ln) = false := by simp [hn]
      rw [e1, e2]
      clear HP e1 e2 hn
      go_enter Tryd.func20, Tryd.ntmps20
      go_wp2_with (go_at_call 25; (with_reducible refine Calls.mono (HG.out _) ?_); rintro e w1 ⟨rfl, hK⟩; have hk1 := Lib.hid (HK0.out.and hK); have hb1 := Lib.hid (HB0.out.and hK); have hlt1 : w.heap.size < w1.heap.size := hb1.out.lt; have hne1 := Nat.ne_of_lt hlt1; obtain ⟨x0, x1, x2, x3, x4, x5, x6, x7, x8⟩ := Bk.attr (z := z) hb1.out; clear hK)
      go_ret
      exact ⟨by simp, hk1.out.alloc _⟩
    · have hnn : (0 : Int) < (z.ln : Int) := by omega
      have e2 : decide (0 < z.ln) = true := by simp; omega
      have hcast : ((z.ln % G : Nat) : Int) = (z.ln : Int) % (G : Int) := Int.natCast_emod _ _
      by_cases hr : z.ln % G = 0
      · have hrr : ((z.ln : Int) % (G : Int) == 0) = true := by rw [← hcast, hr]; rfl
        have e3 : decide (z.ln % G = 0) = true := by simp [hr]
        rw [e1, e2, e3]
        clear e1 e2 e3 hcast hr
        cases P
        · go_enter Tryd.func20, Tryd.ntmps20
          go_wp2_with (first
            | (go_at_call 25; (with_reducible refine Calls.mono (HG.out _) ?_); rintro e w1 ⟨rfl, hK⟩; have hk1 := Lib.hid (HK0.out.and hK); have hb1 := Lib.hid (HB0.out.and hK); have hlt1 : w.heap.size < w1.heap.size := hb1.out.lt; have hne1 := Nat.ne_of_lt hlt1; obtain ⟨x0, x1, x2, x3, x4, x5, x6, x7, x8⟩ := Bk.attr (z := z) hb1.out; clear hK)
            | (go_at_call 32; (with_reducible refine Calls.mono (HP.out _) ?_); rintro e w2 ⟨rfl, hK⟩; have hk2 := Lib.hid ((hk1.out.alloc _).and hK); have hb2 := Lib.hid ((hb1.out.alloc _).and hK); clear x0 x1 x2 x3 x4 x5 x6 x7 x8; obtain ⟨x0, x1, x2, x3, x4, x5, x6, x7, x8⟩ := Bk.attr (z := z) hb2.out; clear hK))
          go_ret
          refine ⟨?_, hk2.out⟩
          simp
        · by_cases h1 : z.n = 0
          · have h1' : (z.n == 0) = true := by simp [h1]
            have e4 : decide (z.n = 0) = true := by simp [h1]
            rw [e4]
            clear h1 e4
            by_cases h2 : z.m = 0
            · have h2' : (z.m == 0) = true := by simp [h2]
              have e5 : decide (z.m = 0) = true := by simp [h2]
              rw [e5]
              clear h2 e5
              go_enter Tryd.func20, Tryd.ntmps20
              go_wp2_with (first
                | (go_at_call 25; (with_reducible refine Calls.mono (HG.out _) ?_); rintro e w1 ⟨rfl, hK⟩; have hk1 := Lib.hid (HK0.out.and hK); have hb1 := Lib.hid (HB0.out.and hK); have hlt1 : w.heap.size < w1.heap.size := hb1.out.lt; have hne1 := Nat.ne_of_lt hlt1; obtain ⟨x0, x1, x2, x3, x4, x5, x6, x7, x8⟩ := Bk.attr (z := z) hb1.out; clear hK)
                | (go_at_call 32; (with_reducible refine Calls.mono (HP.out _) ?_); rintro e w2 ⟨rfl, hK⟩; have hk2 := Lib.hid ((hk1.out.alloc _).and hK); have hb2 := Lib.hid ((hb1.out.alloc _).and hK); clear x0 x1 x2 x3 x4 x5 x6 x7 x8; obtain ⟨x0, x1, x2, x3, x4, x5, x6, x7, x8⟩ := Bk.attr (z := z) hb2.out; clear hK))
              go_ret
              refine ⟨?_, hk2.out⟩
              rfl
            · have h2' : (z.m == 0) = false := by simp [h2]
              have e5 : decide (z.m = 0) = false := by simp [h2]
              rw [e5]
              clear h2 e5
              go_enter Tryd.func20, Tryd.ntmps20
              go_wp2_with (first
                | (go_at_call 25; (with_reducible refine Calls.mono (HG.out _) ?_); rintro e w1 ⟨rfl, hK⟩; have hk1 := Lib.hid (HK0.out.and hK); have hb1 := Lib.hid (HB0.out.and hK); have hlt1 : w.heap.size < w1.heap.size := hb1.out.lt; have hne1 := Nat.ne_of_lt hlt1; obtain ⟨x0, x1, x2, x3, x4, x5, x6, x7, x8⟩ := Bk.attr (z := z) hb1.out; clear hK)
                | (go_at_call 32; (with_reducible refine Calls.mono (HP.out _) ?_); rintro e w2 ⟨rfl, hK⟩; have hk2 := Lib.hid ((hk1.out.alloc _).and hK); have hb2 := Lib.hid ((hb1.out.alloc _).and hK); clear x0 x1 x2 x3 x4 x5 x6 x7 x8; obtain ⟨x0, x1, x2, x3, x4, x5, x6, x7, x8⟩ := Bk.attr (z := z) hb2.out; clear hK))
              go_ret
              refine ⟨?_, hk2.out⟩
              rfl
          · have h1' : (z.n == 0) = false := by simp [h1]
            have e4 : decide (z.n = 0) = false := by simp [h1]
            rw [e4]
            clear h1 e4
            go_enter Tryd.func20, Tryd.ntmps20
            go_wp2_with (first
              | (go_at_call 25; (with_reducible refine Calls.mono (HG.out _) ?_); rintro e w1 ⟨rfl, hK⟩; have hk1 := Lib.hid (HK0.out.and hK); have hb1 := Lib.hid (HB0.out.and hK); have hlt1 : w.heap.size < w1.heap.size := hb1.out.lt; have hne1 := Nat.ne_of_lt hlt1; obtain ⟨x0, x1, x2, x3, x4, x5, x6, x7, x8⟩ := Bk.attr (z := z) hb1.out; clear hK)
              | (go_at_call 32; (with_reducible refine Calls.mono (HP.out _) ?_); rintro e w2 ⟨rfl, hK⟩; have hk2 := Lib.hid ((hk1.out.alloc _).and hK); have hb2 := Lib.hid ((hb1.out.alloc _).and hK); clear x0 x1 x2 x3 x4 x5 x6 x7 x8; obtain ⟨x0, x1, x2, x3, x4, x5, x6, x7, x8⟩ := Bk.attr (z := z) hb2.out; clear hK))
            go_ret
            refine ⟨?_, hk2.out⟩
            simp
      · have hrr : ((z.ln : Int) % (G : Int) == 0) = false := by rw [← hcast, beq_eq_false_iff_ne]; omega
        have e3 : decide (z.ln % G = 0) = false := by simp [hr]
        rw [e1, e2, e3]
        clear HP e1 e2 e3 hcast hr
        go_enter Tryd.func20, Tryd.ntmps20
        go_wp2_with (go_at_call 25; (with_reducible refine Calls.mono (HG.out _) ?_); rintro e w1 ⟨rfl, hK⟩; have hk1 := Lib.hid (HK0.out.and hK); have hb1 := Lib.hid (HB0.out.and hK); have hlt1 : w.heap.size < w1.heap.size := hb1.out.lt; have hne1 := Nat.ne_of_lt hlt1; obtain ⟨x0, x1, x2, x3, x4, x5, x6, x7, x8⟩ := Bk.attr (z := z) hb1.out; clear hK)
        go_ret
        exact ⟨by simp, hk1.out.alloc _⟩

end Go.Proofs.YtkhonebedoemoaaDoor
