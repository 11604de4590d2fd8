/- Chapter 8: Has, bytesOf, Valid of package aggregate; size, Has, Valid of the reference. No condition but the bounds that arguments have. -/
import Derived.Test.YtnjdkcnafjkckaaDoorBasH
import Derived.Test.YtnjdkcnafjkckaaDoorPutO
import Derived.Deep.RegionHeld3
namespace Go.Proofs.YtnjdkcnafjkckaaDoor
open Go.RowKit
set_option linter.unusedVariables false
set_option linter.unusedSimpArgs false

/-- The types of chapter 8. -/
def hasG (k : Int) : Bool := k == 7 || k == 18
/-- The number of bytes of a system's number; 0 if there is none. -/
def ofG (width k : Int) : Int := if (width = 2 ∨ width = 4) ∧ (k = 7 ∨ k = 18) then (if k = 18 then 4 else width) else 0
theorem ofG_cases (width k : Int) : ofG width k = 0 ∨ ofG width k = 2 ∨ ofG width k = 4 := by
  unfold ofG
  repeat' split
  all_goals omega

theorem ghas_any (k : Int) (w : World) : Calls Tryd.prog 23 #[.int .i64 k] w (Stay (.bool (hasG k)) w) := by
  go_enter Tryd.func23, Tryd.ntmps23
  go_wp2
  all_goals
    go_ret
    exact ⟨by simp_all [hasG], Kp.refl _ _⟩

theorem grhas_any (k : Int) (w : World) : Calls Tryd.prog 24 #[.int .i64 k] w (Stay (.bool (hasG k)) w) := by
  go_enter Tryd.func24, Tryd.ntmps24
  go_wp2
  all_goals
    go_ret
    exact ⟨by simp_all [hasG], Kp.refl _ _⟩

/-- The reference's size. -/
def sizeG (width k : Int) : Int := if k = 18 then 4 else width
theorem gsize_any (width k : Int) (w : World) : Calls Tryd.prog 37 #[.int .i64 width, .int .i64 k] w (Stay (.int .i64 (sizeG width k)) w) := by
  unfold sizeG
  by_cases h18 : k = 18
  · subst h18
    go_enter Tryd.func37, Tryd.ntmps37
    go_wp2
    go_ret
    exact ⟨rfl, Kp.refl _ _⟩
  · rw [if_neg h18]
    go_enter Tryd.func37, Tryd.ntmps37
    go_wp2
    go_ret
    exact ⟨rfl, Kp.refl _ _⟩

theorem gof_any (width k : Int) (w : World) : Calls Tryd.prog 34 #[.int .i64 width, .int .i64 k] w (Stay (.int .i64 (ofG width k)) w) := by
  have HH := Lib.hid (fun W => ghas_any k W)
  by_cases hw : width = 2 ∨ width = 4
  · by_cases h18 : k = 18
    · subst h18
      rw [show ofG width 18 = 4 by simp [ofG, hw]]
      rw [show hasG 18 = true from rfl] at HH
      rcases hw with rfl | rfl
      all_goals
        go_enter Tryd.func34, Tryd.ntmps34
        go_wp2_with (go_at_call 23; refine Calls.mono (HH.out _) ?_; rintro e w1 ⟨rfl, hK⟩)
        go_ret
        exact ⟨rfl, hK⟩
    · by_cases h7 : k = 7
      · subst h7
        rw [show ofG width 7 = width by simp [ofG, hw]]
        rw [show hasG 7 = true from rfl] at HH
        rcases hw with rfl | rfl
        all_goals
          go_enter Tryd.func34, Tryd.ntmps34
          go_wp2_with (go_at_call 23; refine Calls.mono (HH.out _) ?_; rintro e w1 ⟨rfl, hK⟩)
          go_ret
          exact ⟨rfl, hK⟩
      · rw [show ofG width k = 0 by simp [ofG, h7, h18]]
        rw [show hasG k = false by simp [hasG, h7, h18]] at HH
        rcases hw with rfl | rfl
        all_goals
          go_enter Tryd.func34, Tryd.ntmps34
          go_wp2_with (go_at_call 23; refine Calls.mono (HH.out _) ?_; rintro e w1 ⟨rfl, hK⟩)
          go_ret
          exact ⟨rfl, hK⟩
  · rw [show ofG width k = 0 by simp [ofG, hw]]
    have h2 : ¬ width = 2 := fun h => hw (.inl h)
    have h4 : ¬ width = 4 := fun h => hw (.inr h)
    clear hw
    go_enter Tryd.func34, Tryd.ntmps34
    go_wp2
    go_ret
    exact ⟨rfl, Kp.refl _ _⟩

/-- aggregate.Valid. -/
def validG (width : Int) (z : AtI) : Bool := decide (0 < ofG width z.t) && fits (ofG width z.t) z.n && z.bare
theorem plainB_two (z : AtI) : plainB z [z.n, z.m] = z.bare := by simp [plainB]
theorem plain_two (z : AtI) (ok : z.Ok) (A : Option Addr) (w : World) (ha : Arr w A [.int .u32 z.n, .int .u32 z.m]) :
    Calls Tryd.prog 36 #[.agg #[.int .i64 z.t, .bool z.p, .int .u32 z.n, .int .u32 z.m, .slice z.S z.sn z.sc, .slice z.L z.ln z.lc, .slice z.B z.bn z.bc, .int .i64 z.f, .slice z.R z.rn z.rc], .slice A 2 2] w (Stay (.bool z.bare) w) := by
  have h := plain_any z ok A 2 [z.n, z.m] w ha (by simp)
  rw [plainB_two] at h
  exact h
theorem arr_two {W : World} {b : Nat} {u v : Value} (h : W.cell? ⟨b, 0, none⟩ = some u) (h' : W.cell? ⟨b, 1, none⟩ = some v) : Arr W (some ⟨b, 0, none⟩) [u, v] := fun _ =>
  ⟨_, rfl, fun j x hx => by
    match j, hx with
    | 0, hx => cases hx; exact h
    | 1, hx => cases hx; exact h'
    | j + 2, hx => cases hx⟩

theorem fit_w (k x : Int) (h0 : 0 ≤ x) (h1 : x < 4294967296) (hk : k = 0 ∨ k = 2 ∨ k = 4) : fits k x = (decide (0 < k) && (decide (k = 4) || decide (x ≤ 65535))) := by
  rcases hk with rfl | rfl | rfl
  · simp [fits]
  · rw [Bool.eq_iff_iff]; simp [fits]; omega
  · rw [Bool.eq_iff_iff]; simp [fits]; omega

set_option maxRecDepth 100000 in
set_option maxHeartbeats 1600000 in
theorem gvalid_any (width : Int) (z : AtI) (ok : z.Ok) (w : World) : Calls Tryd.prog 16 #[.int .i64 width, z.val] w (Stay (.bool (validG width z)) w) := by
  have HO := Lib.hid (fun W => gof_any width z.t W)
  have HP := Lib.hid (fun W => put_any (ofG width z.t) z.n W ok.n.1 ok.n.2)
  have HPL := Lib.hid (fun A W ha => plain_two z ok A W ha)
  unfold PutAny at HP
  unfold validG
  obtain ⟨K, hK⟩ : ∃ K, ofG width z.t = K := ⟨_, rfl⟩
  rw [hK] at HO HP ⊢
  obtain ⟨L, hL⟩ : ∃ L, putR K z.n = L := ⟨_, rfl⟩
  obtain ⟨F, hF⟩ : ∃ F, fits K z.n = F := ⟨_, rfl⟩
  obtain ⟨B, hB⟩ : ∃ B, z.bare = B := ⟨_, rfl⟩
  rw [hL, hF] at HP
  rw [hF, hB]
  rw [hB] at HPL
  clear hK hL hF hB ok
  unfold AtI.val AtI.cs at *
  go_enter Tryd.func16, Tryd.ntmps16
  go_wp2_with (first
    | (go_at_call 34; refine Calls.mono (HO.out _) ?_; rintro e w1 ⟨rfl, hK⟩; obtain ⟨hk1', hZ'⟩ := fin_at (z := z) hK; have hk1 := Lib.hid hk1'; have hZ := Lib.hid hZ'; obtain ⟨x0, x1, x2, x3, x4, x5, x6, x7, x8⟩ := hZ'.attr; clear hK hk1' hZ')
    | (go_at_call 35; refine Calls.mono (HP.out _) ?_; rintro e w2 ⟨A, c, rfl, -, hK⟩; have hk2 := Lib.hid (hk1.out.and hK); have hZ2 := Lib.hid (hZ.out.and hK); clear x0 x1 x2 x3 x4 x5 x6 x7 x8; obtain ⟨x0, x1, x2, x3, x4, x5, x6, x7, x8⟩ := hZ2.out.attr; clear hK)
    | (go_at_call 36; refine Calls.mono (HPL.out _ _ (arr_two ((Bk.fresh w2 24 #[.int .u32 z.n, .int .u32 z.m]).cell 0) ((Bk.fresh w2 24 #[.int .u32 z.n, .int .u32 z.m]).cell 1))) ?_; rintro e w3 ⟨rfl, hK⟩; have hk3 := Lib.hid ((hk2.out.alloc _).and hK); clear hK))
  all_goals
    go_ret
    first
    | (refine ⟨?_, hk3.out⟩; simp_all; done)
    | (refine ⟨?_, hk2.out⟩; simp_all; done)
    | (refine ⟨?_, hk2.out⟩; have hK0 : ¬ 0 < K := by omega
       simp only [hK0, decide_false, Bool.false_and]; rfl)

end Go.Proofs.YtnjdkcnafjkckaaDoor
