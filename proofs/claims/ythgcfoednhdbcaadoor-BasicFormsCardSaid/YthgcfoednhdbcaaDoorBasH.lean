/- Chapter 7: Few and small; the reference's Plain and Address. No condition but the bounds that arguments have. -/
import Derived.Test.YthgcfoednhdbcaaDoorOpenA
import Derived.Test.YthgcfoednhdbcaaDoorBasG
import Derived.Test.YthgcfoednhdbcaaDoorROf
namespace Go.Proofs.YthgcfoednhdbcaaDoor
open Go.RowKit
set_option linter.unusedVariables false
set_option linter.unusedSimpArgs false

/-- What Few leaves: only of few segments it says yes. -/
def FewM (n : Nat) (w : World) (e : Ending) (w' : World) : Prop := ∃ b, e = .returned (.bool b) ∧ (b = true → n ≤ 50) ∧ Kp NoB w w'

set_option maxRecDepth 100000 in
set_option maxHeartbeats 1600000 in
theorem few_any (A : Option Addr) (c : Nat) (xs : List Unit) (w : World) (hs : Sl SegE 2 w A xs) (hn : xs.length ≤ maxLen) :
    Calls Tryd.prog 26 #[.slice A xs.length c] w (FewM xs.length w) := by
  unfold maxLen at hn
  have HS := Lib.hid hs
  obtain ⟨n, hnn⟩ : ∃ n, xs.length = n := ⟨_, rfl⟩
  have HN := Lib.hid hnn
  rw [hnn] at hn ⊢
  clear hs hnn
  go_enter Tryd.func26, Tryd.ntmps26
  go_wp2
  go_loopw [3, 4] (fun vs vi wr => ∃ (j : Nat) (s : Int), j ≤ n ∧ vi = .int .i64 j ∧ vs = .int .i64 s ∧ wr = w) (fun _ vi _ => n - (intOf vi).toNat)
  case atStart => exact ⟨0, 0, Nat.zero_le _, rfl, rfl, rfl⟩
  case round =>
    obtain ⟨j, s, hj, rfl, rfl, rfl⟩ := hrel
    by_cases hlt : j < n
    · obtain ⟨ad, cs, rfl, -, ⟨k, A', n', c', rfl, hn'⟩, hcell⟩ := HS.out.at (j := j) (x := ()) (by rw [List.getElem?_eq_getElem (by rw [HN.out]; exact hlt)])
      have h1 := hcell 1 _ rfl
      rw [add_field ad (j * 2) 1 (by decide)] at h1
      have HC := Lib.hid hcell
      clear hcell
      by_cases hmin : (n' : Int) ≤ 1000
      · go_wp2
        go_roundw
        case rel => exact ⟨j + 1, _, by omega, by go_num, rfl, trivial⟩
        case measure => simp [intOf]; omega
      · go_wp2
        go_roundw
        case rel => exact ⟨j + 1, _, by omega, by go_num, rfl, trivial⟩
        case measure => simp [intOf]; omega
    · have hj' : j = n := by omega
      by_cases h50 : (n : Int) ≤ 50
      · go_wp2
        all_goals
          go_ret
          exact ⟨_, rfl, fun _ => by omega, Kp.refl _ _⟩
      · go_wp2
        go_ret
        exact ⟨false, rfl, (fun h => nomatch h), Kp.refl _ _⟩

/-- What small leaves. -/
def SmallM (z : AtI) (w : World) (e : Ending) (w' : World) : Prop := ∃ b, e = .returned (.bool b) ∧ (b = true → z.small) ∧ Kp NoB w w'
theorem small_ends {z : AtI} {w w' : World} {v : Value} (b : Bool) (hv : v = .bool b) (h : b = true → z.small) (hk : Kp NoB w w') : SmallM z w (.returned v) w' := ⟨b, by rw [hv], h, hk⟩

set_option maxRecDepth 100000 in
set_option maxHeartbeats 1600000 in
theorem small_any (z : AtI) (w : World) (h : InAt w z) : Calls Tryd.prog 8 #[z.val] w (SmallM z w) := by
  obtain ⟨hin, xs, hx, hs⟩ := h
  have hl := hin.l
  have HF := Lib.hid (fun W c (k : Kp NoB w W) => few_any z.S c xs W (hs.and k SegE.and) (by rw [hx]; exact hl.1))
  rw [hx] at HF
  unfold AtI.val AtI.cs
  clear hs hx
  by_cases h1 : (z.ln : Int) ≤ 300
  · by_cases h2 : (z.bn : Int) ≤ 600
    · all_goals
        go_enter Tryd.func8, Tryd.ntmps8
        go_wp2_with (go_at_call 26; refine Calls.mono (HF.out _ _ ((Kp.refl NoB w).alloc _)) ?_; rintro e w1 ⟨b, rfl, hb, hK⟩; have hk1 := Lib.hid (((Kp.refl NoB w).alloc _).and hK); have hZ := Lib.hid ((Bk.fresh w 28 z.cs).and hK); obtain ⟨x0, x1, x2, x3, x4, x5, x6, x7, x8⟩ := hZ.out.attr; have hb' := Lib.hid hb; clear hK hb)
        all_goals
          go_ret
          first | exact small_ends false rfl (fun h => by cases h) hk1.out | exact small_ends (decide ((z.rn : Int) ≤ 100)) rfl (fun h => by have h3 := of_decide_eq_true h; have h4 := hb'.out (by assumption); exact ⟨h4, by omega, by omega, by omega⟩) hk1.out
    · go_enter Tryd.func8, Tryd.ntmps8
      go_wp2_with (go_at_call 26; refine Calls.mono (HF.out _ _ ((Kp.refl NoB w).alloc _)) ?_; rintro e w1 ⟨b, rfl, hb, hK⟩; have hk1 := Lib.hid (((Kp.refl NoB w).alloc _).and hK); have hZ := Lib.hid ((Bk.fresh w 28 z.cs).and hK); obtain ⟨x0, x1, x2, x3, x4, x5, x6, x7, x8⟩ := hZ.out.attr; have hb' := Lib.hid hb; clear hK hb)
      all_goals
        go_ret
        exact small_ends false rfl (fun h => by cases h) hk1.out
  · go_enter Tryd.func8, Tryd.ntmps8
    go_wp2_with (go_at_call 26; refine Calls.mono (HF.out _ _ ((Kp.refl NoB w).alloc _)) ?_; rintro e w1 ⟨b, rfl, hb, hK⟩; have hk1 := Lib.hid (((Kp.refl NoB w).alloc _).and hK); have hZ := Lib.hid ((Bk.fresh w 28 z.cs).and hK); obtain ⟨x0, x1, x2, x3, x4, x5, x6, x7, x8⟩ := hZ.out.attr; have hb' := Lib.hid hb; clear hK hb)
    all_goals
      go_ret
      exact small_ends false rfl (fun h => by cases h) hk1.out

theorem bare_any (z : AtI) (w : World) : Calls Tryd.prog 27 #[z.val] w (Stay (.bool z.bare) w) := by
  have hb : z.bare = (decide (z.sn = 0) && decide (z.ln = 0) && decide (z.bn = 0) && decide (z.f = 0) && decide (z.rn = 0)) := by
    unfold AtI.bare
    rw [Bool.eq_iff_iff]
    simp only [Bool.and_eq_true, decide_eq_true_eq]
    omega
  rw [hb]
  unfold AtI.val AtI.cs
  have c1 : ((z.sn : Int) == 0) = decide (z.sn = 0) := by rw [Bool.eq_iff_iff]; simp
  clear hb
  by_cases h1 : (z.sn : Int) = 0
  · by_cases h2 : (z.ln : Int) = 0
    · by_cases h3 : (z.bn : Int) = 0
      · by_cases h4 : z.f = 0
        · by_cases h5 : (z.rn : Int) = 0
          all_goals
            go_enter Tryd.func27, Tryd.ntmps27
            go_wp2
            go_ret
            refine ⟨congrArg Ending.returned (show Value.bool _ = Value.bool _ from congrArg Value.bool ?_), (Kp.refl _ _).alloc _⟩
            first | (simp; omega) | (simp_all; done) | omega
        all_goals
          go_enter Tryd.func27, Tryd.ntmps27
          go_wp2
          go_ret
          refine ⟨congrArg Ending.returned (show Value.bool _ = Value.bool _ from congrArg Value.bool ?_), (Kp.refl _ _).alloc _⟩
          first | (simp; omega) | (simp_all; done) | omega
      all_goals
        go_enter Tryd.func27, Tryd.ntmps27
        go_wp2
        go_ret
        refine ⟨congrArg Ending.returned (show Value.bool _ = Value.bool _ from congrArg Value.bool ?_), (Kp.refl _ _).alloc _⟩
        first | (simp; omega) | (simp_all; done) | omega
    all_goals
      go_enter Tryd.func27, Tryd.ntmps27
      go_wp2
      go_ret
      refine ⟨congrArg Ending.returned (show Value.bool _ = Value.bool _ from congrArg Value.bool ?_), (Kp.refl _ _).alloc _⟩
      first | (simp; omega) | (simp_all; done) | omega
  all_goals
    go_enter Tryd.func27, Tryd.ntmps27
    go_wp2
    go_ret
    refine ⟨congrArg Ending.returned (show Value.bool _ = Value.bool _ from congrArg Value.bool ?_), (Kp.refl _ _).alloc _⟩
    first | (simp; omega) | (simp_all; done) | omega

end Go.Proofs.YthgcfoednhdbcaaDoor
