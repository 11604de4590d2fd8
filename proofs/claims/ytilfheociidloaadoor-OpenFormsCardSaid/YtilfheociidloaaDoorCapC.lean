/- capability.Valid: its contract by walking the Go text. -/
import Derived.Test.YtilfheociidloaaDoorCapB
namespace Go.Proofs.YtilfheociidloaaDoor
open Go.RowKit
set_option linter.unusedVariables false
set_option linter.unusedSimpArgs false

set_option maxHeartbeats 1000000 in
theorem bad_any (x : CapI) (A : Option Addr) (c : Nat) (w : World) (hc : x.data.length ≤ c) :
    Calls Tryd.prog 63 #[.agg #[.int .i64 x.code, .slice A x.data.length c]] w (Stay (.bool (!okC x)) w) := by
  obtain ⟨k, hk⟩ : ∃ k, x.code = k := ⟨_, rfl⟩
  obtain ⟨m, hm⟩ : ∃ m, x.data.length = m := ⟨_, rfl⟩
  have ho : okC x = decide (0 ≤ k ∧ k ≤ 255 ∧ m ≤ 255) := by unfold okC; rw [hk, hm]
  rw [hk, hm] at *
  rw [ho]
  clear hk hm ho
  obtain ⟨y1, y2, y3, y4, y5⟩ := (Bk.fresh w 77 #[.int .i64 k, .slice A m c]).two
  by_cases h1 : k < 0
  · have e : (!decide (0 ≤ k ∧ k ≤ 255 ∧ m ≤ 255)) = true := by simp; omega
    rw [e]
    clear e
    go_enter Tryd.func63, Tryd.ntmps63
    go_wp2
    go_ret
    exact ⟨rfl, (Kp.refl _ _).alloc _⟩
  · have h1' : 0 ≤ k := by omega
    by_cases h2 : 255 < k
    · have e : (!decide (0 ≤ k ∧ k ≤ 255 ∧ m ≤ 255)) = true := by simp; omega
      rw [e]
      clear e
      go_enter Tryd.func63, Tryd.ntmps63
      go_wp2
      go_ret
      exact ⟨rfl, (Kp.refl _ _).alloc _⟩
    · have h2' : k ≤ 255 := by omega
      have e : (!decide (0 ≤ k ∧ k ≤ 255 ∧ m ≤ 255)) = decide ((m : Int) > 255) := by
        by_cases h3 : 255 < m
        · rw [show decide ((m : Int) > 255) = true by simp; omega]; simp; omega
        · rw [show decide ((m : Int) > 255) = false by simp; omega]; simp; omega
      rw [e]
      clear e
      go_enter Tryd.func63, Tryd.ntmps63
      go_wp2
      go_ret
      exact ⟨rfl, (Kp.refl _ _).alloc _⟩

set_option maxHeartbeats 2000000 in
theorem vindex_any (A : Option Addr) (c : Nat) (xs : List CapI) (cs : List Value) (w : World) (hx : CapL w xs cs) (ha : Arr w A cs) (hn : xs.length ≤ 1000000) :
    Calls Tryd.prog 78 #[.slice A xs.length c, .func (.func 63) #[] #[]] w fun e w' => (∃ r : Int, e = .returned (.int .i64 r) ∧ (decide (0 ≤ r) = !validB xs)) ∧ Kp NoB w w' := by
  have HC := Lib.hid (fun j (hj : j < xs.length) => cap_cells hx ha hj)
  clear hx ha
  obtain ⟨n, hnn⟩ : ∃ n, xs.length = n := ⟨_, rfl⟩
  have HN := Lib.hid hnn
  rw [hnn] at hn HC ⊢
  clear hnn
  go_enter Tryd.func78, Tryd.ntmps78
  go_wp2
  go_loopw [8] (fun i wr => ∃ j : Nat, j ≤ n ∧ i = .int .i64 j ∧ Kp NoB w wr ∧ Hid (Upto okC xs j)) (fun i _ => n - (intOf i).toNat)
  case atStart => exact ⟨0, Nat.zero_le _, rfl, Kp.refl _ _, Lib.hid (Upto.zero _ _)⟩
  case round =>
    obtain ⟨j, hj, rfl, hK, HU⟩ := hrel
    by_cases hlt : j < n
    · obtain ⟨x, ad, A2, c2, hx, rfl, q1, q2, hc, hm, -, -, -, -, -⟩ := HC.out j hlt
      replace q1 := hK.cell q1 (fun q => q)
      replace q2 := hK.cell q2 (fun q => q)
      have HX := Lib.hid hx
      have HB := Lib.hid (bad_any x A2 c2 wr hc)
      clear hx hc hm
      obtain ⟨m, hmm⟩ : ∃ m, x.data.length = m := ⟨_, rfl⟩
      obtain ⟨k, hkk⟩ : ∃ k, x.code = k := ⟨_, rfl⟩
      rw [hmm] at q2 HB
      rw [hkk] at q1 HB
      clear hmm hkk
      rcases hv : okC x with _ | _
      · rw [hv] at HB
        have HV := Lib.hid hv
        clear hv
        go_wp2_with (go_at_call 63; refine HB.out.mono ?_; rintro e w1 ⟨rfl, hK1⟩)
        go_ret
        refine ⟨⟨j, rfl, ?_⟩, hK.and hK1⟩
        rw [show validB xs = false from all_no HX.out HV.out]
        simp
      · rw [hv] at HB
        have HV := Lib.hid hv
        clear hv
        go_wp2_with (go_at_call 63; refine HB.out.mono ?_; rintro e w1 ⟨rfl, hK1⟩)
        go_roundw
        case rel => exact ⟨j + 1, by omega, by go_num, hK.and hK1, Lib.hid (HU.out.succ HX.out HV.out)⟩
        case measure => simp [intOf]; omega
    · have hj : j = n := by omega
      subst hj
      have ht : validB xs = true := HU.out.all HN.out.symm
      go_wp2
      go_ret
      refine ⟨⟨-1, rfl, ?_⟩, hK⟩
      rw [ht]
      rfl

theorem vcontains_any (A : Option Addr) (c : Nat) (xs : List CapI) (cs : List Value) (w : World) (hx : CapL w xs cs) (ha : Arr w A cs) (hn : xs.length ≤ 1000000) :
    Calls Tryd.prog 62 #[.slice A xs.length c, .func (.func 63) #[] #[]] w (Stay (.bool (!validB xs)) w) := by
  have H := Lib.hid (vindex_any A c xs cs w hx ha hn)
  clear hx ha
  obtain ⟨v, hv⟩ : ∃ v, (!validB xs) = v := ⟨_, rfl⟩
  rw [hv] at H ⊢
  clear hv
  obtain ⟨n, hnn⟩ : ∃ n, xs.length = n := ⟨_, rfl⟩
  rw [hnn] at hn H ⊢
  clear hnn
  go_enter Tryd.func62, Tryd.ntmps62
  go_wp2_with (go_at_call 78; refine H.out.mono ?_; rintro e w1 ⟨⟨r, rfl, hr⟩, hK⟩)
  go_ret
  exact ⟨by rw [← hr]; rfl, hK⟩

theorem valid_any (A : Option Addr) (c : Nat) (xs : List CapI) (cs : List Value) (w : World) (hx : CapL w xs cs) (ha : Arr w A cs) (hn : xs.length ≤ 1000000) :
    Calls Tryd.prog 45 #[.slice A xs.length c] w (Stay (.bool (validB xs)) w) := by
  have H := Lib.hid (vcontains_any A c xs cs w hx ha hn)
  clear hx ha
  obtain ⟨v, hv⟩ : ∃ v, validB xs = v := ⟨_, rfl⟩
  rw [hv] at H ⊢
  clear hv
  obtain ⟨n, hnn⟩ : ∃ n, xs.length = n := ⟨_, rfl⟩
  rw [hnn] at hn H ⊢
  clear hnn
  go_enter Tryd.func45, Tryd.ntmps45
  go_wp2_with (go_at_call 62; refine H.out.mono ?_; rintro e w1 ⟨rfl, hK⟩)
  go_ret
  exact ⟨by simp [results, go_sem], hK⟩

end Go.Proofs.YtilfheociidloaaDoor
