/- Number: its contracts. -/
import Derived.Test.YtjcmgfegnngjjaaDoorRd
import Derived.Test.YtjcmgfegnngjjaaDoorCut
import Derived.LoopN
namespace Go.Proofs.YtjcmgfegnngjjaaDoor
open Go.RowKit
set_option linter.unusedVariables false
set_option linter.unusedSimpArgs false

/-- What 'Number' leaves where it succeeds. -/
def NumYes (w : World) (q r : Nat) (ys : List Int) (t k : Nat) (e : Ending) (w' : World) : Prop :=
  e = .returned (.tuple #[.int .u32 (big (ys.take k)), .bool true]) ∧ Rd w' q r (ys.drop k) (t + k) ∧ Kp (OnB r) w w'

set_option maxHeartbeats 1000000 in
theorem number_yes (w : World) (q r : Nat) (ys : List Int) (t k : Nat) (h : Rd w q r ys t) (hk1 : 1 ≤ k) (hk4 : k ≤ 4) (hkl : k ≤ ys.length) :
    Calls Tryd.prog 70 #[.pointer (some ⟨r, 0, none⟩), .int .i64 k] w (NumYes w q r ys t k) := by
  obtain ⟨A, c, hB, h1, h2, h3, h4, h5, h6⟩ := h
  have hcut := cut_yes r _ A ys.length c t k w hB hkl h1 h2 h5
  have HC := Lib.hid hcut
  clear hcut
  go_enter Tryd.func70, Tryd.ntmps70
  go_wp2_with (go_at_call 75; refine HC.out.mono ?_; rintro e w1 ⟨rfl, hB1, hK1⟩)
  obtain ⟨ad, rfl, hc⟩ := (h3.keep hK1 (fun ad e => by rw [(h4 (by rintro rfl; simp at hkl; omega)).2 ad e]; exact (h4 (by rintro rfl; simp at hkl; omega)).1)).alloc (.cells #[.slice A k k, .int .i64 t] 128) (by intro e; have := bs_length ys; rw [e] at this; simp at this; omega)
  go_loop [8, 32] (fun x i => ∃ j : Nat, j ≤ k ∧ i = .int .i64 j ∧ x = .int .u32 (big (ys.take j))) (fun _ i => k - (intOf i).toNat)
  case atStart => exact ⟨0, Nat.zero_le _, rfl, rfl⟩
  case round =>
    obtain ⟨j, hj, rfl, rfl⟩ := hrel
    by_cases hlt : j < k
    · have hcell := hc j _ (bs_get ys j (by omega))
      obtain ⟨y, hy⟩ : ∃ y, ys.getD j 0 = y := ⟨_, rfl⟩
      have hb1 := big_small (ys.take j) (h6.take j) (by simp; omega)
      have hb2 := h6.getD j
      rw [hy] at hcell hb2
      have hor := u32_or8 _ _ hb1.1 hb1.2 hb2.1 hb2.2
      have hbs := big_take_succ ys j (by omega)
      rw [hy] at hbs
      have HS := Lib.hid hbs
      clear hbs hy
      go_wp2
      go_round
      case rel => exact ⟨j + 1, by omega, by go_num, by rw [HS.out]⟩
      case measure => simp [intOf]; omega
    · have hj : j = k := by omega
      subst hj
      go_wp2
      go_ret2
      exact ⟨rfl, (Rd.cut (by omega) h1 h2 h3 h4 h5 h6 hB1 hK1).and ((Kp.refl _ _).alloc _), hK1.alloc _⟩

set_option maxHeartbeats 1000000 in
theorem number_short (w : World) (q r : Nat) (ys : List Int) (t : Nat) (k : Int) (h : Rd w q r ys t) (hk1 : 1 ≤ k) (hk4 : k ≤ 4) (hkl : (ys.length : Int) < k) :
    Calls Tryd.prog 70 #[.pointer (some ⟨r, 0, none⟩), .int .i64 k] w (Stay (.tuple #[.int .u32 0, .bool false]) w) := by
  obtain ⟨A, c, hB, h1, h2, h3, h4, h5, h6⟩ := h
  have hcut := cut_no r _ A ys.length c t k w hB (.inr hkl)
  have HC := Lib.hid hcut
  clear hcut
  go_enter Tryd.func70, Tryd.ntmps70
  go_wp2_with (go_at_call 75; refine HC.out.mono ?_; rintro e w1 ⟨rfl, hK1⟩)
  refine wp_loop_rounds 1 ?_
  rw [rounds_succ]
  go_wp2
  all_goals go_ret2
  all_goals exact ⟨rfl, hK1.alloc _⟩

set_option maxHeartbeats 1000000 in
theorem number_range (w : World) (r : Option Addr) (k : Int) (hk : k < 1 ∨ 4 < k) :
    Calls Tryd.prog 70 #[.pointer r, .int .i64 k] w (Stay (.tuple #[.int .u32 0, .bool false]) w) := by
  rcases hk with hk | hk <;> cases r
  all_goals
    go_enter Tryd.func70, Tryd.ntmps70
    go_wp2
    go_ret2
    exact ⟨rfl, Kp.refl _ _⟩

theorem number_nil (w : World) (k : Int) :
    Calls Tryd.prog 70 #[.pointer none, .int .i64 k] w (Stay (.tuple #[.int .u32 0, .bool false]) w) := by
  go_enter Tryd.func70, Tryd.ntmps70
  go_wp2
  go_ret2
  exact ⟨rfl, Kp.refl _ _⟩


def NumAny (w : World) (q r : Nat) (ys : List Int) (t : Nat) (k : Int) (e : Ending) (w' : World) : Prop :=
  e = .returned (.tuple #[.int .u32 (numV k ys), .bool (numB k ys)]) ∧ Rd w' q r (ys.drop (numN k ys)) (t + numN k ys) ∧ Kp (OnB r) w w'

theorem numAny_no {w w' : World} {q r : Nat} {ys : List Int} {t : Nat} {k : Int} {e : Ending} (h : Rd w q r ys t) (hf : numB k ys = false) (hs : Stay (.tuple #[.int .u32 0, .bool false]) w e w') : NumAny w q r ys t k e w' := by
  obtain ⟨rfl, hK⟩ := hs
  refine ⟨by simp [numV, hf], by simpa [numN, hf] using h.and hK, hK.wide _⟩

theorem number_any (w : World) (q r : Nat) (ys : List Int) (t : Nat) (k : Int) (h : Rd w q r ys t) :
    Calls Tryd.prog 70 #[.pointer (some ⟨r, 0, none⟩), .int .i64 k] w (NumAny w q r ys t k) := by
  by_cases hk : k < 1 ∨ 4 < k
  · exact (number_range w _ k hk).mono fun _ _ hs => numAny_no h (by simp [numB]; omega) hs
  · by_cases hl : (ys.length : Int) < k
    · exact (number_short w q r ys t k h (by omega) (by omega) hl).mono fun _ _ hs => numAny_no h (by simp [numB]; omega) hs
    · obtain ⟨n, rfl⟩ := Int.eq_ofNat_of_zero_le (show 0 ≤ k by omega)
      refine (number_yes w q r ys t n h (by omega) (by omega) (by omega)).mono fun _ _ hs => ?_
      have hb : numB n ys = true := by simp [numB]; omega
      obtain ⟨rfl, hR, hK⟩ := hs
      refine ⟨by simp [numV, hb], by simpa [numN, hb] using hR, hK⟩

theorem number_no (w : World) (q r : Nat) (ys : List Int) (t : Nat) (k : Int) (h : Rd w q r ys t) (hf : numB k ys = false) :
    Calls Tryd.prog 70 #[.pointer (some ⟨r, 0, none⟩), .int .i64 k] w (Stay (.tuple #[.int .u32 0, .bool false]) w) := by
  by_cases hk : k < 1 ∨ 4 < k
  · exact number_range w _ k hk
  · by_cases hl : (ys.length : Int) < k
    · exact number_short w q r ys t k h (by omega) (by omega) hl
    · exfalso
      simp [numB] at hf
      omega

/-- A reader after a step of which only that is told: it is a reader still. -/
def Some (w : World) (q r : Nat) (e : Ending) (w' : World) : Prop := (∃ v, e = .returned v) ∧ ∃ ys t, Rd w' q r ys t ∧ Kp (OnB r) w w'

theorem number_some (w : World) (q r : Nat) (ys : List Int) (t : Nat) (k : Int) (h : Rd w q r ys t) :
    Calls Tryd.prog 70 #[.pointer (some ⟨r, 0, none⟩), .int .i64 k] w (Some w q r) :=
  (number_any w q r ys t k h).mono fun _ _ ⟨he, hR, hK⟩ => ⟨⟨_, he⟩, _, _, hR, hK⟩

end Go.Proofs.YtjcmgfegnngjjaaDoor
