/- The reference's Number: its contracts. -/
import Derived.Test.YtkkfigdfgagimaaRTake
import Derived.Test.YtkkfigdfgagimaaRBig
import Derived.Test.YtkkfigdfgagimaaRd
import Derived.Deep.RegionWith
namespace Go.Proofs.Ytkkfigdfgagimaa
open Go.RowKit
set_option linter.unusedVariables false
set_option linter.unusedSimpArgs false

def RNumYes (A : Option Addr) (n c t k : Nat) (v : Int) (w : World) (e : Ending) (w' : World) : Prop :=
  e = .returned (.tuple #[rv (cutA A k c) (n - k) (c - k) (t + k : Int), .int .u32 v, .bool true]) ∧ Kp NoB w w'

set_option maxHeartbeats 1000000 in
theorem rnumber_yes (A : Option Addr) (c t k : Nat) (ys : List Int) (w : World) (hk1 : 1 ≤ k) (hk4 : k ≤ 4) (hk : k ≤ ys.length) (hn : ys.length ≤ c) (hc : c ≤ 9223372036854775807) (ht : t + ys.length ≤ 140737488355328) (ha : Arr w A (bs ys)) (hb : IsB ys) :
    Calls Try.prog 39 #[.agg #[.slice A ys.length c, .int .i64 t], .int .i64 k] w (RNumYes A ys.length c t k (big (ys.take k)) w) := by
  have HT := Lib.hid (fun w => rtake_yes A ys.length c t k w hk hn hc ht)
  have hlen : (ys.take k).length = k := by simp; omega
  have hbig := fun (w : World) (ha : Arr w A (bs (ys.take k))) => rbig_any A c (ys.take k) w ha (hb.take k) (by omega)
  rw [hlen] at hbig
  have HB := Lib.hid hbig
  unfold RNumYes
  obtain ⟨B, hB⟩ : ∃ B, cutA A k c = B := ⟨_, rfl⟩
  obtain ⟨bv, hbv⟩ : ∃ bv, big (ys.take k) = bv := ⟨_, rfl⟩
  unfold RTakeYes at HT
  rw [hbv] at HB ⊢
  rw [hB] at HT ⊢
  have hat := ha.take k
  rw [← bs_take] at hat
  clear hB hlen hbig hbv
  go_enter Try.func39, Try.ntmps39
  go_wp2_with (go_at_call 58; refine (HT.out _).mono ?_; unfold rv; rintro e w1 ⟨rfl, hK1⟩; obtain ⟨y1, y2, y3, y4, y5⟩ := ((Bk.second w _ 69 #[.slice none 0 0, .int .i64 0]).and hK1).two)
  have hk0 : Kp NoB w w1 := (((Kp.refl _ w).alloc _).alloc _).and hK1
  have hat1 := hat.and hk0
  go_region_with (go_at_call 59; refine (HB.out _ ?_).mono ?_; exact (hat1.alloc _).drewN 1; rintro e w2 ⟨rfl, rfl⟩)
  all_goals go_wp2
  all_goals refine bodyPost_ret (v := .tuple #[.agg #[.slice B (ys.length - k) (c - k), .int .i64 (t + k : Int)], .int .u32 bv, .bool true]) (by simp [results, Try.results39, go_sem, *]) rfl ⟨rfl, (by repeat (first | exact hk0 | refine Kp.drew ?_ | refine Kp.alloc ?_ _ | refine Kp.setCell ?_ (fun hq => by simp at hq; omega) _))⟩

theorem rnumber_range (A : Option Addr) (n c : Nat) (t k : Int) (w : World) (hk : k < 1 ∨ 4 < k) :
    Calls Try.prog 39 #[.agg #[.slice A n c, .int .i64 t], .int .i64 k] w (Stay (.tuple #[rv A n c t, .int .u32 0, .bool false]) w) := by
  rcases hk with hk | hk
  all_goals
    go_enter Try.func39, Try.ntmps39
    go_wp2
    refine bodyPost_ret (by simp [results, Try.results39, go_sem]; rfl) rfl ⟨by simp [rv], (((Kp.refl _ _).alloc _).alloc _)⟩

set_option maxHeartbeats 1000000 in
theorem rnumber_short (A : Option Addr) (n c : Nat) (t k : Int) (w : World) (hk1 : 1 ≤ k) (hk4 : k ≤ 4) (hk : (n : Int) < k) :
    Calls Try.prog 39 #[.agg #[.slice A n c, .int .i64 t], .int .i64 k] w (Stay (.tuple #[rv A n c t, .int .u32 0, .bool false]) w) := by
  have HT := Lib.hid (fun w => rtake_no A n c t k w (.inr hk))
  clear hk
  go_enter Try.func39, Try.ntmps39
  go_wp2_with (go_at_call 58; refine (HT.out _).mono ?_; unfold rv; rintro e w1 ⟨rfl, hK1⟩; obtain ⟨y1, y2, y3, y4, y5⟩ := ((Bk.second w _ 69 #[.slice none 0 0, .int .i64 0]).and hK1).two)
  have hk0 : Kp NoB w w1 := (((Kp.refl _ w).alloc _).alloc _).and hK1
  go_region_with (go_at_call 59; refine (rbig_any none 0 [] _ (Arr.nil _ _) IsB.nil (by decide)).mono ?_; rintro e w2 ⟨rfl, rfl⟩)
  all_goals go_wp2
  all_goals refine bodyPost_ret (v := .tuple #[.agg #[.slice A n c, .int .i64 t], .int .u32 0, .bool false]) (by simp [results, Try.results39, go_sem, *]; try rfl) rfl ⟨rfl, (by repeat (first | exact hk0 | refine Kp.drew ?_ | refine Kp.alloc ?_ _ | refine Kp.setCell ?_ (fun hq => by simp at hq; omega) _))⟩

theorem rnumber_no (A : Option Addr) (c : Nat) (ys : List Int) (t k : Int) (w : World) (hf : numB k ys = false) :
    Calls Try.prog 39 #[.agg #[.slice A ys.length c, .int .i64 t], .int .i64 k] w (Stay (.tuple #[rv A ys.length c t, .int .u32 0, .bool false]) w) := by
  by_cases hk : k < 1 ∨ 4 < k
  · exact rnumber_range A _ c t k w hk
  · by_cases hl : (ys.length : Int) < k
    · exact rnumber_short A _ c t k w (by omega) (by omega) hl
    · exfalso
      simp [numB] at hf
      omega

end Go.Proofs.Ytkkfigdfgagimaa
