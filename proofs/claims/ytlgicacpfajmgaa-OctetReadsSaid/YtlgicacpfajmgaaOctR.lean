/- The reference's readers, which are values: contracts by walking the Go text, each under the conditions that it names. -/
import Derived.Test.YtlgicacpfajmgaaOctA
import Derived.Deep.RegionWith
import Derived.Deep.RegionHeld3
namespace Go.Proofs.Ytlgicacpfajmgaa
open Go.RowKit
set_option linter.unusedVariables false
set_option linter.unusedSimpArgs false

/-- A reader of the reference, as a value. -/
def rv (A : Option Addr) (n c : Nat) (t : Int) : Value := .agg #[.slice A n c, .int .i64 t]

def RTakeYes (A : Option Addr) (n c t k : Nat) (w : World) (e : Ending) (w' : World) : Prop :=
  e = .returned (.tuple #[rv (cutA A k c) (n - k) (c - k) (t + k : Int), .slice A k c, .bool true]) ∧ Kp NoB w w'

set_option maxHeartbeats 1000000 in
theorem rtake_yes (A : Option Addr) (n c t k : Nat) (w : World) (hk : k ≤ n) (hn : n ≤ c) (hc : c ≤ 9223372036854775807) (ht : t + n ≤ 140737488355328) :
    Calls Try.prog 19 #[.agg #[.slice A n c, .int .i64 t], .int .i64 k] w (RTakeYes A n c t k w) := by
  by_cases hck : c = k
  all_goals
    first | (have hA : cutA A k c = A := by simp [cutA, hck]) | (have hA : cutA A k c = A.map (·.add k) := by simp [cutA, hck])
    unfold RTakeYes
    rw [hA]
    clear hA
    go_enter Try.func19, Try.ntmps19
    go_wp2
    go_region
    go_wp2
    first | subst hck | skip
    refine bodyPost_ret (by simp [results, Try.results19, go_sem]; rfl) rfl ⟨by simp [rv], ((((Kp.refl _ _).alloc _).alloc _)).drew⟩

theorem rtake_no (A : Option Addr) (n c : Nat) (t k : Int) (w : World) (hk : k < 0 ∨ (n : Int) < k) :
    Calls Try.prog 19 #[.agg #[.slice A n c, .int .i64 t], .int .i64 k] w (Stay (.tuple #[rv A n c t, .slice none 0 0, .bool false]) w) := by
  rcases hk with hk | hk
  all_goals
    go_enter Try.func19, Try.ntmps19
    go_wp2
    refine bodyPost_ret (by simp [results, Try.results19, go_sem]; rfl) rfl ⟨by simp [rv], (((Kp.refl _ _).alloc _).alloc _)⟩

def RPartYes (A : Option Addr) (n c t k : Nat) (w : World) (e : Ending) (w' : World) : Prop :=
  e = .returned (.tuple #[rv (cutA A k c) (n - k) (c - k) (t + k : Int), rv A k c t, .bool true]) ∧ Kp NoB w w'

set_option maxHeartbeats 1000000 in
theorem rpart_yes (A : Option Addr) (n c t k : Nat) (w : World) (hk : k ≤ n) (hn : n ≤ c) (hc : c ≤ 9223372036854775807) (ht : t + n ≤ 140737488355328) :
    Calls Try.prog 21 #[.agg #[.slice A n c, .int .i64 t], .int .i64 k] w (RPartYes A n c t k w) := by
  have HT := Lib.hid (fun w => rtake_yes A n c t k w hk hn hc ht)
  unfold RPartYes
  obtain ⟨B, hB⟩ : ∃ B, cutA A k c = B := ⟨_, rfl⟩
  unfold RTakeYes at HT
  rw [hB] at HT ⊢
  clear hB
  go_enter Try.func21, Try.ntmps21
  go_wp2_with (go_at_call 19; refine (HT.out _).mono ?_; unfold rv; rintro e w1 ⟨rfl, hK1⟩; obtain ⟨x1, x2, x3, x4, x5⟩ := ((((Bk.fresh w 39 #[.slice A n c, .int .i64 t]).alloc _).alloc _).and hK1).two; obtain ⟨y1, y2, y3, y4, y5⟩ := (((Bk.second w _ 39 #[.slice none 0 0, .int .i64 0]).alloc _).and hK1).two; obtain ⟨z1, z2, z3, z4, z5⟩ := ((Bk.third w _ _ 39 #[.slice none 0 0, .int .i64 0]).and hK1).two)
  go_region
  go_wp2
  have hk0 : Kp NoB w w1 := ((((Kp.refl _ w).alloc _).alloc _).alloc _).and hK1
  refine bodyPost_ret (v := .tuple #[.agg #[.slice B (n - k) (c - k), .int .i64 (t + k : Int)], .agg #[.slice A k c, .int .i64 t], .bool true]) (by simp [results, Try.results21, go_sem, *]) rfl ⟨rfl, (by repeat (first | exact hk0 | refine Kp.drew ?_ | refine Kp.alloc ?_ _ | refine Kp.setCell ?_ (fun hq => by simp at hq; omega) _))⟩

theorem rpart_no (A : Option Addr) (n c : Nat) (t k : Int) (w : World) (hk : k < 0 ∨ (n : Int) < k) :
    Calls Try.prog 21 #[.agg #[.slice A n c, .int .i64 t], .int .i64 k] w (Stay (.tuple #[rv A n c t, rv none 0 0 0, .bool false]) w) := by
  have HT := Lib.hid (fun w => rtake_no A n c t k w hk)
  clear hk
  go_enter Try.func21, Try.ntmps21
  go_wp2_with (go_at_call 19; refine (HT.out _).mono ?_; unfold rv; rintro e w1 ⟨rfl, hK1⟩; obtain ⟨x1, x2, x3, x4, x5⟩ := ((((Bk.fresh w 39 #[.slice A n c, .int .i64 t]).alloc _).alloc _).and hK1).two; obtain ⟨y1, y2, y3, y4, y5⟩ := (((Bk.second w _ 39 #[.slice none 0 0, .int .i64 0]).alloc _).and hK1).two; obtain ⟨z1, z2, z3, z4, z5⟩ := ((Bk.third w _ _ 39 #[.slice none 0 0, .int .i64 0]).and hK1).two)
  have hk0 : Kp NoB w w1 := ((((Kp.refl _ w).alloc _).alloc _).alloc _).and hK1
  refine bodyPost_ret (v := .tuple #[.agg #[.slice A n c, .int .i64 t], .agg #[.slice none 0 0, .int .i64 0], .bool false]) (by simp [results, Try.results21, go_sem, *]) rfl ⟨rfl, (by repeat (first | exact hk0 | refine Kp.drew ?_ | refine Kp.alloc ?_ _ | refine Kp.setCell ?_ (fun hq => by simp at hq; omega) _))⟩

/-! ### Big, Number -/

set_option maxHeartbeats 1000000 in
theorem rbig_any (A : Option Addr) (c : Nat) (xs : List Int) (w : World) (ha : Arr w A (bs xs)) (hb : IsB xs) (hn : xs.length ≤ 4) :
    Calls Try.prog 27 #[.slice A xs.length c] w fun e w' => e = .returned (.int .u32 (big xs)) ∧ w' = w := by
  go_enter Try.func27, Try.ntmps27
  go_wp2
  go_loop [3, 4] (fun x i => ∃ j : Nat, j ≤ xs.length ∧ i = .int .i64 j ∧ x = .int .u32 (big (xs.take j))) (fun _ i => xs.length - (intOf i).toNat)
  case atStart => exact ⟨0, Nat.zero_le _, rfl, rfl⟩
  case round =>
    obtain ⟨j, hj, rfl, rfl⟩ := hrel
    by_cases hlt : j < xs.length
    · obtain ⟨ad, rfl, hcell⟩ := ha.at (bs_get xs j hlt)
      obtain ⟨y, hy⟩ : ∃ y, xs.getD j 0 = y := ⟨_, rfl⟩
      have hb1 := big_small (xs.take j) (hb.take j) (by simp; omega)
      have hb2 := hb.getD j
      have hbs := big_take_succ xs j hlt
      rw [hy] at hcell hb2 hbs
      have HS := Lib.hid hbs
      clear hbs hy
      go_wp2
      go_round
      case rel => exact ⟨j + 1, by omega, by go_num, by rw [HS.out]⟩
      case measure => simp [intOf]; omega
    · have hj : j = xs.length := by omega
      subst hj
      go_wp2
      go_ret
      exact ⟨rfl, rfl⟩

def RNumYes (A : Option Addr) (n c t k : Nat) (v : Int) (w : World) (e : Ending) (w' : World) : Prop :=
  e = .returned (.tuple #[rv (cutA A k c) (n - k) (c - k) (t + k : Int), .int .u32 v, .bool true]) ∧ Kp NoB w w'

set_option maxHeartbeats 1000000 in
theorem rnumber_yes (A : Option Addr) (c t k : Nat) (ys : List Int) (w : World) (hk1 : 1 ≤ k) (hk4 : k ≤ 4) (hk : k ≤ ys.length) (hn : ys.length ≤ c) (hc : c ≤ 9223372036854775807) (ht : t + ys.length ≤ 140737488355328) (ha : Arr w A (bs ys)) (hb : IsB ys) :
    Calls Try.prog 18 #[.agg #[.slice A ys.length c, .int .i64 t], .int .i64 k] w (RNumYes A ys.length c t k (big (ys.take k)) w) := by
  have HT := Lib.hid (fun w => rtake_yes A ys.length c t k w hk hn hc ht)
  have hlen : (ys.take k).length = k := by simp; omega
  have hbig := fun (w : World) (ha : Arr w A (bs (ys.take k))) => rbig_any A c (ys.take k) w ha (hb.take k) (by omega)
  rw [hlen] at hbig
  have HB := Lib.hid hbig
  unfold RNumYes
  obtain ⟨B, hB⟩ : ∃ B, cutA A k c = B := ⟨_, rfl⟩
  obtain ⟨bv, hbv⟩ : ∃ bv, big (ys.take k) = bv := ⟨_, rfl⟩
  unfold RTakeYes at HT
  rw [hbv] at HB ⊢
  rw [hB] at HT ⊢
  have hat := ha.take k
  rw [← bs_take] at hat
  clear hB hlen hbig hbv
  go_enter Try.func18, Try.ntmps18
  go_wp2_with (go_at_call 19; refine (HT.out _).mono ?_; unfold rv; rintro e w1 ⟨rfl, hK1⟩; obtain ⟨y1, y2, y3, y4, y5⟩ := ((Bk.second w _ 39 #[.slice none 0 0, .int .i64 0]).and hK1).two)
  have hk0 : Kp NoB w w1 := (((Kp.refl _ w).alloc _).alloc _).and hK1
  have hat1 := hat.and hk0
  go_region_with (go_at_call 27; refine (HB.out _ ?_).mono ?_; exact (hat1.alloc _).drewN 1; rintro e w2 ⟨rfl, rfl⟩)
  all_goals go_wp2
  all_goals refine bodyPost_ret (v := .tuple #[.agg #[.slice B (ys.length - k) (c - k), .int .i64 (t + k : Int)], .int .u32 bv, .bool true]) (by simp [results, Try.results18, go_sem, *]) rfl ⟨rfl, (by repeat (first | exact hk0 | refine Kp.drew ?_ | refine Kp.alloc ?_ _ | refine Kp.setCell ?_ (fun hq => by simp at hq; omega) _))⟩

theorem rnumber_range (A : Option Addr) (n c : Nat) (t k : Int) (w : World) (hk : k < 1 ∨ 4 < k) :
    Calls Try.prog 18 #[.agg #[.slice A n c, .int .i64 t], .int .i64 k] w (Stay (.tuple #[rv A n c t, .int .u32 0, .bool false]) w) := by
  rcases hk with hk | hk
  all_goals
    go_enter Try.func18, Try.ntmps18
    go_wp2
    refine bodyPost_ret (by simp [results, Try.results18, go_sem]; rfl) rfl ⟨by simp [rv], (((Kp.refl _ _).alloc _).alloc _)⟩

set_option maxHeartbeats 1000000 in
theorem rnumber_short (A : Option Addr) (n c : Nat) (t k : Int) (w : World) (hk1 : 1 ≤ k) (hk4 : k ≤ 4) (hk : (n : Int) < k) :
    Calls Try.prog 18 #[.agg #[.slice A n c, .int .i64 t], .int .i64 k] w (Stay (.tuple #[rv A n c t, .int .u32 0, .bool false]) w) := by
  have HT := Lib.hid (fun w => rtake_no A n c t k w (.inr hk))
  clear hk
  go_enter Try.func18, Try.ntmps18
  go_wp2_with (go_at_call 19; refine (HT.out _).mono ?_; unfold rv; rintro e w1 ⟨rfl, hK1⟩; obtain ⟨y1, y2, y3, y4, y5⟩ := ((Bk.second w _ 39 #[.slice none 0 0, .int .i64 0]).and hK1).two)
  have hk0 : Kp NoB w w1 := (((Kp.refl _ w).alloc _).alloc _).and hK1
  go_region_with (go_at_call 27; refine (rbig_any none 0 [] _ (Arr.nil _ _) IsB.nil (by decide)).mono ?_; rintro e w2 ⟨rfl, rfl⟩)
  all_goals go_wp2
  all_goals refine bodyPost_ret (v := .tuple #[.agg #[.slice A n c, .int .i64 t], .int .u32 0, .bool false]) (by simp [results, Try.results18, go_sem, *]; try rfl) rfl ⟨rfl, (by repeat (first | exact hk0 | refine Kp.drew ?_ | refine Kp.alloc ?_ _ | refine Kp.setCell ?_ (fun hq => by simp at hq; omega) _))⟩

end Go.Proofs.Ytlgicacpfajmgaa
