/- basic.Read: its contract. No condition but the bounds that arguments have. -/
import Derived.Test.YthgcfoednhdbcaaDoorBasF
import Derived.Test.YthgcfoednhdbcaaDoorBigR
namespace Go.Proofs.YthgcfoednhdbcaaDoor
open Go.RowKit
set_option linter.unusedVariables false
set_option linter.unusedSimpArgs false

/-- An attribute of a type and a number alone. -/
def mkA (k n : Int) : AtI := ⟨k, false, n, 0, none, 0, 0, none, 0, 0, none, 0, 0, 0, none, 0, 0⟩
theorem mkA_ok (k n : Int) (hk : -9223372036854775808 ≤ k ∧ k ≤ 9223372036854775807) (hn : 0 ≤ n ∧ n < 4294967296) : (mkA k n).Ok := ⟨hk, hn, (by simp [mkA]), (by simp [mkA]), (by simp [mkA])⟩
/-- Is it a value of the type? -/
def goodR (k : Int) (xs : List Int) : Bool := match wdO k with
  | none => false
  | some (a, m, _) => decide ((xs.length : Int) = a ∧ big xs ≤ m)
/-- The kind that Read returns. -/
def kindR (k : Int) (xs : List Int) : Int := match wdO k with
  | none => 2
  | some (_, _, c) => if goodR k xs then 0 else c
/-- The attribute that Read returns. -/
def attrR (k : Int) (xs : List Int) : AtI := if goodR k xs then mkA k (big xs) else mkA 0 0

/-- A whole attribute laid into its block. -/
theorem set9 {w : World} {b : Nat} {t : TypeId} (h : Bk w b t #[.int .i64 0, .bool false, .int .u32 0, .int .u32 0, .slice none 0 0, .slice none 0 0, .slice none 0 0, .int .i64 0, .slice none 0 0]) (v0 v1 v2 v3 v4 v5 v6 v7 v8 : Value) :
    Bk (((((((((w.setCell ⟨b, 0, none⟩ v0).setCell ⟨b, 1, none⟩ v1).setCell ⟨b, 2, none⟩ v2).setCell ⟨b, 3, none⟩ v3).setCell ⟨b, 4, none⟩ v4).setCell ⟨b, 5, none⟩ v5).setCell ⟨b, 6, none⟩ v6).setCell ⟨b, 7, none⟩ v7).setCell ⟨b, 8, none⟩ v8) b t #[v0, v1, v2, v3, v4, v5, v6, v7, v8] := by
  have h2 := (((((((((h.set 0 v0).set 1 v1).set 2 v2).set 3 v3).set 4 v4).set 5 v5).set 6 v6).set 7 v7).set 8 v8)
  simp only [List.setIfInBounds_toArray, List.set_cons_zero, List.set_cons_succ] at h2
  exact h2
theorem kp9 {w0 w : World} {b : Nat} (h : Kp NoB w0 w) (hb : w0.heap.size ≤ b) (v0 v1 v2 v3 v4 v5 v6 v7 v8 : Value) : Kp NoB w0 (((((((((w.setCell ⟨b, 0, none⟩ v0).setCell ⟨b, 1, none⟩ v1).setCell ⟨b, 2, none⟩ v2).setCell ⟨b, 3, none⟩ v3).setCell ⟨b, 4, none⟩ v4).setCell ⟨b, 5, none⟩ v5).setCell ⟨b, 6, none⟩ v6).setCell ⟨b, 7, none⟩ v7).setCell ⟨b, 8, none⟩ v8) :=
  (((((((((h.setCell (fun q => absurd q (Nat.not_lt.2 hb)) v0).setCell (fun q => absurd q (Nat.not_lt.2 hb)) v1).setCell (fun q => absurd q (Nat.not_lt.2 hb)) v2).setCell (fun q => absurd q (Nat.not_lt.2 hb)) v3).setCell (fun q => absurd q (Nat.not_lt.2 hb)) v4).setCell (fun q => absurd q (Nat.not_lt.2 hb)) v5).setCell (fun q => absurd q (Nat.not_lt.2 hb)) v6).setCell (fun q => absurd q (Nat.not_lt.2 hb)) v7).setCell (fun q => absurd q (Nat.not_lt.2 hb)) v8)

set_option maxRecDepth 100000 in
set_option maxHeartbeats 1600000 in
theorem read_none (k : Int) (hk : wdO k = none) (wk : -9223372036854775808 ≤ k ∧ k ≤ 9223372036854775807) (A : Option Addr) (n c : Nat) (w : World) :
    Calls Tryd.prog 19 #[.int .i64 k, .slice A n c] w (Stay (.tuple #[(mkA 0 0).val, .int .i64 2]) w) := by
  go_enter Tryd.func19, Tryd.ntmps19
  go_wp2_with (go_at_call 32; refine Calls.mono (rows_any _) ?_; rintro e w1 ⟨b, v1, v3, v4, v5, v9, rfl, hR, hK⟩; have hl := hR.look_none hk wk w1 (Kp.refl _ _); have hk1 := Lib.hid (((Kp.refl NoB w).alloc _).and hK); have hZ := Lib.hid ((Bk.fresh w 28 (mkA 0 0).cs).and hK); have hlt : w.heap.size < w1.heap.size := hZ.out.lt; have hne : ¬ w.heap.size = w1.heap.size := Nat.ne_of_lt hlt; obtain ⟨x0, x1, x2, x3, x4, x5, x6, x7, x8⟩ := hZ.out.attr; have f0 := hZ.out.frozen 0; have f1 := hZ.out.frozen 1; have f2 := hZ.out.frozen 2; have f3 := hZ.out.frozen 3; have f4 := hZ.out.frozen 4; have f5 := hZ.out.frozen 5; have f6 := hZ.out.frozen 6; have f7 := hZ.out.frozen 7; have f8 := hZ.out.frozen 8;)
  refine bodyPost_ret (v := .tuple #[(mkA 0 0).val, .int .i64 2]) (results_row_tmp (fn := Tryd.f19) rfl _ _ w.heap.size 28 (mkA 0 0).cs (0, 0) _ rfl (Bk.alloc (set9 hZ.out _ _ _ _ _ _ _ _ _) _) Tryd.underlying28 rfl (by kernel_rfl)) rfl ⟨rfl, (kp9 hk1.out (Nat.le_refl _) _ _ _ _ _ _ _ _ _).alloc _⟩

theorem numV_len (xs : List Int) (h : xs.length = 0 ∨ xs.length = 1 ∨ xs.length = 4) : numV xs.length xs = big xs := by
  rcases h with h | h
  · obtain rfl : xs = [] := List.eq_nil_of_length_eq_zero h
    rfl
  · have hb : numB xs.length xs = true := by simp [numB]; omega
    unfold numV
    rw [if_pos hb]
    rw [show ((xs.length : Nat) : Int).toNat = xs.length from Int.toNat_natCast _, List.take_of_length_le (Nat.le_refl _)]

set_option maxRecDepth 100000 in
set_option maxHeartbeats 1600000 in
theorem read_good (k a m c : Int) (hk : wdO k = some (a, m, c)) (wk : -9223372036854775808 ≤ k ∧ k ≤ 9223372036854775807) (A : Option Addr) (cp : Nat) (xs : List Int) (hl : xs.length ≤ 1000000) (w : World) (ha : Arr w A (bs xs)) (hb : IsB xs) (h1 : (xs.length : Int) = a) (h2 : numV xs.length xs ≤ m) :
    Calls Tryd.prog 19 #[.int .i64 k, .slice A xs.length cp] w (Stay (.tuple #[(mkA k (numV xs.length xs)).val, .int .i64 0]) w) := by
  subst h1
  have HA := Lib.hid ha
  have HB := Lib.hid hb
  have hl2 := Lib.hid (show xs.length ≤ 140737488355328 by omega)
  obtain ⟨N, hN⟩ : ∃ N, numV xs.length xs = N := ⟨_, rfl⟩
  rw [hN] at h2 ⊢
  obtain ⟨n, hn⟩ : ∃ n, xs.length = n := ⟨_, rfl⟩
  have HN := Lib.hid (fun w q r h => number_any w q r xs 0 xs.length h)
  have HW := Lib.hid (fun W ha => new_any A cp xs W hl2.out ha hb)
  unfold NumAny at HN
  rw [hN] at HN
  have hln := Lib.hid hn
  simp only [hn] at HN HW hk ⊢
  clear ha hb hn hl2
  go_enter Tryd.func19, Tryd.ntmps19
  go_wp2_with (first
    | (go_at_call 32; refine Calls.mono (rows_any _) ?_; rintro e w1 ⟨b, v1, v3, v4, v5, v9, rfl, hR, hK⟩; obtain ⟨F, X, Y, hl'⟩ := hR.look_some hk wk; have hlk := hl' w1 (Kp.refl _ _); have hk1 := Lib.hid (((Kp.refl NoB w).alloc _).and hK); have hZ := Lib.hid ((Bk.fresh w 28 (mkA 0 0).cs).and hK); have hlt : w.heap.size < w1.heap.size := hZ.out.lt; have hne : ¬ w.heap.size = w1.heap.size := Nat.ne_of_lt hlt; clear hl' hK hR)
    | (go_at_call 35; refine Calls.mono (HW.out _ ((HA.out.and hk1.out).alloc _)) ?_; rintro e w2 ⟨q, r, rfl, hr, -, -, hRd, hK⟩; have hk2 := Lib.hid ((hk1.out.alloc _).and hK); have hZ2 := Lib.hid (((show Bk _ _ _ _ from hZ.out).alloc _).and hK); have hQ2 := Lib.hid ((Bk.fresh w1 51 #[.int .i64 (n : Int), .int .u32 m, .int .i64 c, .func F X Y]).and hK); have HR := Lib.hid hRd; have hr' := Lib.hid (show w1.heap.size + 1 ≤ r by simpa using hr); clear hK hRd hr)
    | (go_at_call 36; refine Calls.mono (HN.out _ _ _ HR.out) ?_; rintro e w3 ⟨rfl, -, hK⟩; have hk3 := Lib.hid (hk2.out.new hK (by have := hr'.out; omega)); have hZ3 := Lib.hid (hZ2.out.keep hK (by have := hr'.out; unfold OnB; omega)); have hQ3 := Lib.hid (hQ2.out.keep hK (by have := hr'.out; unfold OnB; omega)); obtain ⟨x0, x1, x2, x3, x4, x5, x6, x7, x8⟩ := hZ3.out.attr; have f0 := hZ3.out.frozen 0; have f1 := hZ3.out.frozen 1; have f2 := hZ3.out.frozen 2; have f3 := hZ3.out.frozen 3; have f4 := hZ3.out.frozen 4; have f5 := hZ3.out.frozen 5; have f6 := hZ3.out.frozen 6; have f7 := hZ3.out.frozen 7; have f8 := hZ3.out.frozen 8; have r0 := hQ3.out.cell 0; have r1 := hQ3.out.cell 1; have r2 := hQ3.out.cell 2; clear hK))
  refine bodyPost_ret (v := .tuple #[(mkA k N).val, .int .i64 0]) (results_row_tmp (fn := Tryd.f19) rfl _ _ w.heap.size 28 (mkA k N).cs (0, 0) _ rfl (set9 hZ3.out _ _ _ _ _ _ _ _ _) Tryd.underlying28 rfl (by kernel_rfl)) rfl ⟨rfl, kp9 hk3.out (Nat.le_refl _) _ _ _ _ _ _ _ _ _⟩

set_option maxRecDepth 100000 in
set_option maxHeartbeats 1600000 in
theorem read_long (k a m c : Int) (hk : wdO k = some (a, m, c)) (wk : -9223372036854775808 ≤ k ∧ k ≤ 9223372036854775807) (A : Option Addr) (cp : Nat) (xs : List Int) (hl : xs.length ≤ 1000000) (w : World) (ha : Arr w A (bs xs)) (hb : IsB xs) (h1 : ¬ (xs.length : Int) = a) :
    Calls Tryd.prog 19 #[.int .i64 k, .slice A xs.length cp] w (Stay (.tuple #[(mkA 0 0).val, .int .i64 c]) w) := by
  have HA := Lib.hid ha
  have HB := Lib.hid hb
  have hl2 := Lib.hid (show xs.length ≤ 140737488355328 by omega)
  obtain ⟨N, hN⟩ : ∃ N, numV xs.length xs = N := ⟨_, rfl⟩
  skip
  obtain ⟨n, hn⟩ : ∃ n, xs.length = n := ⟨_, rfl⟩
  have HN := Lib.hid (fun w q r h => number_any w q r xs 0 xs.length h)
  have HW := Lib.hid (fun W ha => new_any A cp xs W hl2.out ha hb)
  unfold NumAny at HN
  rw [hN] at HN
  have hln := Lib.hid hn
  simp only [hn] at HN HW h1 ⊢
  clear ha hb hn hl2
  go_enter Tryd.func19, Tryd.ntmps19
  go_wp2_with (first
    | (go_at_call 32; refine Calls.mono (rows_any _) ?_; rintro e w1 ⟨b, v1, v3, v4, v5, v9, rfl, hR, hK⟩; obtain ⟨F, X, Y, hl'⟩ := hR.look_some hk wk; have hlk := hl' w1 (Kp.refl _ _); have hk1 := Lib.hid (((Kp.refl NoB w).alloc _).and hK); have hZ := Lib.hid ((Bk.fresh w 28 (mkA 0 0).cs).and hK); have hlt : w.heap.size < w1.heap.size := hZ.out.lt; have hne : ¬ w.heap.size = w1.heap.size := Nat.ne_of_lt hlt; clear hl' hK hR)
    | (go_at_call 35; refine Calls.mono (HW.out _ ((HA.out.and hk1.out).alloc _)) ?_; rintro e w2 ⟨q, r, rfl, hr, -, -, hRd, hK⟩; have hk2 := Lib.hid ((hk1.out.alloc _).and hK); have hZ2 := Lib.hid (((show Bk _ _ _ _ from hZ.out).alloc _).and hK); have hQ2 := Lib.hid ((Bk.fresh w1 51 #[.int .i64 a, .int .u32 m, .int .i64 c, .func F X Y]).and hK); have HR := Lib.hid hRd; have hr' := Lib.hid (show w1.heap.size + 1 ≤ r by simpa using hr); clear hK hRd hr)
    | (go_at_call 36; refine Calls.mono (HN.out _ _ _ HR.out) ?_; rintro e w3 ⟨rfl, -, hK⟩; have hk3 := Lib.hid (hk2.out.new hK (by have := hr'.out; omega)); have hZ3 := Lib.hid (hZ2.out.keep hK (by have := hr'.out; unfold OnB; omega)); have hQ3 := Lib.hid (hQ2.out.keep hK (by have := hr'.out; unfold OnB; omega)); obtain ⟨x0, x1, x2, x3, x4, x5, x6, x7, x8⟩ := hZ3.out.attr; have f0 := hZ3.out.frozen 0; have f1 := hZ3.out.frozen 1; have f2 := hZ3.out.frozen 2; have f3 := hZ3.out.frozen 3; have f4 := hZ3.out.frozen 4; have f5 := hZ3.out.frozen 5; have f6 := hZ3.out.frozen 6; have f7 := hZ3.out.frozen 7; have f8 := hZ3.out.frozen 8; have r0 := hQ3.out.cell 0; have r1 := hQ3.out.cell 1; have r2 := hQ3.out.cell 2; clear hK))
  go_region_held3 (fun w' => w'.cell? ⟨w1.heap.size, 2, none⟩ = some (.int .i64 c)) (go_keep) (fail)
  go_wp2
  refine bodyPost_ret (v := .tuple #[(mkA 0 0).val, .int .i64 c]) (results_row_tmp (fn := Tryd.f19) rfl _ _ w.heap.size 28 (mkA 0 0).cs (0, 0) _ rfl (bk_drew (set9 hZ3.out _ _ _ _ _ _ _ _ _)) Tryd.underlying28 rfl (by kernel_rfl)) rfl ⟨rfl, (kp9 hk3.out (Nat.le_refl _) _ _ _ _ _ _ _ _ _).drew⟩

set_option maxRecDepth 100000 in
set_option maxHeartbeats 1600000 in
theorem read_more (k a m c : Int) (hk : wdO k = some (a, m, c)) (wk : -9223372036854775808 ≤ k ∧ k ≤ 9223372036854775807) (A : Option Addr) (cp : Nat) (xs : List Int) (hl : xs.length ≤ 1000000) (w : World) (ha : Arr w A (bs xs)) (hb : IsB xs) (h1 : (xs.length : Int) = a) (h2 : ¬ numV xs.length xs ≤ m) :
    Calls Tryd.prog 19 #[.int .i64 k, .slice A xs.length cp] w (Stay (.tuple #[(mkA 0 0).val, .int .i64 c]) w) := by
  subst h1
  have HA := Lib.hid ha
  have HB := Lib.hid hb
  have hl2 := Lib.hid (show xs.length ≤ 140737488355328 by omega)
  obtain ⟨N, hN⟩ : ∃ N, numV xs.length xs = N := ⟨_, rfl⟩
  rw [hN] at h2
  obtain ⟨n, hn⟩ : ∃ n, xs.length = n := ⟨_, rfl⟩
  have HN := Lib.hid (fun w q r h => number_any w q r xs 0 xs.length h)
  have HW := Lib.hid (fun W ha => new_any A cp xs W hl2.out ha hb)
  unfold NumAny at HN
  rw [hN] at HN
  have hln := Lib.hid hn
  simp only [hn] at HN HW hk ⊢
  clear ha hb hn hl2
  go_enter Tryd.func19, Tryd.ntmps19
  go_wp2_with (first
    | (go_at_call 32; refine Calls.mono (rows_any _) ?_; rintro e w1 ⟨b, v1, v3, v4, v5, v9, rfl, hR, hK⟩; obtain ⟨F, X, Y, hl'⟩ := hR.look_some hk wk; have hlk := hl' w1 (Kp.refl _ _); have hk1 := Lib.hid (((Kp.refl NoB w).alloc _).and hK); have hZ := Lib.hid ((Bk.fresh w 28 (mkA 0 0).cs).and hK); have hlt : w.heap.size < w1.heap.size := hZ.out.lt; have hne : ¬ w.heap.size = w1.heap.size := Nat.ne_of_lt hlt; clear hl' hK hR)
    | (go_at_call 35; refine Calls.mono (HW.out _ ((HA.out.and hk1.out).alloc _)) ?_; rintro e w2 ⟨q, r, rfl, hr, -, -, hRd, hK⟩; have hk2 := Lib.hid ((hk1.out.alloc _).and hK); have hZ2 := Lib.hid (((show Bk _ _ _ _ from hZ.out).alloc _).and hK); have hQ2 := Lib.hid ((Bk.fresh w1 51 #[.int .i64 (n : Int), .int .u32 m, .int .i64 c, .func F X Y]).and hK); have HR := Lib.hid hRd; have hr' := Lib.hid (show w1.heap.size + 1 ≤ r by simpa using hr); clear hK hRd hr)
    | (go_at_call 36; refine Calls.mono (HN.out _ _ _ HR.out) ?_; rintro e w3 ⟨rfl, -, hK⟩; have hk3 := Lib.hid (hk2.out.new hK (by have := hr'.out; omega)); have hZ3 := Lib.hid (hZ2.out.keep hK (by have := hr'.out; unfold OnB; omega)); have hQ3 := Lib.hid (hQ2.out.keep hK (by have := hr'.out; unfold OnB; omega)); obtain ⟨x0, x1, x2, x3, x4, x5, x6, x7, x8⟩ := hZ3.out.attr; have f0 := hZ3.out.frozen 0; have f1 := hZ3.out.frozen 1; have f2 := hZ3.out.frozen 2; have f3 := hZ3.out.frozen 3; have f4 := hZ3.out.frozen 4; have f5 := hZ3.out.frozen 5; have f6 := hZ3.out.frozen 6; have f7 := hZ3.out.frozen 7; have f8 := hZ3.out.frozen 8; have r0 := hQ3.out.cell 0; have r1 := hQ3.out.cell 1; have r2 := hQ3.out.cell 2; clear hK))
  go_region_held3 (fun w' => w'.cell? ⟨w1.heap.size, 2, none⟩ = some (.int .i64 c)) (go_keep) (fail)
  go_wp2
  refine bodyPost_ret (v := .tuple #[(mkA 0 0).val, .int .i64 c]) (results_row_tmp (fn := Tryd.f19) rfl _ _ w.heap.size 28 (mkA 0 0).cs (0, 0) _ rfl (bk_drew (set9 hZ3.out _ _ _ _ _ _ _ _ _)) Tryd.underlying28 rfl (by kernel_rfl)) rfl ⟨rfl, (kp9 hk3.out (Nat.le_refl _) _ _ _ _ _ _ _ _ _).drew⟩

theorem wdO_len {k a m c : Int} (h : wdO k = some (a, m, c)) {xs : List Int} (h1 : (xs.length : Int) = a) : numV xs.length xs = big xs := by
  refine numV_len xs ?_
  rcases wdO_kinds h with ⟨_, h2, _⟩ | ⟨_, h2, _⟩ | ⟨_, h2, _⟩ <;> omega

theorem read_any (k : Int) (wk : -9223372036854775808 ≤ k ∧ k ≤ 9223372036854775807) (A : Option Addr) (cp : Nat) (xs : List Int) (hl : xs.length ≤ 1000000) (w : World) (ha : Arr w A (bs xs)) (hb : IsB xs) :
    Calls Tryd.prog 19 #[.int .i64 k, .slice A xs.length cp] w (Stay (.tuple #[(attrR k xs).val, .int .i64 (kindR k xs)]) w) := by
  cases hk : wdO k with
  | none =>
    rw [show attrR k xs = mkA 0 0 by unfold attrR goodR; rw [hk]; rfl, show kindR k xs = 2 by unfold kindR; rw [hk]]
    exact read_none k hk wk A _ cp w
  | some r =>
    obtain ⟨a, m, c⟩ := r
    by_cases h1 : (xs.length : Int) = a
    · have hn := wdO_len hk h1
      by_cases h2 : big xs ≤ m
      · have hg : goodR k xs = true := by unfold goodR; rw [hk]; simp [h1, h2]
        rw [show attrR k xs = mkA k (big xs) by unfold attrR; rw [if_pos hg], show kindR k xs = 0 by unfold kindR; rw [hk]; simp [hg], ← hn]
        exact read_good k a m c hk wk A cp xs hl w ha hb h1 (by rw [hn]; exact h2)
      · have hg : goodR k xs = false := by unfold goodR; rw [hk]; simp [h2]
        rw [show attrR k xs = mkA 0 0 by unfold attrR; rw [hg]; rfl, show kindR k xs = c by unfold kindR; rw [hk]; simp [hg]]
        exact read_more k a m c hk wk A cp xs hl w ha hb h1 (by rw [hn]; exact h2)
    · have hg : goodR k xs = false := by unfold goodR; rw [hk]; simp [h1]
      rw [show attrR k xs = mkA 0 0 by unfold attrR; rw [hg]; rfl, show kindR k xs = c by unfold kindR; rw [hk]; simp [hg]]
      exact read_long k a m c hk wk A cp xs hl w ha hb h1

/-! ### the example of the chapter -/
theorem ok12 : (mkA 1 2).Ok := mkA_ok 1 2 ⟨by decide, by decide⟩ ⟨by decide, by decide⟩
theorem bytes12 : bytesA (mkA 1 2) = [2] := by decide +kernel
theorem valid12 : validA (mkA 1 2) = true := by decide +kernel
theorem text12 : ba (textA (mkA 1 2)) = ⟨#[111, 114, 105, 103, 105, 110, 32, 105, 110, 99, 111, 109, 112, 108, 101, 116, 101]⟩ := by
  have e : textA (mkA 1 2) = [111, 114, 105, 103, 105, 110, 32, 105, 110, 99, 111, 109, 112, 108, 101, 116, 101] := by unfold textA; rw [if_pos valid12]; rfl
  rw [e]; rfl

set_option maxRecDepth 100000 in
set_option maxHeartbeats 1600000 in
theorem alive_any (w : World) (htab : Tb w) : Calls Tryd.prog 9 #[] w (Stay (.bool true) w) := by
  have HB := Lib.hid (fun W => bytes_any (mkA 1 2) ok12 W)
  unfold BytesM at HB
  rw [bytes12, valid12] at HB
  have HT := Lib.hid (fun W h => text_any (mkA 1 2) ok12 W h)
  rw [text12] at HT
  have HTab := Lib.hid htab
  clear htab
  unfold AtI.val AtI.cs mkA at HB HT
  go_enter Tryd.func9, Tryd.ntmps9
  go_wp2_with (first
    | (go_at_call 15; refine Calls.mono (HB.out _) ?_; rintro e w1 ⟨A, cp, rfl, hA, -, -, hK⟩; have hk1 := Lib.hid (((Kp.refl NoB w).alloc _).and hK); have hZ := Lib.hid ((Bk.fresh w 28 (mkA 1 2).cs).and hK); have HA1 := Lib.hid hA; obtain ⟨x0, x1, x2, x3, x4, x5, x6, x7, x8⟩ := hZ.out.attr; clear hK hA)
    | (go_at_call 17; refine Calls.mono (HT.out _ (HTab.out.and hk1.out)) ?_; rintro e w2 ⟨rfl, hK⟩; have hk2 := Lib.hid (hk1.out.and hK); obtain ⟨ad, rfl, hcell⟩ := (HA1.out.and hK).at (j := 0) (u := .int .u8 2) rfl; rw [add_zero] at hcell; clear hK))
  trace_state
  go_ret
  exact ⟨rfl, hk2.out⟩

end Go.Proofs.YthgcfoednhdbcaaDoor
