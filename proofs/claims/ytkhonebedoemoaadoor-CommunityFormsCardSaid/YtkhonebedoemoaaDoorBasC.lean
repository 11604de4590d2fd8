/- Attributes as values; Plain and Bare of both sides. No condition but the bounds that arguments have. -/
import Derived.Test.YtkhonebedoemoaaDoorBasB
import Derived.Laws.CopyOwn
import Derived.Deep.QuietTactic
import Derived.WalkSpells
import Derived.WalkLawsBesides
namespace Go.Proofs.YtkhonebedoemoaaDoor
open Go.RowKit
set_option linter.unusedVariables false
set_option linter.unusedSimpArgs false

theorem wrap_add (a b : Nat) (h : a + b ≤ 9223372036854775807) : wrap64 ((a : Int) + b) = ((a + b : Nat) : Int) := by
  rw [Go.IntWalk.wrap64_in _ ⟨by omega, by omega⟩]
  omega

/-- An attribute's fields. -/
structure AtI where
  t : Int
  p : Bool
  n : Int
  m : Int
  S : Option Addr
  sn : Nat
  sc : Nat
  L : Option Addr
  ln : Nat
  lc : Nat
  B : Option Addr
  bn : Nat
  bc : Nat
  f : Int
  R : Option Addr
  rn : Nat
  rc : Nat
def AtI.cs (z : AtI) : Array Value := #[.int .i64 z.t, .bool z.p, .int .u32 z.n, .int .u32 z.m, .slice z.S z.sn z.sc, .slice z.L z.ln z.lc, .slice z.B z.bn z.bc, .int .i64 z.f, .slice z.R z.rn z.rc]
def AtI.val (z : AtI) : Value := .agg z.cs
structure AtI.Ok (z : AtI) : Prop where
  t : -9223372036854775808 ≤ z.t ∧ z.t ≤ 9223372036854775807
  n : 0 ≤ z.n ∧ z.n < 4294967296
  m : 0 ≤ z.m ∧ z.m < 4294967296
  f : -9223372036854775808 ≤ z.f ∧ z.f ≤ 9223372036854775807
  l : z.sn ≤ 140737488355328 ∧ z.ln ≤ 140737488355328 ∧ z.bn ≤ 140737488355328 ∧ z.rn ≤ 140737488355328
/-- No other fields than some numbers. -/
def AtI.bare (z : AtI) : Bool := decide (z.sn = 0 ∧ z.ln = 0 ∧ z.bn = 0 ∧ z.rn = 0 ∧ z.f = 0)
/-- The cells of an attribute that lies in block b. -/
theorem Bk.attr {w : World} {b : Nat} {t : TypeId} {z : AtI} (h : Bk w b t z.cs) :
    w.cell? ⟨b, 0, none⟩ = some (.int .i64 z.t) ∧ w.cell? ⟨b, 1, none⟩ = some (.bool z.p) ∧ w.cell? ⟨b, 2, none⟩ = some (.int .u32 z.n) ∧ w.cell? ⟨b, 3, none⟩ = some (.int .u32 z.m) ∧
    w.cell? ⟨b, 4, none⟩ = some (.slice z.S z.sn z.sc) ∧ w.cell? ⟨b, 5, none⟩ = some (.slice z.L z.ln z.lc) ∧ w.cell? ⟨b, 6, none⟩ = some (.slice z.B z.bn z.bc) ∧ w.cell? ⟨b, 7, none⟩ = some (.int .i64 z.f) ∧ w.cell? ⟨b, 8, none⟩ = some (.slice z.R z.rn z.rc) :=
  ⟨h.cell 0, h.cell 1, h.cell 2, h.cell 3, h.cell 4, h.cell 5, h.cell 6, h.cell 7, h.cell 8⟩

/-- Numbers as cells. -/
def us (xs : List Int) : List Value := xs.map (Value.int .u32)
theorem us_one (xs : List Int) : ∀ u ∈ us xs, u.oneCell' = true := by
  intro u hu
  simp only [us, List.mem_map] at hu
  obtain ⟨x, _, rfl⟩ := hu
  rfl
def IsU (xs : List Int) : Prop := ∀ x ∈ xs, 0 ≤ x ∧ x < 4294967296

theorem all_range_int : ∀ (xs ys : List Int), xs.length = ys.length → ((List.range xs.length).all fun i => xs.getD i 0 == ys.getD i 0) = decide (xs = ys)
  | [], [], _ => by simp
  | x :: xs, y :: ys, h => by
    have ih := all_range_int xs ys (by simpa using h)
    rw [List.length_cons, List.range_succ_eq_map, List.all_cons, List.all_map]
    simp only [List.getD_cons_zero, Function.comp_def, List.getD_cons_succ, ih]
    rw [Bool.eq_iff_iff]
    simp
  | [], _ :: _, h => by simp at h
  | _ :: _, [], h => by simp at h

/-- Two rows of numbers, compared. -/
theorem run_equalIn_row32 {P : Program} (w : World) (d : Nat) (t e : TypeId) (n : Nat) (ht : P.underlying t = some (.array n e)) (he : P.underlying e = some (.int .u32)) (hsz : ∀ w, (sizeOf e).run P w = .ok 1 w)
    (xs ys : List Int) (hx : xs.length = n) (hy : ys.length = n) :
    (Op.equalIn (d + 2) t (.agg (us xs).toArray) (.agg (us ys).toArray)).run P w = .ok (decide (xs = ys)) w := by
  rw [← all_range_int xs ys (hx.trans hy.symm), hx, List.range_eq_range', Op.equalIn]
  simp only [Sem.run_bind, run_underlying ht, Result.andThen_ok, hsz, Std.Legacy.Range.forIn_eq_forIn_range', Std.Legacy.Range.size, Nat.sub_zero, Nat.add_sub_cancel, Nat.div_one]
  have hl : ∀ i ∈ List.range' 0 n 1, i < n := fun i hi => by simpa using (List.mem_range'_1.1 hi).2
  generalize List.range' 0 n 1 = l at hl ⊢
  induction l with
  | nil => simp
  | cons i l ih =>
    have hi : i < n := hl i (by simp)
    have px : (part e (us xs).toArray (i * 1)).run P w = .ok (.int .u32 (xs.getD i 0)) w := by
      simp [part, isAgg, run_underlying he, us, List.getD, List.getElem?_eq_getElem (show i < xs.length by omega)]
    have py : (part e (us ys).toArray (i * 1)).run P w = .ok (.int .u32 (ys.getD i 0)) w := by
      simp [part, isAgg, run_underlying he, us, List.getD, List.getElem?_eq_getElem (show i < ys.length by omega)]
    have pe : (Op.equalIn (d + 1) e (.int .u32 (xs.getD i 0)) (.int .u32 (ys.getD i 0))).run P w = .ok (xs.getD i 0 == ys.getD i 0) w := run_equalIn_int w d e .u32 .u32 _ _ he
    simp only [List.forIn_cons, Sem.run_bind, px, py, pe, Result.andThen_ok, List.all_cons]
    cases hb : (xs.getD i 0 == ys.getD i 0)
    · simp
    · simp only [Bool.not_true, Bool.false_eq_true, if_false, Sem.run_pure, Result.andThen_ok, Bool.true_and]
      exact ih fun j hj => hl j (by simp [hj])

theorem eq_two (q0 q1 n m : Int) (w : World) : (Op.equalIn 10000 78 (.agg #[.int .u32 q0, .int .u32 q1]) (.agg #[.int .u32 n, .int .u32 m])).run Tryd.prog w = .ok (decide (q0 = n ∧ q1 = m)) w := by
  have h := run_equalIn_row32 (P := Tryd.prog) w 9998 78 22 2 Tryd.underlying78 Tryd.underlying22 (fun w => by kernel_rfl) [q0, q1] [n, m] rfl rfl
  have e : decide ([q0, q1] = [n, m]) = decide (q0 = n ∧ q1 = m) := by simp
  rw [e] at h
  exact h

/-- The numbers of l are those of the attribute, and it has no other fields. -/
def plainB (z : AtI) (l : List Int) : Bool := decide (l.length ≤ 2) && decide (l.getD 0 0 = z.n) && decide (l.getD 1 0 = z.m) && z.bare

theorem splice_us (l : List Int) (h : l.length ≤ 2) : splice [Value.int .u32 0, .int .u32 0] 0 (us l) = [.int .u32 (l.getD 0 0), .int .u32 (l.getD 1 0)] := by
  match l, h with
  | [], _ => rfl
  | [x], _ => rfl
  | [x, y], _ => rfl

set_option maxRecDepth 100000 in
set_option maxHeartbeats 2000000 in
theorem plain_any (z : AtI) (ok : z.Ok) (A : Option Addr) (c : Nat) (l : List Int) (w : World) (ha : Arr w A (us l)) (hl : l.length ≤ 140737488355328) :
    Calls Tryd.prog 36 #[z.val, .slice A l.length c] w (Stay (.bool (plainB z l)) w) := by
  unfold AtI.val AtI.cs
  by_cases h2 : l.length ≤ 2
  · have hsp := splice_us l h2
    have hus : (us l).length = l.length := by simp [us]
    have hG := Lib.hid (Bk.second w (.cells z.cs 28) 78 #[.int .u32 0, .int .u32 0])
    have hA := Lib.hid ha
    have hO := Lib.hid (us_one l)
    have hB0 := Lib.hid (Bk.fresh w 28 z.cs)
    have heq := eq_two (l.getD 0 0) (l.getD 1 0) z.n z.m
    have hpl : plainB z l = (decide (l.getD 0 0 = z.n ∧ l.getD 1 0 = z.m) && decide (z.sn + z.ln + z.bn + z.rn = 0) && decide (z.f = 0)) := by
      unfold plainB AtI.bare
      rw [Bool.eq_iff_iff]
      simp only [Bool.and_eq_true, decide_eq_true_eq]
      omega
    rw [hpl]
    obtain ⟨q0, hq0⟩ : ∃ q, l.getD 0 0 = q := ⟨_, rfl⟩
    obtain ⟨q1, hq1⟩ : ∃ q, l.getD 1 0 = q := ⟨_, rfl⟩
    rw [hq0, hq1] at hsp heq ⊢
    obtain ⟨n, hn⟩ : ∃ n, l.length = n := ⟨_, rfl⟩
    rw [hn] at hus h2 ⊢
    have HL := Lib.hid ok.l
    have HF := ok.f
    have HSP := Lib.hid hsp
    have HUS := Lib.hid hus
    have hl4 := ok.l
    have hw4 : wrap64 (wrap64 (wrap64 ((z.sn : Int) + z.ln) + z.bn) + z.rn) = ((z.sn + z.ln + z.bn + z.rn : Nat) : Int) := by rw [wrap_add _ _ (by omega), wrap_add _ _ (by omega), wrap_add _ _ (by omega)]
    clear hsp hus hpl ha hq0 hq1 hl hl4
    unfold AtI.cs at hG hB0
    go_enter Tryd.func36, Tryd.ntmps36
    go_wp2_with (refine wpList_copy_splice rfl (.tmp 9) (.tmp 10) 24 24 rfl 22 Tryd.underlying24 (by kernel_rfl) _ A 2 2 n c rfl rfl (w.heap.size + 1) 0 [.int .u32 0, .int .u32 0] 78 hG.out (us l) (by rw [HUS.out]; exact (Nat.min_eq_left h2).symm) (fun hp => ⟨rfl, by obtain ⟨ad, e, hc⟩ := ((hA.out.alloc _).alloc _) (by intro e; rw [e] at hp; exact absurd hp (by decide)); exact ⟨ad, e, hc⟩⟩) (by rw [HUS.out]; show 0 + n ≤ 2; omega) hO.out (w.heap.size + 1) _ (Below.refl _ _) (Nat.le_refl _) ?_; intro w1 hB1 hbel; have hk1 := Lib.hid ((((Kp.refl NoB w).alloc (.cells #[.int .i64 z.t, .bool z.p, .int .u32 z.n, .int .u32 z.m, .slice z.S z.sn z.sc, .slice z.L z.ln z.lc, .slice z.B z.bn z.bc, .int .i64 z.f, .slice z.R z.rn z.rc] 28)).alloc (.cells #[.int .u32 0, .int .u32 0] 78)).new (b := w.heap.size + 1) (⟨hbel.os, hbel.tape, hbel.output, hbel.size, fun k hk hne => hbel.block k (by simp at hk; unfold OnB at hne; omega)⟩ : Kp (OnB (w.heap.size + 1)) _ w1) (by omega)); have hb9 : Bk w1 w.heap.size 28 z.cs := (hbel.block w.heap.size (by omega)).trans (hB0.out.alloc _); have hb2 : Bk w1 (w.heap.size + 1) 78 #[.int .u32 q0, .int .u32 q1] := (by have := hB1.out; rw [HSP.out] at this; exact this); obtain ⟨x0, x1, x2, x3, x4, x5, x6, x7, x8⟩ := hb9.attr; obtain ⟨y1, y2, y3, y4, y5⟩ := hb2.two; clear hbel hB1 hb9 hb2)
    all_goals
      go_ret
      refine ⟨congrArg Ending.returned (show Value.bool _ = Value.bool _ from congrArg Value.bool ?_), hk1.out⟩
      have hl4 := HL.out
      rw [Bool.eq_iff_iff]
      simp
      try rw [hw4]
      try omega
  · rw [show plainB z l = false by simp [plainB, h2]]
    obtain ⟨n, hn⟩ : ∃ n, l.length = n := ⟨_, rfl⟩
    rw [hn] at h2 hl ⊢
    have h2' : (2 : Int) < n := by omega
    go_enter Tryd.func36, Tryd.ntmps36
    go_wp2
    go_ret
    exact ⟨rfl, (Kp.refl _ _).alloc _⟩

end Go.Proofs.YtkhonebedoemoaaDoor
