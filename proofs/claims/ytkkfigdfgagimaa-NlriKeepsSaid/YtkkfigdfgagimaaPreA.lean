/- Prefixes and routes as values; their equality, as the machine asks it. -/
import Derived.Test.YtkkfigdfgagimaaMem
import Derived.Test.YtkkfigdfgagimaaPlain
import Derived.Test.YtkkfigdfgagimaaProg
import Derived.KernelRfl
import Derived.Laws.StructEq
import Derived.Deep.MidRow
namespace Go.Proofs.Ytkkfigdfgagimaa
open Go.RowKit
set_option linter.unusedVariables false
set_option linter.unusedSimpArgs false

structure PreI where
  fam : Int
  len : Int
  addr : List Int
deriving DecidableEq
structure RtI where
  path : Int
  pre : PreI
deriving DecidableEq

/-- It is a value of the type. -/
def PreI.B (p : PreI) : Prop := (-9223372036854775808 ≤ p.fam ∧ p.fam ≤ 9223372036854775807) ∧ (-9223372036854775808 ≤ p.len ∧ p.len ≤ 9223372036854775807) ∧ p.addr.length = 16 ∧ IsB p.addr
def RtI.B (x : RtI) : Prop := (0 ≤ x.path ∧ x.path ≤ 4294967295) ∧ x.pre.B

def preC (p : PreI) : List Value := .int .i64 p.fam :: .int .i64 p.len :: bs p.addr
def rtC (x : RtI) : List Value := .int .u32 x.path :: preC x.pre
def PreI.val (p : PreI) : Value := .agg (preC p).toArray
def RtI.val (x : RtI) : Value := .agg (rtC x).toArray
def adV (a : List Int) : Value := .agg (bs a).toArray
theorem preC_length {p : PreI} (h : p.addr.length = 16) : (preC p).length = 18 := by simp [preC, bs_length, h]
theorem rtC_length {x : RtI} (h : x.pre.addr.length = 16) : (rtC x).length = 19 := by simp [rtC, preC_length h]
theorem preC_one (p : PreI) : ∀ u ∈ preC p, u.oneCell' = true := by
  intro u hu
  simp only [preC, List.mem_cons] at hu
  rcases hu with rfl | rfl | hu
  · rfl
  · rfl
  · exact bs_one _ u hu
theorem rtC_one (x : RtI) : ∀ u ∈ rtC x, u.oneCell' = true := by
  intro u hu
  simp only [rtC, List.mem_cons] at hu
  rcases hu with rfl | hu
  · rfl
  · exact preC_one _ u hu

theorem all_range_int : ∀ (xs ys : List Int), xs.length = ys.length → ((List.range xs.length).all fun i => xs.getD i 0 == ys.getD i 0) = decide (xs = ys)
  | [], [], _ => by simp
  | x :: xs, y :: ys, h => by
    have ih := all_range_int xs ys (by simpa using h)
    rw [List.length_cons, List.range_succ_eq_map, List.all_cons, List.all_map]
    simp only [List.getD_cons_zero, Function.comp_def, List.getD_cons_succ, ih]
    rw [Bool.eq_iff_iff]
    simp
  | [], _ :: _, h => by simp at h
  | _ :: _, [], h => by simp at h

/-- Two rows of bytes, compared. -/
theorem run_equalIn_row {P : Program} (w : World) (d : Nat) (t e : TypeId) (n : Nat) (ht : P.underlying t = some (.array n e)) (he : P.underlying e = some (.int .u8)) (hsz : ∀ w, (sizeOf e).run P w = .ok 1 w)
    (xs ys : List Int) (hx : xs.length = n) (hy : ys.length = n) :
    (Op.equalIn (d + 2) t (.agg (bs xs).toArray) (.agg (bs ys).toArray)).run P w = .ok (decide (xs = ys)) w := by
  rw [← all_range_int xs ys (hx.trans hy.symm), hx, List.range_eq_range', Op.equalIn]
  simp only [Sem.run_bind, run_underlying ht, Result.andThen_ok, hsz, Std.Legacy.Range.forIn_eq_forIn_range', Std.Legacy.Range.size, Nat.sub_zero, Nat.add_sub_cancel, Nat.div_one]
  have hl : ∀ i ∈ List.range' 0 n 1, i < n := fun i hi => by simpa using (List.mem_range'_1.1 hi).2
  generalize List.range' 0 n 1 = l at hl ⊢
  induction l with
  | nil => simp
  | cons i l ih =>
    have hi : i < n := hl i (by simp)
    have px : (part e (bs xs).toArray (i * 1)).run P w = .ok (.int .u8 (xs.getD i 0)) w := by
      simp [part, isAgg, run_underlying he, bs, List.getD, List.getElem?_eq_getElem (show i < xs.length by omega)]
    have py : (part e (bs ys).toArray (i * 1)).run P w = .ok (.int .u8 (ys.getD i 0)) w := by
      simp [part, isAgg, run_underlying he, bs, List.getD, List.getElem?_eq_getElem (show i < ys.length by omega)]
    have pe : (Op.equalIn (d + 1) e (.int .u8 (xs.getD i 0)) (.int .u8 (ys.getD i 0))).run P w = .ok (xs.getD i 0 == ys.getD i 0) w := run_equalIn_int w d e .u8 .u8 _ _ he
    simp only [List.forIn_cons, Sem.run_bind, px, py, pe, Result.andThen_ok, List.all_cons]
    cases hb : (xs.getD i 0 == ys.getD i 0)
    · simp
    · simp only [Bool.not_true, Bool.false_eq_true, if_false, Sem.run_pure, Result.andThen_ok, Bool.true_and]
      exact ih fun j hj => hl j (by simp [hj])

theorem infoAd : (Try.prog.info? 27).map (fun i => (i.zero, i.size, i.bytes)) = some (some (.agg (bs (List.replicate 16 0)).toArray), 16, 16) := by kernel_rfl
theorem infoPre : (Try.prog.info? 29).map (fun i => (i.zero, i.size, i.bytes)) = some (some (PreI.val ⟨0, 0, List.replicate 16 0⟩), 18, 32) := by kernel_rfl
theorem infoRt : (Try.prog.info? 31).map (fun i => (i.zero, i.size, i.bytes)) = some (some (RtI.val ⟨0, ⟨0, 0, List.replicate 16 0⟩⟩), 19, 40) := by kernel_rfl
theorem size_of {P : Program} {t : TypeId} {z : Option Value} {n b : Nat} (h : (P.info? t).map (fun i => (i.zero, i.size, i.bytes)) = some (z, n, b)) : (∀ w, (sizeOf t).run P w = .ok n w) ∧ (P.info? t).map (·.size) = some n := by
  cases hq : P.info? t with
  | none => simp [hq] at h
  | some i =>
    simp [hq] at h
    exact ⟨fun w => by simp [sizeOf, typeInfo, hq, h.2.1], by simp [h.2.1]⟩
theorem sizeU8 : ∀ w, (sizeOf 5).run Try.prog w = .ok 1 w := fun w => by kernel_rfl
theorem undU8 : Try.prog.underlying 5 = some (.int .u8) := Try.underlying5

theorem eq_ad (d : Nat) (w : World) (a b : List Int) (ha : a.length = 16) (hb : b.length = 16) : (Op.equalIn (d + 2) 27 (adV a) (adV b)).run Try.prog w = .ok (decide (a = b)) w :=
  run_equalIn_row w d 27 5 16 Try.underlying27 undU8 sizeU8 a b ha hb

theorem part_one {P : Program} (w : World) {t : TypeId} {k : IntKind} (hu : P.underlying t = some (.int k)) (cs : List Value) (o : Nat) (v : Value) (h : cs[o]? = some v) : (part t cs.toArray o).run P w = .ok v w := by
  simp [part, isAgg, run_underlying hu, h]
theorem part_row {P : Program} (w : World) {t : TypeId} {d : TypeDesc} (hu : P.underlying t = some d) (hd : d.isRow = true) (n : Nat) (hs : (sizeOf t).run P w = .ok n w) (cs : List Value) (o : Nat) (vs : List Value) (h : (cs.drop o).take n = vs) :
    (part t cs.toArray o).run P w = .ok (.agg vs.toArray) w := by
  have hagg : (isAgg t).run P w = .ok true w := by
    unfold isAgg
    rw [Sem.run_bind, run_underlying hu w]
    cases d <;> simp_all
  subst h
  simp [part, Sem.run_bind, hagg, hs, List.extract_toArray]

/-- Fields compared in order. -/
theorem eq_field {P : Program} (w : World) (dd : Nat) (xs ys : Array Value) (f : Field) (fs : List Field) (hn : f.name ≠ "_") (a b : Value) (r s : Bool) (ha : (part f.type xs f.offset).run P w = .ok a w) (hb : (part f.type ys f.offset).run P w = .ok b w)
    (he : (Op.equalIn dd f.type a b).run P w = .ok r w) (hs : (Op.eqFields dd xs ys fs).run P w = .ok s w) : (Op.eqFields dd xs ys (f :: fs)).run P w = .ok (r && s) w := by
  simp only [Op.eqFields]
  rw [if_pos hn]
  simp only [Sem.run_bind, ha, hb, he, Result.andThen_ok, Sem.run_ite, Sem.run_pure, hs]
  cases r <;> simp
theorem fld_fam (w : World) (r : PreI) : (part 3 (preC r).toArray 0).run Try.prog w = .ok (.int .i64 r.fam) w := part_one w Try.underlying3 _ _ _ rfl
theorem fld_len (w : World) (r : PreI) : (part 3 (preC r).toArray 1).run Try.prog w = .ok (.int .i64 r.len) w := part_one w Try.underlying3 _ _ _ rfl
theorem fld_addr (w : World) (r : PreI) (hr : r.addr.length = 16) : (part 27 (preC r).toArray 2).run Try.prog w = .ok (adV r.addr) w := part_row w Try.underlying27 rfl 16 ((size_of infoAd).1 w) _ _ _ (by
  show (bs r.addr).take 16 = _
  rw [List.take_of_length_le (by rw [bs_length, hr]; exact Nat.le_refl _)])
theorem fld_path (w : World) (r : RtI) : (part 26 (rtC r).toArray 0).run Try.prog w = .ok (.int .u32 r.path) w := part_one w Try.underlying26 _ _ _ rfl
theorem fld_pre (w : World) (r : RtI) (hr : r.pre.addr.length = 16) : (part 29 (rtC r).toArray 1).run Try.prog w = .ok r.pre.val w := part_row w Try.underlying29 rfl 18 ((size_of infoPre).1 w) _ _ _ (by
  show (preC r.pre).take 18 = _
  rw [List.take_of_length_le (by rw [preC_length hr]; exact Nat.le_refl _)])
theorem eq_i64 (d : Nat) (w : World) (a b : Int) : (Op.equalIn (d + 1) 3 (.int .i64 a) (.int .i64 b)).run Try.prog w = .ok (a == b) w := run_equalIn_int w d 3 .i64 .i64 a b Try.underlying3
theorem eq_u32 (d : Nat) (w : World) (a b : Int) : (Op.equalIn (d + 1) 26 (.int .u32 a) (.int .u32 b)).run Try.prog w = .ok (a == b) w := run_equalIn_int w d 26 .u32 .u32 a b Try.underlying26
theorem str_pre : Try.prog.underlying 29 = some (.struct (Try.prog.fieldsOf 29)) := by kernel_rfl
theorem held_pre : Try.prog.stoodInHeld 29 = false := by kernel_rfl
theorem flds_pre : (Try.prog.fieldsOf 29).toList = [⟨"Fam", 3, 0, false, "", "", 0⟩, ⟨"Len", 3, 1, false, "", "", 8⟩, ⟨"Addr", 27, 2, false, "", "", 16⟩] := by kernel_rfl
theorem str_rt : Try.prog.underlying 31 = some (.struct (Try.prog.fieldsOf 31)) := by kernel_rfl
theorem held_rt : Try.prog.stoodInHeld 31 = false := by kernel_rfl
theorem flds_rt : (Try.prog.fieldsOf 31).toList = [⟨"Path", 26, 0, false, "", "", 0⟩, ⟨"Prefix", 29, 1, false, "", "", 8⟩] := by kernel_rfl
theorem eq_none (P : Program) (w : World) (dd : Nat) (xs ys : Array Value) : (Op.eqFields dd xs ys []).run P w = .ok true w := rfl
theorem eq_pre (d : Nat) (w : World) (p q : PreI) (hp : p.addr.length = 16) (hq : q.addr.length = 16) : (Op.equalIn (d + 2 + 1) 29 p.val q.val).run Try.prog w = .ok (decide (p = q)) w := by
  have h3 := eq_field w (d + 2) (preC p).toArray (preC q).toArray ⟨"Addr", 27, 2, false, "", "", 16⟩ [] (by decide) (adV p.addr) (adV q.addr) (decide (p.addr = q.addr)) true (fld_addr w p hp) (fld_addr w q hq) (eq_ad d w _ _ hp hq) (eq_none _ w _ _ _)
  have h2 := eq_field w (d + 2) (preC p).toArray (preC q).toArray ⟨"Len", 3, 1, false, "", "", 8⟩ _ (by decide) (.int .i64 p.len) (.int .i64 q.len) (p.len == q.len) _ (fld_len w p) (fld_len w q) (eq_i64 (d + 1) w _ _) h3
  have h1 := eq_field w (d + 2) (preC p).toArray (preC q).toArray ⟨"Fam", 3, 0, false, "", "", 0⟩ _ (by decide) (.int .i64 p.fam) (.int .i64 q.fam) (p.fam == q.fam) _ (fld_fam w p) (fld_fam w q) (eq_i64 (d + 1) w _ _) h2
  have h0 := run_equalIn_struct w (d + 2) 29 (preC p).toArray (preC q).toArray str_pre held_pre
  rw [flds_pre, h1] at h0
  unfold PreI.val
  rw [h0]
  refine congrArg (fun b => Result.ok b w) ?_
  obtain ⟨pf, pl, pa⟩ := p
  obtain ⟨qf, ql, qa⟩ := q
  rw [Bool.eq_iff_iff]
  simp
theorem eq_rt (d : Nat) (w : World) (x y : RtI) (hx : x.pre.addr.length = 16) (hy : y.pre.addr.length = 16) : (Op.equalIn (d + 2 + 1 + 1) 31 x.val y.val).run Try.prog w = .ok (decide (x = y)) w := by
  have h3 := eq_field w (d + 2 + 1) (rtC x).toArray (rtC y).toArray ⟨"Prefix", 29, 1, false, "", "", 8⟩ [] (by decide) x.pre.val y.pre.val (decide (x.pre = y.pre)) true (fld_pre w x hx) (fld_pre w y hy) (eq_pre d w _ _ hx hy) (eq_none _ w _ _ _)
  have h1 := eq_field w (d + 2 + 1) (rtC x).toArray (rtC y).toArray ⟨"Path", 26, 0, false, "", "", 0⟩ _ (by decide) (.int .u32 x.path) (.int .u32 y.path) (x.path == y.path) _ (fld_path w x) (fld_path w y) (eq_u32 (d + 2) w _ _) h3
  have h0 := run_equalIn_struct w (d + 2 + 1) 31 (rtC x).toArray (rtC y).toArray str_rt held_rt
  rw [flds_rt, h1] at h0
  unfold RtI.val
  rw [h0]
  refine congrArg (fun b => Result.ok b w) ?_
  obtain ⟨px, p⟩ := x
  obtain ⟨py, q⟩ := y
  rw [Bool.eq_iff_iff]
  simp

/-- The operations, as the walk meets them. -/
theorem binop_ad (w : World) (a b : List Int) (ha : a.length = 16) (hb : b.length = 16) : (binOp .eql 27 (adV a) (adV b)).run Try.prog w = .ok (.bool (decide (a = b))) w := by
  have h := eq_ad 9998 w a b ha hb
  unfold adV at h ⊢
  rw [run_eql_struct, h]
  rfl
theorem binop_rt (w : World) (x y : RtI) (hx : x.pre.addr.length = 16) (hy : y.pre.addr.length = 16) : (binOp .eql 31 x.val y.val).run Try.prog w = .ok (.bool (decide (x = y))) w := by
  have h := eq_rt 9996 w x y hx hy
  unfold RtI.val at h ⊢
  rw [run_eql_struct, h]
  rfl
theorem binop_rt_ne (w : World) (x y : RtI) (hx : x.pre.addr.length = 16) (hy : y.pre.addr.length = 16) : (binOp .neq 31 x.val y.val).run Try.prog w = .ok (.bool (!decide (x = y))) w := by
  have h := eq_rt 9996 w x y hx hy
  unfold RtI.val at h ⊢
  rw [run_neq_struct, h]
  rfl

end Go.Proofs.Ytkkfigdfgagimaa
