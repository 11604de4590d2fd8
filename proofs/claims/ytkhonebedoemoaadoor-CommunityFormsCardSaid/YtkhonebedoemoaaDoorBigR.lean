/- Whole rows (structs and arrays of many cells), read at whatever address and stored into a block that was just made. No condition. -/
import Derived.Test.YtkhonebedoemoaaDoorMem
import Derived.Deep.MidRow
import Derived.Deep.WholeRow
import Derived.Laws.ResultCell
import Derived.Laws.CopyOwn
namespace Go.Proofs.YtkhonebedoemoaaDoor
open Go.RowKit
set_option linter.unusedVariables false

/-- The cells cs lie from address a on. -/
def CellsAt (w : World) (a : Addr) (cs : List Value) : Prop := ∀ j v, cs[j]? = some v → w.cell? (a.add j) = some v
theorem CellsAt.keep {S : Nat → Prop} {w w' : World} {a : Addr} {cs : List Value} (h : CellsAt w a cs) (k : Kp S w w') (hs : ¬ S a.block) : CellsAt w' a cs := fun j v hv => k.cell (h j v hv) (by rw [block_add]; exact hs)
theorem CellsAt.and {w w' : World} {a : Addr} {cs : List Value} (h : CellsAt w a cs) (k : Kp NoB w w') : CellsAt w' a cs := h.keep k (fun q => q)

theorem CellsAt.of_bk {w : World} {b : Nat} {t : TypeId} {cs : List Value} (h : Bk w b t cs.toArray) : CellsAt w ⟨b, 0, none⟩ cs := fun j v hv => by rw [add_none, Nat.zero_add, h.cell]; simpa using hv

section
variable {P : Program}
theorem run_loadVar_at (w : World) (p : Addr) (ty : TypeId) (cs : List Value) (d : TypeDesc) (hc : CellsAt w p cs)
    (hu : P.underlying ty = some d) (hd : d.isRow = true) (hi : (P.info? ty).map (·.size) = some cs.length) :
    (loadVar ty p).run P w = .ok (.agg cs.toArray) w := by
  have hl : (loadCells p cs.length).run P w = .ok cs.toArray w := run_loadCells_list (P := P) w p cs (fun j v hv => hc j v hv)
  cases hq : P.info? ty with
  | none => simp [hq] at hi
  | some i =>
    have hs : i.size = cs.length := by simpa [hq] using hi
    have hagg : (isAgg ty).run P w = .ok true w := by
      unfold isAgg
      rw [Sem.run_bind, run_underlying hu w]
      cases d <;> simp_all
    simp [loadVar, Sem.run_bind, hagg, sizeOf, typeInfo, hq, hs, hl]

/-- A whole row is read. -/
theorem wp_load_at {op : Oper} {a : Act} {w : World} {K : Act → World → Prop} {Q : Exit → Act → World → Prop} (ty : TypeId) (x : Operand) (ho : op.op = .load ty x)
    (p : Addr) (hx : a.eval x = .pointer (some p)) (cs : List Value) (d : TypeDesc) (hc : CellsAt w p cs)
    (hu : P.underlying ty = some d) (hd : d.isRow = true) (hi : (P.info? ty).map (·.size) = some cs.length)
    (h : K (a.put op.dst (.agg cs.toArray)) w) : op.wp P a w K Q := by
  unfold Oper.wp execOp
  simp only [ho, hx, Instr.loadAt, Instr.sureAddr, Sem.run_bind, Sem.run_pure, Result.andThen_ok, run_loadVar_at w p ty cs d hc hu hd hi]
  exact h
theorem wpList_load_at {ops : Array Oper} {rest : List Oper} {op : Oper} {a : Act} {w : World} {Q : Exit → Act → World → Prop} (hgd : op.guard = none) (ty : TypeId) (x : Operand) (ho : op.op = .load ty x)
    (p : Addr) (hx : a.eval x = .pointer (some p)) (cs : List Value) (d : TypeDesc) (hc : CellsAt w p cs)
    (hu : P.underlying ty = some d) (hd : d.isRow = true) (hi : (P.info? ty).map (·.size) = some cs.length)
    (h : wpList P ops Q rest (a.put op.dst (.agg cs.toArray)) w) : wpList P ops Q (op :: rest) a w :=
  wpList_plain hgd fun _ hK => wp_load_at ty x ho p hx cs d hc hu hd hi (hK _ _ h)
theorem yieldsIf_load_at {ops : Array Oper} {S : World → Prop} {op : Oper} {a : Act} (hw : Region.wanted op (yielded ops a.tmps) = true) (ty : TypeId) (x : Operand) (ho : op.op = .load ty x)
    (p : Addr) (hx : a.eval x = .pointer (some p)) (cs : List Value) (d : TypeDesc) (hS : ∀ w, S w → CellsAt w p cs)
    (hu : P.underlying ty = some d) (hd : d.isRow = true) (hi : (P.info? ty).map (·.size) = some cs.length) : YieldsIf P ops S op (.agg cs.toArray) a :=
  .inl ⟨hw, fun w hw' => by
    unfold execOp
    simp only [ho, hx, Instr.loadAt, Instr.sureAddr, Sem.run_bind, Sem.run_pure, Result.andThen_ok, run_loadVar_at w p ty cs d (hS w hw') hu hd hi]⟩

/-- A whole row is stored into the block that was just made. -/
theorem wpList_store_new {ops : Array Oper} {rest : List Oper} {o : Oper} {a : Act} {w : World} {Q : Exit → Act → World → Prop} (hgd : o.guard = none) (ty : TypeId) (x y : Operand) (ho : o.op = .store ty x y)
    (z cells : Array Value) (hx : a.eval x = .pointer (some ⟨w.heap.size, 0, none⟩)) (hy : a.eval y = .agg cells)
    (t : TypeId) (hi : (P.info? ty).map (·.size) = some cells.size)
    (hold : z.size = cells.size) (h1 : cells.all (·.oneCell') = true)
    (h : wpList P ops Q rest (a.put o.dst undef) (w.alloc (.cells cells t))) : wpList P ops Q (o :: rest) a (w.alloc (.cells z t)) := by
  refine wpList_store_row hgd ty x y ho w.heap.size cells hx hy t z (heap_alloc_last w _) hi hold h1 ?_
  rw [World.setRow_alloc_new]
  exact h
/-- The same, the block's number told. -/
theorem wpList_store_newg {ops : Array Oper} {rest : List Oper} {o : Oper} {a : Act} {w : World} {Q : Exit → Act → World → Prop} (hgd : o.guard = none) (ty : TypeId) (x y : Operand) (ho : o.op = .store ty x y)
    (g : Nat) (hg : w.heap.size = g) (z cells : Array Value) (hx : a.eval x = .pointer (some ⟨g, 0, none⟩)) (hy : a.eval y = .agg cells)
    (t : TypeId) (hi : (P.info? ty).map (·.size) = some cells.size)
    (hold : z.size = cells.size) (h1 : cells.all (·.oneCell') = true)
    (h : wpList P ops Q rest (a.put o.dst undef) (w.alloc (.cells cells t))) : wpList P ops Q (o :: rest) a (w.alloc (.cells z t)) := by
  subst hg
  exact wpList_store_new hgd ty x y ho z cells hx hy t hi hold h1 h
end

/-- An element of a slice of rows. -/
theorem sl_at {α : Type} {enc : α → List Value} {sz : Nat} {w : World} {A : Option Addr} {xs : List α} (h : Sl (Flat enc) sz w A xs) {j : Nat} (hj : j < xs.length) :
    ∃ ad, A = some ad ∧ CellsAt w (ad.add (j * sz)) (enc xs[j]) := by
  obtain ⟨ad, cs, e, _, rfl, hc⟩ := h.at (List.getElem?_eq_getElem hj)
  exact ⟨ad, e, fun i v hv => by rw [add_add]; exact hc i v hv⟩

/-! ### A range stored into a block that is known whole -/
theorem splice_step (cur : List Value) (o : Nat) (v : Value) (r : List Value) (h : o + (v :: r).length ≤ cur.length) : splice (cur.set o v) (o + 1) r = splice cur o (v :: r) := by
  simp only [List.length_cons] at h
  unfold splice
  rw [List.take_succ_eq_append_getElem (show o < (cur.set o v).length by simp; omega), List.getElem_set_self, List.take_set_of_le (Nat.le_refl o), List.drop_set_of_lt (by omega)]
  simp only [List.append_assoc, List.cons_append, List.nil_append, List.length_cons]
  rw [show o + 1 + r.length = o + (r.length + 1) by omega]
theorem Bk.setCells {b : Nat} {t : TypeId} : ∀ (vs : List Value) (o : Nat) {w : World} {cur : List Value}, Bk w b t cur.toArray → o + vs.length ≤ cur.length → Bk (w.setCells b o vs) b t (splice cur o vs).toArray
  | [], o, w, cur, h, _ => by
    rw [show splice cur o [] = cur by simp [splice]]
    exact h
  | v :: r, o, w, cur, h, hl => by
    rw [World.setCells, ← splice_step cur o v r hl]
    refine Bk.setCells r (o + 1) ?_ (by simp only [List.length_cons] at hl; simp only [List.length_set]; omega)
    have := h.set o v
    rwa [List.setIfInBounds_toArray] at this
theorem Bk.setCells_far {b c : Nat} {t : TypeId} {cs : Array Value} (hb : b ≠ c) : ∀ (vs : List Value) (o : Nat) {w : World}, Bk w b t cs → Bk (w.setCells c o vs) b t cs
  | [], _, _, h => h
  | v :: r, o, w, h => by
    rw [World.setCells]
    exact Bk.setCells_far hb r (o + 1) (h.far (p := ⟨c, o, none⟩) hb v)
theorem Kp.setCells {S : Nat → Prop} {w : World} {b : Nat} (hp : b < w.heap.size → S b) : ∀ (vs : List Value) (o : Nat) {w1 : World}, Kp S w w1 → Kp S w (w1.setCells b o vs)
  | [], _, _, h => h
  | v :: r, o, w1, h => by
    rw [World.setCells]
    exact Kp.setCells hp r (o + 1) (h.setCell (p := ⟨b, o, none⟩) hp v)
theorem there_bk {w : World} {b : Nat} {t : TypeId} {cur : List Value} (h : Bk w b t cur.toArray) (o n : Nat) (hn : o + n ≤ cur.length) : w.there b o n := fun j hj => ⟨by
  rw [h.cell]
  simp
  omega, h.frozen _⟩
theorem range_bk {w : World} {b : Nat} {t : TypeId} {cur : List Value} (h : Bk w b t cur.toArray) (o n : Nat) : w.rangeAt b o ((cur.drop o).take n) := fun j v hv => by
  rw [h.cell]
  rw [List.getElem?_take] at hv
  split at hv
  · rw [List.getElem?_drop] at hv
    simpa using hv
  · cases hv

/-- Two results, the first of which is a whole row. -/
theorem results_row_tmp {P : Program} {fn : Func} {p u : Tmp} {ty : TypeId} (h : fn.results = #[.cell p ty, .tmp u]) (tmps : Array Value) (w : World) (g : Nat) (t : TypeId) (cs : Array Value) (fr : Nat × Nat) (d : TypeDesc)
    (hp : tmps.getD p undef = .pointer (some ⟨g, 0, none⟩)) (hg : w.heap[g]? = some (.cells cs t fr))
    (hu : P.underlying ty = some d) (hd : (match d with | .struct _ | .array _ _ => true | _ => false) = true) (hi : (P.info? ty).map (·.size) = some cs.size) :
    (results fn tmps).run P w = .ok (.tuple #[.agg cs, tmps.getD u undef]) w := by
  have hp' : tmps[p]?.getD undef = .pointer (some ⟨g, 0, none⟩) := by simpa using hp
  rw [results_cell_tmp h]
  simp [hp', asAddr, run_loadVar_row w g t ty cs fr d hg hu hd hi]

end Go.Proofs.YtkhonebedoemoaaDoor
