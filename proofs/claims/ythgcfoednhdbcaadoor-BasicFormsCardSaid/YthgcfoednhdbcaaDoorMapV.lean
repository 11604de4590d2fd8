/- Maps from int to values of whatever type that the call made, told as functions: laws for the walk. No condition. -/
import Derived.Test.YthgcfoednhdbcaaDoorMem
import Derived.Maps.Own
import Derived.Maps.OwnOps
import Derived.Maps.OwnSet
import Derived.Maps.Views
namespace Go.Proofs.YthgcfoednhdbcaaDoor
open Go.RowKit Go.Maps

/-- An element, read as itself. -/
def anyR (v : Value) : Option (DataW Value × List MemPlace) := some (.held v, [])

section
variable {P : Program} {w w' : World} {K E : TypeId} {b : Nat} {f : Int → Option Value}

/-- Block b is a map from int that holds what f says; n: how often it was written at most. -/
def MapV (P : Program) (K : TypeId) (w : World) (b n : Nat) (f : Int → Option Value) : Prop :=
  ∃ (D : DataW Value), w.ownsMap P K anyR b n D ∧ IsMap D ∧
    ∀ k, has D (.int .i64 k) = (f k).isSome ∧ ∀ z, D.atKey (.int .i64 k) (.held z) = .held ((f k).getD z)

theorem MapV.lt {n : Nat} (h : MapV P K w b n f) : b < w.heap.size := by
  obtain ⟨D, ⟨es, c, hb, _⟩, _⟩ := h
  exact (Array.getElem?_eq_some_iff.1 hb).1
theorem MapV.keep {S : Nat → Prop} {n : Nat} (h : MapV P K w b n f) (k : Kp S w w') (hb : ¬ S b) : MapV P K w' b n f := by
  have hl := h.lt
  obtain ⟨D, ⟨es, c, hh, r⟩, r2⟩ := h
  exact ⟨D, ⟨es, c, (k.block b hl hb).trans hh, r⟩, r2⟩
theorem MapV.and {n : Nat} (h : MapV P K w b n f) (k : Kp NoB w w') : MapV P K w' b n f := h.keep k (fun q => q)
theorem MapV.made (w : World) (P : Program) (K : TypeId) : MapV P K (w.alloc (.map #[] 0)) w.heap.size 0 (fun _ => none) :=
  ⟨.map [], World.ownsMap_made w P K anyR, isMap_empty, fun _ => ⟨rfl, fun _ => rfl⟩⟩

/-- The function f, turned at k. -/
def updV (f : Int → Option Value) (k : Int) (v : Value) : Int → Option Value := fun x => if x = k then some v else f x

theorem MapV.step {n : Nat} {t : TypeId} (h : MapV P K w b n f) (hK : P.underlying K = some (.int .i64)) (ht : P.underlying t = some (.map K E)) (hn : n < 1000000)
    {k : Int} {v : Value} (wk : (Lit.int .i64 k).wf = true) :
    ∃ w', (Instr.mapUpdate t (.map (some b)) (.int .i64 k) v).run P w = .ok () w' ∧ MapV P K w' b (n + 1) (updV f k v) ∧ w.grownBy w' (some b) := by
  obtain ⟨D, hown, hD, hf⟩ := h
  obtain ⟨w', hrun, r1, r2⟩ := hown.update (d := .held v) (ps := []) (int_keyed hK) ht (by unfold maxLen; omega) (keyOf_int_mk hK wk) rfl
  refine ⟨w', hrun, ⟨_, r1, hD.put _ _, fun x => ?_⟩, r2⟩
  unfold updV
  by_cases hx : x = k
  · subst hx
    rw [if_pos rfl]
    exact ⟨by rw [has_put_same hD (by trivial)]; rfl, fun _ => atKey_put_same hD (by trivial) _ _⟩
  · rw [if_neg hx, has_put_other (by intro e; injection e with _ e; exact hx e)]
    refine ⟨(hf x).1, fun z => ?_⟩
    rw [atKey_put_other (by intro e; injection e with _ e; exact hx e)]
    exact (hf x).2 z

/-- A key of a map's literal, met in the walk. -/
theorem wpList_insV {ops : Array Oper} {rest : List Oper} {o : Oper} {a : Act} {Q : Exit → Act → World → Prop} {S : Nat → Prop} {w0 : World} {n : Nat} (hk : Kp S w0 w) (hg : o.guard = none) (m x v : Operand) (t : TypeId) (hop : o.op = Op.insert t m x v)
    (hK : P.underlying K = some (.int .i64)) (ht : P.underlying t = some (.map K E)) (h : MapV P K w b n f) (hn : n < 1000000) (hb : w0.heap.size ≤ b)
    (k : Int) (c : Value) (hm : a.eval m = .map (some b)) (hx : a.eval x = .int .i64 k) (hv : a.eval v = c) (wk : (Lit.int .i64 k).wf = true)
    (hQ : ∀ w', MapV P K w' b (n + 1) (updV f k c) → Kp S w0 w' → Kp (OnB b) w w' → wpList P ops Q rest (a.put o.dst undef) w') : wpList P ops Q (o :: rest) a w := by
  refine wpList_plain hg fun K' hK' => ?_
  obtain ⟨w', hrun, r1, r2⟩ := h.step (v := c) hK ht hn wk
  unfold Oper.wp
  simp [execOp, hop, hm, hx, hv, hrun, Result.andThen]
  exact hK' _ _ (hQ w' r1 (hk.grown r2 (fun b' e => by cases e; exact .inl hb)) ((Kp.of_grown r2).mono (fun _ _ e => by cases e; rfl)))

/-- 'v, ok := m[k]'. -/
theorem MapV.look {n : Nat} {t : TypeId} (h : MapV P K w b n f) (hK : P.underlying K = some (.int .i64)) (ht : P.underlying t = some (.map K E)) {z : Value} (hz : (zeroValue E).run P w = .ok z w) {k : Int} (wk : (Lit.int .i64 k).wf = true) :
    (Instr.lookup t (.map (some b)) (.int .i64 k) true).run P w = .ok (.tuple #[(f k).getD z, .bool (f k).isSome]) w := by
  obtain ⟨D, hown, hD, hf⟩ := h
  obtain ⟨v, ps, hrun, hv⟩ := hown.look_ok (int_keyed hK) ht hz (zd := .held z) (zp := []) rfl (keyOf_int_mk hK wk)
  rw [(hf k).2] at hv
  rw [hrun, (hf k).1]
  cases hv
  rfl
/-- 'm[k]'. -/
theorem MapV.at {n : Nat} {t : TypeId} (h : MapV P K w b n f) (hK : P.underlying K = some (.int .i64)) (ht : P.underlying t = some (.map K E)) {z : Value} (hz : (zeroValue E).run P w = .ok z w) {k : Int} (wk : (Lit.int .i64 k).wf = true) :
    (Instr.lookup t (.map (some b)) (.int .i64 k) false).run P w = .ok ((f k).getD z) w := by
  obtain ⟨D, hown, hD, hf⟩ := h
  obtain ⟨v, ps, hrun, hv⟩ := hown.lookup (int_keyed hK) ht hz (zd := .held z) (zp := []) rfl (keyOf_int_mk hK wk)
  rw [(hf k).2] at hv
  rw [hrun]
  cases hv
  rfl
end
end Go.Proofs.YthgcfoednhdbcaaDoor
