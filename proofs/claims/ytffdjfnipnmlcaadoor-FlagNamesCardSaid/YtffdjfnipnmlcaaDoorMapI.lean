/- Maps from int to int that the call made, told as functions: laws for the walk. No condition. -/
import Derived.Test.YtffdjfnipnmlcaaDoorMem
import Derived.Maps.Own
import Derived.Maps.OwnOps
import Derived.Maps.OwnSet
import Derived.Maps.Views
namespace Go.Proofs.YtffdjfnipnmlcaaDoor
open Go.RowKit Go.Maps

section
variable {P : Program} {w w' : World} {K E : TypeId} {b : Nat} {f : Int → Option Int}

/-- Block b is a map from int to int that holds what f says; n: how often it was written at most. -/
def MapN (P : Program) (K E : TypeId) (w : World) (b n : Nat) (f : Int → Option Int) : Prop :=
  ∃ (D : DataW Unit), w.ownsMap P K (plainElem P E) b n D ∧ IsMap D ∧
    ∀ k, has D (.int .i64 k) = (f k).isSome ∧ D.atKey (.int .i64 k) (.lit (.int .i64 0)) = .lit (.int .i64 ((f k).getD 0))

theorem MapN.lt {n : Nat} (h : MapN P K E w b n f) : b < w.heap.size := by
  obtain ⟨D, ⟨es, c, hb, _⟩, _⟩ := h
  exact (Array.getElem?_eq_some_iff.1 hb).1
theorem MapN.keep {S : Nat → Prop} {n : Nat} (h : MapN P K E w b n f) (k : Kp S w w') (hb : ¬ S b) : MapN P K E w' b n f := by
  have hl := h.lt
  obtain ⟨D, ⟨es, c, hh, r⟩, r2⟩ := h
  exact ⟨D, ⟨es, c, (k.block b hl hb).trans hh, r⟩, r2⟩
theorem MapN.and {n : Nat} (h : MapN P K E w b n f) (k : Kp NoB w w') : MapN P K E w' b n f := h.keep k (fun q => q)
theorem MapN.made (w : World) (P : Program) (K E : TypeId) : MapN P K E (w.alloc (.map #[] 0)) w.heap.size 0 (fun _ => none) :=
  ⟨.map [], World.ownsMap_made w P K (plainElem P E), isMap_empty, fun _ => ⟨rfl, rfl⟩⟩

/-- The function f, turned at k. -/
def upd (f : Int → Option Int) (k v : Int) : Int → Option Int := fun x => if x = k then some v else f x

theorem MapN.step {n : Nat} {t : TypeId} (h : MapN P K E w b n f) (hK : P.underlying K = some (.int .i64)) (hE : P.underlying E = some (.int .i64)) (ht : P.underlying t = some (.map K E)) (hn : n < 1000000)
    {k v : Int} (wk : (Lit.int .i64 k).wf = true) (wv : (Lit.int .i64 v).wf = true) :
    ∃ w', (Instr.mapUpdate t (.map (some b)) (.int .i64 k) (.int .i64 v)).run P w = .ok () w' ∧ MapN P K E w' b (n + 1) (upd f k v) ∧ w.grownBy w' (some b) := by
  obtain ⟨D, hown, hD, hf⟩ := h
  obtain ⟨w', hrun, r1, r2⟩ := hown.update (int_keyed hK) ht (by unfold maxLen; omega) (keyOf_int_mk hK wk) (plainElem_int hE wv)
  refine ⟨w', hrun, ⟨_, r1, hD.put _ _, fun x => ?_⟩, r2⟩
  unfold upd
  by_cases hx : x = k
  · subst hx
    rw [if_pos rfl]
    exact ⟨by rw [has_put_same hD (by trivial)]; rfl, atKey_put_same hD (by trivial) _ _⟩
  · rw [if_neg hx, has_put_other (by intro e; injection e with _ e; exact hx e), atKey_put_other (by intro e; injection e with _ e; exact hx e)]
    exact hf x

/-- A key of a map's literal, met in the walk. -/
theorem wpList_ins {ops : Array Oper} {rest : List Oper} {o : Oper} {a : Act} {Q : Exit → Act → World → Prop} {S : Nat → Prop} {w0 : World} {n : Nat} (hk : Kp S w0 w) (hg : o.guard = none) (m x v : Operand) (t : TypeId) (hop : o.op = Op.insert t m x v)
    (hK : P.underlying K = some (.int .i64)) (hE : P.underlying E = some (.int .i64)) (ht : P.underlying t = some (.map K E)) (h : MapN P K E w b n f) (hn : n < 1000000) (hb : w0.heap.size ≤ b)
    (k c : Int) (hm : a.eval m = .map (some b)) (hx : a.eval x = .int .i64 k) (hv : a.eval v = .int .i64 c) (wk : (Lit.int .i64 k).wf = true) (wv : (Lit.int .i64 c).wf = true)
    (hQ : ∀ w', MapN P K E w' b (n + 1) (upd f k c) → Kp S w0 w' → wpList P ops Q rest (a.put o.dst undef) w') : wpList P ops Q (o :: rest) a w := by
  refine wpList_plain hg fun K' hK' => ?_
  obtain ⟨w', hrun, r1, r2⟩ := h.step hK hE ht hn wk wv
  unfold Oper.wp
  simp [execOp, hop, hm, hx, hv, hrun, Result.andThen]
  exact hK' _ _ (hQ w' r1 (hk.grown r2 (fun b' e => by cases e; exact .inl hb)))

/-- 'v, ok := m[k]', met in the walk. -/
theorem wpList_look {ops : Array Oper} {rest : List Oper} {o : Oper} {a : Act} {Q : Exit → Act → World → Prop} {n : Nat} (hg : o.guard = none) (m x : Operand) (t : TypeId) (hop : o.op = Op.lookup t m x true)
    (hK : P.underlying K = some (.int .i64)) (hE : P.underlying E = some (.int .i64)) (ht : P.underlying t = some (.map K E)) (hz : (zeroValue E).run P w = .ok (.int .i64 0) w) (h : MapN P K E w b n f)
    (k : Int) (hm : a.eval m = .map (some b)) (hx : a.eval x = .int .i64 k) (wk : (Lit.int .i64 k).wf = true)
    (hQ : wpList P ops Q rest (a.put o.dst (.tuple #[.int .i64 ((f k).getD 0), .bool (f k).isSome])) w) : wpList P ops Q (o :: rest) a w := by
  obtain ⟨D, hown, hD, hf⟩ := h
  refine wpList_lookup_own_ok_int w hg m x t hop K E .i64 (int_keyed hK) ht hE hz b n D hm hown _ (.int .i64 k) hx (keyOf_int_mk hK wk) (fun c hc _ => ?_)
  rw [(hf k).2] at hc
  injection hc with hc
  injection hc with _ hc
  rw [← hc, (hf k).1]
  exact hQ
end
end Go.Proofs.YtffdjfnipnmlcaaDoor
