/- For the iterator nlri.first: what a round keeps; loads and stores of rows, look-ups and writes of sets of routes in a fenced walk. No condition. -/
import Derived.Test.YtkkfigdfgagimaaMapR
import Derived.RangeFuncNested
import Derived.RangeFuncBound
import Derived.RangeFuncCalls
import Derived.RangeFuncLeaves
import Derived.Shelf.Abstract
import Derived.Shelf.RegionOpen
import Derived.WalkKit
import Derived.OwnWalkIn
import Derived.TacticsInMore
import Derived.LoopNIn
import Derived.LoopIn
import Derived.Maps.OwnIn
namespace Go.Proofs.Ytkkfigdfgagimaa
open Go.RowKit Go.Shelf
set_option linter.unusedVariables false
set_option linter.unusedSimpArgs false
attribute [local go_sem] Oper.semAt_some

/-- A route within its bounds. -/
def RtB := { x : RtI // x.B }

/-- What a round keeps: whatever is cells or a walk, but for the box B3 and the row that the value in it owns. -/
structure KpU (n₀ B3 : Nat) (W W' : World) : Prop where
  below : Below n₀ W W'
  keep : ∀ (b : Nat) (o : Obj), W.heap[b]? = some o → (o.isCells = true ∨ o.isWalk = true) → b ≠ B3 → (∀ v, W.cell? ⟨B3, 0, none⟩ = some v → v.ownBlock ≠ some b) → W'.heap[b]? = some o
  own : ∀ v', W'.cell? ⟨B3, 0, none⟩ = some v' → ∃ v, W.cell? ⟨B3, 0, none⟩ = some v ∧ ∀ b, v'.ownBlock = some b → v.ownBlock = some b ∨ (W.heap.size ≤ b ∧ b < W'.heap.size)
theorem KpU.refl (n₀ B3 : Nat) (W : World) : KpU n₀ B3 W W := ⟨Below.refl _ _, fun _ _ h _ _ _ => h, fun v h => ⟨v, h, fun b hb => .inl hb⟩⟩
theorem KpU.trans {n₀ B3 : Nat} {A B C : World} (h : KpU n₀ B3 A B) (k : KpU n₀ B3 B C) : KpU n₀ B3 A C := by
  refine ⟨h.below.trans k.below, fun b o hb hc h3 hv => ?_, fun v' hv' => ?_⟩
  · refine k.keep b o (h.keep b o hb hc h3 hv) hc h3 (fun v hv2 e => ?_)
    obtain ⟨v0, h0, h1⟩ := h.own v hv2
    rcases h1 b e with h2 | h2
    · exact hv v0 h0 h2
    · have := (Array.getElem?_eq_some_iff.1 hb).1
      omega
  · obtain ⟨v1, h1, h2⟩ := k.own v' hv'
    obtain ⟨v0, h3, h4⟩ := h.own v1 h1
    refine ⟨v0, h3, fun b hb => ?_⟩
    have s1 := h.below.size
    have s2 := k.below.size
    rcases h2 b hb with h5 | h5
    · rcases h4 b h5 with h6 | h6
      · exact .inl h6
      · exact .inr ⟨h6.1, by omega⟩
    · exact .inr ⟨by omega, h5.2⟩
theorem kpU_b {n₀ B3 : Nat} {w : World} (hn : n₀ ≤ w.heap.size) (h3 : B3 < w.heap.size) (W : World) (l : Nat) (o o' : Obj) (hl : w.heap.size ≤ l) (h : W.heap[l]? = some o) (hc : o.isCells = false) (hw : o.isWalk = false) : KpU n₀ B3 W (W.putObj l o') := by
  refine ⟨belowK_b hn W l o o' hl h hc hw, fun b o2 hb hc2 _ _ => ?_, fun v' hv' => ⟨v', ?_, fun b hb => .inl hb⟩⟩
  · by_cases hbl : b = l
    · subst hbl
      rw [h] at hb
      injection hb with hb
      subst hb
      rcases hc2 with h1 | h1
      · rw [hc] at h1; cases h1
      · rw [hw] at h1; cases h1
    · exact (World.putObj_heap_other hbl).trans hb
  · have hne : B3 ≠ l := by omega
    have he := World.putObj_heap_other (w := W) (o := o') hne
    rw [← hv']
    unfold World.cell?
    rw [he]

section
variable {F : Fence} {n : Nat} {P : Program} {w : World}
/-- A whole row is read, in a fenced walk. -/
theorem wpListIn_load_at {ops : Array Oper} {rest : List Oper} {op : Oper} {a : Act} {Q : Exit → Act → World → Prop} (hw : Region.wanted op (yielded ops a.tmps) = true) (ty : TypeId) (x : Operand) (ho : op.op = .load ty x)
    (p : Addr) (hx : a.eval x = .pointer (some p)) (cs : List Value) (d : TypeDesc) (hc : CellsAt w p cs)
    (hu : P.underlying ty = some d) (hd : d.isRow = true) (hi : (P.info? ty).map (·.size) = some cs.length)
    (h : wpListIn F n P ops Q rest (a.put op.dst (.agg cs.toArray)) w) : wpListIn F n P ops Q (op :: rest) a w :=
  wpListIn_step fun K hK => by
    rw [if_pos hw]
    have hr : (Instr.loadAt ty (.pointer (some p))).run P w = .ok (.agg cs.toArray) w := by simp only [Instr.loadAt, Instr.sureAddr, Sem.run_bind, Sem.run_pure, Result.andThen_ok, run_loadVar_at w p ty cs d hc hu hd hi]
    unfold Oper.wpIn
    refine ⟨by simp [Oper.about, ho], ?_⟩
    rw [Oper.semAt_plain F _ _ (by rw [ho]; intro c hc'; cases hc')]
    simp [execOp, ho, hx, hr, Result.andThen]
    exact hK _ _ h
/-- A whole row is stored into the block that was just made, in a fenced walk. -/
theorem wpListIn_store_new {ops : Array Oper} {rest : List Oper} {o : Oper} {a : Act} {Q : Exit → Act → World → Prop} (hgd : o.guard = none) (ty : TypeId) (x y : Operand) (ho : o.op = .store ty x y)
    (z cells : Array Value) (hx : a.eval x = .pointer (some ⟨w.heap.size, 0, none⟩)) (hy : a.eval y = .agg cells)
    (t : TypeId) (hi : (P.info? ty).map (·.size) = some cells.size)
    (hold : z.size = cells.size) (h1 : cells.all (·.oneCell') = true)
    (h : wpListIn F n P ops Q rest (a.put o.dst undef) (w.alloc (.cells cells t))) : wpListIn F n P ops Q (o :: rest) a (w.alloc (.cells z t)) :=
  wpListIn_plain hgd fun K hK => by
    have hr : (Instr.storeAt ty (.pointer (some ⟨w.heap.size, 0, none⟩)) (.agg cells)).run P (w.alloc (.cells z t)) = .ok () (w.alloc (.cells cells t)) := by
      have := run_storeVar_row (P := P) (w.alloc (.cells z t)) w.heap.size t ty z cells (heap_alloc_last w _) hi hold h1
      simp only [Instr.storeAt, Instr.sureAddr, Sem.run_bind, Sem.run_pure, Result.andThen_ok, this]
      rw [World.setRow_alloc_new]
    unfold Oper.wpIn
    refine ⟨by simp [Oper.about, ho], ?_⟩
    rw [Oper.semAt_plain F _ _ (by rw [ho]; intro c hc'; cases hc')]
    simp [execOp, ho, hx, hy, hr, Result.andThen]
    exact hK _ _ h
/-- 'm[x]' at a set of routes. -/
theorem wpListIn_look {ops : Array Oper} {rest : List Oper} {o : Oper} {a : Act} {Q : Exit → Act → World → Prop} {b m : Nat} {us : List RtI} (hg : o.guard = none) (mm x : Operand) (hop : o.op = Op.lookup 80 mm x false)
    (h : SetR w b m us) (y : RtI) (hy : y.B) (hm : a.eval mm = .map (some b)) (rs : List Value) (hrs : rtC y = rs) (hx : a.eval x = .agg rs.toArray) (v : Bool) (hv : decide (y ∈ us) = v)
    (hQ : wpListIn F n Try.prog ops Q rest (a.put o.dst (.bool v)) w) : wpListIn F n Try.prog ops Q (o :: rest) a w := by
  refine wpListIn_plain hg fun K' hK' => ?_
  subst hrs hv
  have hrun := h.look hy
  unfold RtI.val at hrun
  unfold Oper.wpIn
  refine ⟨by simp [Oper.about, hop], ?_⟩
  rw [Oper.semAt_plain F _ _ (by rw [hop]; intro c hc'; cases hc')]
  simp [execOp, hop, hm, hx, hrun, Result.andThen]
  exact hK' _ _ hQ
/-- 'm[x] = true' at a set of routes. -/
theorem wpListIn_upd {ops : Array Oper} {rest : List Oper} {o : Oper} {a : Act} {Q : Exit → Act → World → Prop} {b m : Nat} {us : List RtI} (hg : o.guard = none) (mm x : Operand) (v : Operand) (hop : o.op = Op.mapUpdate 80 mm x v)
    (h : SetR w b m us) (hmn : m < 1000000) (y : RtI) (hy : y.B) (hm : a.eval mm = .map (some b)) (rs : List Value) (hrs : rtC y = rs) (hx : a.eval x = .agg rs.toArray) (hv : a.eval v = .bool true)
    (hQ : ∀ w', SetR w' b (m + 1) (us ++ [y]) → w.grownBy w' (some b) → wpListIn F n Try.prog ops Q rest (a.put o.dst undef) w') : wpListIn F n Try.prog ops Q (o :: rest) a w := by
  refine wpListIn_plain hg fun K' hK' => ?_
  subst hrs
  obtain ⟨w', hrun, r1, r2⟩ := h.step hmn hy
  unfold RtI.val at hrun
  unfold Oper.wpIn
  refine ⟨by simp [Oper.about, hop], ?_⟩
  rw [Oper.semAt_plain F _ _ (by rw [hop]; intro c hc'; cases hc')]
  simp [execOp, hop, hm, hx, hv, hrun, Result.andThen]
  exact hK' _ _ (hQ w' r1 r2)
end

end Go.Proofs.Ytkkfigdfgagimaa
