/- nlri.Unique: its contract. -/
import Derived.Test.YtkkfigdfgagimaaUniC
import Derived.Test.YtkkfigdfgagimaaSplB
namespace Go.Proofs.Ytkkfigdfgagimaa
open Go.RowKit Go.Shelf
set_option linter.unusedVariables false
set_option linter.unusedSimpArgs false
attribute [local go_sem] Oper.semAt_some

section
variable {F : Fence} {nF : Nat} {P : Program} {w : World}
theorem wpListIn_build_row {ops : Array Oper} {rest : List Oper} {o : Oper} {a : Act} {Q : Exit → Act → World → Prop} (hgd : o.guard = none) (t : TypeId) (x : Operand) (ho : o.op = .buildSlice t 1 #[(0, x)])
    (cs : List Value) (hx : a.eval x = .agg cs.toArray) (e : TypeId) (i : TypeInfo) (z : Value) (sz : Nat) (ht : P.underlying t = some (.slice e)) (hi : P.info? e = some i) (hz : i.zero = some z) (hs : i.size = sz)
    (hzs : z.cells.size = sz) (h0 : 0 < sz) (hc : cs.length = sz) (hn : sz ≤ 16777216)
    (h : wpListIn F nF P ops Q rest (a.put o.dst (.slice (some ⟨w.heap.size, 0, none⟩) 1 1)) (w.alloc (.cells cs.toArray e))) : wpListIn F nF P ops Q (o :: rest) a w :=
  wpListIn_plain hgd fun K hK => by
    have hr := run_buildSlice_rows (P := P) w t e i z sz [cs] ht hi hz hs hzs h0 (by simpa using hc) (by simpa using hn) (by simp)
    have he : (#[(0, x)].map (fun (p : Nat × Operand) => (p.1, a.eval p.2))) = (([cs].zipIdx.map (fun x => (x.2, Value.agg x.1.toArray))).toArray) := by simp [hx]
    simp only [List.flatten_cons, List.flatten_nil, List.append_nil, List.length_cons, List.length_nil, Nat.zero_add] at hr
    unfold Oper.wpIn
    refine ⟨by simp [Oper.about, ho], ?_⟩
    rw [Oper.semAt_plain F _ _ (by rw [ho]; intro c hc'; cases hc')]
    unfold execOp
    simp only [ho]
    rw [he]
    simp only [Sem.run_bind, hr, Result.andThen_ok, Sem.run_pure]
    exact hK _ _ h
theorem wpListIn_appb {ops : Array Oper} {rest : List Oper} {o : Oper} {a : Act} {Q : Exit → Act → World → Prop} (base : Nat) (hbase : base ≤ w.heap.size) (hgd : o.guard = none) (s x : Operand) (t : TypeId)
    (ho : o.op = .call { callee := .builtin .append, args := #[s, x], argTypes := #[t, t] })
    (e : TypeId) (i : TypeInfo) (z : Value) (size bytes : Nat) (ht : P.underlying t = some (.slice e)) (hi : P.info? e = some i) (hz : i.zero = some z)
    (hsize : i.size = size) (hby : i.bytes = bytes) (hzs : z.cells.size = size) (hsz : 0 < size)
    (v : Value) (n : Nat) (xs : List Value) (hs : a.eval s = v) (hown : w.ownsRow base e size v n xs)
    (A : Option Addr) (m c : Nat) (news : List Value) (hx : a.eval x = .slice A m c) (hl : news.length = m * size) (ha : Arr w A news) (h1 : ∀ u ∈ news, u.oneCell' = true)
    (hbytes : (n + m) * bytes ≤ 140737488355328) (hby0 : 0 < bytes) (N : Nat) (hN : N = n + m)
    (h : ∀ A' c' w', w'.ownsRow base e size (.slice A' N c') N (xs ++ news) → w.grownBy w' v.ownBlock → ((Value.slice A' N c').ownBlock = v.ownBlock ∨ (Value.slice A' N c').ownBlock = some w.heap.size) →
      wpListIn F nF P ops Q rest (a.put o.dst (.slice A' N c')) w') : wpListIn F nF P ops Q (o :: rest) a w := by
  subst hN
  refine wpListIn_plain hgd fun K hK => ?_
  have h63 : n + m ≤ maxLen := by
    have := Nat.le_mul_of_pos_right (n + m) hby0
    unfold maxLen
    omega
  obtain ⟨v', w', hr, h2, h3, h4⟩ := run_app (P := P) (w := w) base t o.type e i z size bytes ht hi hz hsize hby hzs hsz v n xs hown A m c news hl ha h1 h63 hbytes hbase
  obtain ⟨A', c', rfl, _, _, _⟩ := own_form h2
  unfold Oper.wpIn
  refine ⟨by simp [Oper.about, ho, resolve, Target.leads], ?_⟩
  rw [Oper.semAt_plain F _ _ (by rw [ho]; intro c hc'; cases hc')]
  unfold execOp
  simp only [ho, resolve, invoke, builtin, Sem.run_bind, Sem.run_pure, Result.andThen_ok, List.map_toArray, List.map_cons, List.map_nil, hs, hx, hr]
  exact hK _ _ (h A' c' w' h2 h3 h4)
end

theorem KpU.alloc {n₀ B3 : Nat} {W : World} (hn : n₀ ≤ W.heap.size) (h3 : B3 < W.heap.size) (o : Obj) : KpU n₀ B3 W (W.alloc o) := by
  have hb := (Below.refl W.heap.size W).alloc (Nat.le_refl _) o
  refine ⟨(Below.refl _ _).alloc hn o, fun b o2 hb2 _ _ _ => (Below.heap_alloc W o b (Array.getElem?_eq_some_iff.1 hb2).1).trans hb2, fun v' hv' => ⟨v', ?_, fun b hb => .inl hb⟩⟩
  rw [← hv']
  exact (hb.cell (p := ⟨B3, 0, none⟩) h3).symm

/-- The box of out, and the row in it. -/
def OutI (n₀ B3 : Nat) (pre : List RtB) (W : World) : Prop := ∃ v, Boxed W B3 22 v ∧ W.ownsRow n₀ 31 19 v pre.length (flatE rtC (pre.map (·.1)))
theorem outI_own (n₀ B3 : Nat) : Own (OutI n₀ B3) := fun s X Y row ⟨v, hb, ho⟩ hg hr => by
  refine ⟨v, hb.kept hg (fun e' => by obtain ⟨o, h1, h2⟩ := hr B3 e'.symm; rw [show X.heap[B3]? = _ from hb] at h1; cases h1; cases h2), ho.kept hg ?_⟩
  rcases ho.2 with ⟨rfl, _⟩ | ⟨g, cap, cur, rfl, _, hh, _⟩
  · exact .inl rfl
  · refine .inr (fun e => ?_)
    obtain ⟨o, h1, h2⟩ := hr g e.symm
    rw [hh] at h1
    cases h1
    cases h2
/-- A round's write. -/
theorem outI_put {n₀ B3 : Nat} {W w1 : World} {pre : List RtB} {x : RtB} {v : Value} {o : Obj} {A' : Option Addr} {c' : Nat} (hn : n₀ ≤ W.heap.size) (h3 : n₀ ≤ B3) (hb : Boxed W B3 22 v) (ho : W.ownsRow n₀ 31 19 v pre.length (flatE rtC (pre.map (·.1))))
    (hown : w1.ownsRow n₀ 31 19 (.slice A' (pre.length + 1) c') (pre.length + 1) (flatE rtC (pre.map (·.1)) ++ rtC x.1)) (hg : (W.alloc o).grownBy w1 v.ownBlock)
    (hat : (Value.slice A' (pre.length + 1) c').ownBlock = v.ownBlock ∨ (Value.slice A' (pre.length + 1) c').ownBlock = some (W.alloc o).heap.size) :
    KeepsOthers W (w1.setCell ⟨B3, 0, none⟩ (.slice A' (pre.length + 1) c')) ∧ KpU n₀ B3 W (w1.setCell ⟨B3, 0, none⟩ (.slice A' (pre.length + 1) c')) ∧ OutI n₀ B3 (pre ++ [x]) (w1.setCell ⟨B3, 0, none⟩ (.slice A' (pre.length + 1) c')) := by
  obtain ⟨q1, q2, q3, q4, q5⟩ := Boxed.appended (tmp := o) hb (Ne.symm ne_rt) ho hn h3 hown hg
  have hs : w1.heap.size = (w1.setCell ⟨B3, 0, none⟩ (.slice A' (pre.length + 1) c')).heap.size := by simp [World.setCell]
  refine ⟨q4, ⟨q5, fun b o2 hb2 _ hne hv => ?_, fun v' hv' => ⟨v, hb.cell, fun b hbb => ?_⟩⟩, ⟨_, q2, by simpa [flatE] using q3⟩⟩
  · have hlt := (Array.getElem?_eq_some_iff.1 hb2).1
    have e1 := (Below.heap_alloc W o b hlt).trans hb2
    have e2 := (hg.block b (by simp; omega) (fun e => hv v hb.cell e.symm)).trans e1
    exact (Below.heap_setCell w1 ⟨B3, 0, none⟩ _ b hne).trans e2
  · rw [q2.cell] at hv'
    injection hv' with hv'
    subst hv'
    rcases hat with h1 | h1
    · exact .inl (by rw [← h1]; exact hbb)
    · refine .inr ?_
      rw [h1] at hbb
      injection hbb with hbb
      subst hbb
      refine ⟨by simp, ?_⟩
      rw [← hs]
      exact (hown.lt _ h1).2

end Go.Proofs.Ytkkfigdfgagimaa
