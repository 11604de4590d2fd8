/- Verdicts in a row of the call's own, their data apart; a log. No condition. -/
import Derived.Test.YtknaogpkakdcoaaDoorFinJ
namespace Go.Proofs.YtknaogpkakdcoaaDoor
open Go.RowKit
set_option linter.unusedVariables false
set_option linter.unusedSimpArgs false

theorem wp_load_one {P : Program} {op : Oper} {a : Act} {w : World} {K : Act → World → Prop} {Q : Exit → Act → World → Prop} (ty : TypeId) (x : Operand) (ho : op.op = .load ty x)
    (p : Addr) (hx : a.eval x = .pointer (some p)) (v : Value) (hc : w.cell? p = some v) (e : TypeId) (hu : P.underlying ty = some (.slice e)) (hd : True = True)
    (h : K (a.put op.dst v) w) : op.wp P a w K Q := by
  have hagg : (isAgg ty).run P w = .ok false w := by
    unfold isAgg
    rw [Sem.run_bind, run_underlying hu w]
    simp
  unfold Oper.wp execOp
  simp only [ho, hx, Instr.loadAt, Instr.sureAddr, Sem.run_bind, Sem.run_pure, Result.andThen_ok]
  have hl : (loadVar ty p).run P w = .ok v w := by simp [loadVar, Sem.run_bind, hagg, hc]
  rw [hl]
  exact h
section
variable {P : Program}
theorem run_storeVar_one (w : World) (b o : Nat) (ty : TypeId) (v : Value) (hv : v.cells = #[v]) (hi : (P.info? ty).map (·.size) = some 1) (hc : (w.cell? ⟨b, o, none⟩).isSome = true) (hf : w.frozen? ⟨b, o, none⟩ = false) (h1 : v.oneCell' = true) :
    (storeVar ty ⟨b, o, none⟩ v).run P w = .ok () (w.setCell ⟨b, o, none⟩ v) := by
  have := run_storeCells_cells (P := P) b o [v] 0 w (fun j hj => by simp at hj; subst hj; simpa using hc) (fun j hj => by simp at hj; subst hj; simpa using hf) (fun u hu => by simp at hu; subst hu; exact h1)
  cases hq : P.info? ty with
  | none => simp [hq] at hi
  | some i =>
    have hs : i.size = 1 := by simp [hq] at hi; omega
    simp only [Nat.add_zero] at this
    simp [storeVar, sizeOf, typeInfo, hq, hv, hs, this]
    rfl
theorem wp_store_one {op : Oper} {a : Act} {w : World} {K : Act → World → Prop} {Q : Exit → Act → World → Prop} (ty : TypeId) (x y : Operand) (ho : op.op = .store ty x y)
    (b o : Nat) (v : Value) (hx : a.eval x = .pointer (some ⟨b, o, none⟩)) (hy : a.eval y = v) (hv : v.cells = #[v]) (hi : (P.info? ty).map (·.size) = some 1) (hc : (w.cell? ⟨b, o, none⟩).isSome = true) (hf : w.frozen? ⟨b, o, none⟩ = false) (h1 : v.oneCell' = true)
    (h : K (a.put op.dst undef) (w.setCell ⟨b, o, none⟩ v)) : op.wp P a w K Q := by
  unfold Oper.wp execOp
  simp only [ho, hx, hy, Instr.storeAt, Instr.sureAddr, Sem.run_bind, Sem.run_pure, Result.andThen_ok, run_storeVar_one w b o ty v hv hi hc hf h1]
  exact h
theorem wp_appb {w : World} {o : Oper} {a : Act} {K : Act → World → Prop} {Q : Exit → Act → World → Prop} (base : Nat) (hbase : base ≤ w.heap.size) (s x : Operand) (t : TypeId)
    (ho : o.op = .call { callee := .builtin .append, args := #[s, x], argTypes := #[t, t] })
    (e : TypeId) (i : TypeInfo) (z : Value) (size bytes : Nat) (ht : P.underlying t = some (.slice e)) (hi : P.info? e = some i) (hz : i.zero = some z)
    (hsize : i.size = size) (hby : i.bytes = bytes) (hzs : z.cells.size = size) (hsz : 0 < size)
    (v : Value) (n : Nat) (xs : List Value) (hs : a.eval s = v) (hown : w.ownsRow base e size v n xs)
    (A : Option Addr) (m c : Nat) (news : List Value) (hx : a.eval x = .slice A m c) (hl : news.length = m * size) (ha : Arr w A news) (h1 : ∀ u ∈ news, u.oneCell' = true)
    (hbytes : (n + m) * bytes ≤ 140737488355328) (hby0 : 0 < bytes) (N : Nat) (hN : N = n + m)
    (h : ∀ A' c' w', w'.ownsRow base e size (.slice A' N c') N (xs ++ news) → w.grownBy w' v.ownBlock → ((Value.slice A' N c').ownBlock = v.ownBlock ∨ (Value.slice A' N c').ownBlock = some w.heap.size) →
      K (a.put o.dst (.slice A' N c')) w') : o.wp P a w K Q := by
  subst hN
  have h63 : n + m ≤ maxLen := by
    have := Nat.le_mul_of_pos_right (n + m) hby0
    unfold maxLen
    omega
  obtain ⟨v', w', hr, h2, h3, h4⟩ := run_app (P := P) (w := w) base t o.type e i z size bytes ht hi hz hsize hby hzs hsz v n xs hown A m c news hl ha h1 h63 hbytes hbase
  obtain ⟨A', c', rfl, _, _, _⟩ := own_form h2
  unfold Oper.wp execOp
  simp only [ho, resolve, invoke, builtin, Sem.run_bind, Sem.run_pure, Result.andThen_ok, List.map_toArray, List.map_cons, List.map_nil, hs, hx, hr]
  exact h A' c' w' h2 h3 h4
end

/-- Verdicts in a row of the call's own, their data in other blocks of the call's own. -/
structure ZRow (base : Nat) (w : World) (v : Value) (zs : List ArgV) : Prop where
  row : w.ownsRow base 24 5 v zs.length (flatZ zs)
  dat : ∀ z ∈ zs, Arr w z.A (bs z.d) ∧ z.d.length ≤ 1000 ∧ IsB z.d
  far : ∀ z ∈ zs, z.d ≠ [] → ∀ ad, z.A = some ad → base ≤ ad.block ∧ some ad.block ≠ v.ownBlock
/-- The blocks of it. -/
def FZ (v : Value) (zs : List ArgV) (b : Nat) : Prop := some b = v.ownBlock ∨ ∃ z ∈ zs, z.d ≠ [] ∧ ∃ ad, z.A = some ad ∧ ad.block = b
theorem arr_keep {S : Nat → Prop} {w w' : World} {A : Option Addr} {d : List Int} (h : Arr w A (bs d)) (k : Kp S w w') (hs : d ≠ [] → ∀ ad, A = some ad → ¬ S ad.block) : Arr w' A (bs d) := by
  by_cases hd : d = []
  · subst hd
    exact Arr.nil _ _
  · exact h.keep k (hs hd)
theorem arr_lt {w : World} {A : Option Addr} {d : List Int} (h : Arr w A (bs d)) (hd : d ≠ []) : ∀ ad, A = some ad → ad.block < w.heap.size := h.lt (by
  intro q
  have := congrArg List.length q
  rw [bs_length] at this
  exact hd (List.eq_nil_of_length_eq_zero this))
section
variable {base : Nat} {w w' w2 : World} {v : Value} {zs : List ArgV} {S : Nat → Prop}
theorem ZRow.nil (base : Nat) (w : World) : ZRow base w (.slice none 0 0) [] := ⟨World.ownsRow_nil _ _ _ _, (fun z hz => nomatch hz), (fun z hz => nomatch hz)⟩
theorem ZRow.keep (h : ZRow base w v zs) (k : Kp S w w') (hs : ∀ b, S b → ¬ FZ v zs b) : ZRow base w' v zs :=
  ⟨k.own h.row (fun b hb hS => hs b hS (.inl hb.symm)), fun z hz => ⟨arr_keep (h.dat z hz).1 k (fun hd ad e hS => hs _ hS (.inr ⟨z, hz, hd, ad, e, rfl⟩)), (h.dat z hz).2⟩, h.far⟩
theorem ZRow.and (h : ZRow base w v zs) (k : Kp NoB w w') : ZRow base w' v zs := h.keep k (fun b hb => hb.elim)
theorem ZRow.lt (h : ZRow base w v zs) : ∀ b, FZ v zs b → base ≤ b ∧ b < w.heap.size := by
  intro b hb
  rcases hb with hb | ⟨z, hz, hd, ad, e, rfl⟩
  · exact h.row.lt b hb.symm
  · exact ⟨(h.far z hz hd ad e).1, arr_lt (h.dat z hz).1 hd ad e⟩
theorem ZRow.vs {A : Option Addr} {n c : Nat} (h : ZRow base w (.slice A n c) zs) (hn : zs.length = n) : VsL w A zs := by
  subst hn
  exact vsL_of_arr (Arr.of_own h.row)
theorem ZRow.snoc {A' : Option Addr} {n c' : Nat} {z : ArgV} (h : ZRow base w v zs) (hn : zs.length = n) (hg : w.grownBy w2 v.ownBlock) (ho : w2.ownsRow base 24 5 (.slice A' (n + 1) c') (n + 1) (flatZ zs ++ z.cs))
    (hor : (Value.slice A' (n + 1) c').ownBlock = v.ownBlock ∨ (Value.slice A' (n + 1) c').ownBlock = some w.heap.size) (hz : Arr w z.A (bs z.d) ∧ z.d.length ≤ 1000 ∧ IsB z.d) (hf : z.d ≠ [] → ∀ ad, z.A = some ad → base ≤ ad.block ∧ some ad.block ≠ v.ownBlock) :
    ZRow base w2 (.slice A' (n + 1) c') (zs ++ [z]) := by
  have hk := Kp.of_grown hg
  have hdat : ∀ y ∈ zs ++ [z], (Arr w y.A (bs y.d) ∧ y.d.length ≤ 1000 ∧ IsB y.d) ∧ (y.d ≠ [] → ∀ ad, y.A = some ad → base ≤ ad.block ∧ some ad.block ≠ v.ownBlock) := by
    intro y hy
    rcases List.mem_append.1 hy with hy | hy
    · exact ⟨h.dat y hy, h.far y hy⟩
    · rw [List.mem_singleton] at hy
      subst hy
      exact ⟨hz, hf⟩
  refine ⟨?_, fun y hy => ?_, fun y hy hd ad e => ?_⟩
  · rw [List.length_append, hn, show flatZ (zs ++ [z]) = flatZ zs ++ z.cs by simp [flatZ]]
    exact ho
  · exact ⟨arr_keep (hdat y hy).1.1 hk (fun hd ad e => ((hdat y hy).2 hd ad e).2), (hdat y hy).1.2⟩
  · refine ⟨((hdat y hy).2 hd ad e).1, ?_⟩
    rcases hor with q | q
    · rw [q]
      exact ((hdat y hy).2 hd ad e).2
    · rw [q]
      intro e2
      injection e2 with e2
      have := arr_lt (hdat y hy).1.1 hd ad e
      omega
theorem FZ.snoc {A' : Option Addr} {n c' : Nat} {z : ArgV} (hor : (Value.slice A' (n + 1) c').ownBlock = v.ownBlock ∨ (Value.slice A' (n + 1) c').ownBlock = some w.heap.size) {K : Nat} (hK : K ≤ w.heap.size) (hz : z.d ≠ [] → ∀ ad, z.A = some ad → K ≤ ad.block) :
    ∀ b, FZ (.slice A' (n + 1) c') (zs ++ [z]) b → FZ v zs b ∨ K ≤ b := by
  intro b hb
  rcases hb with hb | ⟨y, hy, hd, ad, e, rfl⟩
  · rcases hor with q | q
    · rw [q] at hb
      exact .inl (.inl hb)
    · rw [q] at hb
      injection hb with hb
      exact .inr (by omega)
  · rcases List.mem_append.1 hy with hy | hy
    · exact .inl (.inr ⟨y, hy, hd, ad, e, rfl⟩)
    · rw [List.mem_singleton] at hy
      subst hy
      exact .inr (hz hd ad e)
end

/-- A log in block L. -/
structure LogS (base : Nat) (w : World) (L : Nat) (v : Value) (zs : List ArgV) : Prop where
  bk : Bk w L 60 #[v]
  row : ZRow base w v zs
  sep : ¬ FZ v zs L
  low : base ≤ L
def FL (L : Nat) (v : Value) (zs : List ArgV) (b : Nat) : Prop := b = L ∨ FZ v zs b
section
variable {base L : Nat} {w w' w2 w3 : World} {v : Value} {zs : List ArgV} {S : Nat → Prop}
theorem LogS.keep (h : LogS base w L v zs) (k : Kp S w w') (hs : ∀ b, S b → ¬ FL L v zs b) : LogS base w' L v zs :=
  ⟨h.bk.keep k (fun q => hs L q (.inl rfl)), h.row.keep k (fun b hb q => hs b hb (.inr q)), h.sep, h.low⟩
theorem LogS.and (h : LogS base w L v zs) (k : Kp NoB w w') : LogS base w' L v zs := h.keep k (fun b hb => hb.elim)
theorem LogS.lt (h : LogS base w L v zs) : ∀ b, FL L v zs b → base ≤ b ∧ b < w.heap.size := fun b hb => by
  rcases hb with rfl | hb
  · exact ⟨h.low, h.bk.lt⟩
  · exact h.row.lt b hb
/-- What a change of a log leaves. -/
def LogTo (base : Nat) (w : World) (L : Nat) (v : Value) (zs : List ArgV) (v' : Value) (zs' : List ArgV) (w' : World) : Prop := LogS base w' L v' zs' ∧ Kp (FL L v zs) w w' ∧ ∀ b, FL L v' zs' b → FL L v zs b ∨ w.heap.size ≤ b
theorem LogTo.refl (h : LogS base w L v zs) (k : Kp NoB w w') : LogTo base w L v zs v zs w' := ⟨h.and k, k.wide _, fun b hb => .inl hb⟩
theorem LogTo.trans {v1 v2 : Value} {z1 z2 : List ArgV} (h : LogTo base w L v zs v1 z1 w') (k : LogTo base w' L v1 z1 v2 z2 w2) : LogTo base w L v zs v2 z2 w2 :=
  ⟨k.1, h.2.1.trans k.2.1 (fun b hb q => (h.2.2 b q).elim id (fun q2 => absurd hb (Nat.not_lt.2 q2))), fun b hb => (k.2.2 b hb).elim (fun q => h.2.2 b q) (fun q => .inr (Nat.le_trans h.2.1.size q))⟩
theorem LogTo.and {v1 : Value} {z1 : List ArgV} (h : LogTo base w L v zs v1 z1 w') (k : Kp NoB w' w2) : LogTo base w L v zs v1 z1 w2 := h.trans (LogTo.refl h.1 k)
theorem LogTo.pre {v1 : Value} {z1 : List ArgV} (k : Kp NoB w w') (h0 : LogS base w L v zs) (h : LogTo base w' L v zs v1 z1 w2) : LogTo base w L v zs v1 z1 w2 := (LogTo.refl h0 k).trans h
theorem put_end {A A' : Option Addr} {n c c' : Nat} {z : ArgV} (h0 : LogS base w L (.slice A n c) zs) (hn : zs.length = n) (hbase : base ≤ w.heap.size) (k : Kp NoB w w2) (hg : w2.grownBy w3 (Value.slice A n c).ownBlock)
    (ho : w3.ownsRow base 24 5 (.slice A' (n + 1) c') (n + 1) (flatZ zs ++ z.cs)) (hor : (Value.slice A' (n + 1) c').ownBlock = (Value.slice A n c).ownBlock ∨ (Value.slice A' (n + 1) c').ownBlock = some w2.heap.size)
    (hz : Arr w2 z.A (bs z.d) ∧ z.d.length ≤ 1000 ∧ IsB z.d) (hf : z.d ≠ [] → ∀ ad, z.A = some ad → w.heap.size ≤ ad.block) :
    LogTo base w L (.slice A n c) zs (.slice A' (n + 1) c') (zs ++ [z]) (w3.setCell ⟨L, 0, none⟩ (.slice A' (n + 1) c')) := by
  have h2 := h0.and k
  have hk := Kp.of_grown hg
  have hlt := h0.lt
  have hf2 : z.d ≠ [] → ∀ ad, z.A = some ad → base ≤ ad.block ∧ some ad.block ≠ (Value.slice A n c).ownBlock := fun hd ad e => by
    have h9 := hf hd ad e
    refine ⟨Nat.le_trans hbase h9, fun q => ?_⟩
    have := (hlt _ (.inr (.inl q))).2
    omega
  have h3 := h2.row.snoc hn hg ho hor hz hf2
  have hfz := FZ.snoc (v := .slice A n c) (zs := zs) (z := z) hor k.size hf
  have hsep : ¬ FZ (.slice A' (n + 1) c') (zs ++ [z]) L := fun q => by
    rcases hfz L q with q | q
    · exact h0.sep q
    · have := (hlt L (.inl rfl)).2
      omega
  have hb3 : Bk w3 L 60 #[.slice A n c] := h2.bk.keep hk (fun q => h0.sep (.inl q))
  refine ⟨⟨?_, ?_, hsep, h0.low⟩, ?_, ?_⟩
  · have := hb3.set 0 (.slice A' (n + 1) c')
    simp only [List.setIfInBounds_toArray, List.set_cons_zero] at this
    exact this
  · exact h3.keep ((Kp.refl (fun b => b = L) w3).setCell (p := ⟨L, 0, none⟩) (fun _ => rfl) _) (fun b hb q => by subst hb; exact hsep q)
  · refine Kp.setCell (p := ⟨L, 0, none⟩) ?_ (fun _ => .inl rfl) _
    exact (k.wide _).trans hk (fun b hb q => .inr (.inl q))
  · intro b hb
    rcases hb with rfl | hb
    · exact .inl (.inl rfl)
    · exact (hfz b hb).elim (fun q => .inl (.inr q)) .inr
end

end Go.Proofs.YtknaogpkakdcoaaDoor
