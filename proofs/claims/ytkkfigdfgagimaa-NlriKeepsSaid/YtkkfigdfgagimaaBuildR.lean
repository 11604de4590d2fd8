/- buildSlice of whole rows. No condition. -/
import Derived.Test.YtkkfigdfgagimaaBigR
namespace Go.Proofs.Ytkkfigdfgagimaa
open Go.RowKit
set_option linter.unusedVariables false

theorem fold_splice (off : Nat) : ∀ (cs : List Value) (k : Nat) (X : List Value), off + k + cs.length ≤ X.length →
    (cs.zipIdx k).foldl (fun (Y : Array Value) (x : Value × Nat) => Y.setIfInBounds (off + x.2) x.1) X.toArray = (splice X (off + k) cs).toArray
  | [], k, X, _ => by simp [splice]
  | c :: cs, k, X, h => by
    simp only [List.length_cons] at h
    rw [List.zipIdx_cons, List.foldl_cons, List.setIfInBounds_toArray, fold_splice off cs (k + 1) (X.set (off + k) c) (by simp; omega), show off + (k + 1) = off + k + 1 by omega,
      splice_step X (off + k) c cs (by simp only [List.length_cons]; omega)]

theorem fill_rows (sz : Nat) : ∀ (rows : List (List Value)) (i : Nat) (pre rest : List Value), (∀ cs ∈ rows, cs.length = sz) → pre.length = i * sz → rest.length = rows.length * sz →
    Instr.fill (fun j => some (j * sz, sz)) (pre ++ rest).toArray ((rows.zipIdx i).map (fun x => (x.2, Value.agg x.1.toArray))) = some (pre ++ rows.flatten).toArray
  | [], i, pre, rest, _, _, hr => by
    have : rest = [] := List.eq_nil_of_length_eq_zero (by simpa using hr)
    subst this
    simp [Instr.fill]
  | cs :: rows, i, pre, rest, h, hp, hr => by
    have hc := h cs (by simp)
    simp only [List.length_cons, Nat.succ_mul] at hr
    rw [List.zipIdx_cons, List.map_cons, Instr.fill]
    simp only [Value.cells, List.size_toArray, List.length_append]
    rw [if_neg (by simp; omega)]
    have hz : cs.toArray.zipIdx.foldl (fun (Y : Array Value) (x : Value × Nat) => Y.setIfInBounds (i * sz + x.2) x.1) (pre ++ rest).toArray = (pre ++ (cs ++ rest.drop sz)).toArray := by
      rw [← Array.foldl_toList, Array.toList_zipIdx, fold_splice (i * sz) cs 0 (pre ++ rest) (by simp; omega)]
      congr 1
      unfold splice
      rw [Nat.add_zero, ← hp, List.take_left, List.drop_append, hc]
      rw [show List.drop (pre.length + sz) pre = [] from List.drop_eq_nil_of_le (by omega)]
      rw [show pre.length + sz - pre.length = sz by omega]
      simp
    rw [hz, ← List.append_assoc]
    have := fill_rows sz rows (i + 1) (pre ++ cs) (rest.drop sz) (fun d hd => h d (by simp [hd])) (by simp [hp, hc, Nat.succ_mul]) (by rw [List.length_drop]; omega)
    rw [this]
    simp

theorem run_buildSlice_rows {P : Program} (w : World) (t e : TypeId) (i : TypeInfo) (z : Value) (sz : Nat) (rows : List (List Value)) (ht : P.underlying t = some (.slice e)) (hi : P.info? e = some i) (hz : i.zero = some z) (hs : i.size = sz)
    (hzs : z.cells.size = sz) (h0 : 0 < sz) (hrows : ∀ cs ∈ rows, cs.length = sz) (hn : rows.length * sz ≤ 16777216) (hr : rows ≠ []) :
    (Instr.buildSlice t rows.length (rows.zipIdx.map (fun x => (x.2, Value.agg x.1.toArray))).toArray).run P w = .ok (.slice (some ⟨w.heap.size, 0, none⟩) rows.length rows.length) (w.alloc (.cells rows.flatten.toArray e)) := by
  have hsz : ∀ w' : World, (sizeOf e).run P w' = .ok sz w' := fun w' => by simp [sizeOf, typeInfo, hi, hs]
  have hzv : ∀ w' : World, (zeroValue e).run P w' = .ok z w' := fun w' => by simp [zeroValue, typeInfo, hi, hz]
  have hrow : ∀ (w' : World) (cells : Array Value), (newRow e cells).run P w' = .ok ⟨w'.heap.size, 0, none⟩ (w'.alloc (.cells cells e)) := fun w' cells => by simp [newRow]
  have hl : 0 < rows.length := List.length_pos_iff.2 hr
  have hne : ¬ rows.length * sz = 0 := by have := Nat.mul_pos hl h0; omega
  have hf := fill_rows sz rows 0 [] ((List.range (rows.length * sz)).map (fun j => z.cells[j % sz]!)) hrows (by simp) (by simp)
  simp only [List.nil_append] at hf
  have ha : (Array.range (rows.length * sz)).map (fun j => z.cells[j % z.cells.size]!) = ((List.range (rows.length * sz)).map (fun j => z.cells[j % sz]!)).toArray := by
    rw [hzs]
    apply Array.toList_inj.1
    simp
  unfold Instr.buildSlice
  simp only [Sem.run_bind, run_underlying ht, Result.andThen_ok, hsz, Sem.run_ite, if_neg hne]
  rw [if_neg (by omega)]
  simp only [Sem.run_bind, Sem.run_pure, Result.andThen_ok, hzv, ha, hf, hrow]

/-- One row. -/
theorem wpList_build_row {P : Program} {ops : Array Oper} {rest : List Oper} {o : Oper} {a : Act} {w : World} {Q : Exit → Act → World → Prop} (hgd : o.guard = none) (t : TypeId) (x : Operand) (ho : o.op = .buildSlice t 1 #[(0, x)])
    (cs : List Value) (hx : a.eval x = .agg cs.toArray) (e : TypeId) (i : TypeInfo) (z : Value) (sz : Nat) (ht : P.underlying t = some (.slice e)) (hi : P.info? e = some i) (hz : i.zero = some z) (hs : i.size = sz)
    (hzs : z.cells.size = sz) (h0 : 0 < sz) (hc : cs.length = sz) (hn : sz ≤ 16777216) (g : Nat) (hg : w.heap.size = g)
    (h : wpList P ops Q rest (a.put o.dst (.slice (some ⟨g, 0, none⟩) 1 1)) (w.alloc (.cells cs.toArray e))) : wpList P ops Q (o :: rest) a w :=
  wpList_plain hgd fun K hK => by
    subst hg
    have hr := run_buildSlice_rows (P := P) w t e i z sz [cs] ht hi hz hs hzs h0 (by simpa using hc) (by simpa using hn) (by simp)
    unfold Oper.wp execOp
    simp only [ho]
    have he : (#[(0, x)].map (fun (p : Nat × Operand) => (p.1, a.eval p.2))) = (([cs].zipIdx.map (fun x => (x.2, Value.agg x.1.toArray))).toArray) := by simp [hx]
    simp only [List.flatten_cons, List.flatten_nil, List.append_nil, List.length_cons, List.length_nil, Nat.zero_add] at hr
    rw [he]
    simp only [Sem.run_bind, hr, Result.andThen_ok, Sem.run_pure]
    exact hK _ _ h

end Go.Proofs.Ytkkfigdfgagimaa
