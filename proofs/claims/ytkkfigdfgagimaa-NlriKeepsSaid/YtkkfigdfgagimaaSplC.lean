/- nlri.Split: what it keeps in memory. No condition. -/
import Derived.Test.YtkkfigdfgagimaaSplB
import Derived.Test.YtkkfigdfgagimaaNlE
import Derived.Deep.RegionHeld3
namespace Go.Proofs.Ytkkfigdfgagimaa
open Go.RowKit
set_option linter.unusedVariables false
set_option linter.unusedSimpArgs false

section
variable {P : Program}
theorem run_storeVar_one (w : World) (b o : Nat) (ty : TypeId) (v : Value) (hv : v.cells = #[v]) (hi : (P.info? ty).map (·.size) = some 1) (hc : (w.cell? ⟨b, o, none⟩).isSome = true) (hf : w.frozen? ⟨b, o, none⟩ = false) (h1 : v.oneCell' = true) :
    (storeVar ty ⟨b, o, none⟩ v).run P w = .ok () (w.setCell ⟨b, o, none⟩ v) := by
  have := run_storeCells_cells (P := P) b o [v] 0 w (fun j hj => by simp at hj; subst hj; simpa using hc) (fun j hj => by simp at hj; subst hj; simpa using hf) (fun u hu => by simp at hu; subst hu; exact h1)
  cases hq : P.info? ty with
  | none => simp [hq] at hi
  | some i =>
    have hs : i.size = 1 := by simp [hq] at hi; omega
    simp only [Nat.add_zero] at this
    simp [storeVar, sizeOf, typeInfo, hq, hv, hs, this]
    rfl
theorem wp_store_one {op : Oper} {a : Act} {w : World} {K : Act → World → Prop} {Q : Exit → Act → World → Prop} (ty : TypeId) (x y : Operand) (ho : op.op = .store ty x y)
    (b o : Nat) (v : Value) (hx : a.eval x = .pointer (some ⟨b, o, none⟩)) (hy : a.eval y = v) (hv : v.cells = #[v]) (hi : (P.info? ty).map (·.size) = some 1) (hc : (w.cell? ⟨b, o, none⟩).isSome = true) (hf : w.frozen? ⟨b, o, none⟩ = false) (h1 : v.oneCell' = true)
    (h : K (a.put op.dst undef) (w.setCell ⟨b, o, none⟩ v)) : op.wp P a w K Q := by
  unfold Oper.wp execOp
  simp only [ho, hx, hy, Instr.storeAt, Instr.sureAddr, Sem.run_bind, Sem.run_pure, Result.andThen_ok, run_storeVar_one w b o ty v hv hi hc hf h1]
  exact h
end

/-- All lists so far, in memory. -/
structure PA (w wr : World) (gs : List (List RtI)) (A : Option Addr) (gl c : Nat) (cs : List Value) : Prop where
  hgl : gs.length = gl
  own : wr.ownsRow w.heap.size 22 1 (.slice A gl c) gl cs
  gl : GL wr w.heap.size wr.heap.size gs cs
  kp : Kp NoB w wr
/-- The same, the last list told apart. -/
structure RP (w wr : World) (lim : Nat) (out : List (List RtI)) (now : List RtI) (A : Option Addr) (ol c : Nat) (B : Option Addr) (nl d : Nat) (cs : List Value) : Prop where
  hol : out.length = ol
  hnl : now.length = nl
  own : wr.ownsRow w.heap.size 22 1 (.slice A (ol + 1) c) (ol + 1) (cs ++ [.slice B nl d])
  gl : GL wr w.heap.size lim out cs
  nw : wr.ownsRow lim 31 19 (.slice B nl d) nl (flatE rtC now)
  lo : w.heap.size ≤ lim
  hi : lim ≤ wr.heap.size
  kp : Kp NoB w wr
section
variable {w wr w2 w3 : World} {lim : Nat} {gs out : List (List RtI)} {now : List RtI} {A B : Option Addr} {gl ol c nl d : Nat} {cs : List Value}
theorem PA.zero (k : Kp NoB w wr) : PA w wr [] none 0 0 [] := ⟨rfl, World.ownsRow_nil _ _ _ _, GL.nil _ _ _, k⟩
theorem PA.and (h : PA w wr gs A gl c cs) (k : Kp NoB wr w2) : PA w w2 gs A gl c cs := ⟨h.hgl, k.own h.own (fun _ _ q => q), (h.gl.and k).up k.size, h.kp.and k⟩
theorem PA.alloc (h : PA w wr gs A gl c cs) (o : Obj) : PA w (wr.alloc o) gs A gl c cs := h.and ((Kp.refl _ _).alloc o)
theorem RP.and (h : RP w wr lim out now A ol c B nl d cs) (k : Kp NoB wr w2) : RP w w2 lim out now A ol c B nl d cs :=
  ⟨h.hol, h.hnl, k.own h.own (fun _ _ q => q), h.gl.and k, k.own h.nw (fun _ _ q => q), h.lo, Nat.le_trans h.hi k.size, h.kp.and k⟩
theorem RP.alloc (h : RP w wr lim out now A ol c B nl d cs) (o : Obj) : RP w (wr.alloc o) lim out now A ol c B nl d cs := h.and ((Kp.refl _ _).alloc o)
theorem RP.drew (h : RP w wr lim out now A ol c B nl d cs) : RP w wr.drew lim out now A ol c B nl d cs := h.and ((Kp.refl _ _).drew)
theorem RP.pa (h : RP w wr lim out now A ol c B nl d cs) : PA w wr (out ++ [now]) A (ol + 1) c (cs ++ [.slice B nl d]) :=
  ⟨by simp [h.hol], h.own, (h.gl.up h.hi).snoc h.hnl.symm (own_down h.nw h.lo) (fun b hb => (h.nw.lt b hb).2), h.kp⟩
theorem PA.push (h : PA w wr gs A gl c cs) {A3 : Option Addr} {c3 : Nat} (hg : wr.grownBy w3 (Value.slice A gl c).ownBlock)
    (ho : w3.ownsRow w.heap.size 22 1 (.slice A3 (gl + 1) c3) (gl + 1) (cs ++ [.slice none 0 0])) : RP w w3 w3.heap.size gs [] A3 gl c3 none 0 0 cs := by
  have hk := Kp.of_grown hg
  exact ⟨h.hgl, rfl, ho, (h.gl.keep hk (fun v n xs q _ => own_two q h.own ne_rt)).up hk.size, World.ownsRow_nil _ _ _ _, Nat.le_trans h.kp.size hk.size, Nat.le_refl _, h.kp.grown hg (fun b hb => .inl (own_base h.own b hb))⟩
theorem RP.cell (h : RP w wr lim out now A ol c B nl d cs) : ∃ g, A = some ⟨g, 0, none⟩ ∧ wr.cell? ⟨g, ol, none⟩ = some (.slice B nl d) ∧ wr.frozen? ⟨g, ol, none⟩ = false := by
  obtain ⟨g, e, h1, h2, h3, h4⟩ := own_at h.own (by omega)
  refine ⟨g, e, h3 ol _ ?_, h4 ol⟩
  have := h.gl.1
  rw [List.getElem?_append_right (by rw [this, h.hol]; exact Nat.le_refl _), this, h.hol]
  simp
/-- The out row keeps lying where it lies while the last list grows. -/
theorem RP.own3 (h : RP w wr lim out now A ol c B nl d cs) (hg : wr.grownBy w3 (Value.slice B nl d).ownBlock) : w3.ownsRow w.heap.size 22 1 (.slice A (ol + 1) c) (ol + 1) (cs ++ [.slice B nl d]) :=
  (Kp.of_grown hg).own h.own (own_two h.own h.nw ne_rt.symm)
theorem RP.cell3 {g : Nat} (h : RP w wr lim out now (some ⟨g, 0, none⟩) ol c B nl d cs) (hg : wr.grownBy w3 (Value.slice B nl d).ownBlock) : (w3.cell? ⟨g, ol, none⟩).isSome = true ∧ w3.frozen? ⟨g, ol, none⟩ = false := by
  obtain ⟨g', e, h1, h2, h3, h4⟩ := own_at (h.own3 hg) (by omega)
  injection e with e
  injection e with e _ _
  subst e
  refine ⟨?_, h4 ol⟩
  rw [h3 ol (.slice B nl d) ?_]
  · rfl
  · have := h.gl.1
    rw [List.getElem?_append_right (by rw [this, h.hol]; exact Nat.le_refl _), this, h.hol]
    simp
theorem RP.put {g : Nat} (h : RP w wr lim out now (some ⟨g, 0, none⟩) ol c B nl d cs) {B3 : Option Addr} {d3 : Nat} {x : RtI} (hg : wr.grownBy w3 (Value.slice B nl d).ownBlock)
    (ho : w3.ownsRow lim 31 19 (.slice B3 (nl + 1) d3) (nl + 1) (flatE rtC now ++ rtC x)) : RP w (w3.setCell ⟨g, ol, none⟩ (.slice B3 (nl + 1) d3)) lim out (now ++ [x]) (some ⟨g, 0, none⟩) ol c B3 (nl + 1) d3 cs := by
  have hk := Kp.of_grown hg
  have h3 := h.own3 hg
  have hgb : w.heap.size ≤ g := own_base h.own g rfl
  have k4 : Kp (fun b => some b = (Value.slice (some ⟨g, 0, none⟩) (ol + 1) c).ownBlock) w3 (w3.setCell ⟨g, ol, none⟩ (.slice B3 (nl + 1) d3)) := Kp.setCell (S := fun b => some b = (Value.slice (some ⟨g, 0, none⟩) (ol + 1) c).ownBlock) (Kp.refl _ _) (p := ⟨g, ol, none⟩) (fun _ => rfl) _
  have hkp : Kp NoB w w3 := h.kp.grown hg (fun b hb => .inl (Nat.le_trans h.lo (own_base h.nw b hb)))
  have gl3 := h.gl.keep hk (fun v n xs q hl b hb hq => by
    have h1 := hl b hb
    have h2 := own_base h.nw b hq.symm
    omega)
  refine ⟨h.hol, by simp [h.hnl], ?_, gl3.keep k4 (fun v n xs q _ => own_two q h3 ne_rt), ?_, h.lo, Nat.le_trans h.hi (Nat.le_trans hk.size k4.size), hkp.setCell (p := ⟨g, ol, none⟩) (fun q => by have h9 : g < w.heap.size := q; omega) _⟩
  · have h4 := own_set h3 ol (.slice B3 (nl + 1) d3)
    rw [List.set_append_right _ _ (by rw [h.gl.1, h.hol]; exact Nat.le_refl _), h.gl.1, h.hol] at h4
    simpa using h4
  · rw [flatE_snoc]
    exact k4.own ho (own_two ho h3 ne_rt)
theorem PA.bk (h : PA w wr gs A gl c cs) {b : Nat} {rs : Array Value} (hb : Bk wr b 31 rs) : ¬ some b = (Value.slice A gl c).ownBlock := own_bk h.own hb ne_rt
theorem RP.bk {g : Nat} (h : RP w wr lim out now (some ⟨g, 0, none⟩) ol c B nl d cs) {b : Nat} {rs : Array Value} (hb : Bk wr b 31 rs) : b ≠ g := fun e => own_bk h.own hb ne_rt (by rw [e]; rfl)
end

end Go.Proofs.Ytkkfigdfgagimaa
