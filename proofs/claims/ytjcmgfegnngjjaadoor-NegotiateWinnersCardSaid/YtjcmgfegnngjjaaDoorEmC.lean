/- capability.Has, Mode and Family where there are no capabilities: contracts. No condition. Printed by tools/emc.py. -/
import Derived.Test.YtjcmgfegnngjjaaDoorSysB
import Derived.Maps.OwnIn
import Derived.Maps.OwnSet
import Derived.Maps.Views
namespace Go.Proofs.YtjcmgfegnngjjaaDoor
open Go.RowKit Go.Shelf Go.Maps
set_option linter.unusedVariables false
set_option linter.unusedSimpArgs false
attribute [local go_sem] Oper.semAt_some

/-- An empty map of ints. -/
def Map0 (w : World) (E : TypeId) (b : Nat) : Prop := w.ownsMap Tryd.prog 3 (plainElem (H := Unit) Tryd.prog E) b 0 (.map [])
theorem Map0.lt {w : World} {E : TypeId} {b : Nat} (h : Map0 w E b) : b < w.heap.size := by
  obtain ⟨es, c, hb, _⟩ := h
  exact (Array.getElem?_eq_some_iff.1 hb).1
theorem Map0.and {w w' : World} {E : TypeId} {b : Nat} (h : Map0 w E b) (k : Kp NoB w w') : Map0 w' E b := by
  have hl := h.lt
  obtain ⟨es, c, hh, r⟩ := h
  exact ⟨es, c, (k.block b hl (fun q => q)).trans hh, r⟩
theorem Map0.made (w : World) (E : TypeId) : Map0 (w.alloc (.map #[] 0)) E w.heap.size := World.ownsMap_made w Tryd.prog 3 (plainElem Tryd.prog E)

section
variable {F : Fence} {nF : Nat} {w : World} {ops : Array Oper} {rest : List Oper} {o : Oper} {a : Act} {Q : Exit → Act → World → Prop} {b : Nat}
theorem wpListIn_look0 {E : TypeId} {q : IntKind} (hg : o.guard = none) (m x : Operand) (t : TypeId) (hop : o.op = Op.lookup t m x false) (ht : Tryd.prog.underlying t = some (.map 3 E)) (he : Tryd.prog.underlying E = some (.int q)) (hz : (zeroValue E).run Tryd.prog w = .ok (.int q 0) w)
    (h : Map0 w E b) (hm : a.eval m = .map (some b)) (k : Int) (hx : a.eval x = .int .i64 k) (wk : (Lit.int .i64 k).wf = true) (hQ : wpListIn F nF Tryd.prog ops Q rest (a.put o.dst (.int q 0)) w) : wpListIn F nF Tryd.prog ops Q (o :: rest) a w := by
  refine wpListIn_lookup_own_int w hg m x t hop 3 E q (int_keyed Tryd.underlying3) ht he hz b 0 (.map []) hm h _ (.int .i64 k) hx (keyOf_int_mk Tryd.underlying3 wk) (fun c hc _ => ?_)
  have hc' : (DataW.lit (.int q 0) : DataW Unit) = .lit (.int q c) := hc
  injection hc' with hc'
  injection hc' with _ hc'
  rw [← hc']
  exact hQ
theorem wpListIn_look0b {E : TypeId} (hg : o.guard = none) (m x : Operand) (t : TypeId) (hop : o.op = Op.lookup t m x false) (ht : Tryd.prog.underlying t = some (.map 3 E)) (he : Tryd.prog.underlying E = some .bool) (hz : (zeroValue E).run Tryd.prog w = .ok (.bool false) w)
    (h : Map0 w E b) (hm : a.eval m = .map (some b)) (k : Int) (hx : a.eval x = .int .i64 k) (wk : (Lit.int .i64 k).wf = true) (hQ : wpListIn F nF Tryd.prog ops Q rest (a.put o.dst (.bool false)) w) : wpListIn F nF Tryd.prog ops Q (o :: rest) a w := by
  refine wpListIn_plain hg fun K' hK' => ?_
  obtain ⟨v, ps, hrun, hR⟩ := World.ownsMap.lookup h (int_keyed Tryd.underlying3) ht hz (plainElem_bool he false) (keyOf_int_mk Tryd.underlying3 wk)
  have hv : v = .bool false := by
    have hR' : plainElem (H := Unit) Tryd.prog E v = some (.lit (.bool false), ps) := hR
    unfold plainElem at hR'
    rw [he] at hR'
    cases v <;> simp at hR'
    rw [hR'.1]
  rw [hv] at hrun
  unfold Oper.wpIn
  refine ⟨by simp [Oper.about, hop], ?_⟩
  rw [Oper.semAt_plain F _ _ (by rw [hop]; intro c hc'; cases hc')]
  simp [execOp, hop, hm, hx, hrun, Result.andThen]
  exact hK' _ _ hQ
theorem wpListIn_del0 {E : TypeId} (hg : o.guard = none) (m x : Operand) (t : TypeId) (hop : o.op = Op.call { callee := Callee.builtin Builtin.delete, args := #[m, x], argTypes := #[t, 3] }) (ht : Tryd.prog.underlying t = some (.map 3 E))
    (h : Map0 w E b) (hm : a.eval m = .map (some b)) (k : Int) (hx : a.eval x = .int .i64 k) (wk : (Lit.int .i64 k).wf = true) (hQ : ∀ w', Map0 w' E b → w.grownBy w' (some b) → wpListIn F nF Tryd.prog ops Q rest (a.put o.dst (.tuple #[])) w') : wpListIn F nF Tryd.prog ops Q (o :: rest) a w :=
  wpListIn_delete_own w hg m x t 3 hop E (int_keyed Tryd.underlying3) ht (plainElem Tryd.prog E) b 0 (.map []) hm h _ (.int .i64 k) hx (keyOf_int_mk Tryd.underlying3 wk) (fun w' h1 h2 => hQ w' h1 h2.grown)
end

set_option maxRecDepth 100000 in
set_option maxHeartbeats 4000000 in
theorem has0 (k n : Int) (wk : (Lit.int .i64 k).wf = true) (w : World) : Calls Tryd.prog 62 #[.int .i64 k, .int .i64 n, .slice none 0 0] w (Stay (.bool false) w) := by
  refine (callsIn_wide (n := 4)).1 ?_
  refine callsIn_of_wp_marks Tryd.func62 rfl trivial ?_ rfl
  simp only [Tryd.ntmps62, List.size_toArray, List.length_cons, List.length_nil, Nat.reduceAdd, Nat.reduceSub, Array.replicate_succ, Array.replicate_zero, List.push_toArray, List.append_toArray, List.nil_append, List.cons_append]
  gi_wp2_with (refine ⟨trivial, ?_⟩; gi_at_call 64; refine (callsIn_wide.2 (with_any k none 0 0 _)).mono ?_; rintro e w' ⟨rfl, rfl⟩)
  obtain ⟨W0, hW0⟩ : ∃ W0, (((w.alloc (.cells #[.int .i64 n] 3)).alloc (.cells #[.bool false] 4)).alloc (.cells #[.int .i64 k] 3)).alloc (.cells #[.slice none 0 0] 28) = W0 := ⟨_, rfl⟩
  have hB0 : Below w.heap.size w W0 := by
    rw [← hW0]
    exact ((((Below.refl _ w).alloc (Nat.le_refl _) _).alloc (by simp) _).alloc (by simp; omega) _).alloc (by simp; omega) _
  have hsz : W0.heap.size = w.heap.size + 1 + 1 + 1 + 1 := by rw [← hW0]; simp
  have d1 : Bk W0 (w.heap.size + 1) 4 #[.bool false] := by
    rw [← hW0]
    exact ((Bk.second w _ 4 #[.bool false]).alloc _).alloc _
  have d2 : Bk W0 (w.heap.size + 1 + 1) 3 #[.int .i64 k] := by
    rw [← hW0]
    exact (Bk.third w _ _ 3 #[.int .i64 k]).alloc _
  have d3 : Bk W0 (w.heap.size + 1 + 1 + 1) 28 #[.slice none 0 0] := by
    rw [← hW0]
    have := Bk.fresh (((w.alloc (.cells #[.int .i64 n] 3)).alloc (.cells #[.bool false] 4)).alloc (.cells #[.int .i64 k] 3)) 28 #[.slice none 0 0]
    rwa [show (((w.alloc (.cells #[.int .i64 n] 3)).alloc (.cells #[.bool false] 4)).alloc (.cells #[.int .i64 k] 3)).heap.size = w.heap.size + 1 + 1 + 1 by simp] at this
  rw [hW0]
  clear hW0
  have HS := fun l J Jx W => with1_in W0 3 (by decide) l (w.heap.size + 1 + 1 + 1) (w.heap.size + 1 + 1) k none 0 [] [] (CapL.nil W0) (Arr.nil _ _) (by decide) J Jx W
  refine wpIn_rangeFunc_ownF rfl (by decide) (gf := 71) (lb := #[.pointer (some ⟨w.heap.size + 1 + 1 + 1, 0, none⟩), .pointer (some ⟨w.heap.size + 1 + 1, 0, none⟩)]) rfl trivial (enters_of Tryd.func71 (by kernel_rfl) rfl)
    (encs := fun x : CapV W0 => #[x.val]) (Kp := KpC W0.heap.size (w.heap.size + 1 + 1)) (S := fun ys => ys.map CapV.x = withC k []) (Sp := fun pre => pre.map CapV.x <+: withC k []) (N := 0)
    (fun l J Jx W hW hJ hJx hY h0 => HS l J Jx W hW hJ hY ((hW.cell (p := ⟨w.heap.size + 1 + 1 + 1, 0, none⟩) (show w.heap.size + 1 + 1 + 1 < W0.heap.size by omega)).trans (d3.cell 0)) ((hW.cell (p := ⟨w.heap.size + 1 + 1, 0, none⟩) (show w.heap.size + 1 + 1 < W0.heap.size by omega)).trans (d2.cell 0)) h0)
    KpC.trans (kpC_b (Nat.le_refl _)) (Below.refl _ _) (fun _ => rfl)
    (fun pre W => Below W0.heap.size W0 W)
    (fun c pre W => False)
    (ownFrom_below (Nat.le_refl _) (Nat.le_refl _))
    (fun c => fun _ _ _ _ hs _ _ => hs)
    (Below.refl _ _)
    (fun x => { tmps := #[.int .i64 k, .int .i64 n, .slice none 0 0, undef, .pointer (some ⟨w.heap.size, 0, none⟩), undef, .pointer (some ⟨w.heap.size + 1, 0, none⟩), x.val, .int .i64 k, .slice none 0 0, .func (.func 71) #[] #[.pointer (some ⟨w.heap.size + 1 + 1 + 1, 0, none⟩), .pointer (some ⟨w.heap.size + 1 + 1, 0, none⟩)], x.val, undef, undef, undef, undef], defers := [] }) ?assign ?body ?done ?stop
  case assign =>
    intro l x W K hK
    gi_wp2
    exact hK
  case body =>
    rintro l pre x W hI hlt
    exact absurd hlt (Nat.not_lt_zero _)
  case stop =>
    rintro D c pre W hD hpre hI hK
    exact hI.elim
  case done =>
    rintro D ys W hD hS hI hK
    have kk := Kp.of_below hI
    obtain ⟨q1, q2, q3⟩ := (d1.and kk).one
    have hK' := (KeepsOthers.setCell W ⟨w.heap.size + 1, 0, none⟩ (.bool false)).same D _ hK rfl
    have g1 : (W.setCell ⟨w.heap.size + 1, 0, none⟩ (.bool false)).cell? ⟨w.heap.size + 1, 0, none⟩ = some (.bool false) := World.cell?_setCell_same' _ _ _ (by rw [q1]; rfl)
    gi_wp2
    refine ⟨by simp, .inl ⟨_, _, rfl, run_takeDeferred hK', ?_⟩⟩
    replace g1 := cell_kept g1 (grownBy_putObj' _ D (.deferred none)) (fun r e => by cases e; exact ⟨_, hK', rfl⟩)
    refine ⟨.bool false, ?_, rfl, Kp.of_below (((hB0.trans (hI.mono hB0.size)).setCell (p := ⟨w.heap.size + 1, 0, none⟩) (by simp) _).trans (belowK_b (w := w) (Nat.le_refl _) _ D _ _ (by omega) hK' rfl rfl))⟩
    simp [results, Tryd.f62, go_sem, g1]

set_option maxRecDepth 100000 in
set_option maxHeartbeats 4000000 in
theorem mode0 (k : Int) (wk : (Lit.int .i64 k).wf = true) (w : World) : Calls Tryd.prog 53 #[.int .i64 k, .slice none 0 0] w (Stay (.int .i64 0) w) := by
  refine (callsIn_wide (n := 4)).1 ?_
  refine callsIn_of_wp_marks Tryd.func53 rfl trivial ?_ rfl
  simp only [Tryd.ntmps53, List.size_toArray, List.length_cons, List.length_nil, Nat.reduceAdd, Nat.reduceSub, Array.replicate_succ, Array.replicate_zero, List.push_toArray, List.append_toArray, List.nil_append, List.cons_append]
  have hmm := @run_makeMap Tryd.prog
  gi_wp2_with (refine ⟨trivial, ?_⟩; gi_at_call 64; refine (callsIn_wide.2 (with_any 69 none 0 0 _)).mono ?_; rintro e w' ⟨rfl, rfl⟩)
  obtain ⟨W0, hW0⟩ : ∃ W0, (((w.alloc (.map #[] 0)).alloc (.cells #[.map (some w.heap.size)] 112)).alloc (.cells #[.int .i64 69] 3)).alloc (.cells #[.slice none 0 0] 28) = W0 := ⟨_, rfl⟩
  have hB0 : Below w.heap.size w W0 := by
    rw [← hW0]
    exact ((((Below.refl _ w).alloc (Nat.le_refl _) _).alloc (by simp) _).alloc (by simp; omega) _).alloc (by simp; omega) _
  have hsz : W0.heap.size = w.heap.size + 1 + 1 + 1 + 1 := by rw [← hW0]; simp
  have d1 : Bk W0 (w.heap.size + 1) 112 #[.map (some w.heap.size)] := by
    rw [← hW0]
    exact ((Bk.second w _ 112 #[.map (some w.heap.size)]).alloc _).alloc _
  have dm : Map0 W0 3 w.heap.size := by
    rw [← hW0]
    exact (Map0.made w 3).and ((((Kp.refl NoB _).alloc _).alloc _).alloc _)
  have d2 : Bk W0 (w.heap.size + 1 + 1) 3 #[.int .i64 69] := by
    rw [← hW0]
    exact (Bk.third w _ _ 3 #[.int .i64 69]).alloc _
  have d3 : Bk W0 (w.heap.size + 1 + 1 + 1) 28 #[.slice none 0 0] := by
    rw [← hW0]
    have := Bk.fresh (((w.alloc (.map #[] 0)).alloc (.cells #[.map (some w.heap.size)] 112)).alloc (.cells #[.int .i64 69] 3)) 28 #[.slice none 0 0]
    rwa [show (((w.alloc (.map #[] 0)).alloc (.cells #[.map (some w.heap.size)] 112)).alloc (.cells #[.int .i64 69] 3)).heap.size = w.heap.size + 1 + 1 + 1 by simp] at this
  rw [hW0]
  clear hW0
  have HS := fun l J Jx W => with1_in W0 3 (by decide) l (w.heap.size + 1 + 1 + 1) (w.heap.size + 1 + 1) 69 none 0 [] [] (CapL.nil W0) (Arr.nil _ _) (by decide) J Jx W
  refine wpIn_rangeFunc_ownF rfl (by decide) (gf := 71) (lb := #[.pointer (some ⟨w.heap.size + 1 + 1 + 1, 0, none⟩), .pointer (some ⟨w.heap.size + 1 + 1, 0, none⟩)]) rfl trivial (enters_of Tryd.func71 (by kernel_rfl) rfl)
    (encs := fun x : CapV W0 => #[x.val]) (Kp := KpC W0.heap.size (w.heap.size + 1 + 1)) (S := fun ys => ys.map CapV.x = withC 69 []) (Sp := fun pre => pre.map CapV.x <+: withC 69 []) (N := 0)
    (fun l J Jx W hW hJ hJx hY h0 => HS l J Jx W hW hJ hY ((hW.cell (p := ⟨w.heap.size + 1 + 1 + 1, 0, none⟩) (show w.heap.size + 1 + 1 + 1 < W0.heap.size by omega)).trans (d3.cell 0)) ((hW.cell (p := ⟨w.heap.size + 1 + 1, 0, none⟩) (show w.heap.size + 1 + 1 < W0.heap.size by omega)).trans (d2.cell 0)) h0)
    KpC.trans (kpC_b (Nat.le_refl _)) (Below.refl _ _) (fun _ => rfl)
    (fun pre W => Below W0.heap.size W0 W)
    (fun c pre W => False)
    (ownFrom_below (Nat.le_refl _) (Nat.le_refl _))
    (fun c => fun _ _ _ _ hs _ _ => hs)
    (Below.refl _ _)
    (fun x => { tmps := #[.int .i64 k, .slice none 0 0, undef, undef, .int .i64 0, .pointer (some ⟨w.heap.size + 1, 0, none⟩), x.val, undef, .map (some w.heap.size), .slice none 0 0, .func (.func 71) #[] #[.pointer (some ⟨w.heap.size + 1 + 1 + 1, 0, none⟩), .pointer (some ⟨w.heap.size + 1 + 1, 0, none⟩)], x.val, undef, undef, undef, undef, undef, undef, undef, undef, undef, undef, undef, undef, undef, undef, undef, undef, undef, undef, undef, undef, undef, undef, undef, undef, undef, undef, undef, undef, undef, undef, undef, undef], defers := [] }) ?assign ?body ?done ?stop
  case assign =>
    intro l x W K hK
    gi_wp2
    exact hK
  case body =>
    rintro l pre x W hI hlt
    exact absurd hlt (Nat.not_lt_zero _)
  case stop =>
    rintro D c pre W hD hpre hI hK
    exact hI.elim
  case done =>
    rintro D ys W hD hS hI hK
    have kk := Kp.of_below hI
    obtain ⟨q1, q2, q3⟩ := (d1.and kk).one
    have m1 := dm.and kk
    have hz : ∀ W, (zeroValue 3).run Tryd.prog W = .ok (.int .i64 0) W := fun W => by kernel_rfl
    gi_wp2_with (first
      | (refine wpListIn_del0 rfl _ _ 112 rfl Tryd.underlying112 m1 rfl 0 rfl (by decide) ?_; intro w1 m2 hg1; have b1 := (d1.and kk).keep (Kp.of_grown hg1) (fun e => by have h := Option.some.inj e; omega); obtain ⟨r1, r2, r3⟩ := b1.one)
      | (refine wpListIn_look0 rfl _ _ 112 rfl Tryd.underlying112 Tryd.underlying3 (hz _) m2 rfl k rfl wk ?_))
    have hne : some D ≠ some w.heap.size := fun e => by cases e; omega
    have hK' := (hg1.block D (Array.getElem?_eq_some_iff.1 hK).1 hne).trans hK
    refine ⟨by simp, .inl ⟨_, _, rfl, run_takeDeferred hK', ?_⟩⟩
    exact ⟨_, results_tmp rfl _ _ _, rfl, Kp.of_below (((hB0.trans (hI.mono hB0.size)).grown hg1 (Nat.le_trans hB0.size hI.size) (fun j e => by cases e; exact Nat.le_refl _)).trans (belowK_b (w := w) (Nat.le_refl _) _ D _ _ (by omega) hK' rfl rfl))⟩

set_option maxRecDepth 100000 in
set_option maxHeartbeats 4000000 in
theorem family0 (k : Int) (wk : (Lit.int .i64 k).wf = true) (w : World) : Calls Tryd.prog 63 #[.int .i64 k, .slice none 0 0] w (Stay (.bool false) w) := by
  refine (callsIn_wide (n := 4)).1 ?_
  refine callsIn_of_wp_marks Tryd.func63 rfl trivial ?_ rfl
  simp only [Tryd.ntmps63, List.size_toArray, List.length_cons, List.length_nil, Nat.reduceAdd, Nat.reduceSub, Array.replicate_succ, Array.replicate_zero, List.push_toArray, List.append_toArray, List.nil_append, List.cons_append]
  have hmm := @run_makeMap Tryd.prog
  gi_wp2_with (refine ⟨trivial, ?_⟩; gi_at_call 64; refine (callsIn_wide.2 (with_any 1 none 0 0 _)).mono ?_; rintro e w' ⟨rfl, rfl⟩)
  obtain ⟨W0, hW0⟩ : ∃ W0, (((w.alloc (.map #[] 0)).alloc (.cells #[.map (some w.heap.size)] 122)).alloc (.cells #[.int .i64 1] 3)).alloc (.cells #[.slice none 0 0] 28) = W0 := ⟨_, rfl⟩
  have hB0 : Below w.heap.size w W0 := by
    rw [← hW0]
    exact ((((Below.refl _ w).alloc (Nat.le_refl _) _).alloc (by simp) _).alloc (by simp; omega) _).alloc (by simp; omega) _
  have hsz : W0.heap.size = w.heap.size + 1 + 1 + 1 + 1 := by rw [← hW0]; simp
  have d1 : Bk W0 (w.heap.size + 1) 122 #[.map (some w.heap.size)] := by
    rw [← hW0]
    exact ((Bk.second w _ 122 #[.map (some w.heap.size)]).alloc _).alloc _
  have dm : Map0 W0 4 w.heap.size := by
    rw [← hW0]
    exact (Map0.made w 4).and ((((Kp.refl NoB _).alloc _).alloc _).alloc _)
  have d2 : Bk W0 (w.heap.size + 1 + 1) 3 #[.int .i64 1] := by
    rw [← hW0]
    exact (Bk.third w _ _ 3 #[.int .i64 1]).alloc _
  have d3 : Bk W0 (w.heap.size + 1 + 1 + 1) 28 #[.slice none 0 0] := by
    rw [← hW0]
    have := Bk.fresh (((w.alloc (.map #[] 0)).alloc (.cells #[.map (some w.heap.size)] 122)).alloc (.cells #[.int .i64 1] 3)) 28 #[.slice none 0 0]
    rwa [show (((w.alloc (.map #[] 0)).alloc (.cells #[.map (some w.heap.size)] 122)).alloc (.cells #[.int .i64 1] 3)).heap.size = w.heap.size + 1 + 1 + 1 by simp] at this
  rw [hW0]
  clear hW0
  have HS := fun l J Jx W => with1_in W0 3 (by decide) l (w.heap.size + 1 + 1 + 1) (w.heap.size + 1 + 1) 1 none 0 [] [] (CapL.nil W0) (Arr.nil _ _) (by decide) J Jx W
  refine wpIn_rangeFunc_ownF rfl (by decide) (gf := 71) (lb := #[.pointer (some ⟨w.heap.size + 1 + 1 + 1, 0, none⟩), .pointer (some ⟨w.heap.size + 1 + 1, 0, none⟩)]) rfl trivial (enters_of Tryd.func71 (by kernel_rfl) rfl)
    (encs := fun x : CapV W0 => #[x.val]) (Kp := KpC W0.heap.size (w.heap.size + 1 + 1)) (S := fun ys => ys.map CapV.x = withC 1 []) (Sp := fun pre => pre.map CapV.x <+: withC 1 []) (N := 0)
    (fun l J Jx W hW hJ hJx hY h0 => HS l J Jx W hW hJ hY ((hW.cell (p := ⟨w.heap.size + 1 + 1 + 1, 0, none⟩) (show w.heap.size + 1 + 1 + 1 < W0.heap.size by omega)).trans (d3.cell 0)) ((hW.cell (p := ⟨w.heap.size + 1 + 1, 0, none⟩) (show w.heap.size + 1 + 1 < W0.heap.size by omega)).trans (d2.cell 0)) h0)
    KpC.trans (kpC_b (Nat.le_refl _)) (Below.refl _ _) (fun _ => rfl)
    (fun pre W => Below W0.heap.size W0 W)
    (fun c pre W => False)
    (ownFrom_below (Nat.le_refl _) (Nat.le_refl _))
    (fun c => fun _ _ _ _ hs _ _ => hs)
    (Below.refl _ _)
    (fun x => { tmps := #[.int .i64 k, .slice none 0 0, undef, undef, .bool false, .pointer (some ⟨w.heap.size + 1, 0, none⟩), x.val, .map (some w.heap.size), .slice none 0 0, .func (.func 71) #[] #[.pointer (some ⟨w.heap.size + 1 + 1 + 1, 0, none⟩), .pointer (some ⟨w.heap.size + 1 + 1, 0, none⟩)], x.val, undef, undef, undef, undef, undef, undef, undef, undef, undef, undef, undef, undef, undef, undef], defers := [] }) ?assign ?body ?done ?stop
  case assign =>
    intro l x W K hK
    gi_wp2
    exact hK
  case body =>
    rintro l pre x W hI hlt
    exact absurd hlt (Nat.not_lt_zero _)
  case stop =>
    rintro D c pre W hD hpre hI hK
    exact hI.elim
  case done =>
    rintro D ys W hD hS hI hK
    have kk := Kp.of_below hI
    obtain ⟨q1, q2, q3⟩ := (d1.and kk).one
    have m1 := dm.and kk
    have hz : ∀ W, (zeroValue 4).run Tryd.prog W = .ok (.bool false) W := fun W => by kernel_rfl
    gi_wp2_with (first
      | (refine wpListIn_del0 rfl _ _ 122 rfl Tryd.underlying122 m1 rfl 0 rfl (by decide) ?_; intro w1 m2 hg1; have b1 := (d1.and kk).keep (Kp.of_grown hg1) (fun e => by have h := Option.some.inj e; omega); obtain ⟨r1, r2, r3⟩ := b1.one)
      | (refine wpListIn_look0b rfl _ _ 122 rfl Tryd.underlying122 Tryd.underlying4 (hz _) m2 rfl k rfl wk ?_))
    have hne : some D ≠ some w.heap.size := fun e => by cases e; omega
    have hK' := (hg1.block D (Array.getElem?_eq_some_iff.1 hK).1 hne).trans hK
    refine ⟨by simp, .inl ⟨_, _, rfl, run_takeDeferred hK', ?_⟩⟩
    exact ⟨_, results_tmp rfl _ _ _, rfl, Kp.of_below (((hB0.trans (hI.mono hB0.size)).grown hg1 (Nat.le_trans hB0.size hI.size) (fun j e => by cases e; exact Nat.le_refl _)).trans (belowK_b (w := w) (Nat.le_refl _) _ D _ _ (by omega) hK' rfl rfl))⟩

end Go.Proofs.YtjcmgfegnngjjaaDoor
