/- Package finding: clone and Fold. No condition but the bounds that arguments have. -/
import Derived.Test.YtknaogpkakdcoaaDoorFinF
import Derived.Test.YtknaogpkakdcoaaDoorClone
namespace Go.Proofs.YtknaogpkakdcoaaDoor
open Go.RowKit
set_option linter.unusedVariables false
set_option linter.unusedSimpArgs false

/-- A verdict, its data elsewhere. -/
def VerM (w : World) (z : ArgV) (e : Ending) (w' : World) : Prop := ∃ A m, e = .returned ({ z with A := A, m := m } : ArgV).val ∧ Arr w' A (bs z.d) ∧ (∀ ad, A = some ad → w.heap.size < ad.block) ∧ Kp NoB w w'

set_option maxRecDepth 100000 in
set_option maxHeartbeats 1600000 in
theorem fclone_any (z : ArgV) (w : World) (ha : Arr w z.A (bs z.d)) (hl : z.d.length ≤ 140737488355328) :
    Calls Tryd.prog 36 #[z.val] w (VerM w z) := by
  obtain ⟨k, c, s, d, A, m, a⟩ := z
  have hk0 := ((Kp.refl NoB w).alloc (.cells #[.int .i64 k, .int .i64 c, .int .i64 s, .slice A d.length m, .int .i64 a] 24)).alloc (.cells zeroZ.cs.toArray 24)
  have HC := Lib.hid (clone_any A m d _ hl (ha.and hk0))
  have HV := Lib.hid ((Bk.fresh w 24 #[.int .i64 k, .int .i64 c, .int .i64 s, .slice A d.length m, .int .i64 a]).alloc (.cells zeroZ.cs.toArray 24))
  have HR := Lib.hid (Bk.second w (.cells #[.int .i64 k, .int .i64 c, .int .i64 s, .slice A d.length m, .int .i64 a] 24) 24 zeroZ.cs.toArray)
  have HK := Lib.hid hk0
  unfold Cloned at HC
  have HF := Lib.hid (fun (A' : Option Addr) (m' : Nat) (w' : World) (h : Arr w' A' (bs d)) (o : ∀ ad, A' = some ad → w.heap.size < ad.block) (q : Kp NoB w w') => (show VerM w ⟨k, c, s, d, A, m, a⟩ (.returned (.agg #[.int .i64 k, .int .i64 c, .int .i64 s, .slice A' d.length m', .int .i64 a])) w' from ⟨A', m', rfl, h, o, q⟩))
  unfold ArgV.val
  simp only
  simp only at ha
  obtain ⟨n, hn⟩ : ∃ n, d.length = n := ⟨_, rfl⟩
  rw [hn] at HC HV HR HK HF ⊢
  clear ha hl hn hk0
  go_enter Tryd.func36, Tryd.ntmps36
  go_wp2_with (go_at_call 47; (refine Calls.mono HC.out ?_); rintro e w1 ⟨A', m', rfl, hown, hK⟩; have hk1 := Lib.hid (HK.out.and hK); have hv1 := Lib.hid (HV.out.and hK); have hr1 := Lib.hid (HR.out.and hK); have hA := Lib.hid (Arr.of_own hown); have ho := Lib.hid hown; obtain ⟨x0, x1, x2, x3, x4⟩ := hv1.out.five; obtain ⟨y0, y1, y2, y3, y4⟩ := hr1.out.five; have e3 := hv1.out.frozen 3; have f0 := hr1.out.frozen 0; have f1 := hr1.out.frozen 1; have f2 := hr1.out.frozen 2; have f3 := hr1.out.frozen 3; have f4 := hr1.out.frozen 4; have hlt : w.heap.size + 1 < w1.heap.size := hr1.out.lt; have hlt0 : w.heap.size < w1.heap.size := hv1.out.lt; clear hK hown)
  have hk2 := kp5 (hk1.out.setCell (p := ⟨w.heap.size, 3, none⟩) (fun q => absurd q (by simp)) (.slice A' n m')) (Nat.le_succ w.heap.size) (.int .i64 k) (.int .i64 c) (.int .i64 s) (.slice A' n m') (.int .i64 a)
  have hr2 := set5 (hr1.out.far (p := ⟨w.heap.size, 3, none⟩) (Nat.ne_of_gt (Nat.lt_succ_self _)) (.slice A' n m')) (.int .i64 k) (.int .i64 c) (.int .i64 s) (.slice A' n m') (.int .i64 a)
  have hA2 : Arr _ A' (bs d) := hA.out.keep (S := fun b => b = w.heap.size ∨ b = w.heap.size + 1) (((((((Kp.refl _ w1).setCell (p := ⟨w.heap.size, 3, none⟩) (fun _ => .inl rfl) (.slice A' n m')).setCell (p := ⟨w.heap.size + 1, 0, none⟩) (fun _ => .inr rfl) (.int .i64 k)).setCell (p := ⟨w.heap.size + 1, 1, none⟩) (fun _ => .inr rfl) (.int .i64 c)).setCell (p := ⟨w.heap.size + 1, 2, none⟩) (fun _ => .inr rfl) (.int .i64 s)).setCell (p := ⟨w.heap.size + 1, 3, none⟩) (fun _ => .inr rfl) (.slice A' n m')).setCell (p := ⟨w.heap.size + 1, 4, none⟩) (fun _ => .inr rfl) (.int .i64 a)) (fun ad e => by
    subst e
    have h2 := (own_base ho.out ad.block rfl)
    simp only [World.size_alloc] at h2
    show ¬ (ad.block = w.heap.size ∨ ad.block = w.heap.size + 1)
    omega)
  refine bodyPost_ret (v := .agg #[.int .i64 k, .int .i64 c, .int .i64 s, .slice A' n m', .int .i64 a]) (results_cell_row (fn := Tryd.f36) rfl _ _ (w.heap.size + 1) 24 _ (0, 0) _ rfl hr2 Tryd.underlying24 rfl (by kernel_rfl)) rfl (HF.out _ _ _ hA2 (fun ad e => by
    subst e
    have h2 := (own_base ho.out ad.block rfl)
    simp only [World.size_alloc] at h2
    omega) hk2)

set_option maxRecDepth 100000 in
set_option maxHeartbeats 1600000 in
theorem ffold_any (A : Option Addr) (c : Nat) (zs : List ArgV) (w : World) (h : VsL w A zs) (hn : zs.length ≤ 1000) (hd : ∀ z ∈ zs, Arr w z.A (bs z.d) ∧ z.d.length ≤ 1000) :
    Calls Tryd.prog 18 #[.slice A zs.length c] w (VerM w (foldZ zs)) := by
  by_cases h0 : zs.length = 0
  · have hz : zs = [] := List.eq_nil_of_length_eq_zero h0
    subst hz
    have HZ := Lib.hid (Bk.fresh w 24 zeroZ.cs.toArray)
    obtain ⟨x0, x1, x2, x3, x4⟩ := HZ.out.five
    have f0 := HZ.out.frozen 0
    have f1 := HZ.out.frozen 1
    have f2 := HZ.out.frozen 2
    have f3 := HZ.out.frozen 3
    have f4 := HZ.out.frozen 4
    rw [h0]
    clear h hd
    go_enter Tryd.func18, Tryd.ntmps18
    go_wp2
    refine bodyPost_ret (v := zeroZ.val) (results_cell_row (fn := Tryd.f18) rfl _ _ w.heap.size 24 zeroZ.cs.toArray (0, 0) _ rfl HZ.out Tryd.underlying24 rfl (by kernel_rfl)) rfl ⟨none, 0, rfl, Arr.nil _ _, (fun ad e => nomatch e), (Kp.refl _ _).alloc _⟩
  · have hk0 := (Kp.refl NoB w).alloc (.cells zeroZ.cs.toArray 24)
    have HM := Lib.hid (minFunc_any A c zs _ (h.and hk0) (by omega) hn)
    have hmem := foldZ_mem zs (by rintro rfl; exact h0 rfl)
    have hdz := hd _ hmem
    obtain ⟨z, hz⟩ : ∃ z, foldZ zs = z := ⟨_, rfl⟩
    rw [hz] at HM hdz ⊢
    have HC := Lib.hid (fun W (q : Kp NoB w W) => fclone_any z W (hdz.1.and q) (by omega))
    have HZ := Lib.hid (Bk.fresh w 24 zeroZ.cs.toArray)
    have HK := Lib.hid hk0
    obtain ⟨n, hnn⟩ : ∃ n, zs.length = n := ⟨_, rfl⟩
    rw [hnn] at HM h0 ⊢
    have h0' : ¬ (n : Int) = 0 := by omega
    unfold VerM at HC ⊢
    unfold ArgV.val at HM HC ⊢
    simp only at HC
    clear h hd hk0 hmem hdz hz hnn h0
    go_enter Tryd.func18, Tryd.ntmps18
    go_wp2_with (first
      | (go_at_call 37; (refine Calls.mono HM.out ?_); rintro e w1 ⟨rfl, hK⟩; have hk1 := Lib.hid (HK.out.and hK); have hz1 := Lib.hid (HZ.out.and hK); clear hK)
      | (go_at_call 36; (with_reducible refine Calls.mono (HC.out _ hk1.out) ?_); rintro e w2 ⟨A', m', rfl, hA, hO, hK⟩; have hOO : ∀ ad, A' = some ad → w.heap.size < ad.block := (fun ad e => Nat.lt_trans hz1.out.lt (hO ad e)); clear hO; have hk2 := Lib.hid (hk1.out.and hK); have hz2 := Lib.hid (hz1.out.and hK); have hA2 := Lib.hid hA; obtain ⟨x0, x1, x2, x3, x4⟩ := hz2.out.five; have f0 := hz2.out.frozen 0; have f1 := hz2.out.frozen 1; have f2 := hz2.out.frozen 2; have f3 := hz2.out.frozen 3; have f4 := hz2.out.frozen 4; clear hK hA))
    have hk3 := kp5 hk2.out (Nat.le_refl _) (.int .i64 z.k) (.int .i64 z.c) (.int .i64 z.s) (.slice A' z.d.length m') (.int .i64 z.a)
    have hz3 := set5 hz2.out (.int .i64 z.k) (.int .i64 z.c) (.int .i64 z.s) (.slice A' z.d.length m') (.int .i64 z.a)
    have hA3 := hA2.out.keep (S := fun b => b = w.heap.size) ((((((Kp.refl (fun b => b = w.heap.size) w2).setCell (p := ⟨w.heap.size, 0, none⟩) (fun _ => rfl) (.int .i64 z.k)).setCell (p := ⟨w.heap.size, 1, none⟩) (fun _ => rfl) (.int .i64 z.c)).setCell (p := ⟨w.heap.size, 2, none⟩) (fun _ => rfl) (.int .i64 z.s)).setCell (p := ⟨w.heap.size, 3, none⟩) (fun _ => rfl) (.slice A' z.d.length m')).setCell (p := ⟨w.heap.size, 4, none⟩) (fun _ => rfl) (.int .i64 z.a)) (fun ad e => Nat.ne_of_gt (hOO ad e))
    refine bodyPost_ret (v := .agg #[.int .i64 z.k, .int .i64 z.c, .int .i64 z.s, .slice A' z.d.length m', .int .i64 z.a]) (results_cell_row (fn := Tryd.f18) rfl _ _ w.heap.size 24 _ (0, 0) _ rfl hz3 Tryd.underlying24 rfl (by kernel_rfl)) rfl ⟨A', m', rfl, hA3, hOO, hk3⟩

end Go.Proofs.YtknaogpkakdcoaaDoor
