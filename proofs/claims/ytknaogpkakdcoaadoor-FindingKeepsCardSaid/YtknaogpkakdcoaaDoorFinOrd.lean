/- FindingOrders' walk. No condition but the listed tables' content. -/
import Derived.Test.YtknaogpkakdcoaaDoorFinE
import Derived.Test.YtknaogpkakdcoaaDoorFinTexts
namespace Go.Proofs.YtknaogpkakdcoaaDoor
open Go.RowKit
set_option linter.unusedVariables false
set_option linter.unusedSimpArgs false

/-- Three verdicts in three blocks, one behind the other. -/
structure B3 (w0 w : World) (z1 z2 z3 : Array Value) : Prop where
  a : Bk w w0.heap.size 24 z1
  b : Bk w (w0.heap.size + 1) 24 z2
  c : Bk w (w0.heap.size + 1 + 1) 24 z3
theorem B3.and {w0 w w' : World} {z1 z2 z3 : Array Value} (h : B3 w0 w z1 z2 z3) (k : Kp NoB w w') : B3 w0 w' z1 z2 z3 := ⟨h.a.and k, h.b.and k, h.c.and k⟩
theorem B3.drew {w0 w : World} {z1 z2 z3 : Array Value} (h : B3 w0 w z1 z2 z3) : B3 w0 w.drew z1 z2 z3 := ⟨h.a, h.b, h.c⟩
theorem B3.new (w : World) (z1 z2 z3 : Array Value) : B3 w (((w.alloc (.cells z1 24)).alloc (.cells z2 24)).alloc (.cells z3 24)) z1 z2 z3 :=
  ⟨((Bk.fresh w _ _).alloc _).alloc _, (Bk.second w _ _ _).alloc _, Bk.third w _ _ _ _⟩
theorem B3.cells {w0 w : World} {u0 u1 u2 u3 u4 v0 v1 v2 v3 v4 t0 t1 t2 t3 t4 : Value} (h : B3 w0 w #[u0, u1, u2, u3, u4] #[v0, v1, v2, v3, v4] #[t0, t1, t2, t3, t4]) :
    w.cell? ⟨w0.heap.size, 0, none⟩ = some u0 ∧ w.cell? ⟨w0.heap.size, 1, none⟩ = some u1 ∧ w.cell? ⟨w0.heap.size, 2, none⟩ = some u2 ∧ w.cell? ⟨w0.heap.size, 3, none⟩ = some u3 ∧ w.cell? ⟨w0.heap.size, 4, none⟩ = some u4 ∧
    w.cell? ⟨w0.heap.size + 1, 0, none⟩ = some v0 ∧ w.cell? ⟨w0.heap.size + 1, 1, none⟩ = some v1 ∧ w.cell? ⟨w0.heap.size + 1, 2, none⟩ = some v2 ∧ w.cell? ⟨w0.heap.size + 1, 3, none⟩ = some v3 ∧ w.cell? ⟨w0.heap.size + 1, 4, none⟩ = some v4 ∧
    w.cell? ⟨w0.heap.size + 1 + 1, 0, none⟩ = some t0 ∧ w.cell? ⟨w0.heap.size + 1 + 1, 1, none⟩ = some t1 ∧ w.cell? ⟨w0.heap.size + 1 + 1, 2, none⟩ = some t2 ∧ w.cell? ⟨w0.heap.size + 1 + 1, 3, none⟩ = some t3 ∧ w.cell? ⟨w0.heap.size + 1 + 1, 4, none⟩ = some t4 := by
  obtain ⟨p0, p1, p2, p3, p4⟩ := h.a.five
  obtain ⟨q0, q1, q2, q3, q4⟩ := h.b.five
  obtain ⟨r0, r1, r2, r3, r4⟩ := h.c.five
  exact ⟨p0, p1, p2, p3, p4, q0, q1, q2, q3, q4, r0, r1, r2, r3, r4⟩

theorem vs_three {w : World} {b : Nat} {t : TypeId} {z1 z2 z3 : ArgV} {cs : List Value} (h : Bk w b t cs.toArray) (hc : cs = z1.cs ++ (z2.cs ++ z3.cs)) : VsL w (some ⟨b, 0, none⟩) [z1, z2, z3] := fun _ =>
  ⟨_, rfl, fun j x hx => by
    subst hc
    have hj : j < 3 := by have := (List.getElem?_eq_some_iff.1 hx).1; simpa using this
    match j, hj with
    | 0, _ =>
      simp at hx; subst hx
      refine ⟨z1.cs, rfl, rfl, fun i u hu => ?_⟩
      have hi : i < 5 := (List.getElem?_eq_some_iff.1 hu).1
      rw [add_none, h.cell, List.getElem?_toArray, Nat.zero_mul, Nat.zero_add, Nat.zero_add, List.getElem?_append_left (by show i < 5; omega)]
      exact hu
    | 1, _ =>
      simp at hx; subst hx
      refine ⟨z2.cs, rfl, rfl, fun i u hu => ?_⟩
      have hi : i < 5 := (List.getElem?_eq_some_iff.1 hu).1
      rw [add_none, h.cell, List.getElem?_toArray, List.getElem?_append_right (by show 5 ≤ 0 + (1 * 5 + i); omega)]
      rw [show 0 + (1 * 5 + i) - z1.cs.length = i by show 0 + (1 * 5 + i) - 5 = i; omega, List.getElem?_append_left (by show i < 5; omega)]
      exact hu
    | 2, _ =>
      simp at hx; subst hx
      refine ⟨z3.cs, rfl, rfl, fun i u hu => ?_⟩
      have hi : i < 5 := (List.getElem?_eq_some_iff.1 hu).1
      rw [add_none, h.cell, List.getElem?_toArray, List.getElem?_append_right (by show 5 ≤ 0 + (2 * 5 + i); omega)]
      rw [show 0 + (2 * 5 + i) - z1.cs.length = 5 + i by show 0 + (2 * 5 + i) - 5 = 5 + i; omega, List.getElem?_append_right (by show 5 ≤ 5 + i; omega)]
      rw [show 5 + i - z2.cs.length = i by show 5 + i - 5 = i; omega]
      exact hu⟩

theorem bk_fourth (w : World) (o1 o2 o3 : Obj) (t : TypeId) (cs : Array Value) : Bk ((((w.alloc o1).alloc o2).alloc o3).alloc (.cells cs t)) (w.heap.size + 1 + 1 + 1) t cs := by
  have := Bk.third (w.alloc o1) o2 o3 t cs
  rwa [World.size_alloc] at this

set_option maxRecDepth 100000 in
set_option maxHeartbeats 4000000 in
theorem ford_x (k1 c1 s1 : Int) (d1 : List Int) (A1 : Option Addr) (m1 : Nat) (a1 : Int) (k2 c2 s2 : Int) (d2 : List Int) (A2 : Option Addr) (m2 : Nat) (a2 : Int) (k3 c3 s3 : Int) (d3 : List Int) (A3 : Option Addr) (m3 : Nat) (a3 : Int) (w : World) (ld : Ld w) (ha1 : Arr w A1 (bs d1)) (hb1 : IsB d1) (ha2 : Arr w A2 (bs d2)) (hb2 : IsB d2) (hX : worseV k1 a1 k2 a2 = true) (hY : worseV k2 a2 k1 a1 = false) :
    Calls Tryd.prog 4 #[.agg #[.int .i64 k1, .int .i64 c1, .int .i64 s1, .slice A1 d1.length m1, .int .i64 a1], .agg #[.int .i64 k2, .int .i64 c2, .int .i64 s2, .slice A2 d2.length m2, .int .i64 a2], .agg #[.int .i64 k3, .int .i64 c3, .int .i64 s3, .slice A3 d3.length m3, .int .i64 a3]] w fun e w' => e = .returned (.bool true) ∧ Kp NoB w w' := by
  have hZ : worseV k2 a2 k3 a3 = true → worseV k1 a1 k3 a3 = true := by unfold worseV at hX ⊢; simp only [decide_eq_true_eq] at hX ⊢; omega
  have HAL := Lib.hid (fun W (k : Kp NoB w W) => alive_any W (ld.and k))
  have HFW := Lib.hid (fun W A c h => few_any A c [⟨k1, c1, s1, d1, A1, m1, a1⟩, ⟨k2, c2, s2, d2, A2, m2, a2⟩, ⟨k3, c3, s3, d3, A3, m3, a3⟩] W h (by simp [maxLen]))
  have HV3 : Hid (∀ (W : World) (b : Nat) (t : TypeId), Bk W b t #[.int .i64 k1, .int .i64 c1, .int .i64 s1, .slice A1 d1.length m1, .int .i64 a1, .int .i64 k2, .int .i64 c2, .int .i64 s2, .slice A2 d2.length m2, .int .i64 a2, .int .i64 k3, .int .i64 c3, .int .i64 s3, .slice A3 d3.length m3, .int .i64 a3] → VsL W (some ⟨b, 0, none⟩) [⟨k1, c1, s1, d1, A1, m1, a1⟩, ⟨k2, c2, s2, d2, A2, m2, a2⟩, ⟨k3, c3, s3, d3, A3, m3, a3⟩]) := Lib.hid (fun W b t h => vs_three h rfl)
  obtain ⟨FB, hFB⟩ : ∃ f, fewB [⟨k1, c1, s1, d1, A1, m1, a1⟩, ⟨k2, c2, s2, d2, A2, m2, a2⟩, ⟨k3, c3, s3, d3, A3, m3, a3⟩] = f := ⟨_, rfl⟩
  rw [hFB] at HFW
  obtain ⟨L, hL⟩ : ∃ l, [(⟨k1, c1, s1, d1, A1, m1, a1⟩ : ArgV), ⟨k2, c2, s2, d2, A2, m2, a2⟩, ⟨k3, c3, s3, d3, A3, m3, a3⟩] = l := ⟨_, rfl⟩
  have hL3 : L.length = 3 := by rw [← hL]; rfl
  rw [hL, hL3] at HFW
  rw [hL] at HV3
  have HW12 := Lib.hid (fun n n' W => fworse_any k1 c1 s1 A1 n m1 a1 k2 c2 s2 A2 n' m2 a2 W)
  have HW21 := Lib.hid (fun n n' W => fworse_any k2 c2 s2 A2 n m2 a2 k1 c1 s1 A1 n' m1 a1 W)
  have HW11 := Lib.hid (fun n n' W => fworse_any k1 c1 s1 A1 n m1 a1 k1 c1 s1 A1 n' m1 a1 W)
  have HW23 := Lib.hid (fun n n' W => fworse_any k2 c2 s2 A2 n m2 a2 k3 c3 s3 A3 n' m3 a3 W)
  have HW13 := Lib.hid (fun n n' W => fworse_any k1 c1 s1 A1 n m1 a1 k3 c3 s3 A3 n' m3 a3 W)
  have HR12 := Lib.hid (fun n n' W => rworse_any k1 c1 s1 A1 n m1 a1 k2 c2 s2 A2 n' m2 a2 W)
  have HR21 := Lib.hid (fun n n' W => rworse_any k2 c2 s2 A2 n m2 a2 k1 c1 s1 A1 n' m1 a1 W)
  have HS12 := Lib.hid (fun W (q : Kp NoB w W) => fsame_any k1 c1 s1 d1 A1 m1 a1 k2 c2 s2 d2 A2 m2 a2 W (ha1.and q) (ha2.and q) hb1 hb2)
  have HT12 := Lib.hid (fun W (q : Kp NoB w W) => vsame_any k1 c1 s1 d1 A1 m1 a1 k2 c2 s2 d2 A2 m2 a2 W (ha1.and q) (ha2.and q) hb1 hb2)
  have HS11 := Lib.hid (fun W (q : Kp NoB w W) => fsame_any k1 c1 s1 d1 A1 m1 a1 k1 c1 s1 d1 A1 m1 a1 W (ha1.and q) (ha1.and q) hb1 hb1)
  obtain ⟨SM, hSM⟩ : ∃ f, sameV k1 c1 s1 d1 a1 k2 c2 s2 d2 a2 = f := ⟨_, rfl⟩
  rw [hSM] at HS12 HT12
  rw [show sameV k1 c1 s1 d1 a1 k1 c1 s1 d1 a1 = true by simp [sameV]] at HS11
  rw [show worseV k1 a1 k1 a1 = false by simp [worseV]] at HW11
  rw [hX] at HW12 HR12
  rw [hY] at HW21 HR21
  obtain ⟨n1, hn1⟩ : ∃ n, d1.length = n := ⟨_, rfl⟩
  obtain ⟨n2, hn2⟩ : ∃ n, d2.length = n := ⟨_, rfl⟩
  obtain ⟨n3, hn3⟩ : ∃ n, d3.length = n := ⟨_, rfl⟩
  rw [hn1, hn2] at HS12 HT12
  rw [hn1] at HS11
  rw [hn1, hn2, hn3] at HV3 ⊢
  replace HW12 := Lib.hid (HW12.out n1 n2)
  replace HW21 := Lib.hid (HW21.out n2 n1)
  replace HW11 := Lib.hid (HW11.out n1 n1)
  replace HW23 := Lib.hid (HW23.out n2 n3)
  replace HW13 := Lib.hid (HW13.out n1 n3)
  replace HR12 := Lib.hid (HR12.out n1 n2)
  replace HR21 := Lib.hid (HR21.out n2 n1)
  clear ha1 hb1 ha2 hb2 ld hFB hL hL3 hSM hn1 hn2 hn3
  obtain ⟨Z, hZ1⟩ : ∃ z, worseV k2 a2 k3 a3 = z := ⟨_, rfl⟩
  rw [hZ1] at HW23 hZ
  clear hX hY
  cases Z
  · clear hZ hZ1 HW13
    go_enter Tryd.func4, Tryd.ntmps4
    go_wp2_with (first
      | (go_at_call 13; refine Calls.mono (HFW.out _ _ _ (HV3.out _ _ 24 (bk_fourth w _ _ _ _ _))) ?_; rintro e w1 ⟨rfl, hK⟩; have hk1 := Lib.hid ((((((Kp.refl NoB w).alloc _).alloc _).alloc _).alloc _).and hK); have hb1 := Lib.hid (((B3.new w _ _ _).and ((Kp.refl NoB _).alloc _)).and hK); obtain ⟨x0, x1, x2, x3, x4, y0, y1, y2, y3, y4, z0, z1, z2, z3, z4⟩ := hb1.out.cells; clear hK)
      | (go_at_call 8; (with_reducible refine Calls.mono (HAL.out _ hk1.out) ?_); rintro e w20 ⟨rfl, hK⟩; have hk20 := Lib.hid (hk1.out.and hK); clear hK))
    · go_ret
      exact ⟨rfl, hk20.out⟩
    go_region_held3 (fun w' => w'.cell? ⟨w.heap.size, 0, none⟩ = some (.int .i64 k1) ∧ w'.cell? ⟨w.heap.size, 1, none⟩ = some (.int .i64 c1) ∧ w'.cell? ⟨w.heap.size, 2, none⟩ = some (.int .i64 s1) ∧ w'.cell? ⟨w.heap.size, 3, none⟩ = some (.slice A1 n1 m1) ∧ w'.cell? ⟨w.heap.size, 4, none⟩ = some (.int .i64 a1) ∧ w'.cell? ⟨w.heap.size + 1, 0, none⟩ = some (.int .i64 k2) ∧ w'.cell? ⟨w.heap.size + 1, 1, none⟩ = some (.int .i64 c2) ∧ w'.cell? ⟨w.heap.size + 1, 2, none⟩ = some (.int .i64 s2) ∧ w'.cell? ⟨w.heap.size + 1, 3, none⟩ = some (.slice A2 n2 m2) ∧ w'.cell? ⟨w.heap.size + 1, 4, none⟩ = some (.int .i64 a2)) (go_keep)
      (first
        | (go_at_call 14; (with_reducible refine Calls.mono (HW12.out _) ?_); rintro e w2 ⟨rfl, hK⟩; have hk2 := Lib.hid (hk1.out.drew.and hK); have hb2 := Lib.hid (hb1.out.drew.and hK); clear x0 x1 x2 x3 x4 y0 y1 y2 y3 y4 z0 z1 z2 z3 z4; obtain ⟨x0, x1, x2, x3, x4, y0, y1, y2, y3, y4, z0, z1, z2, z3, z4⟩ := hb2.out.cells; clear hK)
        | (go_at_call 14; (with_reducible refine Calls.mono (HW21.out _) ?_); rintro e w3 ⟨rfl, hK⟩; have hk3 := Lib.hid (hk2.out.and hK); have hb3 := Lib.hid (hb2.out.and hK); clear x0 x1 x2 x3 x4 y0 y1 y2 y3 y4 z0 z1 z2 z3 z4; obtain ⟨x0, x1, x2, x3, x4, y0, y1, y2, y3, y4, z0, z1, z2, z3, z4⟩ := hb3.out.cells; clear hK))
    go_wp2
    go_region_held3 (fun w' => w'.cell? ⟨w.heap.size, 0, none⟩ = some (.int .i64 k1) ∧ w'.cell? ⟨w.heap.size, 1, none⟩ = some (.int .i64 c1) ∧ w'.cell? ⟨w.heap.size, 2, none⟩ = some (.int .i64 s1) ∧ w'.cell? ⟨w.heap.size, 3, none⟩ = some (.slice A1 n1 m1) ∧ w'.cell? ⟨w.heap.size, 4, none⟩ = some (.int .i64 a1) ∧ w'.cell? ⟨w.heap.size + 1, 0, none⟩ = some (.int .i64 k2) ∧ w'.cell? ⟨w.heap.size + 1, 1, none⟩ = some (.int .i64 c2) ∧ w'.cell? ⟨w.heap.size + 1, 2, none⟩ = some (.int .i64 s2) ∧ w'.cell? ⟨w.heap.size + 1, 3, none⟩ = some (.slice A2 n2 m2) ∧ w'.cell? ⟨w.heap.size + 1, 4, none⟩ = some (.int .i64 a2)) (go_keep)
      (first
        | (go_at_call 15; (with_reducible refine Calls.mono (HR12.out _) ?_); rintro e w4 ⟨rfl, hK⟩; have hk4 := Lib.hid (hk3.out.drew.and hK); have hb4 := Lib.hid (hb3.out.drew.and hK); clear x0 x1 x2 x3 x4 y0 y1 y2 y3 y4 z0 z1 z2 z3 z4; obtain ⟨x0, x1, x2, x3, x4, y0, y1, y2, y3, y4, z0, z1, z2, z3, z4⟩ := hb4.out.cells; clear hK)
        | (go_at_call 15; (with_reducible refine Calls.mono (HR21.out _) ?_); rintro e w5 ⟨rfl, hK⟩; have hk5 := Lib.hid (hk4.out.and hK); have hb5 := Lib.hid (hb4.out.and hK); clear x0 x1 x2 x3 x4 y0 y1 y2 y3 y4 z0 z1 z2 z3 z4; obtain ⟨x0, x1, x2, x3, x4, y0, y1, y2, y3, y4, z0, z1, z2, z3, z4⟩ := hb5.out.cells; clear hK)
        | (go_at_call 16; (with_reducible refine Calls.mono (HS12.out _ hk5.out) ?_); rintro e w6 ⟨rfl, hK⟩; have hk6 := Lib.hid (hk5.out.and hK); have hb6 := Lib.hid (hb5.out.and hK); clear x0 x1 x2 x3 x4 y0 y1 y2 y3 y4 z0 z1 z2 z3 z4; obtain ⟨x0, x1, x2, x3, x4, y0, y1, y2, y3, y4, z0, z1, z2, z3, z4⟩ := hb6.out.cells; clear hK)
        | (go_at_call 17; (with_reducible refine Calls.mono (HT12.out _ hk6.out) ?_); rintro e w7 ⟨rfl, hK⟩; have hk7 := Lib.hid (hk6.out.and hK); have hb7 := Lib.hid (hb6.out.and hK); clear x0 x1 x2 x3 x4 y0 y1 y2 y3 y4 z0 z1 z2 z3 z4; obtain ⟨x0, x1, x2, x3, x4, y0, y1, y2, y3, y4, z0, z1, z2, z3, z4⟩ := hb7.out.cells; clear hK)
        | (go_at_call 16; (with_reducible refine Calls.mono (HS11.out _ hk7.out) ?_); rintro e w8 ⟨rfl, hK⟩; have hk8 := Lib.hid (hk7.out.and hK); have hb8 := Lib.hid (hb7.out.and hK); clear x0 x1 x2 x3 x4 y0 y1 y2 y3 y4 z0 z1 z2 z3 z4; obtain ⟨x0, x1, x2, x3, x4, y0, y1, y2, y3, y4, z0, z1, z2, z3, z4⟩ := hb8.out.cells; clear hK)
        | (go_at_call 14; (with_reducible refine Calls.mono (HW11.out _) ?_); rintro e w9 ⟨rfl, hK⟩; have hk9 := Lib.hid (hk8.out.and hK); have hb9 := Lib.hid (hb8.out.and hK); clear x0 x1 x2 x3 x4 y0 y1 y2 y3 y4 z0 z1 z2 z3 z4; obtain ⟨x0, x1, x2, x3, x4, y0, y1, y2, y3, y4, z0, z1, z2, z3, z4⟩ := hb9.out.cells; clear hK))
    go_wp2_with (first
      | (go_at_call 8; (with_reducible refine Calls.mono (HAL.out _ hk9.out) ?_); rintro e w10 ⟨rfl, hK⟩; have hk10 := Lib.hid (hk9.out.and hK); have hb10 := Lib.hid (hb9.out.and hK); clear x0 x1 x2 x3 x4 y0 y1 y2 y3 y4 z0 z1 z2 z3 z4; obtain ⟨x0, x1, x2, x3, x4, y0, y1, y2, y3, y4, z0, z1, z2, z3, z4⟩ := hb10.out.cells; clear hK) | (go_at_call 14; (with_reducible refine Calls.mono (HW23.out _) ?_); rintro e w11 ⟨rfl, hK⟩; have hk11 := Lib.hid (hk10.out.and hK); have hb11 := Lib.hid (hb10.out.and hK); clear x0 x1 x2 x3 x4 y0 y1 y2 y3 y4 z0 z1 z2 z3 z4; obtain ⟨x0, x1, x2, x3, x4, y0, y1, y2, y3, y4, z0, z1, z2, z3, z4⟩ := hb11.out.cells; clear hK))
    go_ret
    exact ⟨by simp, hk11.out⟩
  · rw [hZ rfl] at HW13
    clear hZ hZ1
    go_enter Tryd.func4, Tryd.ntmps4
    go_wp2_with (first
      | (go_at_call 13; refine Calls.mono (HFW.out _ _ _ (HV3.out _ _ 24 (bk_fourth w _ _ _ _ _))) ?_; rintro e w1 ⟨rfl, hK⟩; have hk1 := Lib.hid ((((((Kp.refl NoB w).alloc _).alloc _).alloc _).alloc _).and hK); have hb1 := Lib.hid (((B3.new w _ _ _).and ((Kp.refl NoB _).alloc _)).and hK); obtain ⟨x0, x1, x2, x3, x4, y0, y1, y2, y3, y4, z0, z1, z2, z3, z4⟩ := hb1.out.cells; clear hK)
      | (go_at_call 8; (with_reducible refine Calls.mono (HAL.out _ hk1.out) ?_); rintro e w20 ⟨rfl, hK⟩; have hk20 := Lib.hid (hk1.out.and hK); clear hK))
    · go_ret
      exact ⟨rfl, hk20.out⟩
    go_region_held3 (fun w' => w'.cell? ⟨w.heap.size, 0, none⟩ = some (.int .i64 k1) ∧ w'.cell? ⟨w.heap.size, 1, none⟩ = some (.int .i64 c1) ∧ w'.cell? ⟨w.heap.size, 2, none⟩ = some (.int .i64 s1) ∧ w'.cell? ⟨w.heap.size, 3, none⟩ = some (.slice A1 n1 m1) ∧ w'.cell? ⟨w.heap.size, 4, none⟩ = some (.int .i64 a1) ∧ w'.cell? ⟨w.heap.size + 1, 0, none⟩ = some (.int .i64 k2) ∧ w'.cell? ⟨w.heap.size + 1, 1, none⟩ = some (.int .i64 c2) ∧ w'.cell? ⟨w.heap.size + 1, 2, none⟩ = some (.int .i64 s2) ∧ w'.cell? ⟨w.heap.size + 1, 3, none⟩ = some (.slice A2 n2 m2) ∧ w'.cell? ⟨w.heap.size + 1, 4, none⟩ = some (.int .i64 a2)) (go_keep)
      (first
        | (go_at_call 14; (with_reducible refine Calls.mono (HW12.out _) ?_); rintro e w2 ⟨rfl, hK⟩; have hk2 := Lib.hid (hk1.out.drew.and hK); have hb2 := Lib.hid (hb1.out.drew.and hK); clear x0 x1 x2 x3 x4 y0 y1 y2 y3 y4 z0 z1 z2 z3 z4; obtain ⟨x0, x1, x2, x3, x4, y0, y1, y2, y3, y4, z0, z1, z2, z3, z4⟩ := hb2.out.cells; clear hK)
        | (go_at_call 14; (with_reducible refine Calls.mono (HW21.out _) ?_); rintro e w3 ⟨rfl, hK⟩; have hk3 := Lib.hid (hk2.out.and hK); have hb3 := Lib.hid (hb2.out.and hK); clear x0 x1 x2 x3 x4 y0 y1 y2 y3 y4 z0 z1 z2 z3 z4; obtain ⟨x0, x1, x2, x3, x4, y0, y1, y2, y3, y4, z0, z1, z2, z3, z4⟩ := hb3.out.cells; clear hK))
    go_wp2
    go_region_held3 (fun w' => w'.cell? ⟨w.heap.size, 0, none⟩ = some (.int .i64 k1) ∧ w'.cell? ⟨w.heap.size, 1, none⟩ = some (.int .i64 c1) ∧ w'.cell? ⟨w.heap.size, 2, none⟩ = some (.int .i64 s1) ∧ w'.cell? ⟨w.heap.size, 3, none⟩ = some (.slice A1 n1 m1) ∧ w'.cell? ⟨w.heap.size, 4, none⟩ = some (.int .i64 a1) ∧ w'.cell? ⟨w.heap.size + 1, 0, none⟩ = some (.int .i64 k2) ∧ w'.cell? ⟨w.heap.size + 1, 1, none⟩ = some (.int .i64 c2) ∧ w'.cell? ⟨w.heap.size + 1, 2, none⟩ = some (.int .i64 s2) ∧ w'.cell? ⟨w.heap.size + 1, 3, none⟩ = some (.slice A2 n2 m2) ∧ w'.cell? ⟨w.heap.size + 1, 4, none⟩ = some (.int .i64 a2)) (go_keep)
      (first
        | (go_at_call 15; (with_reducible refine Calls.mono (HR12.out _) ?_); rintro e w4 ⟨rfl, hK⟩; have hk4 := Lib.hid (hk3.out.drew.and hK); have hb4 := Lib.hid (hb3.out.drew.and hK); clear x0 x1 x2 x3 x4 y0 y1 y2 y3 y4 z0 z1 z2 z3 z4; obtain ⟨x0, x1, x2, x3, x4, y0, y1, y2, y3, y4, z0, z1, z2, z3, z4⟩ := hb4.out.cells; clear hK)
        | (go_at_call 15; (with_reducible refine Calls.mono (HR21.out _) ?_); rintro e w5 ⟨rfl, hK⟩; have hk5 := Lib.hid (hk4.out.and hK); have hb5 := Lib.hid (hb4.out.and hK); clear x0 x1 x2 x3 x4 y0 y1 y2 y3 y4 z0 z1 z2 z3 z4; obtain ⟨x0, x1, x2, x3, x4, y0, y1, y2, y3, y4, z0, z1, z2, z3, z4⟩ := hb5.out.cells; clear hK)
        | (go_at_call 16; (with_reducible refine Calls.mono (HS12.out _ hk5.out) ?_); rintro e w6 ⟨rfl, hK⟩; have hk6 := Lib.hid (hk5.out.and hK); have hb6 := Lib.hid (hb5.out.and hK); clear x0 x1 x2 x3 x4 y0 y1 y2 y3 y4 z0 z1 z2 z3 z4; obtain ⟨x0, x1, x2, x3, x4, y0, y1, y2, y3, y4, z0, z1, z2, z3, z4⟩ := hb6.out.cells; clear hK)
        | (go_at_call 17; (with_reducible refine Calls.mono (HT12.out _ hk6.out) ?_); rintro e w7 ⟨rfl, hK⟩; have hk7 := Lib.hid (hk6.out.and hK); have hb7 := Lib.hid (hb6.out.and hK); clear x0 x1 x2 x3 x4 y0 y1 y2 y3 y4 z0 z1 z2 z3 z4; obtain ⟨x0, x1, x2, x3, x4, y0, y1, y2, y3, y4, z0, z1, z2, z3, z4⟩ := hb7.out.cells; clear hK)
        | (go_at_call 16; (with_reducible refine Calls.mono (HS11.out _ hk7.out) ?_); rintro e w8 ⟨rfl, hK⟩; have hk8 := Lib.hid (hk7.out.and hK); have hb8 := Lib.hid (hb7.out.and hK); clear x0 x1 x2 x3 x4 y0 y1 y2 y3 y4 z0 z1 z2 z3 z4; obtain ⟨x0, x1, x2, x3, x4, y0, y1, y2, y3, y4, z0, z1, z2, z3, z4⟩ := hb8.out.cells; clear hK)
        | (go_at_call 14; (with_reducible refine Calls.mono (HW11.out _) ?_); rintro e w9 ⟨rfl, hK⟩; have hk9 := Lib.hid (hk8.out.and hK); have hb9 := Lib.hid (hb8.out.and hK); clear x0 x1 x2 x3 x4 y0 y1 y2 y3 y4 z0 z1 z2 z3 z4; obtain ⟨x0, x1, x2, x3, x4, y0, y1, y2, y3, y4, z0, z1, z2, z3, z4⟩ := hb9.out.cells; clear hK))
    go_wp2_with (first
      | (go_at_call 8; (with_reducible refine Calls.mono (HAL.out _ hk9.out) ?_); rintro e w10 ⟨rfl, hK⟩; have hk10 := Lib.hid (hk9.out.and hK); have hb10 := Lib.hid (hb9.out.and hK); clear x0 x1 x2 x3 x4 y0 y1 y2 y3 y4 z0 z1 z2 z3 z4; obtain ⟨x0, x1, x2, x3, x4, y0, y1, y2, y3, y4, z0, z1, z2, z3, z4⟩ := hb10.out.cells; clear hK) | (go_at_call 14; (with_reducible refine Calls.mono (HW23.out _) ?_); rintro e w11 ⟨rfl, hK⟩; have hk11 := Lib.hid (hk10.out.and hK); have hb11 := Lib.hid (hb10.out.and hK); clear x0 x1 x2 x3 x4 y0 y1 y2 y3 y4 z0 z1 z2 z3 z4; obtain ⟨x0, x1, x2, x3, x4, y0, y1, y2, y3, y4, z0, z1, z2, z3, z4⟩ := hb11.out.cells; clear hK) | (go_at_call 14; (with_reducible refine Calls.mono (HW13.out _) ?_); rintro e w12 ⟨rfl, hK⟩; have hk12 := Lib.hid (hk11.out.and hK); have hb12 := Lib.hid (hb11.out.and hK); clear x0 x1 x2 x3 x4 y0 y1 y2 y3 y4 z0 z1 z2 z3 z4; obtain ⟨x0, x1, x2, x3, x4, y0, y1, y2, y3, y4, z0, z1, z2, z3, z4⟩ := hb12.out.cells; clear hK))
    go_ret
    exact ⟨by simp, hk12.out⟩

set_option maxRecDepth 100000 in
set_option maxHeartbeats 4000000 in
theorem ford_y (k1 c1 s1 : Int) (d1 : List Int) (A1 : Option Addr) (m1 : Nat) (a1 : Int) (k2 c2 s2 : Int) (d2 : List Int) (A2 : Option Addr) (m2 : Nat) (a2 : Int) (k3 c3 s3 : Int) (d3 : List Int) (A3 : Option Addr) (m3 : Nat) (a3 : Int) (w : World) (ld : Ld w) (ha1 : Arr w A1 (bs d1)) (hb1 : IsB d1) (ha2 : Arr w A2 (bs d2)) (hb2 : IsB d2) (hX : worseV k1 a1 k2 a2 = false) (hY : worseV k2 a2 k1 a1 = true) :
    Calls Tryd.prog 4 #[.agg #[.int .i64 k1, .int .i64 c1, .int .i64 s1, .slice A1 d1.length m1, .int .i64 a1], .agg #[.int .i64 k2, .int .i64 c2, .int .i64 s2, .slice A2 d2.length m2, .int .i64 a2], .agg #[.int .i64 k3, .int .i64 c3, .int .i64 s3, .slice A3 d3.length m3, .int .i64 a3]] w fun e w' => e = .returned (.bool true) ∧ Kp NoB w w' := by
  have HAL := Lib.hid (fun W (k : Kp NoB w W) => alive_any W (ld.and k))
  have HFW := Lib.hid (fun W A c h => few_any A c [⟨k1, c1, s1, d1, A1, m1, a1⟩, ⟨k2, c2, s2, d2, A2, m2, a2⟩, ⟨k3, c3, s3, d3, A3, m3, a3⟩] W h (by simp [maxLen]))
  have HV3 : Hid (∀ (W : World) (b : Nat) (t : TypeId), Bk W b t #[.int .i64 k1, .int .i64 c1, .int .i64 s1, .slice A1 d1.length m1, .int .i64 a1, .int .i64 k2, .int .i64 c2, .int .i64 s2, .slice A2 d2.length m2, .int .i64 a2, .int .i64 k3, .int .i64 c3, .int .i64 s3, .slice A3 d3.length m3, .int .i64 a3] → VsL W (some ⟨b, 0, none⟩) [⟨k1, c1, s1, d1, A1, m1, a1⟩, ⟨k2, c2, s2, d2, A2, m2, a2⟩, ⟨k3, c3, s3, d3, A3, m3, a3⟩]) := Lib.hid (fun W b t h => vs_three h rfl)
  obtain ⟨FB, hFB⟩ : ∃ f, fewB [⟨k1, c1, s1, d1, A1, m1, a1⟩, ⟨k2, c2, s2, d2, A2, m2, a2⟩, ⟨k3, c3, s3, d3, A3, m3, a3⟩] = f := ⟨_, rfl⟩
  rw [hFB] at HFW
  obtain ⟨L, hL⟩ : ∃ l, [(⟨k1, c1, s1, d1, A1, m1, a1⟩ : ArgV), ⟨k2, c2, s2, d2, A2, m2, a2⟩, ⟨k3, c3, s3, d3, A3, m3, a3⟩] = l := ⟨_, rfl⟩
  have hL3 : L.length = 3 := by rw [← hL]; rfl
  rw [hL, hL3] at HFW
  rw [hL] at HV3
  have HW12 := Lib.hid (fun n n' W => fworse_any k1 c1 s1 A1 n m1 a1 k2 c2 s2 A2 n' m2 a2 W)
  have HW21 := Lib.hid (fun n n' W => fworse_any k2 c2 s2 A2 n m2 a2 k1 c1 s1 A1 n' m1 a1 W)
  have HW11 := Lib.hid (fun n n' W => fworse_any k1 c1 s1 A1 n m1 a1 k1 c1 s1 A1 n' m1 a1 W)
  have HW23 := Lib.hid (fun n n' W => fworse_any k2 c2 s2 A2 n m2 a2 k3 c3 s3 A3 n' m3 a3 W)
  have HW13 := Lib.hid (fun n n' W => fworse_any k1 c1 s1 A1 n m1 a1 k3 c3 s3 A3 n' m3 a3 W)
  have HR12 := Lib.hid (fun n n' W => rworse_any k1 c1 s1 A1 n m1 a1 k2 c2 s2 A2 n' m2 a2 W)
  have HR21 := Lib.hid (fun n n' W => rworse_any k2 c2 s2 A2 n m2 a2 k1 c1 s1 A1 n' m1 a1 W)
  have HS12 := Lib.hid (fun W (q : Kp NoB w W) => fsame_any k1 c1 s1 d1 A1 m1 a1 k2 c2 s2 d2 A2 m2 a2 W (ha1.and q) (ha2.and q) hb1 hb2)
  have HT12 := Lib.hid (fun W (q : Kp NoB w W) => vsame_any k1 c1 s1 d1 A1 m1 a1 k2 c2 s2 d2 A2 m2 a2 W (ha1.and q) (ha2.and q) hb1 hb2)
  have HS11 := Lib.hid (fun W (q : Kp NoB w W) => fsame_any k1 c1 s1 d1 A1 m1 a1 k1 c1 s1 d1 A1 m1 a1 W (ha1.and q) (ha1.and q) hb1 hb1)
  obtain ⟨SM, hSM⟩ : ∃ f, sameV k1 c1 s1 d1 a1 k2 c2 s2 d2 a2 = f := ⟨_, rfl⟩
  rw [hSM] at HS12 HT12
  rw [show sameV k1 c1 s1 d1 a1 k1 c1 s1 d1 a1 = true by simp [sameV]] at HS11
  rw [show worseV k1 a1 k1 a1 = false by simp [worseV]] at HW11
  rw [hX] at HW12 HR12
  rw [hY] at HW21 HR21
  obtain ⟨n1, hn1⟩ : ∃ n, d1.length = n := ⟨_, rfl⟩
  obtain ⟨n2, hn2⟩ : ∃ n, d2.length = n := ⟨_, rfl⟩
  obtain ⟨n3, hn3⟩ : ∃ n, d3.length = n := ⟨_, rfl⟩
  rw [hn1, hn2] at HS12 HT12
  rw [hn1] at HS11
  rw [hn1, hn2, hn3] at HV3 ⊢
  replace HW12 := Lib.hid (HW12.out n1 n2)
  replace HW21 := Lib.hid (HW21.out n2 n1)
  replace HW11 := Lib.hid (HW11.out n1 n1)
  replace HW23 := Lib.hid (HW23.out n2 n3)
  replace HW13 := Lib.hid (HW13.out n1 n3)
  replace HR12 := Lib.hid (HR12.out n1 n2)
  replace HR21 := Lib.hid (HR21.out n2 n1)
  clear ha1 hb1 ha2 hb2 ld hFB hL hL3 hSM hn1 hn2 hn3
  clear hX hY
  go_enter Tryd.func4, Tryd.ntmps4
  go_wp2_with (first
    | (go_at_call 13; refine Calls.mono (HFW.out _ _ _ (HV3.out _ _ 24 (bk_fourth w _ _ _ _ _))) ?_; rintro e w1 ⟨rfl, hK⟩; have hk1 := Lib.hid ((((((Kp.refl NoB w).alloc _).alloc _).alloc _).alloc _).and hK); have hb1 := Lib.hid (((B3.new w _ _ _).and ((Kp.refl NoB _).alloc _)).and hK); obtain ⟨x0, x1, x2, x3, x4, y0, y1, y2, y3, y4, z0, z1, z2, z3, z4⟩ := hb1.out.cells; clear hK)
    | (go_at_call 8; (with_reducible refine Calls.mono (HAL.out _ hk1.out) ?_); rintro e w20 ⟨rfl, hK⟩; have hk20 := Lib.hid (hk1.out.and hK); clear hK))
  · go_ret
    exact ⟨rfl, hk20.out⟩
  go_region_held3 (fun w' => w'.cell? ⟨w.heap.size, 0, none⟩ = some (.int .i64 k1) ∧ w'.cell? ⟨w.heap.size, 1, none⟩ = some (.int .i64 c1) ∧ w'.cell? ⟨w.heap.size, 2, none⟩ = some (.int .i64 s1) ∧ w'.cell? ⟨w.heap.size, 3, none⟩ = some (.slice A1 n1 m1) ∧ w'.cell? ⟨w.heap.size, 4, none⟩ = some (.int .i64 a1) ∧ w'.cell? ⟨w.heap.size + 1, 0, none⟩ = some (.int .i64 k2) ∧ w'.cell? ⟨w.heap.size + 1, 1, none⟩ = some (.int .i64 c2) ∧ w'.cell? ⟨w.heap.size + 1, 2, none⟩ = some (.int .i64 s2) ∧ w'.cell? ⟨w.heap.size + 1, 3, none⟩ = some (.slice A2 n2 m2) ∧ w'.cell? ⟨w.heap.size + 1, 4, none⟩ = some (.int .i64 a2)) (go_keep)
    (first
      | (go_at_call 14; (with_reducible refine Calls.mono (HW12.out _) ?_); rintro e w2 ⟨rfl, hK⟩; have hk2 := Lib.hid (hk1.out.drew.and hK); have hb2 := Lib.hid (hb1.out.drew.and hK); clear x0 x1 x2 x3 x4 y0 y1 y2 y3 y4 z0 z1 z2 z3 z4; obtain ⟨x0, x1, x2, x3, x4, y0, y1, y2, y3, y4, z0, z1, z2, z3, z4⟩ := hb2.out.cells; clear hK)
      | (go_at_call 14; (with_reducible refine Calls.mono (HW21.out _) ?_); rintro e w3 ⟨rfl, hK⟩; have hk3 := Lib.hid (hk2.out.and hK); have hb3 := Lib.hid (hb2.out.and hK); clear x0 x1 x2 x3 x4 y0 y1 y2 y3 y4 z0 z1 z2 z3 z4; obtain ⟨x0, x1, x2, x3, x4, y0, y1, y2, y3, y4, z0, z1, z2, z3, z4⟩ := hb3.out.cells; clear hK))
  go_wp2
  go_region_held3 (fun w' => w'.cell? ⟨w.heap.size, 0, none⟩ = some (.int .i64 k1) ∧ w'.cell? ⟨w.heap.size, 1, none⟩ = some (.int .i64 c1) ∧ w'.cell? ⟨w.heap.size, 2, none⟩ = some (.int .i64 s1) ∧ w'.cell? ⟨w.heap.size, 3, none⟩ = some (.slice A1 n1 m1) ∧ w'.cell? ⟨w.heap.size, 4, none⟩ = some (.int .i64 a1) ∧ w'.cell? ⟨w.heap.size + 1, 0, none⟩ = some (.int .i64 k2) ∧ w'.cell? ⟨w.heap.size + 1, 1, none⟩ = some (.int .i64 c2) ∧ w'.cell? ⟨w.heap.size + 1, 2, none⟩ = some (.int .i64 s2) ∧ w'.cell? ⟨w.heap.size + 1, 3, none⟩ = some (.slice A2 n2 m2) ∧ w'.cell? ⟨w.heap.size + 1, 4, none⟩ = some (.int .i64 a2)) (go_keep)
    (first
      | (go_at_call 15; (with_reducible refine Calls.mono (HR12.out _) ?_); rintro e w4 ⟨rfl, hK⟩; have hk4 := Lib.hid (hk3.out.drew.and hK); have hb4 := Lib.hid (hb3.out.drew.and hK); clear x0 x1 x2 x3 x4 y0 y1 y2 y3 y4 z0 z1 z2 z3 z4; obtain ⟨x0, x1, x2, x3, x4, y0, y1, y2, y3, y4, z0, z1, z2, z3, z4⟩ := hb4.out.cells; clear hK)
      | (go_at_call 15; (with_reducible refine Calls.mono (HR21.out _) ?_); rintro e w5 ⟨rfl, hK⟩; have hk5 := Lib.hid (hk4.out.and hK); have hb5 := Lib.hid (hb4.out.and hK); clear x0 x1 x2 x3 x4 y0 y1 y2 y3 y4 z0 z1 z2 z3 z4; obtain ⟨x0, x1, x2, x3, x4, y0, y1, y2, y3, y4, z0, z1, z2, z3, z4⟩ := hb5.out.cells; clear hK)
      | (go_at_call 16; (with_reducible refine Calls.mono (HS12.out _ hk5.out) ?_); rintro e w6 ⟨rfl, hK⟩; have hk6 := Lib.hid (hk5.out.and hK); have hb6 := Lib.hid (hb5.out.and hK); clear x0 x1 x2 x3 x4 y0 y1 y2 y3 y4 z0 z1 z2 z3 z4; obtain ⟨x0, x1, x2, x3, x4, y0, y1, y2, y3, y4, z0, z1, z2, z3, z4⟩ := hb6.out.cells; clear hK)
      | (go_at_call 17; (with_reducible refine Calls.mono (HT12.out _ hk6.out) ?_); rintro e w7 ⟨rfl, hK⟩; have hk7 := Lib.hid (hk6.out.and hK); have hb7 := Lib.hid (hb6.out.and hK); clear x0 x1 x2 x3 x4 y0 y1 y2 y3 y4 z0 z1 z2 z3 z4; obtain ⟨x0, x1, x2, x3, x4, y0, y1, y2, y3, y4, z0, z1, z2, z3, z4⟩ := hb7.out.cells; clear hK)
      | (go_at_call 16; (with_reducible refine Calls.mono (HS11.out _ hk7.out) ?_); rintro e w8 ⟨rfl, hK⟩; have hk8 := Lib.hid (hk7.out.and hK); have hb8 := Lib.hid (hb7.out.and hK); clear x0 x1 x2 x3 x4 y0 y1 y2 y3 y4 z0 z1 z2 z3 z4; obtain ⟨x0, x1, x2, x3, x4, y0, y1, y2, y3, y4, z0, z1, z2, z3, z4⟩ := hb8.out.cells; clear hK)
      | (go_at_call 14; (with_reducible refine Calls.mono (HW11.out _) ?_); rintro e w9 ⟨rfl, hK⟩; have hk9 := Lib.hid (hk8.out.and hK); have hb9 := Lib.hid (hb8.out.and hK); clear x0 x1 x2 x3 x4 y0 y1 y2 y3 y4 z0 z1 z2 z3 z4; obtain ⟨x0, x1, x2, x3, x4, y0, y1, y2, y3, y4, z0, z1, z2, z3, z4⟩ := hb9.out.cells; clear hK))
  go_wp2_with (first
    | (go_at_call 8; (with_reducible refine Calls.mono (HAL.out _ hk9.out) ?_); rintro e w10 ⟨rfl, hK⟩; have hk10 := Lib.hid (hk9.out.and hK); have hb10 := Lib.hid (hb9.out.and hK); clear x0 x1 x2 x3 x4 y0 y1 y2 y3 y4 z0 z1 z2 z3 z4; obtain ⟨x0, x1, x2, x3, x4, y0, y1, y2, y3, y4, z0, z1, z2, z3, z4⟩ := hb10.out.cells; clear hK))
  go_ret
  exact ⟨by simp, hk10.out⟩

set_option maxRecDepth 100000 in
set_option maxHeartbeats 4000000 in
theorem ford_z (k1 c1 s1 : Int) (d1 : List Int) (A1 : Option Addr) (m1 : Nat) (a1 : Int) (k2 c2 s2 : Int) (d2 : List Int) (A2 : Option Addr) (m2 : Nat) (a2 : Int) (k3 c3 s3 : Int) (d3 : List Int) (A3 : Option Addr) (m3 : Nat) (a3 : Int) (w : World) (ld : Ld w) (ha1 : Arr w A1 (bs d1)) (hb1 : IsB d1) (ha2 : Arr w A2 (bs d2)) (hb2 : IsB d2) (hX : worseV k1 a1 k2 a2 = false) (hY : worseV k2 a2 k1 a1 = false) :
    Calls Tryd.prog 4 #[.agg #[.int .i64 k1, .int .i64 c1, .int .i64 s1, .slice A1 d1.length m1, .int .i64 a1], .agg #[.int .i64 k2, .int .i64 c2, .int .i64 s2, .slice A2 d2.length m2, .int .i64 a2], .agg #[.int .i64 k3, .int .i64 c3, .int .i64 s3, .slice A3 d3.length m3, .int .i64 a3]] w fun e w' => e = .returned (.bool true) ∧ Kp NoB w w' := by
  obtain ⟨hk12, ha12⟩ : k1 = k2 ∧ a1 = a2 := by unfold worseV at hX hY; simp only [decide_eq_false_iff_not] at hX hY; omega
  subst hk12 ha12
  have HAL := Lib.hid (fun W (k : Kp NoB w W) => alive_any W (ld.and k))
  have HFW := Lib.hid (fun W A c h => few_any A c [⟨k1, c1, s1, d1, A1, m1, a1⟩, ⟨k1, c2, s2, d2, A2, m2, a1⟩, ⟨k3, c3, s3, d3, A3, m3, a3⟩] W h (by simp [maxLen]))
  have HV3 : Hid (∀ (W : World) (b : Nat) (t : TypeId), Bk W b t #[.int .i64 k1, .int .i64 c1, .int .i64 s1, .slice A1 d1.length m1, .int .i64 a1, .int .i64 k1, .int .i64 c2, .int .i64 s2, .slice A2 d2.length m2, .int .i64 a1, .int .i64 k3, .int .i64 c3, .int .i64 s3, .slice A3 d3.length m3, .int .i64 a3] → VsL W (some ⟨b, 0, none⟩) [⟨k1, c1, s1, d1, A1, m1, a1⟩, ⟨k1, c2, s2, d2, A2, m2, a1⟩, ⟨k3, c3, s3, d3, A3, m3, a3⟩]) := Lib.hid (fun W b t h => vs_three h rfl)
  obtain ⟨FB, hFB⟩ : ∃ f, fewB [⟨k1, c1, s1, d1, A1, m1, a1⟩, ⟨k1, c2, s2, d2, A2, m2, a1⟩, ⟨k3, c3, s3, d3, A3, m3, a3⟩] = f := ⟨_, rfl⟩
  rw [hFB] at HFW
  obtain ⟨L, hL⟩ : ∃ l, [(⟨k1, c1, s1, d1, A1, m1, a1⟩ : ArgV), ⟨k1, c2, s2, d2, A2, m2, a1⟩, ⟨k3, c3, s3, d3, A3, m3, a3⟩] = l := ⟨_, rfl⟩
  have hL3 : L.length = 3 := by rw [← hL]; rfl
  rw [hL, hL3] at HFW
  rw [hL] at HV3
  have HW12 := Lib.hid (fun n n' W => fworse_any k1 c1 s1 A1 n m1 a1 k1 c2 s2 A2 n' m2 a1 W)
  have HW21 := Lib.hid (fun n n' W => fworse_any k1 c2 s2 A2 n m2 a1 k1 c1 s1 A1 n' m1 a1 W)
  have HW11 := Lib.hid (fun n n' W => fworse_any k1 c1 s1 A1 n m1 a1 k1 c1 s1 A1 n' m1 a1 W)
  have HW23 := Lib.hid (fun n n' W => fworse_any k1 c2 s2 A2 n m2 a1 k3 c3 s3 A3 n' m3 a3 W)
  have HW13 := Lib.hid (fun n n' W => fworse_any k1 c1 s1 A1 n m1 a1 k3 c3 s3 A3 n' m3 a3 W)
  have HR12 := Lib.hid (fun n n' W => rworse_any k1 c1 s1 A1 n m1 a1 k1 c2 s2 A2 n' m2 a1 W)
  have HR21 := Lib.hid (fun n n' W => rworse_any k1 c2 s2 A2 n m2 a1 k1 c1 s1 A1 n' m1 a1 W)
  have HS12 := Lib.hid (fun W (q : Kp NoB w W) => fsame_any k1 c1 s1 d1 A1 m1 a1 k1 c2 s2 d2 A2 m2 a1 W (ha1.and q) (ha2.and q) hb1 hb2)
  have HT12 := Lib.hid (fun W (q : Kp NoB w W) => vsame_any k1 c1 s1 d1 A1 m1 a1 k1 c2 s2 d2 A2 m2 a1 W (ha1.and q) (ha2.and q) hb1 hb2)
  have HS11 := Lib.hid (fun W (q : Kp NoB w W) => fsame_any k1 c1 s1 d1 A1 m1 a1 k1 c1 s1 d1 A1 m1 a1 W (ha1.and q) (ha1.and q) hb1 hb1)
  obtain ⟨SM, hSM⟩ : ∃ f, sameV k1 c1 s1 d1 a1 k1 c2 s2 d2 a1 = f := ⟨_, rfl⟩
  rw [hSM] at HS12 HT12
  rw [show sameV k1 c1 s1 d1 a1 k1 c1 s1 d1 a1 = true by simp [sameV]] at HS11
  simp only [hX] at HW11
  simp only [hX] at HW12 HR12
  simp only [hX] at HW21 HR21
  obtain ⟨n1, hn1⟩ : ∃ n, d1.length = n := ⟨_, rfl⟩
  obtain ⟨n2, hn2⟩ : ∃ n, d2.length = n := ⟨_, rfl⟩
  obtain ⟨n3, hn3⟩ : ∃ n, d3.length = n := ⟨_, rfl⟩
  rw [hn1, hn2] at HS12 HT12
  rw [hn1] at HS11
  rw [hn1, hn2, hn3] at HV3 ⊢
  replace HW12 := Lib.hid (HW12.out n1 n2)
  replace HW21 := Lib.hid (HW21.out n2 n1)
  replace HW11 := Lib.hid (HW11.out n1 n1)
  replace HW23 := Lib.hid (HW23.out n2 n3)
  replace HW13 := Lib.hid (HW13.out n1 n3)
  replace HR12 := Lib.hid (HR12.out n1 n2)
  replace HR21 := Lib.hid (HR21.out n2 n1)
  clear ha1 hb1 ha2 hb2 ld hFB hL hL3 hSM hn1 hn2 hn3
  clear hX hY
  go_enter Tryd.func4, Tryd.ntmps4
  go_wp2_with (first
    | (go_at_call 13; refine Calls.mono (HFW.out _ _ _ (HV3.out _ _ 24 (bk_fourth w _ _ _ _ _))) ?_; rintro e w1 ⟨rfl, hK⟩; have hk1 := Lib.hid ((((((Kp.refl NoB w).alloc _).alloc _).alloc _).alloc _).and hK); have hb1 := Lib.hid (((B3.new w _ _ _).and ((Kp.refl NoB _).alloc _)).and hK); obtain ⟨x0, x1, x2, x3, x4, y0, y1, y2, y3, y4, z0, z1, z2, z3, z4⟩ := hb1.out.cells; clear hK)
    | (go_at_call 8; (with_reducible refine Calls.mono (HAL.out _ hk1.out) ?_); rintro e w20 ⟨rfl, hK⟩; have hk20 := Lib.hid (hk1.out.and hK); clear hK))
  · go_ret
    exact ⟨rfl, hk20.out⟩
  go_region_held3 (fun w' => w'.cell? ⟨w.heap.size, 0, none⟩ = some (.int .i64 k1) ∧ w'.cell? ⟨w.heap.size, 1, none⟩ = some (.int .i64 c1) ∧ w'.cell? ⟨w.heap.size, 2, none⟩ = some (.int .i64 s1) ∧ w'.cell? ⟨w.heap.size, 3, none⟩ = some (.slice A1 n1 m1) ∧ w'.cell? ⟨w.heap.size, 4, none⟩ = some (.int .i64 a1) ∧ w'.cell? ⟨w.heap.size + 1, 0, none⟩ = some (.int .i64 k1) ∧ w'.cell? ⟨w.heap.size + 1, 1, none⟩ = some (.int .i64 c2) ∧ w'.cell? ⟨w.heap.size + 1, 2, none⟩ = some (.int .i64 s2) ∧ w'.cell? ⟨w.heap.size + 1, 3, none⟩ = some (.slice A2 n2 m2) ∧ w'.cell? ⟨w.heap.size + 1, 4, none⟩ = some (.int .i64 a1)) (go_keep)
    (first
      | (go_at_call 14; (with_reducible refine Calls.mono (HW12.out _) ?_); rintro e w2 ⟨rfl, hK⟩; have hk2 := Lib.hid (hk1.out.drew.and hK); have hb2 := Lib.hid (hb1.out.drew.and hK); clear x0 x1 x2 x3 x4 y0 y1 y2 y3 y4 z0 z1 z2 z3 z4; obtain ⟨x0, x1, x2, x3, x4, y0, y1, y2, y3, y4, z0, z1, z2, z3, z4⟩ := hb2.out.cells; clear hK)
      | (go_at_call 14; (with_reducible refine Calls.mono (HW21.out _) ?_); rintro e w3 ⟨rfl, hK⟩; have hk3 := Lib.hid (hk2.out.and hK); have hb3 := Lib.hid (hb2.out.and hK); clear x0 x1 x2 x3 x4 y0 y1 y2 y3 y4 z0 z1 z2 z3 z4; obtain ⟨x0, x1, x2, x3, x4, y0, y1, y2, y3, y4, z0, z1, z2, z3, z4⟩ := hb3.out.cells; clear hK))
  go_wp2
  go_region_held3 (fun w' => w'.cell? ⟨w.heap.size, 0, none⟩ = some (.int .i64 k1) ∧ w'.cell? ⟨w.heap.size, 1, none⟩ = some (.int .i64 c1) ∧ w'.cell? ⟨w.heap.size, 2, none⟩ = some (.int .i64 s1) ∧ w'.cell? ⟨w.heap.size, 3, none⟩ = some (.slice A1 n1 m1) ∧ w'.cell? ⟨w.heap.size, 4, none⟩ = some (.int .i64 a1) ∧ w'.cell? ⟨w.heap.size + 1, 0, none⟩ = some (.int .i64 k1) ∧ w'.cell? ⟨w.heap.size + 1, 1, none⟩ = some (.int .i64 c2) ∧ w'.cell? ⟨w.heap.size + 1, 2, none⟩ = some (.int .i64 s2) ∧ w'.cell? ⟨w.heap.size + 1, 3, none⟩ = some (.slice A2 n2 m2) ∧ w'.cell? ⟨w.heap.size + 1, 4, none⟩ = some (.int .i64 a1)) (go_keep)
    (first
      | (go_at_call 15; (with_reducible refine Calls.mono (HR12.out _) ?_); rintro e w4 ⟨rfl, hK⟩; have hk4 := Lib.hid (hk3.out.drew.and hK); have hb4 := Lib.hid (hb3.out.drew.and hK); clear x0 x1 x2 x3 x4 y0 y1 y2 y3 y4 z0 z1 z2 z3 z4; obtain ⟨x0, x1, x2, x3, x4, y0, y1, y2, y3, y4, z0, z1, z2, z3, z4⟩ := hb4.out.cells; clear hK)
      | (go_at_call 15; (with_reducible refine Calls.mono (HR21.out _) ?_); rintro e w5 ⟨rfl, hK⟩; have hk5 := Lib.hid (hk4.out.and hK); have hb5 := Lib.hid (hb4.out.and hK); clear x0 x1 x2 x3 x4 y0 y1 y2 y3 y4 z0 z1 z2 z3 z4; obtain ⟨x0, x1, x2, x3, x4, y0, y1, y2, y3, y4, z0, z1, z2, z3, z4⟩ := hb5.out.cells; clear hK)
      | (go_at_call 16; (with_reducible refine Calls.mono (HS12.out _ hk5.out) ?_); rintro e w6 ⟨rfl, hK⟩; have hk6 := Lib.hid (hk5.out.and hK); have hb6 := Lib.hid (hb5.out.and hK); clear x0 x1 x2 x3 x4 y0 y1 y2 y3 y4 z0 z1 z2 z3 z4; obtain ⟨x0, x1, x2, x3, x4, y0, y1, y2, y3, y4, z0, z1, z2, z3, z4⟩ := hb6.out.cells; clear hK)
      | (go_at_call 17; (with_reducible refine Calls.mono (HT12.out _ hk6.out) ?_); rintro e w7 ⟨rfl, hK⟩; have hk7 := Lib.hid (hk6.out.and hK); have hb7 := Lib.hid (hb6.out.and hK); clear x0 x1 x2 x3 x4 y0 y1 y2 y3 y4 z0 z1 z2 z3 z4; obtain ⟨x0, x1, x2, x3, x4, y0, y1, y2, y3, y4, z0, z1, z2, z3, z4⟩ := hb7.out.cells; clear hK)
      | (go_at_call 16; (with_reducible refine Calls.mono (HS11.out _ hk7.out) ?_); rintro e w8 ⟨rfl, hK⟩; have hk8 := Lib.hid (hk7.out.and hK); have hb8 := Lib.hid (hb7.out.and hK); clear x0 x1 x2 x3 x4 y0 y1 y2 y3 y4 z0 z1 z2 z3 z4; obtain ⟨x0, x1, x2, x3, x4, y0, y1, y2, y3, y4, z0, z1, z2, z3, z4⟩ := hb8.out.cells; clear hK)
      | (go_at_call 14; (with_reducible refine Calls.mono (HW11.out _) ?_); rintro e w9 ⟨rfl, hK⟩; have hk9 := Lib.hid (hk8.out.and hK); have hb9 := Lib.hid (hb8.out.and hK); clear x0 x1 x2 x3 x4 y0 y1 y2 y3 y4 z0 z1 z2 z3 z4; obtain ⟨x0, x1, x2, x3, x4, y0, y1, y2, y3, y4, z0, z1, z2, z3, z4⟩ := hb9.out.cells; clear hK))
  go_wp2_with (first
    | (go_at_call 8; (with_reducible refine Calls.mono (HAL.out _ hk9.out) ?_); rintro e w10 ⟨rfl, hK⟩; have hk10 := Lib.hid (hk9.out.and hK); have hb10 := Lib.hid (hb9.out.and hK); clear x0 x1 x2 x3 x4 y0 y1 y2 y3 y4 z0 z1 z2 z3 z4; obtain ⟨x0, x1, x2, x3, x4, y0, y1, y2, y3, y4, z0, z1, z2, z3, z4⟩ := hb10.out.cells; clear hK))
  go_ret
  exact ⟨by simp, hk10.out⟩

theorem forders_row (z1 z2 z3 : ArgV) (w : World) (h1 : InV w z1) (h2 : InV w z2) (h3 : InV w z3) (ld : Ld w) :
    Calls Tryd.prog 4 #[z1.val, z2.val, z3.val] w fun e w' => e = .returned (.bool true) ∧ Kp NoB w w' := by
  obtain ⟨k1, c1, s1, d1, A1, m1, a1⟩ := z1
  obtain ⟨k2, c2, s2, d2, A2, m2, a2⟩ := z2
  obtain ⟨k3, c3, s3, d3, A3, m3, a3⟩ := z3
  obtain ⟨⟨-, -, -, ha1, hb1⟩, -⟩ := h1
  obtain ⟨⟨-, -, -, ha2, hb2⟩, -⟩ := h2
  cases hX : worseV k1 a1 k2 a2 with
  | true => exact ford_x k1 c1 s1 d1 A1 m1 a1 k2 c2 s2 d2 A2 m2 a2 k3 c3 s3 d3 A3 m3 a3 w ld ha1 hb1 ha2 hb2 hX (by unfold worseV at hX ⊢; simp only [decide_eq_true_eq, decide_eq_false_iff_not] at hX ⊢; omega)
  | false =>
    cases hY : worseV k2 a2 k1 a1 with
    | true => exact ford_y k1 c1 s1 d1 A1 m1 a1 k2 c2 s2 d2 A2 m2 a2 k3 c3 s3 d3 A3 m3 a3 w ld ha1 hb1 ha2 hb2 hX hY
    | false => exact ford_z k1 c1 s1 d1 A1 m1 a1 k2 c2 s2 d2 A2 m2 a2 k3 c3 s3 d3 A3 m3 a3 w ld ha1 hb1 ha2 hb2 hX hY

end Go.Proofs.YtknaogpkakdcoaaDoor
