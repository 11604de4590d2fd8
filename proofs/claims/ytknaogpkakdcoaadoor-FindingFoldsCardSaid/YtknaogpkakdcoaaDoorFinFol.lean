/- FindingFolds' walk. No condition but the listed tables' content. -/
import Derived.Test.YtknaogpkakdcoaaDoorFinJ
namespace Go.Proofs.YtknaogpkakdcoaaDoor
open Go.RowKit
set_option linter.unusedVariables false
set_option linter.unusedSimpArgs false

/-- What the walk keeps: three boxes, the results' data. -/
structure Fs (w : World) (b5 b7 : Nat) (v5 v6 v7 : Array Value) (A1 A2 A3 : Option Addr) (xd yd zd : List Int) (W : World) : Prop where
  k : Kp NoB w W
  x : Bk W b5 24 v5
  y : Bk W (b5 + 1) 24 v6
  z : Bk W b7 24 v7
  ax : Arr W A1 (bs xd)
  ay : Arr W A2 (bs yd)
  az : Arr W A3 (bs zd)
theorem Fs.and {w W W' : World} {b5 b7 : Nat} {v5 v6 v7 : Array Value} {A1 A2 A3 : Option Addr} {xd yd zd : List Int} (h : Fs w b5 b7 v5 v6 v7 A1 A2 A3 xd yd zd W) (k : Kp NoB W W') : Fs w b5 b7 v5 v6 v7 A1 A2 A3 xd yd zd W' :=
  ⟨h.k.and k, h.x.and k, h.y.and k, h.z.and k, h.ax.and k, h.ay.and k, h.az.and k⟩

set_option maxRecDepth 100000 in
set_option maxHeartbeats 8000000 in
theorem ffol_walk (A B : Option Addr) (n1 n2 n3 c1 c2 : Nat) (xk xc xs : Int) (xd : List Int) (xn : Nat) (xA : Option Addr) (xm : Nat) (xa : Int) (yk yc ys : Int) (yd : List Int) (yn : Nat) (yA : Option Addr) (ym : Nat) (ya : Int) (zk zc zs : Int) (zd : List Int) (zn : Nat) (zA : Option Addr) (zm : Nat) (za : Int) (HL : World → Option Addr → Prop) (w : World)
    (HAL : ∀ (W : World), Kp NoB w W → Calls Tryd.prog 8 #[] W (Stay (.bool true) W))
    (HW1 : ∀ (W : World), Kp NoB w W → Calls Tryd.prog 13 #[.slice A n1 c1] W (Stay (.bool true) W)) (HW2 : ∀ (W : World), Kp NoB w W → Calls Tryd.prog 13 #[.slice B n2 c2] W (Stay (.bool true) W))
    (HF1 : ∀ (W : World), Kp NoB w W → Calls Tryd.prog 18 #[.slice A n1 c1] W (VerQ W xk xc xs xd xn xa)) (HF2 : ∀ (W : World), Kp NoB w W → Calls Tryd.prog 18 #[.slice B n2 c2] W (VerQ W yk yc ys yd yn ya))
    (HF3 : ∀ (W : World) (R : Option Addr) (c : Nat), Kp NoB w W → HL W R → Calls Tryd.prog 18 #[.slice R n3 c] W (VerQ W zk zc zs zd zn za))
    (HR1 : ∀ (W : World), Kp NoB w W → Calls Tryd.prog 20 #[.slice A n1 c1] W (Stay (.agg #[.int .i64 xk, .int .i64 xc, .int .i64 xs, .slice xA xn xm, .int .i64 xa]) W)) (HR2 : ∀ (W : World), Kp NoB w W → Calls Tryd.prog 20 #[.slice B n2 c2] W (Stay (.agg #[.int .i64 yk, .int .i64 yc, .int .i64 ys, .slice yA yn ym, .int .i64 ya]) W))
    (HR3 : ∀ (W : World) (R : Option Addr) (c : Nat), Kp NoB w W → HL W R → Calls Tryd.prog 20 #[.slice R n3 c] W (Stay (.agg #[.int .i64 zk, .int .i64 zc, .int .i64 zs, .slice zA zn zm, .int .i64 za]) W))
    (HC : ∀ (W : World) (b : Nat) (t : TypeId), Kp NoB w W → Bk W b t #[.slice A n1 c1, .slice B n2 c2] → Calls Tryd.prog 19 #[.slice (some ⟨b, 0, none⟩) 2 2] W (fun e W' => ∃ R c, e = .returned (.slice R n3 c) ∧ HL W' R ∧ Kp NoB W W'))
    (HF4 : n1 ≠ 0 → n2 ≠ 0 → ∀ (W : World) (b : Nat) (t : TypeId) (A1 : Option Addr) (m1 : Nat) (A2 : Option Addr) (m2 : Nat), Bk W b t #[.int .i64 xk, .int .i64 xc, .int .i64 xs, .slice A1 xn m1, .int .i64 xa, .int .i64 yk, .int .i64 yc, .int .i64 ys, .slice A2 yn m2, .int .i64 ya] → Arr W A1 (bs xd) → Arr W A2 (bs yd) → Calls Tryd.prog 18 #[.slice (some ⟨b, 0, none⟩) 2 2] W (VerQ W zk zc zs zd zn za))
    (HSx : ∀ (W : World) (A1 : Option Addr) (m1 : Nat) (A2 : Option Addr) (m2 : Nat), Arr W A1 (bs xd) → Arr W A2 (bs xd) → Calls Tryd.prog 17 #[.agg #[.int .i64 xk, .int .i64 xc, .int .i64 xs, .slice A1 xn m1, .int .i64 xa], .agg #[.int .i64 xk, .int .i64 xc, .int .i64 xs, .slice A2 xn m2, .int .i64 xa]] W (Stay (.bool true) W)) (hax : Arr w xA (bs xd))
    (HSy : ∀ (W : World) (A1 : Option Addr) (m1 : Nat) (A2 : Option Addr) (m2 : Nat), Arr W A1 (bs yd) → Arr W A2 (bs yd) → Calls Tryd.prog 17 #[.agg #[.int .i64 yk, .int .i64 yc, .int .i64 ys, .slice A1 yn m1, .int .i64 ya], .agg #[.int .i64 yk, .int .i64 yc, .int .i64 ys, .slice A2 yn m2, .int .i64 ya]] W (Stay (.bool true) W)) (hay : Arr w yA (bs yd))
    (HSz : ∀ (W : World) (A1 : Option Addr) (m1 : Nat) (A2 : Option Addr) (m2 : Nat), Arr W A1 (bs zd) → Arr W A2 (bs zd) → Calls Tryd.prog 17 #[.agg #[.int .i64 zk, .int .i64 zc, .int .i64 zs, .slice A1 zn m1, .int .i64 za], .agg #[.int .i64 zk, .int .i64 zc, .int .i64 zs, .slice A2 zn m2, .int .i64 za]] W (Stay (.bool true) W)) (haz : Arr w zA (bs zd))
    : Calls Tryd.prog 5 #[.slice A n1 c1, .slice B n2 c2] w fun e w' => e = .returned (.bool true) ∧ Kp NoB w w' := by
  replace HAL := Lib.hid HAL
  replace HW1 := Lib.hid HW1
  replace HW2 := Lib.hid HW2
  replace HF1 := Lib.hid HF1
  replace HF2 := Lib.hid HF2
  replace HF3 := Lib.hid HF3
  replace HF4 := Lib.hid HF4
  replace HR1 := Lib.hid HR1
  replace HR2 := Lib.hid HR2
  replace HR3 := Lib.hid HR3
  replace HC := Lib.hid HC
  replace HSx := Lib.hid HSx
  replace HSy := Lib.hid HSy
  replace HSz := Lib.hid HSz
  replace hax := Lib.hid hax
  replace hay := Lib.hid hay
  replace haz := Lib.hid haz
  go_enter Tryd.func5, Tryd.ntmps5
  go_wp2_with (first
    | (go_at_call 13; (with_reducible refine Calls.mono (HW1.out _ (Kp.refl _ _)) ?_); rintro e w1 ⟨rfl, hK⟩; have hk1 := Lib.hid hK; clear hK)
    | (go_at_call 13; (with_reducible refine Calls.mono (HW2.out _ hk1.out) ?_); rintro e w2 ⟨rfl, hK⟩; have hk2 := Lib.hid (hk1.out.and hK); clear hK)
    | (go_at_call 18; (with_reducible refine Calls.mono (HF1.out _ hk2.out) ?_); rintro e w3 ⟨A1, m1, rfl, ha, hK⟩; have ha3 := Lib.hid ha; have hk3 := Lib.hid (hk2.out.and hK); clear hK ha)
    | (go_at_call 18; (with_reducible refine Calls.mono (HF2.out _ hk3.out) ?_); rintro e w4 ⟨A2, m2, rfl, ha, hK⟩; have hb4 := Lib.hid ha; have ha4 := Lib.hid (ha3.out.and hK); have hk4 := Lib.hid (hk3.out.and hK); clear hK ha)
    | (go_at_call 19; (with_reducible refine Calls.mono (HC.out _ (w4.heap.size + 1 + 1) _ (((hk4.out.alloc _).alloc _).alloc _) (Bk.third w4 _ _ _ _)) ?_); rintro e w5 ⟨R, cR, rfl, hl, hK⟩; have hl5 := Lib.hid hl; have hk5 := Lib.hid ((((hk4.out.alloc _).alloc _).alloc _).and hK); have hx5 := Lib.hid ((((Bk.fresh w4 24 #[.int .i64 xk, .int .i64 xc, .int .i64 xs, .slice A1 xn m1, .int .i64 xa]).alloc _).alloc _).and hK); have hy5 := Lib.hid (((Bk.second w4 _ 24 #[.int .i64 yk, .int .i64 yc, .int .i64 ys, .slice A2 yn m2, .int .i64 ya]).alloc _).and hK); have ha5 := Lib.hid (ha4.out.and ((((Kp.refl NoB w4).alloc _).alloc _).alloc _ |>.and hK)); have hb5 := Lib.hid (hb4.out.and ((((Kp.refl NoB w4).alloc _).alloc _).alloc _ |>.and hK)); clear hK hl)
    | (go_at_call 18; (with_reducible refine Calls.mono (HF3.out _ R cR hk5.out hl5.out) ?_); rintro e w6 ⟨A3, m3, rfl, ha, hK⟩; have fs6 : Hid (Fs w w4.heap.size w6.heap.size #[.int .i64 xk, .int .i64 xc, .int .i64 xs, .slice A1 xn m1, .int .i64 xa] #[.int .i64 yk, .int .i64 yc, .int .i64 ys, .slice A2 yn m2, .int .i64 ya] #[.int .i64 zk, .int .i64 zc, .int .i64 zs, .slice A3 zn m3, .int .i64 za] A1 A2 A3 xd yd zd (w6.alloc (.cells #[.int .i64 zk, .int .i64 zc, .int .i64 zs, .slice A3 zn m3, .int .i64 za] 24))) := Lib.hid ⟨(hk5.out.and hK).alloc _, (hx5.out.and hK).alloc _, (hy5.out.and hK).alloc _, Bk.fresh _ _ _, (ha5.out.and hK).alloc _, (hb5.out.and hK).alloc _, ha.alloc _⟩; clear hK ha))
  generalize w6.alloc (.cells #[.int .i64 zk, .int .i64 zc, .int .i64 zs, .slice A3 zn m3, .int .i64 za] 24) = V at fs6 ⊢
  generalize w4.heap.size = p at fs6 ⊢
  generalize w6.heap.size = q at fs6 ⊢
  clear hl5 hk5 hx5 hy5 ha5 hb5 hk4 hb4 ha4 hk3 ha3 hk2 hk1 HW1 HW2 HF1 HF2 HF3
  obtain ⟨x0, x1, x2, x3, x4⟩ := fs6.out.x.five; obtain ⟨y0, y1, y2, y3, y4⟩ := fs6.out.y.five; obtain ⟨z0, z1, z2, z3, z4⟩ := fs6.out.z.five
  go_region_held3 (fun w' => w'.cell? ⟨p, 0, none⟩ = some (.int .i64 xk) ∧ w'.cell? ⟨p, 1, none⟩ = some (.int .i64 xc) ∧ w'.cell? ⟨p, 2, none⟩ = some (.int .i64 xs) ∧ w'.cell? ⟨p, 3, none⟩ = some (.slice A1 xn m1) ∧ w'.cell? ⟨p, 4, none⟩ = some (.int .i64 xa) ∧ w'.cell? ⟨p + 1, 0, none⟩ = some (.int .i64 yk) ∧ w'.cell? ⟨p + 1, 1, none⟩ = some (.int .i64 yc) ∧ w'.cell? ⟨p + 1, 2, none⟩ = some (.int .i64 ys) ∧ w'.cell? ⟨p + 1, 3, none⟩ = some (.slice A2 yn m2) ∧ w'.cell? ⟨p + 1, 4, none⟩ = some (.int .i64 ya) ∧ w'.cell? ⟨q, 0, none⟩ = some (.int .i64 zk) ∧ w'.cell? ⟨q, 1, none⟩ = some (.int .i64 zc) ∧ w'.cell? ⟨q, 2, none⟩ = some (.int .i64 zs) ∧ w'.cell? ⟨q, 3, none⟩ = some (.slice A3 zn m3) ∧ w'.cell? ⟨q, 4, none⟩ = some (.int .i64 za)) (go_keep)
    (first
      | (go_at_call 20; (with_reducible refine Calls.mono (HR1.out _ fs6.out.k.drew) ?_); rintro e w7 ⟨rfl, hK⟩; have fs7 := Lib.hid (fs6.out.and ((Kp.refl NoB V).drew.and hK)); clear x0 x1 x2 x3 x4 y0 y1 y2 y3 y4 z0 z1 z2 z3 z4; obtain ⟨x0, x1, x2, x3, x4⟩ := fs7.out.x.five; obtain ⟨y0, y1, y2, y3, y4⟩ := fs7.out.y.five; obtain ⟨z0, z1, z2, z3, z4⟩ := fs7.out.z.five; clear hK)
      | (go_at_call 17; (with_reducible refine Calls.mono (HSx.out _ A1 m1 xA xm fs7.out.ax (hax.out.and fs7.out.k)) ?_); rintro e w8 ⟨rfl, hK⟩; have fs8 := Lib.hid (fs7.out.and (hK)); clear x0 x1 x2 x3 x4 y0 y1 y2 y3 y4 z0 z1 z2 z3 z4; obtain ⟨x0, x1, x2, x3, x4⟩ := fs8.out.x.five; obtain ⟨y0, y1, y2, y3, y4⟩ := fs8.out.y.five; obtain ⟨z0, z1, z2, z3, z4⟩ := fs8.out.z.five; clear hK)
      | (go_at_call 20; (with_reducible refine Calls.mono (HR2.out _ fs8.out.k) ?_); rintro e w9 ⟨rfl, hK⟩; have fs9 := Lib.hid (fs8.out.and (hK)); clear x0 x1 x2 x3 x4 y0 y1 y2 y3 y4 z0 z1 z2 z3 z4; obtain ⟨x0, x1, x2, x3, x4⟩ := fs9.out.x.five; obtain ⟨y0, y1, y2, y3, y4⟩ := fs9.out.y.five; obtain ⟨z0, z1, z2, z3, z4⟩ := fs9.out.z.five; clear hK)
      | (go_at_call 17; (with_reducible refine Calls.mono (HSy.out _ A2 m2 yA ym fs9.out.ay (hay.out.and fs9.out.k)) ?_); rintro e w10 ⟨rfl, hK⟩; have fs10 := Lib.hid (fs9.out.and (hK)); clear x0 x1 x2 x3 x4 y0 y1 y2 y3 y4 z0 z1 z2 z3 z4; obtain ⟨x0, x1, x2, x3, x4⟩ := fs10.out.x.five; obtain ⟨y0, y1, y2, y3, y4⟩ := fs10.out.y.five; obtain ⟨z0, z1, z2, z3, z4⟩ := fs10.out.z.five; clear hK)
      | (go_at_call 19; (with_reducible refine Calls.mono (HC.out _ w10.heap.size _ (fs10.out.k.alloc _) (Bk.fresh w10 _ _)) ?_); rintro e w11 ⟨R2, cR2, rfl, hl, hK⟩; have hl11 := Lib.hid hl; have fs11 := Lib.hid (fs10.out.and (((Kp.refl NoB w10).alloc _).and hK)); clear x0 x1 x2 x3 x4 y0 y1 y2 y3 y4 z0 z1 z2 z3 z4; obtain ⟨x0, x1, x2, x3, x4⟩ := fs11.out.x.five; obtain ⟨y0, y1, y2, y3, y4⟩ := fs11.out.y.five; obtain ⟨z0, z1, z2, z3, z4⟩ := fs11.out.z.five; clear hK hl)
      | (go_at_call 20; (with_reducible refine Calls.mono (HR3.out _ R2 cR2 fs11.out.k hl11.out) ?_); rintro e w12 ⟨rfl, hK⟩; have fs12 := Lib.hid (fs11.out.and (hK)); clear x0 x1 x2 x3 x4 y0 y1 y2 y3 y4 z0 z1 z2 z3 z4; obtain ⟨x0, x1, x2, x3, x4⟩ := fs12.out.x.five; obtain ⟨y0, y1, y2, y3, y4⟩ := fs12.out.y.five; obtain ⟨z0, z1, z2, z3, z4⟩ := fs12.out.z.five; clear hK)
      | (go_at_call 17; (with_reducible refine Calls.mono (HSz.out _ A3 m3 zA zm fs12.out.az (haz.out.and fs12.out.k)) ?_); rintro e w13 ⟨rfl, hK⟩; have fs13 := Lib.hid (fs12.out.and (hK)); clear x0 x1 x2 x3 x4 y0 y1 y2 y3 y4 z0 z1 z2 z3 z4; obtain ⟨x0, x1, x2, x3, x4⟩ := fs13.out.x.five; obtain ⟨y0, y1, y2, y3, y4⟩ := fs13.out.y.five; obtain ⟨z0, z1, z2, z3, z4⟩ := fs13.out.z.five; clear hK))
  go_wp2
  clear HR1 HR2 HR3 HC hax hay haz HSx HSy hl11 fs6 fs7 fs8 fs9 fs10 fs11 fs12
  by_cases h1 : n1 = 0
  · clear x0 x1 x2 x3 x4 y0 y1 y2 y3 y4 z0 z1 z2 z3 z4
    clear HF4 HSz
    subst h1
    refine wp_region_noPanic ?_
    refine wp_region_held_drew (S := (fun _ => True)) (by kernel_rfl) ?_ (fun hHeld => ?_)
    · exact trivial
    refine wpAnyH_ready (rs := [0]) (by kernel_rfl) (by simp) ?_
    refine AllReadyH.cons (o := ⟨some 48, _, _, _, _, _⟩) rfl (fun K hK => ?_) AllReadyH.nil
    go_simp
    refine (HAL.out _ fs13.out.k.drew).mono ?_
    rintro e w14 ⟨rfl, hK⟩
    have hk14 := Lib.hid (fs13.out.k.drew.and hK)
    clear hK
    refine hK.out _ _ ?_ (fun hHeld => ?_)
    · (try dsimp only)
      all_goals exact trivial
    clear hK K
    try simp only [Act.put, List.setIfInBounds_toArray, List.set_cons_zero, List.set_cons_succ]
    refine wpAnyH_take (i := 1) (oi := ⟨some 49, _, _, _, _, _⟩) (v := ?_) rfl (by kernel_rfl) (by kernel_rfl) (by kernel_rfl) (fun _ _ _ h => h) (Or.inl ⟨by rfl, fun w hSw => ?_⟩) (by assumption) ?_
    rotate_left
    · (try dsimp only at hSw)
      go_simp
      try with_reducible rfl
    try simp only [Act.put, List.setIfInBounds_toArray, List.set_cons_zero, List.set_cons_succ]
    refine wpAnyH_take (i := 2) (oi := ⟨some 50, _, _, _, _, _⟩) (v := ?_) rfl (by kernel_rfl) (by kernel_rfl) (by kernel_rfl) (fun _ _ _ h => h) (Or.inl ⟨by rfl, fun w hSw => ?_⟩) (by assumption) ?_
    rotate_left
    · (try dsimp only at hSw)
      go_simp
      try with_reducible rfl
    try simp only [Act.put, List.setIfInBounds_toArray, List.set_cons_zero, List.set_cons_succ]
    refine wpAnyH_take (i := 3) (oi := ⟨some 51, _, _, _, _, _⟩) (v := ?_) rfl (by kernel_rfl) (by kernel_rfl) (by kernel_rfl) (fun _ _ _ h => h) (Or.inl ⟨by rfl, fun w hSw => ?_⟩) (by assumption) ?_
    rotate_left
    · (try dsimp only at hSw)
      go_simp
      try with_reducible rfl
    try simp only [Act.put, List.setIfInBounds_toArray, List.set_cons_zero, List.set_cons_succ]
    refine wpAnyH_take (i := 4) (oi := ⟨some 52, _, _, _, _, _⟩) (v := ?_) rfl (by kernel_rfl) (by kernel_rfl) (by kernel_rfl) (fun _ _ _ h => h) (Or.inl ⟨by rfl, fun w hSw => ?_⟩) (by assumption) ?_
    rotate_left
    · (try dsimp only at hSw)
      go_simp
      try with_reducible rfl
    try simp only [Act.put, List.setIfInBounds_toArray, List.set_cons_zero, List.set_cons_succ]
    refine wpAnyH_take (i := 5) (oi := ⟨some 53, _, _, _, _, _⟩) (v := ?_) rfl (by kernel_rfl) (by kernel_rfl) (by kernel_rfl) (fun _ _ _ h => h) (Or.inl ⟨by rfl, fun w hSw => ?_⟩) (by assumption) ?_
    rotate_left
    · (try dsimp only at hSw)
      go_simp
      try with_reducible rfl
    try simp only [Act.put, List.setIfInBounds_toArray, List.set_cons_zero, List.set_cons_succ]
    refine wpAnyH_take (i := 6) (oi := ⟨some 54, _, _, _, _, _⟩) (v := undef) rfl (by kernel_rfl) (by kernel_rfl) (by kernel_rfl) (fun _ _ _ h => h) (Or.inr ⟨rfl, rfl⟩) (by assumption) ?_
    try simp only [Act.put, List.setIfInBounds_toArray, List.set_cons_zero, List.set_cons_succ]
    refine wpAnyH_take (i := 7) (oi := ⟨some 55, _, _, _, _, _⟩) (v := undef) rfl (by kernel_rfl) (by kernel_rfl) (by kernel_rfl) (fun _ _ _ h => h) (Or.inr ⟨rfl, rfl⟩) (by assumption) ?_
    try simp only [Act.put, List.setIfInBounds_toArray, List.set_cons_zero, List.set_cons_succ]
    refine wpAnyH_take (i := 8) (oi := ⟨some 56, _, _, _, _, _⟩) (v := undef) rfl (by kernel_rfl) (by kernel_rfl) (by kernel_rfl) (fun _ _ _ h => h) (Or.inr ⟨rfl, rfl⟩) (by assumption) ?_
    try simp only [Act.put, List.setIfInBounds_toArray, List.set_cons_zero, List.set_cons_succ]
    refine wpAnyH_take (i := 9) (oi := ⟨some 57, _, _, _, _, _⟩) (v := ?_) rfl (by kernel_rfl) (by kernel_rfl) (by kernel_rfl) (fun _ _ _ h => h) (Or.inl ⟨by rfl, fun w hSw => ?_⟩) (by assumption) ?_
    rotate_left
    · (try dsimp only at hSw)
      go_simp
      try with_reducible rfl
    try simp only [Act.put, List.setIfInBounds_toArray, List.set_cons_zero, List.set_cons_succ]
    refine wpAnyH_take (i := 10) (oi := ⟨some 58, _, _, _, _, _⟩) (v := ?_) rfl (by kernel_rfl) (by kernel_rfl) (by kernel_rfl) (fun _ _ _ h => h) (Or.inl ⟨by rfl, fun w hSw => ?_⟩) (by assumption) ?_
    rotate_left
    · (try dsimp only at hSw)
      go_simp
      try with_reducible rfl
    try simp only [Act.put, List.setIfInBounds_toArray, List.set_cons_zero, List.set_cons_succ]
    refine wpAnyH_take (i := 11) (oi := ⟨some 59, _, _, _, _, _⟩) (v := undef) rfl (by kernel_rfl) (by kernel_rfl) (by kernel_rfl) (fun _ _ _ h => h) (Or.inr ⟨rfl, rfl⟩) (by assumption) ?_
    try simp only [Act.put, List.setIfInBounds_toArray, List.set_cons_zero, List.set_cons_succ]
    refine wpAnyH_take (i := 12) (oi := ⟨some 60, _, _, _, _, _⟩) (v := undef) rfl (by kernel_rfl) (by kernel_rfl) (by kernel_rfl) (fun _ _ _ h => h) (Or.inr ⟨rfl, rfl⟩) (by assumption) ?_
    try simp only [Act.put, List.setIfInBounds_toArray, List.set_cons_zero, List.set_cons_succ]
    refine wpAnyH_take (i := 13) (oi := ⟨some 61, _, _, _, _, _⟩) (v := undef) rfl (by kernel_rfl) (by kernel_rfl) (by kernel_rfl) (fun _ _ _ h => h) (Or.inr ⟨rfl, rfl⟩) (by assumption) ?_
    try simp only [Act.put, List.setIfInBounds_toArray, List.set_cons_zero, List.set_cons_succ]
    refine wpAnyH_take (i := 14) (oi := ⟨some 62, _, _, _, _, _⟩) (v := undef) rfl (by kernel_rfl) (by kernel_rfl) (by kernel_rfl) (fun _ _ _ h => h) (Or.inr ⟨rfl, rfl⟩) (by assumption) ?_
    try simp only [Act.put, List.setIfInBounds_toArray, List.set_cons_zero, List.set_cons_succ]
    refine wpAnyH_take (i := 15) (oi := ⟨some 63, _, _, _, _, _⟩) (v := undef) rfl (by kernel_rfl) (by kernel_rfl) (by kernel_rfl) (fun _ _ _ h => h) (Or.inr ⟨rfl, rfl⟩) (by assumption) ?_
    try simp only [Act.put, List.setIfInBounds_toArray, List.set_cons_zero, List.set_cons_succ]
    refine wpAnyH_take (i := 16) (oi := ⟨some 64, _, _, _, _, _⟩) (v := undef) rfl (by kernel_rfl) (by kernel_rfl) (by kernel_rfl) (fun _ _ _ h => h) (Or.inr ⟨rfl, rfl⟩) (by assumption) ?_
    try simp only [Act.put, List.setIfInBounds_toArray, List.set_cons_zero, List.set_cons_succ]
    refine wpAnyH_take (i := 17) (oi := ⟨some 65, _, _, _, _, _⟩) (v := ?_) rfl (by kernel_rfl) (by kernel_rfl) (by kernel_rfl) (fun _ _ _ h => h) (Or.inl ⟨by rfl, fun w hSw => ?_⟩) (by assumption) ?_
    rotate_left
    · (try dsimp only at hSw)
      go_simp
      try with_reducible rfl
    try simp only [Act.put, List.setIfInBounds_toArray, List.set_cons_zero, List.set_cons_succ]
    refine wpAnyH_take (i := 18) (oi := ⟨some 66, _, _, _, _, _⟩) (v := ?_) rfl (by kernel_rfl) (by kernel_rfl) (by kernel_rfl) (fun _ _ _ h => h) (Or.inl ⟨by rfl, fun w hSw => ?_⟩) (by assumption) ?_
    rotate_left
    · (try dsimp only at hSw)
      go_simp
      try with_reducible rfl
    try simp only [Act.put, List.setIfInBounds_toArray, List.set_cons_zero, List.set_cons_succ]
    refine wpAnyH_ready (rs := [19]) (by kernel_rfl) (by simp) ?_
    refine AllReadyH.cons (o := ⟨some 4, _, _, _, _, _⟩) rfl (fun K hK => ?_) AllReadyH.nil
    go_simp
    refine hK.out _ _ ?_ (fun hHeld => ?_)
    · (try dsimp only)
      all_goals exact trivial
    clear hK K
    try simp only [Act.put, List.setIfInBounds_toArray, List.set_cons_zero, List.set_cons_succ]
    refine wpAnyH_done (by kernel_rfl) ?_ _
    refine NoPanic.normal ?_
    go_wp2
    go_ret
    exact ⟨rfl, hk14.out⟩
  · by_cases h2 : n2 = 0
    · clear x0 x1 x2 x3 x4 y0 y1 y2 y3 y4 z0 z1 z2 z3 z4
      clear HF4 HSz
      subst h2
      have h1' : ((n1 : Int) == 0) = false := by rw [beq_eq_false_iff_ne]; omega
      clear h1
      refine wp_region_noPanic ?_
      refine wp_region_held_drew (S := (fun _ => True)) (by kernel_rfl) ?_ (fun hHeld => ?_)
      · exact trivial
      refine wpAnyH_ready (rs := [0]) (by kernel_rfl) (by simp) ?_
      refine AllReadyH.cons (o := ⟨some 48, _, _, _, _, _⟩) rfl (fun K hK => ?_) AllReadyH.nil
      go_simp
      refine (HAL.out _ fs13.out.k.drew).mono ?_
      rintro e w14 ⟨rfl, hK⟩
      have hk14 := Lib.hid (fs13.out.k.drew.and hK)
      clear hK
      refine hK.out _ _ ?_ (fun hHeld => ?_)
      · (try dsimp only)
        all_goals exact trivial
      clear hK K
      try simp only [Act.put, List.setIfInBounds_toArray, List.set_cons_zero, List.set_cons_succ]
      refine wpAnyH_take (i := 1) (oi := ⟨some 49, _, _, _, _, _⟩) (v := ?_) rfl (by kernel_rfl) (by kernel_rfl) (by kernel_rfl) (fun _ _ _ h => h) (Or.inl ⟨by rfl, fun w hSw => ?_⟩) (by assumption) ?_
      rotate_left
      · (try dsimp only at hSw)
        go_simp
        try with_reducible rfl
      try simp only [Act.put, List.setIfInBounds_toArray, List.set_cons_zero, List.set_cons_succ]
      refine wpAnyH_take (i := 2) (oi := ⟨some 50, _, _, _, _, _⟩) (v := ?_) rfl (by kernel_rfl) (by kernel_rfl) (by kernel_rfl) (fun _ _ _ h => h) (Or.inl ⟨by rfl, fun w hSw => ?_⟩) (by assumption) ?_
      rotate_left
      · (try dsimp only at hSw)
        go_simp
        try with_reducible rfl
      try simp only [Act.put, List.setIfInBounds_toArray, List.set_cons_zero, List.set_cons_succ]
      refine wpAnyH_take (i := 3) (oi := ⟨some 51, _, _, _, _, _⟩) (v := ?_) rfl (by kernel_rfl) (by kernel_rfl) (by kernel_rfl) (fun _ _ _ h => h) (Or.inl ⟨by rfl, fun w hSw => ?_⟩) (by assumption) ?_
      rotate_left
      · (try dsimp only at hSw)
        go_simp
        try with_reducible rfl
      try simp only [Act.put, List.setIfInBounds_toArray, List.set_cons_zero, List.set_cons_succ]
      refine wpAnyH_take (i := 4) (oi := ⟨some 52, _, _, _, _, _⟩) (v := ?_) rfl (by kernel_rfl) (by kernel_rfl) (by kernel_rfl) (fun _ _ _ h => h) (Or.inl ⟨by rfl, fun w hSw => ?_⟩) (by assumption) ?_
      rotate_left
      · (try dsimp only at hSw)
        go_simp
        try with_reducible rfl
      try simp only [Act.put, List.setIfInBounds_toArray, List.set_cons_zero, List.set_cons_succ]
      refine wpAnyH_take (i := 5) (oi := ⟨some 53, _, _, _, _, _⟩) (v := ?_) rfl (by kernel_rfl) (by kernel_rfl) (by kernel_rfl) (fun _ _ _ h => h) (Or.inl ⟨by rfl, fun w hSw => ?_⟩) (by assumption) ?_
      rotate_left
      · (try dsimp only at hSw)
        go_simp
        try with_reducible rfl
      try simp only [Act.put, List.setIfInBounds_toArray, List.set_cons_zero, List.set_cons_succ]
      refine wpAnyH_take (i := 6) (oi := ⟨some 54, _, _, _, _, _⟩) (v := ?_) rfl (by kernel_rfl) (by kernel_rfl) (by kernel_rfl) (fun _ _ _ h => h) (Or.inl ⟨by rfl, fun w hSw => ?_⟩) (by assumption) ?_
      rotate_left
      · (try dsimp only at hSw)
        go_simp
        try with_reducible rfl
      try simp only [Act.put, List.setIfInBounds_toArray, List.set_cons_zero, List.set_cons_succ]
      refine wpAnyH_take (i := 7) (oi := ⟨some 55, _, _, _, _, _⟩) (v := ?_) rfl (by kernel_rfl) (by kernel_rfl) (by kernel_rfl) (fun _ _ _ h => h) (Or.inl ⟨by rfl, fun w hSw => ?_⟩) (by assumption) ?_
      rotate_left
      · (try dsimp only at hSw)
        go_simp
        try with_reducible rfl
      try simp only [Act.put, List.setIfInBounds_toArray, List.set_cons_zero, List.set_cons_succ]
      refine wpAnyH_take (i := 8) (oi := ⟨some 56, _, _, _, _, _⟩) (v := ?_) rfl (by kernel_rfl) (by kernel_rfl) (by kernel_rfl) (fun _ _ _ h => h) (Or.inl ⟨by rfl, fun w hSw => ?_⟩) (by assumption) ?_
      rotate_left
      · (try dsimp only at hSw)
        go_simp
        try with_reducible rfl
      try simp only [Act.put, List.setIfInBounds_toArray, List.set_cons_zero, List.set_cons_succ]
      refine wpAnyH_take (i := 9) (oi := ⟨some 57, _, _, _, _, _⟩) (v := ?_) rfl (by kernel_rfl) (by kernel_rfl) (by kernel_rfl) (fun _ _ _ h => h) (Or.inl ⟨by rfl, fun w hSw => ?_⟩) (by assumption) ?_
      rotate_left
      · (try dsimp only at hSw)
        go_simp
        try with_reducible rfl
      try simp only [Act.put, List.setIfInBounds_toArray, List.set_cons_zero, List.set_cons_succ]
      refine wpAnyH_take (i := 10) (oi := ⟨some 58, _, _, _, _, _⟩) (v := ?_) rfl (by kernel_rfl) (by kernel_rfl) (by kernel_rfl) (fun _ _ _ h => h) (Or.inl ⟨by rfl, fun w hSw => ?_⟩) (by assumption) ?_
      rotate_left
      · (try dsimp only at hSw)
        go_simp
        try with_reducible rfl
      try simp only [Act.put, List.setIfInBounds_toArray, List.set_cons_zero, List.set_cons_succ]
      refine wpAnyH_take (i := 11) (oi := ⟨some 59, _, _, _, _, _⟩) (v := undef) rfl (by kernel_rfl) (by kernel_rfl) (by kernel_rfl) (fun _ _ _ h => h) (Or.inr ⟨rfl, rfl⟩) (by assumption) ?_
      try simp only [Act.put, List.setIfInBounds_toArray, List.set_cons_zero, List.set_cons_succ]
      refine wpAnyH_take (i := 12) (oi := ⟨some 60, _, _, _, _, _⟩) (v := undef) rfl (by kernel_rfl) (by kernel_rfl) (by kernel_rfl) (fun _ _ _ h => h) (Or.inr ⟨rfl, rfl⟩) (by assumption) ?_
      try simp only [Act.put, List.setIfInBounds_toArray, List.set_cons_zero, List.set_cons_succ]
      refine wpAnyH_take (i := 13) (oi := ⟨some 61, _, _, _, _, _⟩) (v := undef) rfl (by kernel_rfl) (by kernel_rfl) (by kernel_rfl) (fun _ _ _ h => h) (Or.inr ⟨rfl, rfl⟩) (by assumption) ?_
      try simp only [Act.put, List.setIfInBounds_toArray, List.set_cons_zero, List.set_cons_succ]
      refine wpAnyH_take (i := 14) (oi := ⟨some 62, _, _, _, _, _⟩) (v := undef) rfl (by kernel_rfl) (by kernel_rfl) (by kernel_rfl) (fun _ _ _ h => h) (Or.inr ⟨rfl, rfl⟩) (by assumption) ?_
      try simp only [Act.put, List.setIfInBounds_toArray, List.set_cons_zero, List.set_cons_succ]
      refine wpAnyH_take (i := 15) (oi := ⟨some 63, _, _, _, _, _⟩) (v := undef) rfl (by kernel_rfl) (by kernel_rfl) (by kernel_rfl) (fun _ _ _ h => h) (Or.inr ⟨rfl, rfl⟩) (by assumption) ?_
      try simp only [Act.put, List.setIfInBounds_toArray, List.set_cons_zero, List.set_cons_succ]
      refine wpAnyH_take (i := 16) (oi := ⟨some 64, _, _, _, _, _⟩) (v := undef) rfl (by kernel_rfl) (by kernel_rfl) (by kernel_rfl) (fun _ _ _ h => h) (Or.inr ⟨rfl, rfl⟩) (by assumption) ?_
      try simp only [Act.put, List.setIfInBounds_toArray, List.set_cons_zero, List.set_cons_succ]
      refine wpAnyH_take (i := 17) (oi := ⟨some 65, _, _, _, _, _⟩) (v := ?_) rfl (by kernel_rfl) (by kernel_rfl) (by kernel_rfl) (fun _ _ _ h => h) (Or.inl ⟨by rfl, fun w hSw => ?_⟩) (by assumption) ?_
      rotate_left
      · (try dsimp only at hSw)
        go_simp
        try with_reducible rfl
      try simp only [Act.put, List.setIfInBounds_toArray, List.set_cons_zero, List.set_cons_succ]
      refine wpAnyH_take (i := 18) (oi := ⟨some 66, _, _, _, _, _⟩) (v := ?_) rfl (by kernel_rfl) (by kernel_rfl) (by kernel_rfl) (fun _ _ _ h => h) (Or.inl ⟨by rfl, fun w hSw => ?_⟩) (by assumption) ?_
      rotate_left
      · (try dsimp only at hSw)
        go_simp
        try with_reducible rfl
      try simp only [Act.put, List.setIfInBounds_toArray, List.set_cons_zero, List.set_cons_succ]
      refine wpAnyH_ready (rs := [19]) (by kernel_rfl) (by simp) ?_
      refine AllReadyH.cons (o := ⟨some 4, _, _, _, _, _⟩) rfl (fun K hK => ?_) AllReadyH.nil
      go_simp
      refine hK.out _ _ ?_ (fun hHeld => ?_)
      · (try dsimp only)
        all_goals exact trivial
      clear hK K
      try simp only [Act.put, List.setIfInBounds_toArray, List.set_cons_zero, List.set_cons_succ]
      refine wpAnyH_done (by kernel_rfl) ?_ _
      refine NoPanic.normal ?_
      go_wp2
      go_ret
      exact ⟨rfl, hk14.out⟩
    · have HF5 := Lib.hid (HF4.out h1 h2)
      have h1' : ((n1 : Int) == 0) = false := by rw [beq_eq_false_iff_ne]; omega
      have h2' : ((n2 : Int) == 0) = false := by rw [beq_eq_false_iff_ne]; omega
      clear HF4 h1 h2
      go_region_held3 (fun w' => w'.cell? ⟨p, 0, none⟩ = some (.int .i64 xk) ∧ w'.cell? ⟨p, 1, none⟩ = some (.int .i64 xc) ∧ w'.cell? ⟨p, 2, none⟩ = some (.int .i64 xs) ∧ w'.cell? ⟨p, 3, none⟩ = some (.slice A1 xn m1) ∧ w'.cell? ⟨p, 4, none⟩ = some (.int .i64 xa) ∧ w'.cell? ⟨p + 1, 0, none⟩ = some (.int .i64 yk) ∧ w'.cell? ⟨p + 1, 1, none⟩ = some (.int .i64 yc) ∧ w'.cell? ⟨p + 1, 2, none⟩ = some (.int .i64 ys) ∧ w'.cell? ⟨p + 1, 3, none⟩ = some (.slice A2 yn m2) ∧ w'.cell? ⟨p + 1, 4, none⟩ = some (.int .i64 ya) ∧ w'.cell? ⟨q, 0, none⟩ = some (.int .i64 zk) ∧ w'.cell? ⟨q, 1, none⟩ = some (.int .i64 zc) ∧ w'.cell? ⟨q, 2, none⟩ = some (.int .i64 zs) ∧ w'.cell? ⟨q, 3, none⟩ = some (.slice A3 zn m3) ∧ w'.cell? ⟨q, 4, none⟩ = some (.int .i64 za)) (go_keep)
        (first
          | (go_at_call 8; (with_reducible refine Calls.mono (HAL.out _ fs13.out.k.drew) ?_); rintro e w14 ⟨rfl, hK⟩; have fs14 := Lib.hid (fs13.out.and ((Kp.refl NoB w13).drew.and hK)); clear x0 x1 x2 x3 x4 y0 y1 y2 y3 y4 z0 z1 z2 z3 z4; obtain ⟨x0, x1, x2, x3, x4⟩ := fs14.out.x.five; obtain ⟨y0, y1, y2, y3, y4⟩ := fs14.out.y.five; obtain ⟨z0, z1, z2, z3, z4⟩ := fs14.out.z.five; clear hK)
          | (go_at_call 18; (with_reducible refine Calls.mono (HF5.out _ w14.heap.size _ A1 m1 A2 m2 (Bk.fresh w14 _ _) (fs14.out.ax.alloc _) (fs14.out.ay.alloc _)) ?_); rintro e w15 ⟨A4, m4, rfl, ha, hK⟩; have ha15 := Lib.hid ha; have fs15 := Lib.hid (fs14.out.and (((Kp.refl NoB w14).alloc _).and hK)); clear x0 x1 x2 x3 x4 y0 y1 y2 y3 y4 z0 z1 z2 z3 z4; obtain ⟨x0, x1, x2, x3, x4⟩ := fs15.out.x.five; obtain ⟨y0, y1, y2, y3, y4⟩ := fs15.out.y.five; obtain ⟨z0, z1, z2, z3, z4⟩ := fs15.out.z.five; clear hK ha)
          | (go_at_call 17; (with_reducible refine Calls.mono (HSz.out _ A3 m3 A4 m4 fs15.out.az ha15.out) ?_); rintro e w16 ⟨rfl, hK⟩; have fs16 := Lib.hid (fs15.out.and (hK)); clear x0 x1 x2 x3 x4 y0 y1 y2 y3 y4 z0 z1 z2 z3 z4; obtain ⟨x0, x1, x2, x3, x4⟩ := fs16.out.x.five; obtain ⟨y0, y1, y2, y3, y4⟩ := fs16.out.y.five; obtain ⟨z0, z1, z2, z3, z4⟩ := fs16.out.z.five; clear hK))
      go_wp2
      go_ret
      exact ⟨rfl, fs16.out.k⟩

set_option maxRecDepth 100000 in
set_option maxHeartbeats 4000000 in
theorem ffol_few (A B : Option Addr) (c1 c2 : Nat) (xs ys : List ArgV) (w : World) (hx : InVs w A xs.length c1 xs) (hy : InVs w B ys.length c2 ys) (ld : Ld w) (f1 : fewB xs = true) (f2 : fewB ys = true) :
    Calls Tryd.prog 5 #[.slice A xs.length c1, .slice B ys.length c2] w fun e w' => e = .returned (.bool true) ∧ Kp NoB w w' := by
  obtain ⟨-, hc1, hm1, hA, hI1⟩ := hx
  obtain ⟨-, hc2, hm2, hB, hI2⟩ := hy
  have g1 := f1
  have g2 := f2
  unfold fewB at g1 g2
  simp only [Bool.and_eq_true, decide_eq_true_eq, List.all_eq_true] at g1 g2
  have q1 : ∀ z ∈ xs, Arr w z.A (bs z.d) ∧ z.d.length ≤ 1000 ∧ IsB z.d := fun z hz => ⟨(hI1 z hz).1.2.2.2.1, by have := g1.1 z hz; omega, (hI1 z hz).1.2.2.2.2⟩
  have q2 : ∀ z ∈ ys, Arr w z.A (bs z.d) ∧ z.d.length ≤ 1000 ∧ IsB z.d := fun z hz => ⟨(hI2 z hz).1.2.2.2.1, by have := g2.1 z hz; omega, (hI2 z hz).1.2.2.2.2⟩
  have q3 : ∀ z ∈ xs ++ ys, Arr w z.A (bs z.d) ∧ z.d.length ≤ 1000 ∧ IsB z.d := fun z hz => (List.mem_append.1 hz).elim (q1 z) (q2 z)
  have q0 : Arr w zeroZ.A (bs zeroZ.d) ∧ zeroZ.d.length ≤ 1000 ∧ IsB zeroZ.d := ⟨Arr.nil _ _, Nat.zero_le _, IsB.nil⟩
  obtain ⟨p1, p1', p1''⟩ := foldZ_ok _ q0 xs q1
  obtain ⟨p2, p2', p2''⟩ := foldZ_ok _ q0 ys q2
  obtain ⟨p3, p3', p3''⟩ := foldZ_ok _ q0 (xs ++ ys) q3
  have hs : ∀ (z : ArgV), sameV z.k z.c z.s z.d z.a z.k z.c z.s z.d z.a = true := fun z => by unfold sameV; simp
  refine ffol_walk A B xs.length ys.length (xs ++ ys).length c1 c2
    (foldZ xs).k (foldZ xs).c (foldZ xs).s (foldZ xs).d (foldZ xs).d.length (foldZ xs).A (foldZ xs).m (foldZ xs).a
    (foldZ ys).k (foldZ ys).c (foldZ ys).s (foldZ ys).d (foldZ ys).d.length (foldZ ys).A (foldZ ys).m (foldZ ys).a
    (foldZ (xs ++ ys)).k (foldZ (xs ++ ys)).c (foldZ (xs ++ ys)).s (foldZ (xs ++ ys)).d (foldZ (xs ++ ys)).d.length (foldZ (xs ++ ys)).A (foldZ (xs ++ ys)).m (foldZ (xs ++ ys)).a
    (fun W R => VsL W R (xs ++ ys)) w
    (fun W k => alive_any W (ld.and k))
    (fun W k => by have := few_any A c1 xs W (hA.and k) (by omega); rwa [f1] at this)
    (fun W k => by have := few_any B c2 ys W (hB.and k) (by omega); rwa [f2] at this)
    (fun W k => (ffold_any A c1 xs W (hA.and k) (by omega) (fun z hz => ⟨(q1 z hz).1.and k, (q1 z hz).2.1⟩)).mono (fun e w' h => h.q ⟨rfl, rfl, rfl, rfl, rfl⟩ rfl))
    (fun W k => (ffold_any B c2 ys W (hB.and k) (by omega) (fun z hz => ⟨(q2 z hz).1.and k, (q2 z hz).2.1⟩)).mono (fun e w' h => h.q ⟨rfl, rfl, rfl, rfl, rfl⟩ rfl))
    (fun W R c k h => (ffold_any R c (xs ++ ys) W h (by rw [List.length_append]; omega) (fun z hz => ⟨(q3 z hz).1.and k, (q3 z hz).2.1⟩)).mono (fun e w' h => h.q ⟨rfl, rfl, rfl, rfl, rfl⟩ rfl))
    (fun W k => by have := rfold_any A c1 xs W (hA.and k) (by omega); rwa [rfold_eq] at this)
    (fun W k => by have := rfold_any B c2 ys W (hB.and k) (by omega); rwa [rfold_eq] at this)
    (fun W R c k h => by have := rfold_any R c (xs ++ ys) W h (by rw [List.length_append]; omega); rwa [rfold_eq] at this)
    (fun W b t k h => (concatV_any (some ⟨b, 0, none⟩) 2 [xs, ys] W (vsE_two h rfl rfl hc1 hc2 hm1 hm2 (hA.and k) (hB.and k)) (by simp) (by simp; omega)).mono (fun e w' h => by
      obtain ⟨R, c, he, hl, hk⟩ := h
      rw [show [xs, ys].flatten = xs ++ ys by simp] at he hl
      exact ⟨R, c, he, hl, hk⟩))
    ?_
    (fun W A1 m1 A2 m2 h1 h2 => by have := vsame_any (foldZ xs).k (foldZ xs).c (foldZ xs).s (foldZ xs).d A1 m1 (foldZ xs).a (foldZ xs).k (foldZ xs).c (foldZ xs).s (foldZ xs).d A2 m2 (foldZ xs).a W h1 h2 p1'' p1''; rwa [hs] at this) p1
    (fun W A1 m1 A2 m2 h1 h2 => by have := vsame_any (foldZ ys).k (foldZ ys).c (foldZ ys).s (foldZ ys).d A1 m1 (foldZ ys).a (foldZ ys).k (foldZ ys).c (foldZ ys).s (foldZ ys).d A2 m2 (foldZ ys).a W h1 h2 p2'' p2''; rwa [hs] at this) p2
    (fun W A1 m1 A2 m2 h1 h2 => by have := vsame_any (foldZ (xs ++ ys)).k (foldZ (xs ++ ys)).c (foldZ (xs ++ ys)).s (foldZ (xs ++ ys)).d A1 m1 (foldZ (xs ++ ys)).a (foldZ (xs ++ ys)).k (foldZ (xs ++ ys)).c (foldZ (xs ++ ys)).s (foldZ (xs ++ ys)).d A2 m2 (foldZ (xs ++ ys)).a W h1 h2 p3'' p3''; rwa [hs] at this) p3
  intro n1 n2 W b t A1 m1 A2 m2 hb ha1 ha2
  have e := foldZ_append xs ys (by rintro rfl; exact n1 rfl) (by rintro rfl; exact n2 rfl)
  rw [e]
  have hf := ffold_any (some ⟨b, 0, none⟩) 2 [{ foldZ xs with A := A1, m := m1 }, { foldZ ys with A := A2, m := m2 }] W (vs_two (cs := _) hb rfl) (by simp) (fun z hz => by
    rcases List.mem_cons.1 hz with rfl | hz
    · exact ⟨ha1, p1'⟩
    · rw [List.mem_singleton] at hz
      subst hz
      exact ⟨ha2, p2'⟩)
  have hlk : Like (foldZ [{ foldZ xs with A := A1, m := m1 }, { foldZ ys with A := A2, m := m2 }]) (opZ (foldZ xs) (foldZ ys)) := by
    show Like (opZ { foldZ xs with A := A1, m := m1 } { foldZ ys with A := A2, m := m2 }) _
    exact opZ_like ⟨rfl, rfl, rfl, rfl, rfl⟩ ⟨rfl, rfl, rfl, rfl, rfl⟩
  exact hf.mono (fun e w' h => h.q hlk rfl)

set_option maxRecDepth 100000 in
set_option maxHeartbeats 4000000 in
theorem ffolds_row (A : Option Addr) (n1 c1 : Nat) (xs : List ArgV) (B : Option Addr) (n2 c2 : Nat) (ys : List ArgV) (w : World) (hx : InVs w A n1 c1 xs) (hy : InVs w B n2 c2 ys) (ld : Ld w) :
    Calls Tryd.prog 5 #[.slice A n1 c1, .slice B n2 c2] w fun e w' => e = .returned (.bool true) ∧ Kp NoB w w' := by
  have h1 := hx.1
  have h2 := hy.1
  subst h1 h2
  cases f1 : fewB xs with
  | false =>
    have HW1 := Lib.hid (fun W (k : Kp NoB w W) => few_any A c1 xs W (hx.2.2.2.1.and k) (Nat.le_trans hx.2.1 hx.2.2.1))
    have HAL := Lib.hid (fun W (k : Kp NoB w W) => alive_any W (ld.and k))
    rw [f1] at HW1
    obtain ⟨n1, hn1⟩ : ∃ n, xs.length = n := ⟨_, rfl⟩
    obtain ⟨n2, hn2⟩ : ∃ n, ys.length = n := ⟨_, rfl⟩
    rw [hn1] at HW1 ⊢
    rw [hn2]
    clear hn1 hn2 hx hy f1 ld
    go_enter Tryd.func5, Tryd.ntmps5
    go_wp2_with (first
      | (go_at_call 13; (with_reducible refine Calls.mono (HW1.out _ (Kp.refl _ _)) ?_); rintro e w1 ⟨rfl, hK⟩; have hk1 := Lib.hid hK; clear hK)
      | (go_at_call 8; (with_reducible refine Calls.mono (HAL.out _ hk1.out) ?_); rintro e w2 ⟨rfl, hK⟩; have hk2 := Lib.hid (hk1.out.and hK); clear hK))
    go_ret
    exact ⟨rfl, hk2.out⟩
  | true =>
    cases f2 : fewB ys with
    | true => exact ffol_few A B c1 c2 xs ys w hx hy ld f1 f2
    | false =>
      have HW1 := Lib.hid (fun W (k : Kp NoB w W) => few_any A c1 xs W (hx.2.2.2.1.and k) (Nat.le_trans hx.2.1 hx.2.2.1))
      have HW2 := Lib.hid (fun W (k : Kp NoB w W) => few_any B c2 ys W (hy.2.2.2.1.and k) (Nat.le_trans hy.2.1 hy.2.2.1))
      have HAL := Lib.hid (fun W (k : Kp NoB w W) => alive_any W (ld.and k))
      rw [f1] at HW1
      rw [f2] at HW2
      obtain ⟨n1, hn1⟩ : ∃ n, xs.length = n := ⟨_, rfl⟩
      obtain ⟨n2, hn2⟩ : ∃ n, ys.length = n := ⟨_, rfl⟩
      rw [hn1] at HW1 ⊢
      rw [hn2] at HW2 ⊢
      clear hn1 hn2 hx hy f1 f2 ld
      go_enter Tryd.func5, Tryd.ntmps5
      go_wp2_with (first
        | (go_at_call 13; (with_reducible refine Calls.mono (HW1.out _ (Kp.refl _ _)) ?_); rintro e w1 ⟨rfl, hK⟩; have hk1 := Lib.hid hK; clear hK)
        | (go_at_call 13; (with_reducible refine Calls.mono (HW2.out _ hk1.out) ?_); rintro e w2 ⟨rfl, hK⟩; have hk2 := Lib.hid (hk1.out.and hK); clear hK)
        | (go_at_call 8; (with_reducible refine Calls.mono (HAL.out _ hk2.out) ?_); rintro e w3 ⟨rfl, hK⟩; have hk3 := Lib.hid (hk2.out.and hK); clear hK))
      go_ret
      exact ⟨rfl, hk3.out⟩

end Go.Proofs.YtknaogpkakdcoaaDoor
