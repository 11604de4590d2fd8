/- The walk of the law NoticeVerdicts: it returns true and makes only new blocks, for all options and verdicts. No condition but the listed tables' content. -/
import Derived.Test.YtlklhcgacdjkiaaDoorNotQ
import Derived.Test.YtlklhcgacdjkiaaDoorNotO
import Derived.Test.YtlklhcgacdjkiaaDoorAppZ
import Derived.Test.YtlklhcgacdjkiaaDoorOpenV
namespace Go.Proofs.YtlklhcgacdjkiaaDoor
open Go.RowKit
set_option linter.unusedVariables false
set_option linter.unusedSimpArgs false

theorem Bk.six {w : World} {b : Nat} {t : TypeId} {u v x y z o : Value} (h : Bk w b t #[u, v, x, y, z, o]) : w.cell? ⟨b, 0, none⟩ = some u ∧ w.cell? ⟨b, 1, none⟩ = some v ∧ w.cell? ⟨b, 2, none⟩ = some x ∧ w.cell? ⟨b, 3, none⟩ = some y ∧ w.cell? ⟨b, 4, none⟩ = some z ∧ w.cell? ⟨b, 5, none⟩ = some o ∧ b < w.heap.size :=
  ⟨h.cell 0, h.cell 1, h.cell 2, h.cell 3, h.cell 4, h.cell 5, h.lt⟩

theorem zero_bs (m : Nat) : (Builtin.zeroCells #[.int .u8 0] m).toList = bs (List.replicate m 0) := by
  apply List.ext_getElem?
  intro i
  simp only [Builtin.zeroCells, bs, Array.toList_map, Array.toList_range, List.getElem?_map, List.map_replicate, List.getElem?_replicate]
  by_cases h : i < m
  · simp [h, Nat.mod_one]
  · simp [h]

set_option maxRecDepth 100000 in
set_option maxHeartbeats 1000000 in
theorem nver_long (b0 b1 b2 b3 b4 b5 : Bool) (k c s : Int) (A : Option Addr) (n m : Nat) (a : Int) (q : Int) (w : World) (hn : 600 < n) (ld : Ld w) :
    Calls Tryd.prog 4 #[.agg #[.bool b0, .bool b1, .bool b2, .bool b3, .bool b4, .bool b5], .agg #[.int .i64 k, .int .i64 c, .int .i64 s, .slice A n m, .int .i64 a], .int .u8 q] w (Stay (.bool true) w) := by
  have HA := Lib.hid (fun w' (k : Kp NoB w w') => alive_any w' (ld.and k))
  clear ld
  go_enter Tryd.func4, Tryd.ntmps4
  go_wp2_with (go_at_call 9; refine (HA.out _ (((Kp.refl _ _).alloc _).alloc _)).mono ?_; rintro e w1 ⟨rfl, hK1⟩)
  go_ret
  exact ⟨rfl, (((Kp.refl _ _).alloc _).alloc _).and hK1⟩

/-- What both sides make of a verdict: the NOTIFICATION, or none. -/
structure VerIn (w : World) (b1 : Bool) (k c s : Int) (d : List Int) (a : Int) (A : Option Addr) (m : Nat) : Prop where
  d : InD w A d m

set_option maxRecDepth 100000 in
set_option maxHeartbeats 8000000 in
theorem nver_yes (b0 b1 b2 b3 b4 b5 : Bool) (c s : Int) (A : Option Addr) (xs : List Int) (m : Nat) (a q : Int) (w : World) (hn : xs.length ≤ 600) (hd : InD w A xs m) (hq : q ≤ 250) (hp : properV 4 c s xs.length a = true) (L : Nat) (hL0 : min xs.length (roomV b1) = L) (hL : b1 = true ∨ L ≤ 4075) (hL1 : L ≤ xs.length) (hL2 : L ≤ 65514) (ld : Ld w) :
    Calls Tryd.prog 4 #[.agg #[.bool b0, .bool b1, .bool b2, .bool b3, .bool b4, .bool b5], .agg #[.int .i64 4, .int .i64 c, .int .i64 s, .slice A xs.length m, .int .i64 a], .int .u8 q] w (Stay (.bool true) w) := by
  have HA := Lib.hid (fun w' (k : Kp NoB w w') => alive_any w' (ld.and k))
  have hv : validN c s L = true := by
    simp only [properV, decide_eq_true_eq] at hp
    simp only [validN, decide_eq_true_eq]
    omega
  have hLl : (xs.take L).length = L := by simp; omega
  have hbd : IsB (xs.take L) := hd.2.1.take L
  have H1 := Lib.hid (fun w' (k : Kp NoB w w') => nof_yes b0 b1 b2 b3 b4 b5 c s A xs m a w' hp (hd.and k))
  have H2 := Lib.hid (fun w' (k : Kp NoB w w') => rnof_yes b0 b1 b2 b3 b4 b5 c s A xs m a w' hp (hd.and k))
  rw [hL0] at H1 H2
  unfold NOf at H1 H2
  have H3 := Lib.hid (fun w' A' B m' p (h : Arr w' A' (bs (xs.take L))) (k : Arr w' B (bs (xs.take L))) => rnsame_any c s (xs.take L) A' m' c s (xs.take L) B p w' h hbd k hbd)
  rw [eqN_refl] at H3
  simp only [hLl] at H1 H2 H3
  have H4 := Lib.hid (rproper_any 4 c s A xs.length m a)
  rw [hp] at H4
  have H5 := Lib.hid (fun A' m' => nvalid_any c s A' L m')
  rw [hv] at H5
  obtain ⟨n, hnn⟩ : ∃ n, xs.length = n := ⟨_, rfl⟩
  simp only [hnn] at *
  have h600 : ¬ 600 < n := by omega
  have hk0 := Lib.hid (((Kp.refl NoB w).alloc (.cells #[.bool b0, .bool b1, .bool b2, .bool b3, .bool b4, .bool b5] 26)).alloc (.cells #[.int .i64 4, .int .i64 c, .int .i64 s, .slice A n m, .int .i64 a] 29))
  have ho0 := Lib.hid ((Bk.fresh w 26 #[.bool b0, .bool b1, .bool b2, .bool b3, .bool b4, .bool b5]).alloc (.cells #[.int .i64 4, .int .i64 c, .int .i64 s, .slice A n m, .int .i64 a] 29))
  have hv0 := Lib.hid (Bk.second w (.cells #[.bool b0, .bool b1, .bool b2, .bool b3, .bool b4, .bool b5] 26) 29 #[.int .i64 4, .int .i64 c, .int .i64 s, .slice A n m, .int .i64 a])
  clear ld hd hn hp hL0 hL1 hL2 hv hLl hbd hnn
  go_enter Tryd.func4, Tryd.ntmps4
  go_wp2_with fail
  refine (H1.out _ hk0.out).mono ?_
  rintro e w1 ⟨A1, m1, rfl, d1, hl1, hM1, hK1⟩
  replace d1 := Lib.hid d1
  clear hl1 hM1
  have o1' := Lib.hid (ho0.out.and hK1)
  have v1 := Lib.hid (hv0.out.and hK1)
  have k1 := Lib.hid (hk0.out.and hK1)
  clear hK1
  obtain ⟨o1, o2, o3, o4, o5, o6, o7⟩ := o1'.out.six
  obtain ⟨x1, x2, x3, x4, x5, x6⟩ := v1.out.five
  go_wp2_with fail
  refine (H2.out _ (k1.out.alloc _)).mono ?_
  rintro e w2 ⟨A2, m2, rfl, d2, hl2, hM2, hK2⟩
  replace d2 := Lib.hid d2
  clear hl2 hM2
  have kk := ((Kp.refl NoB w1).alloc (.cells #[.int .i64 c, .int .i64 s, .slice A1 L m1] 32)).and hK2
  have n2 := Lib.hid ((Bk.fresh w1 32 #[.int .i64 c, .int .i64 s, .slice A1 L m1]).and hK2)
  have kk3 := kk.alloc (.cells #[.int .i64 c, .int .i64 s, .slice A2 L m2] 35)
  have r3 := Lib.hid (Bk.fresh w2 35 #[.int .i64 c, .int .i64 s, .slice A2 L m2])
  have n3 := Lib.hid (n2.out.alloc (.cells #[.int .i64 c, .int .i64 s, .slice A2 L m2] 35))
  have o3' := Lib.hid (o1'.out.and kk3)
  have v3 := Lib.hid (v1.out.and kk3)
  have k3 := Lib.hid (k1.out.and kk3)
  have d13 := Lib.hid (d1.out.and kk3)
  have d23 := Lib.hid (d2.out.alloc (.cells #[.int .i64 c, .int .i64 s, .slice A2 L m2] 35))
  clear hK2 kk kk3 o1 o2 o3 o4 o5 o6 o7 x1 x2 x3 x4 x5 x6
  go_wp2_with fail
  refine (HA.out _ k3.out).mono ?_
  rintro e w4 ⟨rfl, hK4⟩
  have o4' := Lib.hid (o3'.out.and hK4)
  have v4 := Lib.hid (v3.out.and hK4)
  have n4 := Lib.hid (n3.out.and hK4)
  have r4 := Lib.hid (r3.out.and hK4)
  have k4 := Lib.hid (k3.out.and hK4)
  have d14 := Lib.hid (d13.out.and hK4)
  have d24 := Lib.hid (d23.out.and hK4)
  clear hK4
  obtain ⟨y1, y2, y3, y4, y5, y6, y7⟩ := n4.out.three
  obtain ⟨z1, z2, z3, z4, z5, z6, z7⟩ := r4.out.three
  go_wp2_with fail
  refine (H3.out _ _ _ _ _ d14.out d24.out).mono ?_
  rintro e w5 ⟨rfl, hK5⟩
  have o5' := Lib.hid (o4'.out.and hK5)
  have v5 := Lib.hid (v4.out.and hK5)
  have n5 := Lib.hid (n4.out.and hK5)
  have k5 := Lib.hid (k4.out.and hK5)
  clear hK5 y1 y2 y3 y4 y5 y6 y7 z1 z2 z3 z4 z5 z6 z7
  obtain ⟨o1, o2, o3, o4, o5, o6, o7⟩ := o5'.out.six
  obtain ⟨x1, x2, x3, x4, x5, x6⟩ := v5.out.five
  obtain ⟨y1, y2, y3, y4, y5, y6, y7⟩ := n5.out.three
  go_wp2_with fail
  refine (H4.out _).mono ?_
  rintro e w6 ⟨rfl, hK6⟩
  have o6' := Lib.hid (o5'.out.and hK6)
  have n6 := Lib.hid (n5.out.and hK6)
  have k6 := Lib.hid (k5.out.and hK6)
  clear hK6 o1 o2 o3 o4 o5 o6 o7 x1 x2 x3 x4 x5 x6 y1 y2 y3 y4 y5 y6 y7
  obtain ⟨o1, o2, o3, o4, o5, o6, o7⟩ := o6'.out.six
  obtain ⟨y1, y2, y3, y4, y5, y6, y7⟩ := n6.out.three
  go_wp2_with fail
  refine (H5.out _ _ _).mono ?_
  rintro e w7 ⟨rfl, hK7⟩
  have o7' := Lib.hid (o6'.out.and hK7)
  have n7 := Lib.hid (n6.out.and hK7)
  have k7 := Lib.hid (k6.out.and hK7)
  clear hK7 o1 o2 o3 o4 o5 o6 o7 y1 y2 y3 y4 y5 y6 y7
  obtain ⟨o1, o2, o3, o4, o5, o6, o7⟩ := o7'.out.six
  obtain ⟨y1, y2, y3, y4, y5, y6, y7⟩ := n7.out.three
  rcases hL with rfl | hL
  · go_wp2_with fail
    go_ret
    exact ⟨rfl, k7.out⟩
  · have hLi : (L : Int) ≤ 4075 := by omega
    cases b1
    · go_wp2_with fail
      go_ret
      exact ⟨rfl, k7.out⟩
    · go_wp2_with fail
      go_ret
      exact ⟨rfl, k7.out⟩

set_option maxRecDepth 100000 in
set_option maxHeartbeats 8000000 in
theorem nver_no (b0 b1 b2 b3 b4 b5 : Bool) (k c s : Int) (A : Option Addr) (xs : List Int) (m : Nat) (a q : Int) (w : World) (hn : xs.length ≤ 600) (hd : InD w A xs m) (hq : q ≤ 250) (hno : k ≠ 4 ∨ (k = 4 ∧ properV k c s xs.length a = false)) (ld : Ld w) :
    Calls Tryd.prog 4 #[.agg #[.bool b0, .bool b1, .bool b2, .bool b3, .bool b4, .bool b5], .agg #[.int .i64 k, .int .i64 c, .int .i64 s, .slice A xs.length m, .int .i64 a], .int .u8 q] w (Stay (.bool true) w) := by
  have HA := Lib.hid (fun w' (k : Kp NoB w w') => alive_any w' (ld.and k))
  have hno' : k ≠ 4 ∨ properV k c s xs.length a = false := hno.imp id (fun h => h.2)
  have H1 := Lib.hid (fun w' => nof_no b0 b1 b2 b3 b4 b5 k c s A xs.length m a w' hno')
  have H2 := Lib.hid (fun w' => rnof_no b0 b1 b2 b3 b4 b5 k c s A xs.length m a w' hno')
  unfold nparseNone at H1 H2
  have H3 := Lib.hid (fun w' => rnsame_any 0 0 [] none 0 0 0 [] none 0 w' (Arr.nil _ _) IsB.nil (Arr.nil _ _) IsB.nil)
  rw [eqN_refl] at H3
  simp only [List.length_nil] at H3
  have H4 := Lib.hid (rproper_any k c s A xs.length m a)
  obtain ⟨n, hnn⟩ : ∃ n, xs.length = n := ⟨_, rfl⟩
  simp only [hnn] at *
  have h600 : ¬ 600 < n := by omega
  have hk0 := Lib.hid (((Kp.refl NoB w).alloc (.cells #[.bool b0, .bool b1, .bool b2, .bool b3, .bool b4, .bool b5] 26)).alloc (.cells #[.int .i64 k, .int .i64 c, .int .i64 s, .slice A n m, .int .i64 a] 29))
  have ho0 := Lib.hid ((Bk.fresh w 26 #[.bool b0, .bool b1, .bool b2, .bool b3, .bool b4, .bool b5]).alloc (.cells #[.int .i64 k, .int .i64 c, .int .i64 s, .slice A n m, .int .i64 a] 29))
  have hv0 := Lib.hid (Bk.second w (.cells #[.bool b0, .bool b1, .bool b2, .bool b3, .bool b4, .bool b5] 26) 29 #[.int .i64 k, .int .i64 c, .int .i64 s, .slice A n m, .int .i64 a])
  clear ld hd hn hno' hnn
  go_enter Tryd.func4, Tryd.ntmps4
  go_wp2_with fail
  refine (H1.out _).mono ?_
  rintro e w1 ⟨rfl, hK1⟩
  have o1' := Lib.hid (ho0.out.and hK1)
  have v1 := Lib.hid (hv0.out.and hK1)
  have k1 := Lib.hid (hk0.out.and hK1)
  clear hK1
  obtain ⟨o1, o2, o3, o4, o5, o6, o7⟩ := o1'.out.six
  obtain ⟨x1, x2, x3, x4, x5, x6⟩ := v1.out.five
  go_wp2_with fail
  refine (H2.out _).mono ?_
  rintro e w2 ⟨rfl, hK2⟩
  have kk := ((Kp.refl NoB w1).alloc (.cells #[.int .i64 0, .int .i64 0, .slice none 0 0] 32)).and hK2
  have n2 := Lib.hid ((Bk.fresh w1 32 #[.int .i64 0, .int .i64 0, .slice none 0 0]).and hK2)
  have kk3 := kk.alloc (.cells #[.int .i64 0, .int .i64 0, .slice none 0 0] 35)
  have r3 := Lib.hid (Bk.fresh w2 35 #[.int .i64 0, .int .i64 0, .slice none 0 0])
  have n3 := Lib.hid (n2.out.alloc (.cells #[.int .i64 0, .int .i64 0, .slice none 0 0] 35))
  have o3' := Lib.hid (o1'.out.and kk3)
  have v3 := Lib.hid (v1.out.and kk3)
  have k3 := Lib.hid (k1.out.and kk3)
  clear hK2 kk kk3 o1 o2 o3 o4 o5 o6 o7 x1 x2 x3 x4 x5 x6
  go_wp2_with fail
  refine (HA.out _ k3.out).mono ?_
  rintro e w4 ⟨rfl, hK4⟩
  have o4' := Lib.hid (o3'.out.and hK4)
  have v4 := Lib.hid (v3.out.and hK4)
  have n4 := Lib.hid (n3.out.and hK4)
  have r4 := Lib.hid (r3.out.and hK4)
  have k4 := Lib.hid (k3.out.and hK4)
  clear hK4
  obtain ⟨y1, y2, y3, y4, y5, y6, y7⟩ := n4.out.three
  obtain ⟨z1, z2, z3, z4, z5, z6, z7⟩ := r4.out.three
  go_wp2_with fail
  refine (H3.out _).mono ?_
  rintro e w5 ⟨rfl, hK5⟩
  have o5' := Lib.hid (o4'.out.and hK5)
  have v5 := Lib.hid (v4.out.and hK5)
  have n5 := Lib.hid (n4.out.and hK5)
  have k5 := Lib.hid (k4.out.and hK5)
  clear hK5 y1 y2 y3 y4 y5 y6 y7 z1 z2 z3 z4 z5 z6 z7
  obtain ⟨o1, o2, o3, o4, o5, o6, o7⟩ := o5'.out.six
  obtain ⟨x1, x2, x3, x4, x5, x6⟩ := v5.out.five
  obtain ⟨y1, y2, y3, y4, y5, y6, y7⟩ := n5.out.three
  rcases hno with h4 | ⟨h4, hp⟩
  · go_wp2_with fail
    go_ret
    exact ⟨rfl, k5.out⟩
  · subst h4
    rw [hp] at H4
    go_wp2_with fail
    refine (H4.out _).mono ?_
    rintro e w6 ⟨rfl, hK6⟩
    go_wp2_with fail
    go_ret
    exact ⟨rfl, k5.out.and hK6⟩

set_option maxRecDepth 100000 in
set_option maxHeartbeats 8000000 in
theorem nver_more_yes (b0 b1 b2 b3 b4 b5 : Bool) (c s : Int) (A : Option Addr) (xs D : List Int) (m : Nat) (a q : Int) (p : Nat) (w : World) (hn : xs.length ≤ 600) (hx : InD w A xs m) (hq : 250 < q) (hq5 : q ≤ 255) (hpq : (p : Int) = 4000 + q) (hD : D = xs ++ List.replicate p 0) (hp : properV 4 c s D.length a = true) (L : Nat) (hL0 : min D.length (roomV b1) = L) (hL : b1 = true ∨ L ≤ 4075) (hL1 : L ≤ D.length) (hL2 : L ≤ 65514) (ld : Ld w) :
    Calls Tryd.prog 4 #[.agg #[.bool b0, .bool b1, .bool b2, .bool b3, .bool b4, .bool b5], .agg #[.int .i64 4, .int .i64 c, .int .i64 s, .slice A xs.length m, .int .i64 a], .int .u8 q] w (Stay (.bool true) w) := by
  obtain ⟨i0, hi, hz0, hz1, hz2⟩ := info_parts infoU8
  have HA := Lib.hid (fun w' (k : Kp NoB w w') => alive_any w' (ld.and k))
  have HC := Lib.hid (fun w' (k : Kp NoB w w') => clone_any A m xs w' (by omega) (hx.1.and k))
  unfold Cloned at HC
  have hDl : D.length = xs.length + p := by rw [hD]; simp
  have hDb : IsB D := by rw [hD]; exact hx.2.1.append (fun y hy => by have := List.eq_of_mem_replicate hy; omega)
  have hDB : bs D = bs xs ++ (Builtin.zeroCells #[.int .u8 0] p).toList := by rw [zero_bs, hD, bs_append]
  have hv : validN c s L = true := by
    simp only [properV, decide_eq_true_eq] at hp
    simp only [validN, decide_eq_true_eq]
    omega
  have hLl : (D.take L).length = L := by simp; omega
  have hbd : IsB (D.take L) := hDb.take L
  have HLl := Lib.hid hLl
  have HP := Lib.hid hp
  have HL0 := Lib.hid hL0
  have H3 := Lib.hid (fun w' A' B m' p (h : Arr w' A' (bs (D.take L))) (k : Arr w' B (bs (D.take L))) => rnsame_any c s (D.take L) A' m' c s (D.take L) B p w' h hbd k hbd)
  rw [eqN_refl] at H3
  simp only [hLl] at H3
  have H4 := Lib.hid (fun A' m' => rproper_any 4 c s A' D.length m' a)
  rw [hp] at H4
  have H5 := Lib.hid (fun A' m' => nvalid_any c s A' L m')
  rw [hv] at H5
  have hq64 : IntKind.i64.wrap q = q := IntWalk.i64_in _ (by omega)
  have hq65 : IntKind.i64.wrap (4000 + q) = 4000 + q := IntWalk.i64_in _ (by omega)
  have HZ := Lib.hid (fun u (hu : u ∈ (Builtin.zeroCells #[.int .u8 0] p).toList) => (by rw [zero_bs] at hu; exact bs_one _ u hu : u.oneCell' = true))
  have hp0 : 0 < p := by omega
  have HPQ : Hid (Value.int .i64 (4000 + q) = Value.int .i64 (p : Int)) := Lib.hid (by rw [hpq])
  have HDB := Lib.hid hDB
  have HDbb := Lib.hid hDb
  clear hDb
  obtain ⟨n, hnn⟩ : ∃ n, xs.length = n := ⟨_, rfl⟩
  obtain ⟨N, hNN⟩ : ∃ N, D.length = N := ⟨_, rfl⟩
  rw [hnn, hNN] at hDl
  simp only [hnn, hNN] at HC H4 ⊢
  have HDl := Lib.hid hDl
  have HNN := Lib.hid hNN
  obtain ⟨XS, hXS⟩ : ∃ XS, bs xs = XS := ⟨_, rfl⟩
  rw [hXS] at HDB HC
  have h600 : ¬ 600 < n := by omega
  have hNb : n + p ≤ 10000 := by omega
  have hk0 := Lib.hid (((Kp.refl NoB w).alloc (.cells #[.bool b0, .bool b1, .bool b2, .bool b3, .bool b4, .bool b5] 26)).alloc (.cells #[.int .i64 4, .int .i64 c, .int .i64 s, .slice A n m, .int .i64 a] 29))
  have ho0 := Lib.hid ((Bk.fresh w 26 #[.bool b0, .bool b1, .bool b2, .bool b3, .bool b4, .bool b5]).alloc (.cells #[.int .i64 4, .int .i64 c, .int .i64 s, .slice A n m, .int .i64 a] 29))
  have hv0 := Lib.hid (Bk.second w (.cells #[.bool b0, .bool b1, .bool b2, .bool b3, .bool b4, .bool b5] 26) 29 #[.int .i64 4, .int .i64 c, .int .i64 s, .slice A n m, .int .i64 a])
  clear ld hx hn hDB hD hDl hNN hpq hXS hp hL0 hL1 hL2 hv hLl hbd hnn
  go_enter Tryd.func4, Tryd.ntmps4
  go_wp2_with fail
  refine (HC.out _ hk0.out).mono ?_
  rintro e w0 ⟨A0, c0, rfl, hown0, hK0⟩
  have v0 := Lib.hid (hv0.out.and hK0)
  obtain ⟨x1, x2, x3, x4, x5, x6⟩ := v0.out.five
  go_wp2_with (refine wpList_appz hK0 rfl (.tmp 20) (.tmp 23) 27 3 rfl 5 i0 (.int .u8 0) 1 1 .i64 .i64 Tryd.underlying27 Tryd.underlying3 hi hz0 hz1 hz2 rfl (by decide) (by decide) _ _ _ rfl hown0 p HPQ.out hp0 HZ.out (by omega) N HDl.out ?_; intro A2 c2 w2 hown2 hK2 _; clear x1 x2 x3 x4 x5 x6; have hv2 := Lib.hid (hv0.out.and hK2); obtain ⟨x1, x2, x3, x4, x5, x6⟩ := hv2.out.five; have xf := hv2.out.frozen 3; have ho2 := Lib.hid (ho0.out.and hK2); obtain ⟨o1, o2, o3, o4, o5, o6, o7⟩ := ho2.out.six)
  have hsz0 : ((w.alloc (.cells #[.bool b0, .bool b1, .bool b2, .bool b3, .bool b4, .bool b5] 26)).alloc (.cells #[.int .i64 4, .int .i64 c, .int .i64 s, .slice A n m, .int .i64 a] 29)).heap.size = w.heap.size + 1 + 1 := by simp
  have KS2 : Kp (OnB (w.heap.size + 1)) w2 (w2.setCell ⟨w.heap.size + 1, 3, none⟩ (.slice A2 N c2)) := (Kp.refl _ _).set_on _
  have hk2 := Lib.hid (hk0.out.and hK2)
  have hk3 := Lib.hid (hk2.out.new KS2 (by omega))
  have ho3 := Lib.hid (((ho0.out.and hK2)).keep KS2 (fun hq => by have : w.heap.size = w.heap.size + 1 := hq; omega))
  have hv3 : Hid (Bk (w2.setCell ⟨w.heap.size + 1, 3, none⟩ (.slice A2 N c2)) (w.heap.size + 1) 29 #[.int .i64 4, .int .i64 c, .int .i64 s, .slice A2 N c2, .int .i64 a]) := Lib.hid (hv2.out.set 3 (.slice A2 N c2))
  have hown3 := KS2.own hown2 (fun b hb hq => own_ge hown2 (show w.heap.size + 1 < _ by rw [hsz0]; omega) (by rw [hb, show b = w.heap.size + 1 from hq]))
  obtain ⟨A', c', e', hl', hM', harr⟩ := own_form hown3
  injection e' with e1 _ e2
  subst e1 e2
  replace harr : Arr (w2.setCell ⟨w.heap.size + 1, 3, none⟩ (.slice A2 N c2)) A2 (bs D) := by rw [HDB.out]; exact harr
  have hd3 : Hid (InD (w2.setCell ⟨w.heap.size + 1, 3, none⟩ (.slice A2 N c2)) A2 D c2) := Lib.hid ⟨harr, HDbb.out, by rw [HNN.out]; exact hl', hM'⟩
  have H1 := Lib.hid (fun w' (k : Kp NoB (w2.setCell ⟨w.heap.size + 1, 3, none⟩ (.slice A2 N c2)) w') => nof_yes b0 b1 b2 b3 b4 b5 c s A2 D c2 a w' HP.out (hd3.out.and k))
  have H2 := Lib.hid (fun w' (k : Kp NoB (w2.setCell ⟨w.heap.size + 1, 3, none⟩ (.slice A2 N c2)) w') => rnof_yes b0 b1 b2 b3 b4 b5 c s A2 D c2 a w' HP.out (hd3.out.and k))
  rw [HL0.out, HNN.out] at H1 H2
  unfold NOf at H1 H2
  simp only [HLl.out] at H1 H2
  have hj3 := Lib.hid (Kp.refl NoB (w2.setCell ⟨w.heap.size + 1, 3, none⟩ (.slice A2 N c2)))
  clear hown3 hown2 KS2 harr hl' hM' hK2 hown0 hK0 v0
  refine (H1.out _ hj3.out).mono ?_
  rintro e w1 ⟨A1, m1, rfl, d1, hl1, hM1, hK1⟩
  replace d1 := Lib.hid d1
  clear hl1 hM1
  have o1' := Lib.hid (ho3.out.and hK1)
  have v1 := Lib.hid (hv3.out.and hK1)
  have k1 := Lib.hid (hk3.out.and hK1)
  have j1 := Lib.hid (hj3.out.and hK1)
  clear hK1 x1 x2 x3 x4 x5 x6 xf o1 o2 o3 o4 o5 o6 o7
  obtain ⟨o1, o2, o3, o4, o5, o6, o7⟩ := o1'.out.six
  obtain ⟨x1, x2, x3, x4, x5, x6⟩ := v1.out.five
  go_wp2_with fail
  refine (H2.out _ (j1.out.alloc _)).mono ?_
  rintro e w2 ⟨A2, m2, rfl, d2, hl2, hM2, hK2⟩
  replace d2 := Lib.hid d2
  clear hl2 hM2
  have kk := ((Kp.refl NoB w1).alloc (.cells #[.int .i64 c, .int .i64 s, .slice A1 L m1] 32)).and hK2
  have n2 := Lib.hid ((Bk.fresh w1 32 #[.int .i64 c, .int .i64 s, .slice A1 L m1]).and hK2)
  have kk3 := kk.alloc (.cells #[.int .i64 c, .int .i64 s, .slice A2 L m2] 35)
  have r3 := Lib.hid (Bk.fresh w2 35 #[.int .i64 c, .int .i64 s, .slice A2 L m2])
  have n3 := Lib.hid (n2.out.alloc (.cells #[.int .i64 c, .int .i64 s, .slice A2 L m2] 35))
  have o3' := Lib.hid (o1'.out.and kk3)
  have v3 := Lib.hid (v1.out.and kk3)
  have k3 := Lib.hid (k1.out.and kk3)
  have d13 := Lib.hid (d1.out.and kk3)
  have d23 := Lib.hid (d2.out.alloc (.cells #[.int .i64 c, .int .i64 s, .slice A2 L m2] 35))
  clear hK2 kk kk3 o1 o2 o3 o4 o5 o6 o7 x1 x2 x3 x4 x5 x6
  go_wp2_with fail
  refine (HA.out _ k3.out).mono ?_
  rintro e w4 ⟨rfl, hK4⟩
  have o4' := Lib.hid (o3'.out.and hK4)
  have v4 := Lib.hid (v3.out.and hK4)
  have n4 := Lib.hid (n3.out.and hK4)
  have r4 := Lib.hid (r3.out.and hK4)
  have k4 := Lib.hid (k3.out.and hK4)
  have d14 := Lib.hid (d13.out.and hK4)
  have d24 := Lib.hid (d23.out.and hK4)
  clear hK4
  obtain ⟨y1, y2, y3, y4, y5, y6, y7⟩ := n4.out.three
  obtain ⟨z1, z2, z3, z4, z5, z6, z7⟩ := r4.out.three
  go_wp2_with fail
  refine (H3.out _ _ _ _ _ d14.out d24.out).mono ?_
  rintro e w5 ⟨rfl, hK5⟩
  have o5' := Lib.hid (o4'.out.and hK5)
  have v5 := Lib.hid (v4.out.and hK5)
  have n5 := Lib.hid (n4.out.and hK5)
  have k5 := Lib.hid (k4.out.and hK5)
  clear hK5 y1 y2 y3 y4 y5 y6 y7 z1 z2 z3 z4 z5 z6 z7
  obtain ⟨o1, o2, o3, o4, o5, o6, o7⟩ := o5'.out.six
  obtain ⟨x1, x2, x3, x4, x5, x6⟩ := v5.out.five
  obtain ⟨y1, y2, y3, y4, y5, y6, y7⟩ := n5.out.three
  go_wp2_with fail
  refine (H4.out _ _ _).mono ?_
  rintro e w6 ⟨rfl, hK6⟩
  have o6' := Lib.hid (o5'.out.and hK6)
  have n6 := Lib.hid (n5.out.and hK6)
  have k6 := Lib.hid (k5.out.and hK6)
  clear hK6 o1 o2 o3 o4 o5 o6 o7 x1 x2 x3 x4 x5 x6 y1 y2 y3 y4 y5 y6 y7
  obtain ⟨o1, o2, o3, o4, o5, o6, o7⟩ := o6'.out.six
  obtain ⟨y1, y2, y3, y4, y5, y6, y7⟩ := n6.out.three
  go_wp2_with fail
  refine (H5.out _ _ _).mono ?_
  rintro e w7 ⟨rfl, hK7⟩
  have o7' := Lib.hid (o6'.out.and hK7)
  have n7 := Lib.hid (n6.out.and hK7)
  have k7 := Lib.hid (k6.out.and hK7)
  clear hK7 o1 o2 o3 o4 o5 o6 o7 y1 y2 y3 y4 y5 y6 y7
  obtain ⟨o1, o2, o3, o4, o5, o6, o7⟩ := o7'.out.six
  obtain ⟨y1, y2, y3, y4, y5, y6, y7⟩ := n7.out.three
  rcases hL with rfl | hL
  · go_wp2_with fail
    go_ret
    exact ⟨rfl, k7.out⟩
  · have hLi : (L : Int) ≤ 4075 := by omega
    cases b1
    · go_wp2_with fail
      go_ret
      exact ⟨rfl, k7.out⟩
    · go_wp2_with fail
      go_ret
      exact ⟨rfl, k7.out⟩

set_option maxRecDepth 100000 in
set_option maxHeartbeats 8000000 in
theorem nver_more_no (b0 b1 b2 b3 b4 b5 : Bool) (k c s : Int) (A : Option Addr) (xs D : List Int) (m : Nat) (a q : Int) (p : Nat) (w : World) (hn : xs.length ≤ 600) (hx : InD w A xs m) (hq : 250 < q) (hq5 : q ≤ 255) (hpq : (p : Int) = 4000 + q) (hD : D = xs ++ List.replicate p 0) (hno : k ≠ 4 ∨ (k = 4 ∧ properV k c s D.length a = false)) (ld : Ld w) :
    Calls Tryd.prog 4 #[.agg #[.bool b0, .bool b1, .bool b2, .bool b3, .bool b4, .bool b5], .agg #[.int .i64 k, .int .i64 c, .int .i64 s, .slice A xs.length m, .int .i64 a], .int .u8 q] w (Stay (.bool true) w) := by
  obtain ⟨i0, hi, hz0, hz1, hz2⟩ := info_parts infoU8
  have HA := Lib.hid (fun w' (k : Kp NoB w w') => alive_any w' (ld.and k))
  have HC := Lib.hid (fun w' (k : Kp NoB w w') => clone_any A m xs w' (by omega) (hx.1.and k))
  unfold Cloned at HC
  have hDl : D.length = xs.length + p := by rw [hD]; simp
  have hDb : IsB D := by rw [hD]; exact hx.2.1.append (fun y hy => by have := List.eq_of_mem_replicate hy; omega)
  have hDB : bs D = bs xs ++ (Builtin.zeroCells #[.int .u8 0] p).toList := by rw [zero_bs, hD, bs_append]
  have hno' : k ≠ 4 ∨ properV k c s D.length a = false := hno.imp id (fun h => h.2)
  have H1 := Lib.hid (fun A' m' w' => nof_no b0 b1 b2 b3 b4 b5 k c s A' D.length m' a w' hno')
  have H2 := Lib.hid (fun A' m' w' => rnof_no b0 b1 b2 b3 b4 b5 k c s A' D.length m' a w' hno')
  unfold nparseNone at H1 H2
  have H3 := Lib.hid (fun w' => rnsame_any 0 0 [] none 0 0 0 [] none 0 w' (Arr.nil _ _) IsB.nil (Arr.nil _ _) IsB.nil)
  rw [eqN_refl] at H3
  simp only [List.length_nil] at H3
  have H4 := Lib.hid (fun A' m' => rproper_any k c s A' D.length m' a)
  have hq64 : IntKind.i64.wrap q = q := IntWalk.i64_in _ (by omega)
  have hq65 : IntKind.i64.wrap (4000 + q) = 4000 + q := IntWalk.i64_in _ (by omega)
  have HZ := Lib.hid (fun u (hu : u ∈ (Builtin.zeroCells #[.int .u8 0] p).toList) => (by rw [zero_bs] at hu; exact bs_one _ u hu : u.oneCell' = true))
  have hp0 : 0 < p := by omega
  have HPQ : Hid (Value.int .i64 (4000 + q) = Value.int .i64 (p : Int)) := Lib.hid (by rw [hpq])
  have HDB := Lib.hid hDB
  have HDbb := Lib.hid hDb
  clear hDb
  obtain ⟨n, hnn⟩ : ∃ n, xs.length = n := ⟨_, rfl⟩
  obtain ⟨N, hNN⟩ : ∃ N, D.length = N := ⟨_, rfl⟩
  rw [hnn, hNN] at hDl
  simp only [hnn, hNN] at HC H4 H1 H2 ⊢
  have HDl := Lib.hid hDl
  have HNN := Lib.hid hNN
  obtain ⟨XS, hXS⟩ : ∃ XS, bs xs = XS := ⟨_, rfl⟩
  rw [hXS] at HDB HC
  have h600 : ¬ 600 < n := by omega
  have hNb : n + p ≤ 10000 := by omega
  have hk0 := Lib.hid (((Kp.refl NoB w).alloc (.cells #[.bool b0, .bool b1, .bool b2, .bool b3, .bool b4, .bool b5] 26)).alloc (.cells #[.int .i64 k, .int .i64 c, .int .i64 s, .slice A n m, .int .i64 a] 29))
  have ho0 := Lib.hid ((Bk.fresh w 26 #[.bool b0, .bool b1, .bool b2, .bool b3, .bool b4, .bool b5]).alloc (.cells #[.int .i64 k, .int .i64 c, .int .i64 s, .slice A n m, .int .i64 a] 29))
  have hv0 := Lib.hid (Bk.second w (.cells #[.bool b0, .bool b1, .bool b2, .bool b3, .bool b4, .bool b5] 26) 29 #[.int .i64 k, .int .i64 c, .int .i64 s, .slice A n m, .int .i64 a])
  clear ld hx hn hDB hD hDl hNN hpq hXS hno' hnn
  go_enter Tryd.func4, Tryd.ntmps4
  go_wp2_with fail
  refine (HC.out _ hk0.out).mono ?_
  rintro e w0 ⟨A0, c0, rfl, hown0, hK0⟩
  have v0 := Lib.hid (hv0.out.and hK0)
  obtain ⟨x1, x2, x3, x4, x5, x6⟩ := v0.out.five
  go_wp2_with (refine wpList_appz hK0 rfl (.tmp 20) (.tmp 23) 27 3 rfl 5 i0 (.int .u8 0) 1 1 .i64 .i64 Tryd.underlying27 Tryd.underlying3 hi hz0 hz1 hz2 rfl (by decide) (by decide) _ _ _ rfl hown0 p HPQ.out hp0 HZ.out (by omega) N HDl.out ?_; intro A2 c2 w2 hown2 hK2 _; clear x1 x2 x3 x4 x5 x6; have hv2 := Lib.hid (hv0.out.and hK2); obtain ⟨x1, x2, x3, x4, x5, x6⟩ := hv2.out.five; have xf := hv2.out.frozen 3; have ho2 := Lib.hid (ho0.out.and hK2); obtain ⟨o1, o2, o3, o4, o5, o6, o7⟩ := ho2.out.six)
  have hsz0 : ((w.alloc (.cells #[.bool b0, .bool b1, .bool b2, .bool b3, .bool b4, .bool b5] 26)).alloc (.cells #[.int .i64 k, .int .i64 c, .int .i64 s, .slice A n m, .int .i64 a] 29)).heap.size = w.heap.size + 1 + 1 := by simp
  have KS2 : Kp (OnB (w.heap.size + 1)) w2 (w2.setCell ⟨w.heap.size + 1, 3, none⟩ (.slice A2 N c2)) := (Kp.refl _ _).set_on _
  have hk2 := Lib.hid (hk0.out.and hK2)
  have hk3 := Lib.hid (hk2.out.new KS2 (by omega))
  have ho3 := Lib.hid (((ho0.out.and hK2)).keep KS2 (fun hq => by have : w.heap.size = w.heap.size + 1 := hq; omega))
  have hv3 : Hid (Bk (w2.setCell ⟨w.heap.size + 1, 3, none⟩ (.slice A2 N c2)) (w.heap.size + 1) 29 #[.int .i64 k, .int .i64 c, .int .i64 s, .slice A2 N c2, .int .i64 a]) := Lib.hid (hv2.out.set 3 (.slice A2 N c2))
  have hown3 := KS2.own hown2 (fun b hb hq => own_ge hown2 (show w.heap.size + 1 < _ by rw [hsz0]; omega) (by rw [hb, show b = w.heap.size + 1 from hq]))
  obtain ⟨A', c', e', hl', hM', harr⟩ := own_form hown3
  injection e' with e1 _ e2
  subst e1 e2
  replace harr : Arr (w2.setCell ⟨w.heap.size + 1, 3, none⟩ (.slice A2 N c2)) A2 (bs D) := by rw [HDB.out]; exact harr
  have hd3 : Hid (InD (w2.setCell ⟨w.heap.size + 1, 3, none⟩ (.slice A2 N c2)) A2 D c2) := Lib.hid ⟨harr, HDbb.out, by rw [HNN.out]; exact hl', hM'⟩
  clear hown3 hown2 KS2 harr hl' hM' hK2 hown0 hK0 v0
  refine (H1.out _ _ _).mono ?_
  rintro e w1 ⟨rfl, hK1⟩
  have o1' := Lib.hid (ho3.out.and hK1)
  have v1 := Lib.hid (hv3.out.and hK1)
  have k1 := Lib.hid (hk3.out.and hK1)
  clear hK1 x1 x2 x3 x4 x5 x6 xf o1 o2 o3 o4 o5 o6 o7
  obtain ⟨o1, o2, o3, o4, o5, o6, o7⟩ := o1'.out.six
  obtain ⟨x1, x2, x3, x4, x5, x6⟩ := v1.out.five
  go_wp2_with fail
  refine (H2.out _ _ _).mono ?_
  rintro e w2 ⟨rfl, hK2⟩
  have kk := ((Kp.refl NoB w1).alloc (.cells #[.int .i64 0, .int .i64 0, .slice none 0 0] 32)).and hK2
  have n2 := Lib.hid ((Bk.fresh w1 32 #[.int .i64 0, .int .i64 0, .slice none 0 0]).and hK2)
  have kk3 := kk.alloc (.cells #[.int .i64 0, .int .i64 0, .slice none 0 0] 35)
  have r3 := Lib.hid (Bk.fresh w2 35 #[.int .i64 0, .int .i64 0, .slice none 0 0])
  have n3 := Lib.hid (n2.out.alloc (.cells #[.int .i64 0, .int .i64 0, .slice none 0 0] 35))
  have o3' := Lib.hid (o1'.out.and kk3)
  have v3 := Lib.hid (v1.out.and kk3)
  have k3 := Lib.hid (k1.out.and kk3)
  clear hK2 kk kk3 o1 o2 o3 o4 o5 o6 o7 x1 x2 x3 x4 x5 x6
  go_wp2_with fail
  refine (HA.out _ k3.out).mono ?_
  rintro e w4 ⟨rfl, hK4⟩
  have o4' := Lib.hid (o3'.out.and hK4)
  have v4 := Lib.hid (v3.out.and hK4)
  have n4 := Lib.hid (n3.out.and hK4)
  have r4 := Lib.hid (r3.out.and hK4)
  have k4 := Lib.hid (k3.out.and hK4)
  clear hK4
  obtain ⟨y1, y2, y3, y4, y5, y6, y7⟩ := n4.out.three
  obtain ⟨z1, z2, z3, z4, z5, z6, z7⟩ := r4.out.three
  go_wp2_with fail
  refine (H3.out _).mono ?_
  rintro e w5 ⟨rfl, hK5⟩
  have o5' := Lib.hid (o4'.out.and hK5)
  have v5 := Lib.hid (v4.out.and hK5)
  have n5 := Lib.hid (n4.out.and hK5)
  have k5 := Lib.hid (k4.out.and hK5)
  clear hK5 y1 y2 y3 y4 y5 y6 y7 z1 z2 z3 z4 z5 z6 z7
  obtain ⟨o1, o2, o3, o4, o5, o6, o7⟩ := o5'.out.six
  obtain ⟨x1, x2, x3, x4, x5, x6⟩ := v5.out.five
  obtain ⟨y1, y2, y3, y4, y5, y6, y7⟩ := n5.out.three
  rcases hno with h4 | ⟨h4, hp⟩
  · go_wp2_with fail
    go_ret
    exact ⟨rfl, k5.out⟩
  · subst h4
    rw [HNN.out] at hp
    rw [hp] at H4
    go_wp2_with fail
    refine (H4.out _ _ _).mono ?_
    rintro e w6 ⟨rfl, hK6⟩
    go_wp2_with fail
    go_ret
    exact ⟨rfl, k5.out.and hK6⟩

theorem nver_row (o : ArgO6) (z : ArgV) (q : Int) (w : World) (_ho : True) (hz : InV w z) (hq : 0 ≤ q ∧ q ≤ 255) (ld : Ld w) : Calls Tryd.prog 4 #[o.val, z.val, .int .u8 q] w (Stay (.bool true) w) := by
  obtain ⟨b0, b1, b2, b3, b4, b5⟩ := o
  obtain ⟨k, c, s, d, A, m, a⟩ := z
  obtain ⟨⟨-, hm, hM, ha, hb⟩, _⟩ := hz
  by_cases h6 : 600 < d.length
  · exact nver_long b0 b1 b2 b3 b4 b5 k c s A _ m a q w h6 ld
  · have h1 : d.length ≤ 600 := Nat.le_of_not_lt h6
    have hd : InD w A d m := ⟨ha, hb, hm, hM⟩
    have side : ∀ D : List Int, ∃ L, min D.length (roomV b1) = L ∧ (b1 = true ∨ L ≤ 4075) ∧ L ≤ D.length ∧ L ≤ 65514 := fun D => by
      refine ⟨_, rfl, ?_, Nat.min_le_left _ _, Nat.le_trans (Nat.min_le_right _ _) (by unfold roomV; split <;> decide)⟩
      cases b1
      · exact .inr (Nat.min_le_right _ _)
      · exact .inl rfl
    by_cases hq2 : q ≤ 250
    · by_cases hp : k = 4 ∧ properV k c s d.length a = true
      · obtain ⟨rfl, hp⟩ := hp
        obtain ⟨L, l1, l2, l3, l4⟩ := side d
        exact nver_yes b0 b1 b2 b3 b4 b5 c s A d m a q w h1 hd hq2 hp L l1 l2 l3 l4 ld
      · have hno : k ≠ 4 ∨ (k = 4 ∧ properV k c s d.length a = false) := by
          by_cases h4 : k = 4
          · exact .inr ⟨h4, Bool.not_eq_true _ |>.mp (fun h => hp ⟨h4, h⟩)⟩
          · exact .inl h4
        exact nver_no b0 b1 b2 b3 b4 b5 k c s A d m a q w h1 hd hq2 hno ld
    · have hpq : (((4000 + q).toNat : Nat) : Int) = 4000 + q := by omega
      obtain ⟨D, hD⟩ : ∃ D, D = d ++ List.replicate (4000 + q).toNat 0 := ⟨_, rfl⟩
      by_cases hp : k = 4 ∧ properV k c s D.length a = true
      · obtain ⟨rfl, hp⟩ := hp
        obtain ⟨L, l1, l2, l3, l4⟩ := side D
        exact nver_more_yes b0 b1 b2 b3 b4 b5 c s A d D m a q _ w h1 hd (by omega) hq.2 hpq hD hp L l1 l2 l3 l4 ld
      · have hno : k ≠ 4 ∨ (k = 4 ∧ properV k c s D.length a = false) := by
          by_cases h4 : k = 4
          · exact .inr ⟨h4, Bool.not_eq_true _ |>.mp (fun h => hp ⟨h4, h⟩)⟩
          · exact .inl h4
        exact nver_more_no b0 b1 b2 b3 b4 b5 k c s A d D m a q _ w h1 hd (by omega) hq.2 hpq hD hno ld

end Go.Proofs.YtlklhcgacdjkiaaDoor
