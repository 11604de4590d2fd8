/- The walk of the law NegotiateWinners: it returns true and makes only new blocks, for all OPENs, whatever the open variable holds. Printed by tools/eml.py. -/
import Derived.Test.YtjcmgfegnngjjaaDoorEmS
import Derived.Test.YtjcmgfegnngjjaaDoorEmO
import Derived.Test.YtjcmgfegnngjjaaDoorOpC
import Derived.Test.YtjcmgfegnngjjaaDoorTab
import Derived.Test.YtjcmgfegnngjjaaDoorRows
import Derived.Stop.LaidErr
import Derived.MakeChecks
import Derived.Deep.Cut
import Derived.Deep.CutRange
import Derived.Deep.DeepCutAuto
import Derived.Deep.RegionHeld3
namespace Go.Proofs.YtjcmgfegnngjjaaDoor
open Go.RowKit
set_option linter.unusedVariables false
set_option linter.unusedSimpArgs false

/-- The row's condition is not used. -/
structure Ld (w : World) : Prop where
theorem Ld.and {w w' : World} (h : Ld w) (k : Kp NoB w w') : Ld w' := ⟨⟩
theorem ld_of {W : World} (h : laidMetH Tryd.prog Rows.negotiateWinnersRow.laid W) : Ld W := ⟨⟩

theorem eight {w : World} {b b' : Nat} {t t' : TypeId} {a0 a1 a2 a3 c0 c1 c2 c3 : Value} (h : Bk w b t #[a0, a1, a2, a3]) (k : Bk w b' t' #[c0, c1, c2, c3]) :
    w.cell? ⟨b, 0, none⟩ = some a0 ∧ w.cell? ⟨b, 1, none⟩ = some a1 ∧ w.cell? ⟨b, 2, none⟩ = some a2 ∧ w.cell? ⟨b, 3, none⟩ = some a3 ∧ w.cell? ⟨b', 0, none⟩ = some c0 ∧ w.cell? ⟨b', 1, none⟩ = some c1 ∧ w.cell? ⟨b', 2, none⟩ = some c2 ∧ w.cell? ⟨b', 3, none⟩ = some c3 :=
  ⟨h.cell 0, h.cell 1, h.cell 2, h.cell 3, k.cell 0, k.cell 1, k.cell 2, k.cell 3⟩
theorem Bk.set4 {w : World} {b : Nat} {t : TypeId} {a0 a1 a2 a3 : Value} (h : Bk w b t #[a0, a1, a2, a3]) (x0 x1 x2 x3 : Value) : Bk ((((w.setCell ⟨b, 0, none⟩ x0).setCell ⟨b, 1, none⟩ x1).setCell ⟨b, 2, none⟩ x2).setCell ⟨b, 3, none⟩ x3) b t #[x0, x1, x2, x3] :=
  (((h.set 0 x0).set 1 x1).set 2 x2).set 3 x3
theorem Bk.far4 {w : World} {b b' : Nat} {t : TypeId} {cs : Array Value} (h : Bk w b t cs) (hne : b ≠ b') (x0 x1 x2 x3 : Value) : Bk ((((w.setCell ⟨b', 0, none⟩ x0).setCell ⟨b', 1, none⟩ x1).setCell ⟨b', 2, none⟩ x2).setCell ⟨b', 3, none⟩ x3) b t cs :=
  (((h.far hne x0).far hne x1).far hne x2).far hne x3
theorem Kp.set4 {w0 w : World} {b : Nat} (h : Kp NoB w0 w) (hb : w0.heap.size ≤ b) (x0 x1 x2 x3 : Value) : Kp NoB w0 ((((w.setCell ⟨b, 0, none⟩ x0).setCell ⟨b, 1, none⟩ x1).setCell ⟨b, 2, none⟩ x2).setCell ⟨b, 3, none⟩ x3) :=
  (((h.setCell (fun q => absurd q (Nat.not_lt.2 hb)) x0).setCell (fun q => absurd q (Nat.not_lt.2 hb)) x1).setCell (fun q => absurd q (Nat.not_lt.2 hb)) x2).setCell (fun q => absurd q (Nat.not_lt.2 hb)) x3

theorem sixteen {w : World} {b b' d d' : Nat} {t t' u u' : TypeId} {a0 a1 a2 a3 c0 c1 c2 c3 e0 e1 e2 e3 f0 f1 f2 f3 : Value} (h : Bk w b t #[a0, a1, a2, a3]) (k : Bk w b' t' #[c0, c1, c2, c3]) (l : Bk w d u #[e0, e1, e2, e3]) (m : Bk w d' u' #[f0, f1, f2, f3]) :
    w.cell? ⟨b, 0, none⟩ = some a0 ∧ w.cell? ⟨b, 1, none⟩ = some a1 ∧ w.cell? ⟨b, 2, none⟩ = some a2 ∧ w.cell? ⟨b, 3, none⟩ = some a3 ∧ w.cell? ⟨b', 0, none⟩ = some c0 ∧ w.cell? ⟨b', 1, none⟩ = some c1 ∧ w.cell? ⟨b', 2, none⟩ = some c2 ∧ w.cell? ⟨b', 3, none⟩ = some c3 ∧
    w.cell? ⟨d, 0, none⟩ = some e0 ∧ w.cell? ⟨d, 1, none⟩ = some e1 ∧ w.cell? ⟨d, 2, none⟩ = some e2 ∧ w.cell? ⟨d, 3, none⟩ = some e3 ∧ w.cell? ⟨d', 0, none⟩ = some f0 ∧ w.cell? ⟨d', 1, none⟩ = some f1 ∧ w.cell? ⟨d', 2, none⟩ = some f2 ∧ w.cell? ⟨d', 3, none⟩ = some f3 :=
  ⟨h.cell 0, h.cell 1, h.cell 2, h.cell 3, k.cell 0, k.cell 1, k.cell 2, k.cell 3, l.cell 0, l.cell 1, l.cell 2, l.cell 3, m.cell 0, m.cell 1, m.cell 2, m.cell 3⟩

set_option maxRecDepth 100000 in
set_option maxHeartbeats 32000000 in
theorem winners_any (x y : ArgO) (w : World) (hx : InOpen w x) (hy : InOpen w y) :
    Calls Tryd.prog 3 #[x.val, y.val] w (Stay (.bool true) w) := by
  have HRT := Lib.hid (fun b W (k : Kp NoB w W) h0 h1 h2 h3 h4 h5 h6 h7 => right_any x y b W (hx.and k) (hy.and k) h0 h1 h2 h3 h4 h5 h6 h7)
  obtain ⟨xo, A, c⟩ := x
  obtain ⟨yo, B, d⟩ := y
  obtain ⟨xb, xn, xm, xs, xl, xa⟩ := hx
  obtain ⟨yb, yn, ym, ys, yl, ya⟩ := hy
  unfold ArgO.val
  simp only at *
  have HGx := Lib.hid (fun (hf : fewB xo.caps = true) W (k : Kp NoB w W) => ogiven_any xo A c xs W (xl.and k) (xa.and k) (few_form hf).1)
  have HGy := Lib.hid (fun (hf : fewB yo.caps = true) W (k : Kp NoB w W) => ogiven_any yo B d ys W (yl.and k) (ya.and k) (few_form hf).1)
  unfold GivenO at HGx HGy
  unfold RightB at HRT
  have HA := Lib.hid walive_any
  obtain ⟨fx, e1⟩ : ∃ f, fewB xo.caps = f := ⟨_, rfl⟩
  obtain ⟨fy, e2⟩ : ∃ f, fewB yo.caps = f := ⟨_, rfl⟩
  rw [e1] at HGx HRT
  rw [e2] at HGy HRT
  clear e1 e2 xl xa yl ya xb yb xn xm yn ym
  obtain ⟨s, h, i, caps⟩ := xo
  obtain ⟨s', h', i', caps'⟩ := yo
  unfold OpenI.val at *
  simp only at *
  obtain ⟨n, hn⟩ : ∃ n, caps.length = n := ⟨_, rfl⟩
  obtain ⟨m, hm⟩ : ∃ n, caps'.length = n := ⟨_, rfl⟩
  simp only [hn] at HRT HGx ⊢
  simp only [hm] at HRT HGy ⊢
  clear hn hm
  have HWB := Lib.hid (win_both i i' s s')
  have HW1 := Lib.hid (fun A1 A2 c1 c2 W => winner_any s h i s' h' i' A1 A2 n c1 m c2 W)
  have HW2 := Lib.hid (fun A1 A2 c1 c2 W => winner_any s' h' i' s h i A2 A1 m c2 n c1 W)
  have HRW := Lib.hid (fun W => rwinner_any s h i s' h' i' A B n c m d W)
  have HI := Lib.hid (fun A1 A2 c1 c2 W => internal_any s h i s' h' i' A1 A2 n c1 m c2 W)
  unfold oc at HW1 HW2 HRW HI
  obtain ⟨n1, en1⟩ : ∃ z, winZ i i' s s' = z := ⟨_, rfl⟩
  obtain ⟨n2, en2⟩ : ∃ z, winZ i' i s' s = z := ⟨_, rfl⟩
  obtain ⟨q, hq⟩ : ∃ z, (s == s') = z := ⟨_, rfl⟩
  rw [en1] at HWB HW1 HRW
  rw [en2] at HWB HW2
  rw [hq] at HI
  clear en1 en2
  have z1_a := Lib.hid (((Bk.fresh w 25 #[.int .u32 s, .int .i64 h, .int .u32 i, .slice A n c]).alloc (.cells #[.int .u32 s', .int .i64 h', .int .u32 i', .slice B m d] 25)).alloc (.cells #[.int .u32 s, .int .i64 h, .int .u32 i, .slice A n c, .int .u32 s', .int .i64 h', .int .u32 i', .slice B m d] 25))
  have z2_a := Lib.hid ((Bk.second w (.cells #[.int .u32 s, .int .i64 h, .int .u32 i, .slice A n c] 25) 25 #[.int .u32 s', .int .i64 h', .int .u32 i', .slice B m d]).alloc (.cells #[.int .u32 s, .int .i64 h, .int .u32 i, .slice A n c, .int .u32 s', .int .i64 h', .int .u32 i', .slice B m d] 25))
  have z3_a := Bk.third w (.cells #[.int .u32 s, .int .i64 h, .int .u32 i, .slice A n c] 25) (.cells #[.int .u32 s', .int .i64 h', .int .u32 i', .slice B m d] 25) 25 #[.int .u32 s, .int .i64 h, .int .u32 i, .slice A n c, .int .u32 s', .int .i64 h', .int .u32 i', .slice B m d]
  have k0 := Lib.hid ((((Kp.refl NoB w).alloc (.cells #[.int .u32 s, .int .i64 h, .int .u32 i, .slice A n c] 25)).alloc (.cells #[.int .u32 s', .int .i64 h', .int .u32 i', .slice B m d] 25)).alloc (.cells #[.int .u32 s, .int .i64 h, .int .u32 i, .slice A n c, .int .u32 s', .int .i64 h', .int .u32 i', .slice B m d] 25))
  have HRT' := Lib.hid (HRT.out (w.heap.size + 1 + 1) _ k0.out (z3_a.cell 0) (z3_a.cell 1) (z3_a.cell 2) (z3_a.cell 3) (z3_a.cell 4) (z3_a.cell 5) (z3_a.cell 6) (z3_a.cell 7))
  clear z3_a HRT
  go_enter Tryd.func3, Tryd.ntmps3
  go_wp2_with fail
  refine HRT'.out.mono ?_
  rintro e w1 ⟨b, rfl, hfew, hK1⟩
  have k1 := Lib.hid (k0.out.and hK1)
  have z1 := Lib.hid (z1_a.out.and hK1)
  have z2 := Lib.hid (z2_a.out.and hK1)
  clear z1_a z2_a hK1 k0 HRT'
  cases b with
  | false =>
    clear hfew
    go_wp2_with fail
    refine (HA.out _).mono ?_
    rintro e w2 ⟨rfl, hK2⟩
    go_wp2_with fail
    go_ret
    exact ⟨rfl, k1.out.and hK2⟩
  | true =>
    obtain ⟨rfl, rfl⟩ := hfew rfl
    replace HGx := Lib.hid (HGx.out rfl)
    replace HGy := Lib.hid (HGy.out rfl)
    go_upto_region 3 with fail
    go_cut [5, 6] (fun s5 s6 wx => ∃ (B4 B5 : Nat) (A1 : Option Addr) (c1 : Nat) (A2 : Option Addr) (c2 : Nat), s5 = .pointer (some ⟨B4, 0, none⟩) ∧ s6 = .pointer (some ⟨B5, 0, none⟩) ∧ Hid (Bk wx B4 30 #[.int .u32 s, .int .i64 h, .int .u32 i, .slice A1 n c1]) ∧ Hid (Bk wx B5 30 #[.int .u32 s', .int .i64 h', .int .u32 i', .slice A2 m c2]) ∧ Hid (Bk wx w.heap.size 25 #[.int .u32 s, .int .i64 h, .int .u32 i, .slice A n c]) ∧ Hid (Bk wx (w.heap.size + 1) 25 #[.int .u32 s', .int .i64 h', .int .u32 i', .slice B m d]) ∧ Hid (Kp NoB w wx))
    case first =>
      refine wp_region_noPanic ?_
      refine wp_region_held_drew (S := (fun w' => w'.cell? ⟨w.heap.size, 0, none⟩ = some (.int .u32 s) ∧ w'.cell? ⟨w.heap.size, 1, none⟩ = some (.int .i64 h) ∧ w'.cell? ⟨w.heap.size, 2, none⟩ = some (.int .u32 i) ∧ w'.cell? ⟨w.heap.size, 3, none⟩ = some (.slice A n c) ∧ w'.cell? ⟨w.heap.size + 1, 0, none⟩ = some (.int .u32 s') ∧ w'.cell? ⟨w.heap.size + 1, 1, none⟩ = some (.int .i64 h') ∧ w'.cell? ⟨w.heap.size + 1, 2, none⟩ = some (.int .u32 i') ∧ w'.cell? ⟨w.heap.size + 1, 3, none⟩ = some (.slice B m d))) (by kernel_rfl) ?_ (fun hHeld => ?_)
      · exact eight z1.out z2.out
      obtain ⟨W_0, hW⟩ : ∃ x, w1.drew = x := ⟨_, rfl⟩
      rw [hW]
      have hKd : Kp NoB w1 W_0 := by rw [← hW]; exact (Kp.refl NoB w1).drew
      have hk_0 := Lib.hid (k1.out.and hKd)
      have z1_0 := Lib.hid (z1.out.and hKd)
      have z2_0 := Lib.hid (z2.out.and hKd)
      clear hW hKd hHeld
      have hHeld : W_0.cell? ⟨w.heap.size, 0, none⟩ = some (.int .u32 s) ∧ W_0.cell? ⟨w.heap.size, 1, none⟩ = some (.int .i64 h) ∧ W_0.cell? ⟨w.heap.size, 2, none⟩ = some (.int .u32 i) ∧ W_0.cell? ⟨w.heap.size, 3, none⟩ = some (.slice A n c) ∧ W_0.cell? ⟨w.heap.size + 1, 0, none⟩ = some (.int .u32 s') ∧ W_0.cell? ⟨w.heap.size + 1, 1, none⟩ = some (.int .i64 h') ∧ W_0.cell? ⟨w.heap.size + 1, 2, none⟩ = some (.int .u32 i') ∧ W_0.cell? ⟨w.heap.size + 1, 3, none⟩ = some (.slice B m d) := eight z1_0.out z2_0.out
      refine wpAnyH_take (i := 0) (oi := ⟨some 15, _, _, _, _, _⟩) (v := ?_) rfl (by kernel_rfl) (by kernel_rfl) (by kernel_rfl) (fun _ _ _ h => h) (Or.inl ⟨by rfl, fun w hSw => ?_⟩) (by assumption) ?_
      rotate_left
      · (try dsimp only at hSw)
        go_simp
        try with_reducible rfl
      try simp only [Act.put, List.setIfInBounds_toArray, List.set_cons_zero, List.set_cons_succ]
      refine wpAnyH_take (i := 2) (oi := ⟨some 17, _, _, _, _, _⟩) (v := ?_) rfl (by kernel_rfl) (by kernel_rfl) (by kernel_rfl) (fun _ _ _ h => h) (Or.inl ⟨by rfl, fun w hSw => ?_⟩) (by assumption) ?_
      rotate_left
      · (try dsimp only at hSw)
        go_simp
        try with_reducible rfl
      try simp only [Act.put, List.setIfInBounds_toArray, List.set_cons_zero, List.set_cons_succ]
      refine wpAnyH_ready (rs := [1, 4, 5]) (by kernel_rfl) (by simp) ?_
      refine AllReadyH.cons (o := ⟨some 16, _, _, _, _, _⟩) rfl (fun K hK => ?_) (AllReadyH.cons (o := ⟨some 5, _, _, _, _, _⟩) rfl (fun K hK => ?_) (AllReadyH.cons (o := ⟨some 6, _, _, _, _, _⟩) rfl (fun K hK => ?_) AllReadyH.nil))
      · go_simp
        (with_reducible refine Calls.mono (HGx.out _ hk_0.out) ?_)
        rintro e W_1 ⟨A1, c1, rfl, ho, hKk⟩
        clear ho
        have hk_1 := Lib.hid (hk_0.out.and hKk)
        have z1_1 := Lib.hid (z1_0.out.and hKk)
        have z2_1 := Lib.hid (z2_0.out.and hKk)
        clear hk_0 z1_0 z2_0 
        clear hKk
        refine hK.out _ _ (eight z1_1.out z2_1.out) (fun hHeld => ?_)
        clear hK K
        try simp only [Act.put, List.setIfInBounds_toArray, List.set_cons_zero, List.set_cons_succ]
        refine wpAnyH_ready (rs := [3, 4, 5]) (by kernel_rfl) (by simp) ?_
        refine AllReadyH.cons (o := ⟨some 18, _, _, _, _, _⟩) rfl (fun K hK => ?_) (AllReadyH.cons (o := ⟨some 5, _, _, _, _, _⟩) rfl (fun K hK => ?_) (AllReadyH.cons (o := ⟨some 6, _, _, _, _, _⟩) rfl (fun K hK => ?_) AllReadyH.nil))
        · go_simp
          (with_reducible refine Calls.mono (HGy.out _ hk_1.out) ?_)
          rintro e W_2 ⟨A2, c2, rfl, ho, hKk⟩
          clear ho
          have hk_2 := Lib.hid (hk_1.out.and hKk)
          have z1_2 := Lib.hid (z1_1.out.and hKk)
          have z2_2 := Lib.hid (z2_1.out.and hKk)
          clear hk_1 z1_1 z2_1 
          clear hKk
          refine hK.out _ _ (eight z1_2.out z2_2.out) (fun hHeld => ?_)
          clear hK K
          try simp only [Act.put, List.setIfInBounds_toArray, List.set_cons_zero, List.set_cons_succ]
          refine wpAnyH_ready (rs := [4, 5]) (by kernel_rfl) (by simp) ?_
          refine AllReadyH.cons (o := ⟨some 5, _, _, _, _, _⟩) rfl (fun K hK => ?_) (AllReadyH.cons (o := ⟨some 6, _, _, _, _, _⟩) rfl (fun K hK => ?_) AllReadyH.nil)
          · go_simp
            have hKa : Kp NoB W_2 (W_2.alloc (.cells #[.int .u32 0, .int .i64 0, .int .u32 0, .slice none 0 0] 30)) := (Kp.refl NoB W_2).alloc _
            refine hK.out _ _ (eight (z1_2.out.and hKa) (z2_2.out.and hKa)) (fun hHeld => ?_)
            clear hK K
            try simp only [Act.put, List.setIfInBounds_toArray, List.set_cons_zero, List.set_cons_succ]
            obtain ⟨W_3, hW⟩ : ∃ x, W_2.alloc (.cells #[.int .u32 0, .int .i64 0, .int .u32 0, .slice none 0 0] 30) = x := ⟨_, rfl⟩
            rw [hW]
            rw [hW] at hKa
            have q4_3 : Hid (Bk W_3 W_2.heap.size 30 #[.int .u32 0, .int .i64 0, .int .u32 0, .slice none 0 0]) := Lib.hid (by rw [← hW]; exact Bk.fresh W_2 _ _)
            obtain ⟨B4, hB4⟩ : ∃ x, W_2.heap.size = x := ⟨_, rfl⟩
            have hgt4 : w.heap.size < B4 := by rw [← hB4]; exact z1_2.out.lt
            have hgu4 : w.heap.size + 1 < B4 := by rw [← hB4]; exact z2_2.out.lt
            rw [hB4] at q4_3 ⊢
            clear hW hB4
            have hk_3 := Lib.hid (hk_2.out.and hKa)
            have z1_3 := Lib.hid (z1_2.out.and hKa)
            have z2_3 := Lib.hid (z2_2.out.and hKa)
            clear hk_2 z1_2 z2_2 hKa 
            refine wpAnyH_ready (rs := [5]) (by kernel_rfl) (by simp) ?_
            refine AllReadyH.cons (o := ⟨some 6, _, _, _, _, _⟩) rfl (fun K hK => ?_) AllReadyH.nil
            go_simp
            have hKa : Kp NoB W_3 (W_3.alloc (.cells #[.int .u32 0, .int .i64 0, .int .u32 0, .slice none 0 0] 30)) := (Kp.refl NoB W_3).alloc _
            refine hK.out _ _ (eight (z1_3.out.and hKa) (z2_3.out.and hKa)) (fun hHeld => ?_)
            clear hK K
            try simp only [Act.put, List.setIfInBounds_toArray, List.set_cons_zero, List.set_cons_succ]
            obtain ⟨W_4, hW⟩ : ∃ x, W_3.alloc (.cells #[.int .u32 0, .int .i64 0, .int .u32 0, .slice none 0 0] 30) = x := ⟨_, rfl⟩
            rw [hW]
            rw [hW] at hKa
            have q5_4 : Hid (Bk W_4 W_3.heap.size 30 #[.int .u32 0, .int .i64 0, .int .u32 0, .slice none 0 0]) := Lib.hid (by rw [← hW]; exact Bk.fresh W_3 _ _)
            have hne_4 : B4 ≠ W_3.heap.size := Nat.ne_of_lt q4_3.out.lt
            obtain ⟨B5, hB5⟩ : ∃ x, W_3.heap.size = x := ⟨_, rfl⟩
            have hgt5 : w.heap.size < B5 := by rw [← hB5]; exact z1_3.out.lt
            have hgu5 : w.heap.size + 1 < B5 := by rw [← hB5]; exact z2_3.out.lt
            rw [hB5] at q5_4 hne_4 ⊢
            clear hW hB5
            have hk_4 := Lib.hid (hk_3.out.and hKa)
            have z1_4 := Lib.hid (z1_3.out.and hKa)
            have z2_4 := Lib.hid (z2_3.out.and hKa)
            have q4_4 := Lib.hid (q4_3.out.and hKa)
            clear hk_3 z1_3 z2_3 hKa q4_3
            have b4 := q4_4.out
            have b5 := q5_4.out
            obtain ⟨t0, t1, t2, t3, t6, t7, t8, t9, t10⟩ := b4.four
            obtain ⟨u0, u1, u2, u3, u6, u7, u8, u9, u10⟩ := b5.four
            have m4 := b4.set4 (.int .u32 s) (.int .i64 h) (.int .u32 i) (.slice A1 n c1)
            have m5 := b5.far4 (Ne.symm hne_4) (.int .u32 s) (.int .i64 h) (.int .u32 i) (.slice A1 n c1)
            have v1 := Bk.far4 z1_4.out (Nat.ne_of_lt hgt4) (.int .u32 s) (.int .i64 h) (.int .u32 i) (.slice A1 n c1)
            have v2 := Bk.far4 z2_4.out (Nat.ne_of_lt hgu4) (.int .u32 s) (.int .i64 h) (.int .u32 i) (.slice A1 n c1)
            have o4 := m4.far4 hne_4 (.int .u32 s') (.int .i64 h') (.int .u32 i') (.slice A2 m c2)
            have o5 := m5.set4 (.int .u32 s') (.int .i64 h') (.int .u32 i') (.slice A2 m c2)
            have w1' := Bk.far4 v1 (Nat.ne_of_lt hgt5) (.int .u32 s') (.int .i64 h') (.int .u32 i') (.slice A2 m c2)
            have w2' := Bk.far4 v2 (Nat.ne_of_lt hgu5) (.int .u32 s') (.int .i64 h') (.int .u32 i') (.slice A2 m c2)
            have kf := Lib.hid ((hk_4.out.set4 (Nat.le_of_lt hgt4) (.int .u32 s) (.int .i64 h) (.int .u32 i) (.slice A1 n c1)).set4 (Nat.le_of_lt hgt5) (.int .u32 s') (.int .i64 h') (.int .u32 i') (.slice A2 m c2))
            refine wpAnyH_ready (rs := [6]) (by kernel_rfl) (by simp) ?_
            refine AllReadyH.cons (o := ⟨none, _, _, _, _, _⟩) rfl (fun K hK => ?_) AllReadyH.nil
            go_simp
            refine hK.out _ _ (eight v1 v2) (fun hHeld => ?_)
            clear hK K
            try simp only [Act.put, List.setIfInBounds_toArray, List.set_cons_zero, List.set_cons_succ]
            obtain ⟨u0, u1, u2, u3, u6, u7, u8, u9, u10⟩ := m5.four
            refine wpAnyH_ready (rs := [7]) (by kernel_rfl) (by simp) ?_
            refine AllReadyH.cons (o := ⟨none, _, _, _, _, _⟩) rfl (fun K hK => ?_) AllReadyH.nil
            go_simp
            refine hK.out _ _ (eight w1' w2') (fun hHeld => ?_)
            clear hK K
            try simp only [Act.put, List.setIfInBounds_toArray, List.set_cons_zero, List.set_cons_succ]
            refine wpAnyH_done (by kernel_rfl) ?_ _
            refine NoPanic.normal ?_
            go_wp2_with fail
            go_meet
            exact ⟨B4, B5, A1, c1, A2, c2, rfl, rfl, Lib.hid o4, Lib.hid o5, Lib.hid w1', Lib.hid w2', kf⟩
          · go_simp
            have hKa : Kp NoB W_2 (W_2.alloc (.cells #[.int .u32 0, .int .i64 0, .int .u32 0, .slice none 0 0] 30)) := (Kp.refl NoB W_2).alloc _
            refine hK.out _ _ (eight (z1_2.out.and hKa) (z2_2.out.and hKa)) (fun hHeld => ?_)
            clear hK K
            try simp only [Act.put, List.setIfInBounds_toArray, List.set_cons_zero, List.set_cons_succ]
            obtain ⟨W_3, hW⟩ : ∃ x, W_2.alloc (.cells #[.int .u32 0, .int .i64 0, .int .u32 0, .slice none 0 0] 30) = x := ⟨_, rfl⟩
            rw [hW]
            rw [hW] at hKa
            have q5_3 : Hid (Bk W_3 W_2.heap.size 30 #[.int .u32 0, .int .i64 0, .int .u32 0, .slice none 0 0]) := Lib.hid (by rw [← hW]; exact Bk.fresh W_2 _ _)
            obtain ⟨B5, hB5⟩ : ∃ x, W_2.heap.size = x := ⟨_, rfl⟩
            have hgt5 : w.heap.size < B5 := by rw [← hB5]; exact z1_2.out.lt
            have hgu5 : w.heap.size + 1 < B5 := by rw [← hB5]; exact z2_2.out.lt
            rw [hB5] at q5_3 ⊢
            clear hW hB5
            have hk_3 := Lib.hid (hk_2.out.and hKa)
            have z1_3 := Lib.hid (z1_2.out.and hKa)
            have z2_3 := Lib.hid (z2_2.out.and hKa)
            clear hk_2 z1_2 z2_2 hKa 
            refine wpAnyH_ready (rs := [4]) (by kernel_rfl) (by simp) ?_
            refine AllReadyH.cons (o := ⟨some 5, _, _, _, _, _⟩) rfl (fun K hK => ?_) AllReadyH.nil
            go_simp
            have hKa : Kp NoB W_3 (W_3.alloc (.cells #[.int .u32 0, .int .i64 0, .int .u32 0, .slice none 0 0] 30)) := (Kp.refl NoB W_3).alloc _
            refine hK.out _ _ (eight (z1_3.out.and hKa) (z2_3.out.and hKa)) (fun hHeld => ?_)
            clear hK K
            try simp only [Act.put, List.setIfInBounds_toArray, List.set_cons_zero, List.set_cons_succ]
            obtain ⟨W_4, hW⟩ : ∃ x, W_3.alloc (.cells #[.int .u32 0, .int .i64 0, .int .u32 0, .slice none 0 0] 30) = x := ⟨_, rfl⟩
            rw [hW]
            rw [hW] at hKa
            have q4_4 : Hid (Bk W_4 W_3.heap.size 30 #[.int .u32 0, .int .i64 0, .int .u32 0, .slice none 0 0]) := Lib.hid (by rw [← hW]; exact Bk.fresh W_3 _ _)
            have hne_4 : B5 ≠ W_3.heap.size := Nat.ne_of_lt q5_3.out.lt
            obtain ⟨B4, hB4⟩ : ∃ x, W_3.heap.size = x := ⟨_, rfl⟩
            have hgt4 : w.heap.size < B4 := by rw [← hB4]; exact z1_3.out.lt
            have hgu4 : w.heap.size + 1 < B4 := by rw [← hB4]; exact z2_3.out.lt
            rw [hB4] at q4_4 hne_4 ⊢
            clear hW hB4
            have hk_4 := Lib.hid (hk_3.out.and hKa)
            have z1_4 := Lib.hid (z1_3.out.and hKa)
            have z2_4 := Lib.hid (z2_3.out.and hKa)
            have q5_4 := Lib.hid (q5_3.out.and hKa)
            clear hk_3 z1_3 z2_3 hKa q5_3
            replace hne_4 := hne_4.symm
            have b4 := q4_4.out
            have b5 := q5_4.out
            obtain ⟨t0, t1, t2, t3, t6, t7, t8, t9, t10⟩ := b4.four
            obtain ⟨u0, u1, u2, u3, u6, u7, u8, u9, u10⟩ := b5.four
            have m4 := b4.set4 (.int .u32 s) (.int .i64 h) (.int .u32 i) (.slice A1 n c1)
            have m5 := b5.far4 (Ne.symm hne_4) (.int .u32 s) (.int .i64 h) (.int .u32 i) (.slice A1 n c1)
            have v1 := Bk.far4 z1_4.out (Nat.ne_of_lt hgt4) (.int .u32 s) (.int .i64 h) (.int .u32 i) (.slice A1 n c1)
            have v2 := Bk.far4 z2_4.out (Nat.ne_of_lt hgu4) (.int .u32 s) (.int .i64 h) (.int .u32 i) (.slice A1 n c1)
            have o4 := m4.far4 hne_4 (.int .u32 s') (.int .i64 h') (.int .u32 i') (.slice A2 m c2)
            have o5 := m5.set4 (.int .u32 s') (.int .i64 h') (.int .u32 i') (.slice A2 m c2)
            have w1' := Bk.far4 v1 (Nat.ne_of_lt hgt5) (.int .u32 s') (.int .i64 h') (.int .u32 i') (.slice A2 m c2)
            have w2' := Bk.far4 v2 (Nat.ne_of_lt hgu5) (.int .u32 s') (.int .i64 h') (.int .u32 i') (.slice A2 m c2)
            have kf := Lib.hid ((hk_4.out.set4 (Nat.le_of_lt hgt4) (.int .u32 s) (.int .i64 h) (.int .u32 i) (.slice A1 n c1)).set4 (Nat.le_of_lt hgt5) (.int .u32 s') (.int .i64 h') (.int .u32 i') (.slice A2 m c2))
            refine wpAnyH_ready (rs := [6]) (by kernel_rfl) (by simp) ?_
            refine AllReadyH.cons (o := ⟨none, _, _, _, _, _⟩) rfl (fun K hK => ?_) AllReadyH.nil
            go_simp
            refine hK.out _ _ (eight v1 v2) (fun hHeld => ?_)
            clear hK K
            try simp only [Act.put, List.setIfInBounds_toArray, List.set_cons_zero, List.set_cons_succ]
            obtain ⟨u0, u1, u2, u3, u6, u7, u8, u9, u10⟩ := m5.four
            refine wpAnyH_ready (rs := [7]) (by kernel_rfl) (by simp) ?_
            refine AllReadyH.cons (o := ⟨none, _, _, _, _, _⟩) rfl (fun K hK => ?_) AllReadyH.nil
            go_simp
            refine hK.out _ _ (eight w1' w2') (fun hHeld => ?_)
            clear hK K
            try simp only [Act.put, List.setIfInBounds_toArray, List.set_cons_zero, List.set_cons_succ]
            refine wpAnyH_done (by kernel_rfl) ?_ _
            refine NoPanic.normal ?_
            go_wp2_with fail
            go_meet
            exact ⟨B4, B5, A1, c1, A2, c2, rfl, rfl, Lib.hid o4, Lib.hid o5, Lib.hid w1', Lib.hid w2', kf⟩
        · go_simp
          have hKa : Kp NoB W_1 (W_1.alloc (.cells #[.int .u32 0, .int .i64 0, .int .u32 0, .slice none 0 0] 30)) := (Kp.refl NoB W_1).alloc _
          refine hK.out _ _ (eight (z1_1.out.and hKa) (z2_1.out.and hKa)) (fun hHeld => ?_)
          clear hK K
          try simp only [Act.put, List.setIfInBounds_toArray, List.set_cons_zero, List.set_cons_succ]
          obtain ⟨W_2, hW⟩ : ∃ x, W_1.alloc (.cells #[.int .u32 0, .int .i64 0, .int .u32 0, .slice none 0 0] 30) = x := ⟨_, rfl⟩
          rw [hW]
          rw [hW] at hKa
          have q4_2 : Hid (Bk W_2 W_1.heap.size 30 #[.int .u32 0, .int .i64 0, .int .u32 0, .slice none 0 0]) := Lib.hid (by rw [← hW]; exact Bk.fresh W_1 _ _)
          obtain ⟨B4, hB4⟩ : ∃ x, W_1.heap.size = x := ⟨_, rfl⟩
          have hgt4 : w.heap.size < B4 := by rw [← hB4]; exact z1_1.out.lt
          have hgu4 : w.heap.size + 1 < B4 := by rw [← hB4]; exact z2_1.out.lt
          rw [hB4] at q4_2 ⊢
          clear hW hB4
          have hk_2 := Lib.hid (hk_1.out.and hKa)
          have z1_2 := Lib.hid (z1_1.out.and hKa)
          have z2_2 := Lib.hid (z2_1.out.and hKa)
          clear hk_1 z1_1 z2_1 hKa 
          refine wpAnyH_ready (rs := [3, 5]) (by kernel_rfl) (by simp) ?_
          refine AllReadyH.cons (o := ⟨some 18, _, _, _, _, _⟩) rfl (fun K hK => ?_) (AllReadyH.cons (o := ⟨some 6, _, _, _, _, _⟩) rfl (fun K hK => ?_) AllReadyH.nil)
          · go_simp
            (with_reducible refine Calls.mono (HGy.out _ hk_2.out) ?_)
            rintro e W_3 ⟨A2, c2, rfl, ho, hKk⟩
            clear ho
            have hk_3 := Lib.hid (hk_2.out.and hKk)
            have z1_3 := Lib.hid (z1_2.out.and hKk)
            have z2_3 := Lib.hid (z2_2.out.and hKk)
            have q4_3 := Lib.hid (q4_2.out.and hKk)
            clear hk_2 z1_2 z2_2 q4_2
            clear hKk
            refine hK.out _ _ (eight z1_3.out z2_3.out) (fun hHeld => ?_)
            clear hK K
            try simp only [Act.put, List.setIfInBounds_toArray, List.set_cons_zero, List.set_cons_succ]
            refine wpAnyH_ready (rs := [5]) (by kernel_rfl) (by simp) ?_
            refine AllReadyH.cons (o := ⟨some 6, _, _, _, _, _⟩) rfl (fun K hK => ?_) AllReadyH.nil
            go_simp
            have hKa : Kp NoB W_3 (W_3.alloc (.cells #[.int .u32 0, .int .i64 0, .int .u32 0, .slice none 0 0] 30)) := (Kp.refl NoB W_3).alloc _
            refine hK.out _ _ (eight (z1_3.out.and hKa) (z2_3.out.and hKa)) (fun hHeld => ?_)
            clear hK K
            try simp only [Act.put, List.setIfInBounds_toArray, List.set_cons_zero, List.set_cons_succ]
            obtain ⟨W_4, hW⟩ : ∃ x, W_3.alloc (.cells #[.int .u32 0, .int .i64 0, .int .u32 0, .slice none 0 0] 30) = x := ⟨_, rfl⟩
            rw [hW]
            rw [hW] at hKa
            have q5_4 : Hid (Bk W_4 W_3.heap.size 30 #[.int .u32 0, .int .i64 0, .int .u32 0, .slice none 0 0]) := Lib.hid (by rw [← hW]; exact Bk.fresh W_3 _ _)
            have hne_4 : B4 ≠ W_3.heap.size := Nat.ne_of_lt q4_3.out.lt
            obtain ⟨B5, hB5⟩ : ∃ x, W_3.heap.size = x := ⟨_, rfl⟩
            have hgt5 : w.heap.size < B5 := by rw [← hB5]; exact z1_3.out.lt
            have hgu5 : w.heap.size + 1 < B5 := by rw [← hB5]; exact z2_3.out.lt
            rw [hB5] at q5_4 hne_4 ⊢
            clear hW hB5
            have hk_4 := Lib.hid (hk_3.out.and hKa)
            have z1_4 := Lib.hid (z1_3.out.and hKa)
            have z2_4 := Lib.hid (z2_3.out.and hKa)
            have q4_4 := Lib.hid (q4_3.out.and hKa)
            clear hk_3 z1_3 z2_3 hKa q4_3
            have b4 := q4_4.out
            have b5 := q5_4.out
            obtain ⟨t0, t1, t2, t3, t6, t7, t8, t9, t10⟩ := b4.four
            obtain ⟨u0, u1, u2, u3, u6, u7, u8, u9, u10⟩ := b5.four
            have m4 := b4.set4 (.int .u32 s) (.int .i64 h) (.int .u32 i) (.slice A1 n c1)
            have m5 := b5.far4 (Ne.symm hne_4) (.int .u32 s) (.int .i64 h) (.int .u32 i) (.slice A1 n c1)
            have v1 := Bk.far4 z1_4.out (Nat.ne_of_lt hgt4) (.int .u32 s) (.int .i64 h) (.int .u32 i) (.slice A1 n c1)
            have v2 := Bk.far4 z2_4.out (Nat.ne_of_lt hgu4) (.int .u32 s) (.int .i64 h) (.int .u32 i) (.slice A1 n c1)
            have o4 := m4.far4 hne_4 (.int .u32 s') (.int .i64 h') (.int .u32 i') (.slice A2 m c2)
            have o5 := m5.set4 (.int .u32 s') (.int .i64 h') (.int .u32 i') (.slice A2 m c2)
            have w1' := Bk.far4 v1 (Nat.ne_of_lt hgt5) (.int .u32 s') (.int .i64 h') (.int .u32 i') (.slice A2 m c2)
            have w2' := Bk.far4 v2 (Nat.ne_of_lt hgu5) (.int .u32 s') (.int .i64 h') (.int .u32 i') (.slice A2 m c2)
            have kf := Lib.hid ((hk_4.out.set4 (Nat.le_of_lt hgt4) (.int .u32 s) (.int .i64 h) (.int .u32 i) (.slice A1 n c1)).set4 (Nat.le_of_lt hgt5) (.int .u32 s') (.int .i64 h') (.int .u32 i') (.slice A2 m c2))
            refine wpAnyH_ready (rs := [6]) (by kernel_rfl) (by simp) ?_
            refine AllReadyH.cons (o := ⟨none, _, _, _, _, _⟩) rfl (fun K hK => ?_) AllReadyH.nil
            go_simp
            refine hK.out _ _ (eight v1 v2) (fun hHeld => ?_)
            clear hK K
            try simp only [Act.put, List.setIfInBounds_toArray, List.set_cons_zero, List.set_cons_succ]
            obtain ⟨u0, u1, u2, u3, u6, u7, u8, u9, u10⟩ := m5.four
            refine wpAnyH_ready (rs := [7]) (by kernel_rfl) (by simp) ?_
            refine AllReadyH.cons (o := ⟨none, _, _, _, _, _⟩) rfl (fun K hK => ?_) AllReadyH.nil
            go_simp
            refine hK.out _ _ (eight w1' w2') (fun hHeld => ?_)
            clear hK K
            try simp only [Act.put, List.setIfInBounds_toArray, List.set_cons_zero, List.set_cons_succ]
            refine wpAnyH_done (by kernel_rfl) ?_ _
            refine NoPanic.normal ?_
            go_wp2_with fail
            go_meet
            exact ⟨B4, B5, A1, c1, A2, c2, rfl, rfl, Lib.hid o4, Lib.hid o5, Lib.hid w1', Lib.hid w2', kf⟩
          · go_simp
            have hKa : Kp NoB W_2 (W_2.alloc (.cells #[.int .u32 0, .int .i64 0, .int .u32 0, .slice none 0 0] 30)) := (Kp.refl NoB W_2).alloc _
            refine hK.out _ _ (eight (z1_2.out.and hKa) (z2_2.out.and hKa)) (fun hHeld => ?_)
            clear hK K
            try simp only [Act.put, List.setIfInBounds_toArray, List.set_cons_zero, List.set_cons_succ]
            obtain ⟨W_3, hW⟩ : ∃ x, W_2.alloc (.cells #[.int .u32 0, .int .i64 0, .int .u32 0, .slice none 0 0] 30) = x := ⟨_, rfl⟩
            rw [hW]
            rw [hW] at hKa
            have q5_3 : Hid (Bk W_3 W_2.heap.size 30 #[.int .u32 0, .int .i64 0, .int .u32 0, .slice none 0 0]) := Lib.hid (by rw [← hW]; exact Bk.fresh W_2 _ _)
            have hne_3 : B4 ≠ W_2.heap.size := Nat.ne_of_lt q4_2.out.lt
            obtain ⟨B5, hB5⟩ : ∃ x, W_2.heap.size = x := ⟨_, rfl⟩
            have hgt5 : w.heap.size < B5 := by rw [← hB5]; exact z1_2.out.lt
            have hgu5 : w.heap.size + 1 < B5 := by rw [← hB5]; exact z2_2.out.lt
            rw [hB5] at q5_3 hne_3 ⊢
            clear hW hB5
            have hk_3 := Lib.hid (hk_2.out.and hKa)
            have z1_3 := Lib.hid (z1_2.out.and hKa)
            have z2_3 := Lib.hid (z2_2.out.and hKa)
            have q4_3 := Lib.hid (q4_2.out.and hKa)
            clear hk_2 z1_2 z2_2 hKa q4_2
            refine wpAnyH_ready (rs := [3]) (by kernel_rfl) (by simp) ?_
            refine AllReadyH.cons (o := ⟨some 18, _, _, _, _, _⟩) rfl (fun K hK => ?_) AllReadyH.nil
            go_simp
            (with_reducible refine Calls.mono (HGy.out _ hk_3.out) ?_)
            rintro e W_4 ⟨A2, c2, rfl, ho, hKk⟩
            clear ho
            have hk_4 := Lib.hid (hk_3.out.and hKk)
            have z1_4 := Lib.hid (z1_3.out.and hKk)
            have z2_4 := Lib.hid (z2_3.out.and hKk)
            have q4_4 := Lib.hid (q4_3.out.and hKk)
            have q5_4 := Lib.hid (q5_3.out.and hKk)
            have hne_4 := hne_3
            clear hk_3 z1_3 z2_3 q4_3 q5_3 hne_3
            clear hKk
            refine hK.out _ _ (eight z1_4.out z2_4.out) (fun hHeld => ?_)
            clear hK K
            try simp only [Act.put, List.setIfInBounds_toArray, List.set_cons_zero, List.set_cons_succ]
            have b4 := q4_4.out
            have b5 := q5_4.out
            obtain ⟨t0, t1, t2, t3, t6, t7, t8, t9, t10⟩ := b4.four
            obtain ⟨u0, u1, u2, u3, u6, u7, u8, u9, u10⟩ := b5.four
            have m4 := b4.set4 (.int .u32 s) (.int .i64 h) (.int .u32 i) (.slice A1 n c1)
            have m5 := b5.far4 (Ne.symm hne_4) (.int .u32 s) (.int .i64 h) (.int .u32 i) (.slice A1 n c1)
            have v1 := Bk.far4 z1_4.out (Nat.ne_of_lt hgt4) (.int .u32 s) (.int .i64 h) (.int .u32 i) (.slice A1 n c1)
            have v2 := Bk.far4 z2_4.out (Nat.ne_of_lt hgu4) (.int .u32 s) (.int .i64 h) (.int .u32 i) (.slice A1 n c1)
            have o4 := m4.far4 hne_4 (.int .u32 s') (.int .i64 h') (.int .u32 i') (.slice A2 m c2)
            have o5 := m5.set4 (.int .u32 s') (.int .i64 h') (.int .u32 i') (.slice A2 m c2)
            have w1' := Bk.far4 v1 (Nat.ne_of_lt hgt5) (.int .u32 s') (.int .i64 h') (.int .u32 i') (.slice A2 m c2)
            have w2' := Bk.far4 v2 (Nat.ne_of_lt hgu5) (.int .u32 s') (.int .i64 h') (.int .u32 i') (.slice A2 m c2)
            have kf := Lib.hid ((hk_4.out.set4 (Nat.le_of_lt hgt4) (.int .u32 s) (.int .i64 h) (.int .u32 i) (.slice A1 n c1)).set4 (Nat.le_of_lt hgt5) (.int .u32 s') (.int .i64 h') (.int .u32 i') (.slice A2 m c2))
            refine wpAnyH_ready (rs := [6]) (by kernel_rfl) (by simp) ?_
            refine AllReadyH.cons (o := ⟨none, _, _, _, _, _⟩) rfl (fun K hK => ?_) AllReadyH.nil
            go_simp
            refine hK.out _ _ (eight v1 v2) (fun hHeld => ?_)
            clear hK K
            try simp only [Act.put, List.setIfInBounds_toArray, List.set_cons_zero, List.set_cons_succ]
            obtain ⟨u0, u1, u2, u3, u6, u7, u8, u9, u10⟩ := m5.four
            refine wpAnyH_ready (rs := [7]) (by kernel_rfl) (by simp) ?_
            refine AllReadyH.cons (o := ⟨none, _, _, _, _, _⟩) rfl (fun K hK => ?_) AllReadyH.nil
            go_simp
            refine hK.out _ _ (eight w1' w2') (fun hHeld => ?_)
            clear hK K
            try simp only [Act.put, List.setIfInBounds_toArray, List.set_cons_zero, List.set_cons_succ]
            refine wpAnyH_done (by kernel_rfl) ?_ _
            refine NoPanic.normal ?_
            go_wp2_with fail
            go_meet
            exact ⟨B4, B5, A1, c1, A2, c2, rfl, rfl, Lib.hid o4, Lib.hid o5, Lib.hid w1', Lib.hid w2', kf⟩
        · go_simp
          have hKa : Kp NoB W_1 (W_1.alloc (.cells #[.int .u32 0, .int .i64 0, .int .u32 0, .slice none 0 0] 30)) := (Kp.refl NoB W_1).alloc _
          refine hK.out _ _ (eight (z1_1.out.and hKa) (z2_1.out.and hKa)) (fun hHeld => ?_)
          clear hK K
          try simp only [Act.put, List.setIfInBounds_toArray, List.set_cons_zero, List.set_cons_succ]
          obtain ⟨W_2, hW⟩ : ∃ x, W_1.alloc (.cells #[.int .u32 0, .int .i64 0, .int .u32 0, .slice none 0 0] 30) = x := ⟨_, rfl⟩
          rw [hW]
          rw [hW] at hKa
          have q5_2 : Hid (Bk W_2 W_1.heap.size 30 #[.int .u32 0, .int .i64 0, .int .u32 0, .slice none 0 0]) := Lib.hid (by rw [← hW]; exact Bk.fresh W_1 _ _)
          obtain ⟨B5, hB5⟩ : ∃ x, W_1.heap.size = x := ⟨_, rfl⟩
          have hgt5 : w.heap.size < B5 := by rw [← hB5]; exact z1_1.out.lt
          have hgu5 : w.heap.size + 1 < B5 := by rw [← hB5]; exact z2_1.out.lt
          rw [hB5] at q5_2 ⊢
          clear hW hB5
          have hk_2 := Lib.hid (hk_1.out.and hKa)
          have z1_2 := Lib.hid (z1_1.out.and hKa)
          have z2_2 := Lib.hid (z2_1.out.and hKa)
          clear hk_1 z1_1 z2_1 hKa 
          refine wpAnyH_ready (rs := [3, 4]) (by kernel_rfl) (by simp) ?_
          refine AllReadyH.cons (o := ⟨some 18, _, _, _, _, _⟩) rfl (fun K hK => ?_) (AllReadyH.cons (o := ⟨some 5, _, _, _, _, _⟩) rfl (fun K hK => ?_) AllReadyH.nil)
          · go_simp
            (with_reducible refine Calls.mono (HGy.out _ hk_2.out) ?_)
            rintro e W_3 ⟨A2, c2, rfl, ho, hKk⟩
            clear ho
            have hk_3 := Lib.hid (hk_2.out.and hKk)
            have z1_3 := Lib.hid (z1_2.out.and hKk)
            have z2_3 := Lib.hid (z2_2.out.and hKk)
            have q5_3 := Lib.hid (q5_2.out.and hKk)
            clear hk_2 z1_2 z2_2 q5_2
            clear hKk
            refine hK.out _ _ (eight z1_3.out z2_3.out) (fun hHeld => ?_)
            clear hK K
            try simp only [Act.put, List.setIfInBounds_toArray, List.set_cons_zero, List.set_cons_succ]
            refine wpAnyH_ready (rs := [4]) (by kernel_rfl) (by simp) ?_
            refine AllReadyH.cons (o := ⟨some 5, _, _, _, _, _⟩) rfl (fun K hK => ?_) AllReadyH.nil
            go_simp
            have hKa : Kp NoB W_3 (W_3.alloc (.cells #[.int .u32 0, .int .i64 0, .int .u32 0, .slice none 0 0] 30)) := (Kp.refl NoB W_3).alloc _
            refine hK.out _ _ (eight (z1_3.out.and hKa) (z2_3.out.and hKa)) (fun hHeld => ?_)
            clear hK K
            try simp only [Act.put, List.setIfInBounds_toArray, List.set_cons_zero, List.set_cons_succ]
            obtain ⟨W_4, hW⟩ : ∃ x, W_3.alloc (.cells #[.int .u32 0, .int .i64 0, .int .u32 0, .slice none 0 0] 30) = x := ⟨_, rfl⟩
            rw [hW]
            rw [hW] at hKa
            have q4_4 : Hid (Bk W_4 W_3.heap.size 30 #[.int .u32 0, .int .i64 0, .int .u32 0, .slice none 0 0]) := Lib.hid (by rw [← hW]; exact Bk.fresh W_3 _ _)
            have hne_4 : B5 ≠ W_3.heap.size := Nat.ne_of_lt q5_3.out.lt
            obtain ⟨B4, hB4⟩ : ∃ x, W_3.heap.size = x := ⟨_, rfl⟩
            have hgt4 : w.heap.size < B4 := by rw [← hB4]; exact z1_3.out.lt
            have hgu4 : w.heap.size + 1 < B4 := by rw [← hB4]; exact z2_3.out.lt
            rw [hB4] at q4_4 hne_4 ⊢
            clear hW hB4
            have hk_4 := Lib.hid (hk_3.out.and hKa)
            have z1_4 := Lib.hid (z1_3.out.and hKa)
            have z2_4 := Lib.hid (z2_3.out.and hKa)
            have q5_4 := Lib.hid (q5_3.out.and hKa)
            clear hk_3 z1_3 z2_3 hKa q5_3
            replace hne_4 := hne_4.symm
            have b4 := q4_4.out
            have b5 := q5_4.out
            obtain ⟨t0, t1, t2, t3, t6, t7, t8, t9, t10⟩ := b4.four
            obtain ⟨u0, u1, u2, u3, u6, u7, u8, u9, u10⟩ := b5.four
            have m4 := b4.set4 (.int .u32 s) (.int .i64 h) (.int .u32 i) (.slice A1 n c1)
            have m5 := b5.far4 (Ne.symm hne_4) (.int .u32 s) (.int .i64 h) (.int .u32 i) (.slice A1 n c1)
            have v1 := Bk.far4 z1_4.out (Nat.ne_of_lt hgt4) (.int .u32 s) (.int .i64 h) (.int .u32 i) (.slice A1 n c1)
            have v2 := Bk.far4 z2_4.out (Nat.ne_of_lt hgu4) (.int .u32 s) (.int .i64 h) (.int .u32 i) (.slice A1 n c1)
            have o4 := m4.far4 hne_4 (.int .u32 s') (.int .i64 h') (.int .u32 i') (.slice A2 m c2)
            have o5 := m5.set4 (.int .u32 s') (.int .i64 h') (.int .u32 i') (.slice A2 m c2)
            have w1' := Bk.far4 v1 (Nat.ne_of_lt hgt5) (.int .u32 s') (.int .i64 h') (.int .u32 i') (.slice A2 m c2)
            have w2' := Bk.far4 v2 (Nat.ne_of_lt hgu5) (.int .u32 s') (.int .i64 h') (.int .u32 i') (.slice A2 m c2)
            have kf := Lib.hid ((hk_4.out.set4 (Nat.le_of_lt hgt4) (.int .u32 s) (.int .i64 h) (.int .u32 i) (.slice A1 n c1)).set4 (Nat.le_of_lt hgt5) (.int .u32 s') (.int .i64 h') (.int .u32 i') (.slice A2 m c2))
            refine wpAnyH_ready (rs := [6]) (by kernel_rfl) (by simp) ?_
            refine AllReadyH.cons (o := ⟨none, _, _, _, _, _⟩) rfl (fun K hK => ?_) AllReadyH.nil
            go_simp
            refine hK.out _ _ (eight v1 v2) (fun hHeld => ?_)
            clear hK K
            try simp only [Act.put, List.setIfInBounds_toArray, List.set_cons_zero, List.set_cons_succ]
            obtain ⟨u0, u1, u2, u3, u6, u7, u8, u9, u10⟩ := m5.four
            refine wpAnyH_ready (rs := [7]) (by kernel_rfl) (by simp) ?_
            refine AllReadyH.cons (o := ⟨none, _, _, _, _, _⟩) rfl (fun K hK => ?_) AllReadyH.nil
            go_simp
            refine hK.out _ _ (eight w1' w2') (fun hHeld => ?_)
            clear hK K
            try simp only [Act.put, List.setIfInBounds_toArray, List.set_cons_zero, List.set_cons_succ]
            refine wpAnyH_done (by kernel_rfl) ?_ _
            refine NoPanic.normal ?_
            go_wp2_with fail
            go_meet
            exact ⟨B4, B5, A1, c1, A2, c2, rfl, rfl, Lib.hid o4, Lib.hid o5, Lib.hid w1', Lib.hid w2', kf⟩
          · go_simp
            have hKa : Kp NoB W_2 (W_2.alloc (.cells #[.int .u32 0, .int .i64 0, .int .u32 0, .slice none 0 0] 30)) := (Kp.refl NoB W_2).alloc _
            refine hK.out _ _ (eight (z1_2.out.and hKa) (z2_2.out.and hKa)) (fun hHeld => ?_)
            clear hK K
            try simp only [Act.put, List.setIfInBounds_toArray, List.set_cons_zero, List.set_cons_succ]
            obtain ⟨W_3, hW⟩ : ∃ x, W_2.alloc (.cells #[.int .u32 0, .int .i64 0, .int .u32 0, .slice none 0 0] 30) = x := ⟨_, rfl⟩
            rw [hW]
            rw [hW] at hKa
            have q4_3 : Hid (Bk W_3 W_2.heap.size 30 #[.int .u32 0, .int .i64 0, .int .u32 0, .slice none 0 0]) := Lib.hid (by rw [← hW]; exact Bk.fresh W_2 _ _)
            have hne_3 : B5 ≠ W_2.heap.size := Nat.ne_of_lt q5_2.out.lt
            obtain ⟨B4, hB4⟩ : ∃ x, W_2.heap.size = x := ⟨_, rfl⟩
            have hgt4 : w.heap.size < B4 := by rw [← hB4]; exact z1_2.out.lt
            have hgu4 : w.heap.size + 1 < B4 := by rw [← hB4]; exact z2_2.out.lt
            rw [hB4] at q4_3 hne_3 ⊢
            clear hW hB4
            have hk_3 := Lib.hid (hk_2.out.and hKa)
            have z1_3 := Lib.hid (z1_2.out.and hKa)
            have z2_3 := Lib.hid (z2_2.out.and hKa)
            have q5_3 := Lib.hid (q5_2.out.and hKa)
            clear hk_2 z1_2 z2_2 hKa q5_2
            replace hne_3 := hne_3.symm
            refine wpAnyH_ready (rs := [3]) (by kernel_rfl) (by simp) ?_
            refine AllReadyH.cons (o := ⟨some 18, _, _, _, _, _⟩) rfl (fun K hK => ?_) AllReadyH.nil
            go_simp
            (with_reducible refine Calls.mono (HGy.out _ hk_3.out) ?_)
            rintro e W_4 ⟨A2, c2, rfl, ho, hKk⟩
            clear ho
            have hk_4 := Lib.hid (hk_3.out.and hKk)
            have z1_4 := Lib.hid (z1_3.out.and hKk)
            have z2_4 := Lib.hid (z2_3.out.and hKk)
            have q5_4 := Lib.hid (q5_3.out.and hKk)
            have q4_4 := Lib.hid (q4_3.out.and hKk)
            have hne_4 := hne_3
            clear hk_3 z1_3 z2_3 q5_3 q4_3 hne_3
            clear hKk
            refine hK.out _ _ (eight z1_4.out z2_4.out) (fun hHeld => ?_)
            clear hK K
            try simp only [Act.put, List.setIfInBounds_toArray, List.set_cons_zero, List.set_cons_succ]
            have b4 := q4_4.out
            have b5 := q5_4.out
            obtain ⟨t0, t1, t2, t3, t6, t7, t8, t9, t10⟩ := b4.four
            obtain ⟨u0, u1, u2, u3, u6, u7, u8, u9, u10⟩ := b5.four
            have m4 := b4.set4 (.int .u32 s) (.int .i64 h) (.int .u32 i) (.slice A1 n c1)
            have m5 := b5.far4 (Ne.symm hne_4) (.int .u32 s) (.int .i64 h) (.int .u32 i) (.slice A1 n c1)
            have v1 := Bk.far4 z1_4.out (Nat.ne_of_lt hgt4) (.int .u32 s) (.int .i64 h) (.int .u32 i) (.slice A1 n c1)
            have v2 := Bk.far4 z2_4.out (Nat.ne_of_lt hgu4) (.int .u32 s) (.int .i64 h) (.int .u32 i) (.slice A1 n c1)
            have o4 := m4.far4 hne_4 (.int .u32 s') (.int .i64 h') (.int .u32 i') (.slice A2 m c2)
            have o5 := m5.set4 (.int .u32 s') (.int .i64 h') (.int .u32 i') (.slice A2 m c2)
            have w1' := Bk.far4 v1 (Nat.ne_of_lt hgt5) (.int .u32 s') (.int .i64 h') (.int .u32 i') (.slice A2 m c2)
            have w2' := Bk.far4 v2 (Nat.ne_of_lt hgu5) (.int .u32 s') (.int .i64 h') (.int .u32 i') (.slice A2 m c2)
            have kf := Lib.hid ((hk_4.out.set4 (Nat.le_of_lt hgt4) (.int .u32 s) (.int .i64 h) (.int .u32 i) (.slice A1 n c1)).set4 (Nat.le_of_lt hgt5) (.int .u32 s') (.int .i64 h') (.int .u32 i') (.slice A2 m c2))
            refine wpAnyH_ready (rs := [6]) (by kernel_rfl) (by simp) ?_
            refine AllReadyH.cons (o := ⟨none, _, _, _, _, _⟩) rfl (fun K hK => ?_) AllReadyH.nil
            go_simp
            refine hK.out _ _ (eight v1 v2) (fun hHeld => ?_)
            clear hK K
            try simp only [Act.put, List.setIfInBounds_toArray, List.set_cons_zero, List.set_cons_succ]
            obtain ⟨u0, u1, u2, u3, u6, u7, u8, u9, u10⟩ := m5.four
            refine wpAnyH_ready (rs := [7]) (by kernel_rfl) (by simp) ?_
            refine AllReadyH.cons (o := ⟨none, _, _, _, _, _⟩) rfl (fun K hK => ?_) AllReadyH.nil
            go_simp
            refine hK.out _ _ (eight w1' w2') (fun hHeld => ?_)
            clear hK K
            try simp only [Act.put, List.setIfInBounds_toArray, List.set_cons_zero, List.set_cons_succ]
            refine wpAnyH_done (by kernel_rfl) ?_ _
            refine NoPanic.normal ?_
            go_wp2_with fail
            go_meet
            exact ⟨B4, B5, A1, c1, A2, c2, rfl, rfl, Lib.hid o4, Lib.hid o5, Lib.hid w1', Lib.hid w2', kf⟩
      · go_simp
        have hKa : Kp NoB W_0 (W_0.alloc (.cells #[.int .u32 0, .int .i64 0, .int .u32 0, .slice none 0 0] 30)) := (Kp.refl NoB W_0).alloc _
        refine hK.out _ _ (eight (z1_0.out.and hKa) (z2_0.out.and hKa)) (fun hHeld => ?_)
        clear hK K
        try simp only [Act.put, List.setIfInBounds_toArray, List.set_cons_zero, List.set_cons_succ]
        obtain ⟨W_1, hW⟩ : ∃ x, W_0.alloc (.cells #[.int .u32 0, .int .i64 0, .int .u32 0, .slice none 0 0] 30) = x := ⟨_, rfl⟩
        rw [hW]
        rw [hW] at hKa
        have q4_1 : Hid (Bk W_1 W_0.heap.size 30 #[.int .u32 0, .int .i64 0, .int .u32 0, .slice none 0 0]) := Lib.hid (by rw [← hW]; exact Bk.fresh W_0 _ _)
        obtain ⟨B4, hB4⟩ : ∃ x, W_0.heap.size = x := ⟨_, rfl⟩
        have hgt4 : w.heap.size < B4 := by rw [← hB4]; exact z1_0.out.lt
        have hgu4 : w.heap.size + 1 < B4 := by rw [← hB4]; exact z2_0.out.lt
        rw [hB4] at q4_1 ⊢
        clear hW hB4
        have hk_1 := Lib.hid (hk_0.out.and hKa)
        have z1_1 := Lib.hid (z1_0.out.and hKa)
        have z2_1 := Lib.hid (z2_0.out.and hKa)
        clear hk_0 z1_0 z2_0 hKa 
        refine wpAnyH_ready (rs := [1, 5]) (by kernel_rfl) (by simp) ?_
        refine AllReadyH.cons (o := ⟨some 16, _, _, _, _, _⟩) rfl (fun K hK => ?_) (AllReadyH.cons (o := ⟨some 6, _, _, _, _, _⟩) rfl (fun K hK => ?_) AllReadyH.nil)
        · go_simp
          (with_reducible refine Calls.mono (HGx.out _ hk_1.out) ?_)
          rintro e W_2 ⟨A1, c1, rfl, ho, hKk⟩
          clear ho
          have hk_2 := Lib.hid (hk_1.out.and hKk)
          have z1_2 := Lib.hid (z1_1.out.and hKk)
          have z2_2 := Lib.hid (z2_1.out.and hKk)
          have q4_2 := Lib.hid (q4_1.out.and hKk)
          clear hk_1 z1_1 z2_1 q4_1
          clear hKk
          refine hK.out _ _ (eight z1_2.out z2_2.out) (fun hHeld => ?_)
          clear hK K
          try simp only [Act.put, List.setIfInBounds_toArray, List.set_cons_zero, List.set_cons_succ]
          refine wpAnyH_ready (rs := [3, 5]) (by kernel_rfl) (by simp) ?_
          refine AllReadyH.cons (o := ⟨some 18, _, _, _, _, _⟩) rfl (fun K hK => ?_) (AllReadyH.cons (o := ⟨some 6, _, _, _, _, _⟩) rfl (fun K hK => ?_) AllReadyH.nil)
          · go_simp
            (with_reducible refine Calls.mono (HGy.out _ hk_2.out) ?_)
            rintro e W_3 ⟨A2, c2, rfl, ho, hKk⟩
            clear ho
            have hk_3 := Lib.hid (hk_2.out.and hKk)
            have z1_3 := Lib.hid (z1_2.out.and hKk)
            have z2_3 := Lib.hid (z2_2.out.and hKk)
            have q4_3 := Lib.hid (q4_2.out.and hKk)
            clear hk_2 z1_2 z2_2 q4_2
            clear hKk
            refine hK.out _ _ (eight z1_3.out z2_3.out) (fun hHeld => ?_)
            clear hK K
            try simp only [Act.put, List.setIfInBounds_toArray, List.set_cons_zero, List.set_cons_succ]
            refine wpAnyH_ready (rs := [5]) (by kernel_rfl) (by simp) ?_
            refine AllReadyH.cons (o := ⟨some 6, _, _, _, _, _⟩) rfl (fun K hK => ?_) AllReadyH.nil
            go_simp
            have hKa : Kp NoB W_3 (W_3.alloc (.cells #[.int .u32 0, .int .i64 0, .int .u32 0, .slice none 0 0] 30)) := (Kp.refl NoB W_3).alloc _
            refine hK.out _ _ (eight (z1_3.out.and hKa) (z2_3.out.and hKa)) (fun hHeld => ?_)
            clear hK K
            try simp only [Act.put, List.setIfInBounds_toArray, List.set_cons_zero, List.set_cons_succ]
            obtain ⟨W_4, hW⟩ : ∃ x, W_3.alloc (.cells #[.int .u32 0, .int .i64 0, .int .u32 0, .slice none 0 0] 30) = x := ⟨_, rfl⟩
            rw [hW]
            rw [hW] at hKa
            have q5_4 : Hid (Bk W_4 W_3.heap.size 30 #[.int .u32 0, .int .i64 0, .int .u32 0, .slice none 0 0]) := Lib.hid (by rw [← hW]; exact Bk.fresh W_3 _ _)
            have hne_4 : B4 ≠ W_3.heap.size := Nat.ne_of_lt q4_3.out.lt
            obtain ⟨B5, hB5⟩ : ∃ x, W_3.heap.size = x := ⟨_, rfl⟩
            have hgt5 : w.heap.size < B5 := by rw [← hB5]; exact z1_3.out.lt
            have hgu5 : w.heap.size + 1 < B5 := by rw [← hB5]; exact z2_3.out.lt
            rw [hB5] at q5_4 hne_4 ⊢
            clear hW hB5
            have hk_4 := Lib.hid (hk_3.out.and hKa)
            have z1_4 := Lib.hid (z1_3.out.and hKa)
            have z2_4 := Lib.hid (z2_3.out.and hKa)
            have q4_4 := Lib.hid (q4_3.out.and hKa)
            clear hk_3 z1_3 z2_3 hKa q4_3
            have b4 := q4_4.out
            have b5 := q5_4.out
            obtain ⟨t0, t1, t2, t3, t6, t7, t8, t9, t10⟩ := b4.four
            obtain ⟨u0, u1, u2, u3, u6, u7, u8, u9, u10⟩ := b5.four
            have m4 := b4.set4 (.int .u32 s) (.int .i64 h) (.int .u32 i) (.slice A1 n c1)
            have m5 := b5.far4 (Ne.symm hne_4) (.int .u32 s) (.int .i64 h) (.int .u32 i) (.slice A1 n c1)
            have v1 := Bk.far4 z1_4.out (Nat.ne_of_lt hgt4) (.int .u32 s) (.int .i64 h) (.int .u32 i) (.slice A1 n c1)
            have v2 := Bk.far4 z2_4.out (Nat.ne_of_lt hgu4) (.int .u32 s) (.int .i64 h) (.int .u32 i) (.slice A1 n c1)
            have o4 := m4.far4 hne_4 (.int .u32 s') (.int .i64 h') (.int .u32 i') (.slice A2 m c2)
            have o5 := m5.set4 (.int .u32 s') (.int .i64 h') (.int .u32 i') (.slice A2 m c2)
            have w1' := Bk.far4 v1 (Nat.ne_of_lt hgt5) (.int .u32 s') (.int .i64 h') (.int .u32 i') (.slice A2 m c2)
            have w2' := Bk.far4 v2 (Nat.ne_of_lt hgu5) (.int .u32 s') (.int .i64 h') (.int .u32 i') (.slice A2 m c2)
            have kf := Lib.hid ((hk_4.out.set4 (Nat.le_of_lt hgt4) (.int .u32 s) (.int .i64 h) (.int .u32 i) (.slice A1 n c1)).set4 (Nat.le_of_lt hgt5) (.int .u32 s') (.int .i64 h') (.int .u32 i') (.slice A2 m c2))
            refine wpAnyH_ready (rs := [6]) (by kernel_rfl) (by simp) ?_
            refine AllReadyH.cons (o := ⟨none, _, _, _, _, _⟩) rfl (fun K hK => ?_) AllReadyH.nil
            go_simp
            refine hK.out _ _ (eight v1 v2) (fun hHeld => ?_)
            clear hK K
            try simp only [Act.put, List.setIfInBounds_toArray, List.set_cons_zero, List.set_cons_succ]
            obtain ⟨u0, u1, u2, u3, u6, u7, u8, u9, u10⟩ := m5.four
            refine wpAnyH_ready (rs := [7]) (by kernel_rfl) (by simp) ?_
            refine AllReadyH.cons (o := ⟨none, _, _, _, _, _⟩) rfl (fun K hK => ?_) AllReadyH.nil
            go_simp
            refine hK.out _ _ (eight w1' w2') (fun hHeld => ?_)
            clear hK K
            try simp only [Act.put, List.setIfInBounds_toArray, List.set_cons_zero, List.set_cons_succ]
            refine wpAnyH_done (by kernel_rfl) ?_ _
            refine NoPanic.normal ?_
            go_wp2_with fail
            go_meet
            exact ⟨B4, B5, A1, c1, A2, c2, rfl, rfl, Lib.hid o4, Lib.hid o5, Lib.hid w1', Lib.hid w2', kf⟩
          · go_simp
            have hKa : Kp NoB W_2 (W_2.alloc (.cells #[.int .u32 0, .int .i64 0, .int .u32 0, .slice none 0 0] 30)) := (Kp.refl NoB W_2).alloc _
            refine hK.out _ _ (eight (z1_2.out.and hKa) (z2_2.out.and hKa)) (fun hHeld => ?_)
            clear hK K
            try simp only [Act.put, List.setIfInBounds_toArray, List.set_cons_zero, List.set_cons_succ]
            obtain ⟨W_3, hW⟩ : ∃ x, W_2.alloc (.cells #[.int .u32 0, .int .i64 0, .int .u32 0, .slice none 0 0] 30) = x := ⟨_, rfl⟩
            rw [hW]
            rw [hW] at hKa
            have q5_3 : Hid (Bk W_3 W_2.heap.size 30 #[.int .u32 0, .int .i64 0, .int .u32 0, .slice none 0 0]) := Lib.hid (by rw [← hW]; exact Bk.fresh W_2 _ _)
            have hne_3 : B4 ≠ W_2.heap.size := Nat.ne_of_lt q4_2.out.lt
            obtain ⟨B5, hB5⟩ : ∃ x, W_2.heap.size = x := ⟨_, rfl⟩
            have hgt5 : w.heap.size < B5 := by rw [← hB5]; exact z1_2.out.lt
            have hgu5 : w.heap.size + 1 < B5 := by rw [← hB5]; exact z2_2.out.lt
            rw [hB5] at q5_3 hne_3 ⊢
            clear hW hB5
            have hk_3 := Lib.hid (hk_2.out.and hKa)
            have z1_3 := Lib.hid (z1_2.out.and hKa)
            have z2_3 := Lib.hid (z2_2.out.and hKa)
            have q4_3 := Lib.hid (q4_2.out.and hKa)
            clear hk_2 z1_2 z2_2 hKa q4_2
            refine wpAnyH_ready (rs := [3]) (by kernel_rfl) (by simp) ?_
            refine AllReadyH.cons (o := ⟨some 18, _, _, _, _, _⟩) rfl (fun K hK => ?_) AllReadyH.nil
            go_simp
            (with_reducible refine Calls.mono (HGy.out _ hk_3.out) ?_)
            rintro e W_4 ⟨A2, c2, rfl, ho, hKk⟩
            clear ho
            have hk_4 := Lib.hid (hk_3.out.and hKk)
            have z1_4 := Lib.hid (z1_3.out.and hKk)
            have z2_4 := Lib.hid (z2_3.out.and hKk)
            have q4_4 := Lib.hid (q4_3.out.and hKk)
            have q5_4 := Lib.hid (q5_3.out.and hKk)
            have hne_4 := hne_3
            clear hk_3 z1_3 z2_3 q4_3 q5_3 hne_3
            clear hKk
            refine hK.out _ _ (eight z1_4.out z2_4.out) (fun hHeld => ?_)
            clear hK K
            try simp only [Act.put, List.setIfInBounds_toArray, List.set_cons_zero, List.set_cons_succ]
            have b4 := q4_4.out
            have b5 := q5_4.out
            obtain ⟨t0, t1, t2, t3, t6, t7, t8, t9, t10⟩ := b4.four
            obtain ⟨u0, u1, u2, u3, u6, u7, u8, u9, u10⟩ := b5.four
            have m4 := b4.set4 (.int .u32 s) (.int .i64 h) (.int .u32 i) (.slice A1 n c1)
            have m5 := b5.far4 (Ne.symm hne_4) (.int .u32 s) (.int .i64 h) (.int .u32 i) (.slice A1 n c1)
            have v1 := Bk.far4 z1_4.out (Nat.ne_of_lt hgt4) (.int .u32 s) (.int .i64 h) (.int .u32 i) (.slice A1 n c1)
            have v2 := Bk.far4 z2_4.out (Nat.ne_of_lt hgu4) (.int .u32 s) (.int .i64 h) (.int .u32 i) (.slice A1 n c1)
            have o4 := m4.far4 hne_4 (.int .u32 s') (.int .i64 h') (.int .u32 i') (.slice A2 m c2)
            have o5 := m5.set4 (.int .u32 s') (.int .i64 h') (.int .u32 i') (.slice A2 m c2)
            have w1' := Bk.far4 v1 (Nat.ne_of_lt hgt5) (.int .u32 s') (.int .i64 h') (.int .u32 i') (.slice A2 m c2)
            have w2' := Bk.far4 v2 (Nat.ne_of_lt hgu5) (.int .u32 s') (.int .i64 h') (.int .u32 i') (.slice A2 m c2)
            have kf := Lib.hid ((hk_4.out.set4 (Nat.le_of_lt hgt4) (.int .u32 s) (.int .i64 h) (.int .u32 i) (.slice A1 n c1)).set4 (Nat.le_of_lt hgt5) (.int .u32 s') (.int .i64 h') (.int .u32 i') (.slice A2 m c2))
            refine wpAnyH_ready (rs := [6]) (by kernel_rfl) (by simp) ?_
            refine AllReadyH.cons (o := ⟨none, _, _, _, _, _⟩) rfl (fun K hK => ?_) AllReadyH.nil
            go_simp
            refine hK.out _ _ (eight v1 v2) (fun hHeld => ?_)
            clear hK K
            try simp only [Act.put, List.setIfInBounds_toArray, List.set_cons_zero, List.set_cons_succ]
            obtain ⟨u0, u1, u2, u3, u6, u7, u8, u9, u10⟩ := m5.four
            refine wpAnyH_ready (rs := [7]) (by kernel_rfl) (by simp) ?_
            refine AllReadyH.cons (o := ⟨none, _, _, _, _, _⟩) rfl (fun K hK => ?_) AllReadyH.nil
            go_simp
            refine hK.out _ _ (eight w1' w2') (fun hHeld => ?_)
            clear hK K
            try simp only [Act.put, List.setIfInBounds_toArray, List.set_cons_zero, List.set_cons_succ]
            refine wpAnyH_done (by kernel_rfl) ?_ _
            refine NoPanic.normal ?_
            go_wp2_with fail
            go_meet
            exact ⟨B4, B5, A1, c1, A2, c2, rfl, rfl, Lib.hid o4, Lib.hid o5, Lib.hid w1', Lib.hid w2', kf⟩
        · go_simp
          have hKa : Kp NoB W_1 (W_1.alloc (.cells #[.int .u32 0, .int .i64 0, .int .u32 0, .slice none 0 0] 30)) := (Kp.refl NoB W_1).alloc _
          refine hK.out _ _ (eight (z1_1.out.and hKa) (z2_1.out.and hKa)) (fun hHeld => ?_)
          clear hK K
          try simp only [Act.put, List.setIfInBounds_toArray, List.set_cons_zero, List.set_cons_succ]
          obtain ⟨W_2, hW⟩ : ∃ x, W_1.alloc (.cells #[.int .u32 0, .int .i64 0, .int .u32 0, .slice none 0 0] 30) = x := ⟨_, rfl⟩
          rw [hW]
          rw [hW] at hKa
          have q5_2 : Hid (Bk W_2 W_1.heap.size 30 #[.int .u32 0, .int .i64 0, .int .u32 0, .slice none 0 0]) := Lib.hid (by rw [← hW]; exact Bk.fresh W_1 _ _)
          have hne_2 : B4 ≠ W_1.heap.size := Nat.ne_of_lt q4_1.out.lt
          obtain ⟨B5, hB5⟩ : ∃ x, W_1.heap.size = x := ⟨_, rfl⟩
          have hgt5 : w.heap.size < B5 := by rw [← hB5]; exact z1_1.out.lt
          have hgu5 : w.heap.size + 1 < B5 := by rw [← hB5]; exact z2_1.out.lt
          rw [hB5] at q5_2 hne_2 ⊢
          clear hW hB5
          have hk_2 := Lib.hid (hk_1.out.and hKa)
          have z1_2 := Lib.hid (z1_1.out.and hKa)
          have z2_2 := Lib.hid (z2_1.out.and hKa)
          have q4_2 := Lib.hid (q4_1.out.and hKa)
          clear hk_1 z1_1 z2_1 hKa q4_1
          refine wpAnyH_ready (rs := [1]) (by kernel_rfl) (by simp) ?_
          refine AllReadyH.cons (o := ⟨some 16, _, _, _, _, _⟩) rfl (fun K hK => ?_) AllReadyH.nil
          go_simp
          (with_reducible refine Calls.mono (HGx.out _ hk_2.out) ?_)
          rintro e W_3 ⟨A1, c1, rfl, ho, hKk⟩
          clear ho
          have hk_3 := Lib.hid (hk_2.out.and hKk)
          have z1_3 := Lib.hid (z1_2.out.and hKk)
          have z2_3 := Lib.hid (z2_2.out.and hKk)
          have q4_3 := Lib.hid (q4_2.out.and hKk)
          have q5_3 := Lib.hid (q5_2.out.and hKk)
          have hne_3 := hne_2
          clear hk_2 z1_2 z2_2 q4_2 q5_2 hne_2
          clear hKk
          refine hK.out _ _ (eight z1_3.out z2_3.out) (fun hHeld => ?_)
          clear hK K
          try simp only [Act.put, List.setIfInBounds_toArray, List.set_cons_zero, List.set_cons_succ]
          refine wpAnyH_ready (rs := [3]) (by kernel_rfl) (by simp) ?_
          refine AllReadyH.cons (o := ⟨some 18, _, _, _, _, _⟩) rfl (fun K hK => ?_) AllReadyH.nil
          go_simp
          (with_reducible refine Calls.mono (HGy.out _ hk_3.out) ?_)
          rintro e W_4 ⟨A2, c2, rfl, ho, hKk⟩
          clear ho
          have hk_4 := Lib.hid (hk_3.out.and hKk)
          have z1_4 := Lib.hid (z1_3.out.and hKk)
          have z2_4 := Lib.hid (z2_3.out.and hKk)
          have q4_4 := Lib.hid (q4_3.out.and hKk)
          have q5_4 := Lib.hid (q5_3.out.and hKk)
          have hne_4 := hne_3
          clear hk_3 z1_3 z2_3 q4_3 q5_3 hne_3
          clear hKk
          refine hK.out _ _ (eight z1_4.out z2_4.out) (fun hHeld => ?_)
          clear hK K
          try simp only [Act.put, List.setIfInBounds_toArray, List.set_cons_zero, List.set_cons_succ]
          have b4 := q4_4.out
          have b5 := q5_4.out
          obtain ⟨t0, t1, t2, t3, t6, t7, t8, t9, t10⟩ := b4.four
          obtain ⟨u0, u1, u2, u3, u6, u7, u8, u9, u10⟩ := b5.four
          have m4 := b4.set4 (.int .u32 s) (.int .i64 h) (.int .u32 i) (.slice A1 n c1)
          have m5 := b5.far4 (Ne.symm hne_4) (.int .u32 s) (.int .i64 h) (.int .u32 i) (.slice A1 n c1)
          have v1 := Bk.far4 z1_4.out (Nat.ne_of_lt hgt4) (.int .u32 s) (.int .i64 h) (.int .u32 i) (.slice A1 n c1)
          have v2 := Bk.far4 z2_4.out (Nat.ne_of_lt hgu4) (.int .u32 s) (.int .i64 h) (.int .u32 i) (.slice A1 n c1)
          have o4 := m4.far4 hne_4 (.int .u32 s') (.int .i64 h') (.int .u32 i') (.slice A2 m c2)
          have o5 := m5.set4 (.int .u32 s') (.int .i64 h') (.int .u32 i') (.slice A2 m c2)
          have w1' := Bk.far4 v1 (Nat.ne_of_lt hgt5) (.int .u32 s') (.int .i64 h') (.int .u32 i') (.slice A2 m c2)
          have w2' := Bk.far4 v2 (Nat.ne_of_lt hgu5) (.int .u32 s') (.int .i64 h') (.int .u32 i') (.slice A2 m c2)
          have kf := Lib.hid ((hk_4.out.set4 (Nat.le_of_lt hgt4) (.int .u32 s) (.int .i64 h) (.int .u32 i) (.slice A1 n c1)).set4 (Nat.le_of_lt hgt5) (.int .u32 s') (.int .i64 h') (.int .u32 i') (.slice A2 m c2))
          refine wpAnyH_ready (rs := [6]) (by kernel_rfl) (by simp) ?_
          refine AllReadyH.cons (o := ⟨none, _, _, _, _, _⟩) rfl (fun K hK => ?_) AllReadyH.nil
          go_simp
          refine hK.out _ _ (eight v1 v2) (fun hHeld => ?_)
          clear hK K
          try simp only [Act.put, List.setIfInBounds_toArray, List.set_cons_zero, List.set_cons_succ]
          obtain ⟨u0, u1, u2, u3, u6, u7, u8, u9, u10⟩ := m5.four
          refine wpAnyH_ready (rs := [7]) (by kernel_rfl) (by simp) ?_
          refine AllReadyH.cons (o := ⟨none, _, _, _, _, _⟩) rfl (fun K hK => ?_) AllReadyH.nil
          go_simp
          refine hK.out _ _ (eight w1' w2') (fun hHeld => ?_)
          clear hK K
          try simp only [Act.put, List.setIfInBounds_toArray, List.set_cons_zero, List.set_cons_succ]
          refine wpAnyH_done (by kernel_rfl) ?_ _
          refine NoPanic.normal ?_
          go_wp2_with fail
          go_meet
          exact ⟨B4, B5, A1, c1, A2, c2, rfl, rfl, Lib.hid o4, Lib.hid o5, Lib.hid w1', Lib.hid w2', kf⟩
      · go_simp
        have hKa : Kp NoB W_0 (W_0.alloc (.cells #[.int .u32 0, .int .i64 0, .int .u32 0, .slice none 0 0] 30)) := (Kp.refl NoB W_0).alloc _
        refine hK.out _ _ (eight (z1_0.out.and hKa) (z2_0.out.and hKa)) (fun hHeld => ?_)
        clear hK K
        try simp only [Act.put, List.setIfInBounds_toArray, List.set_cons_zero, List.set_cons_succ]
        obtain ⟨W_1, hW⟩ : ∃ x, W_0.alloc (.cells #[.int .u32 0, .int .i64 0, .int .u32 0, .slice none 0 0] 30) = x := ⟨_, rfl⟩
        rw [hW]
        rw [hW] at hKa
        have q5_1 : Hid (Bk W_1 W_0.heap.size 30 #[.int .u32 0, .int .i64 0, .int .u32 0, .slice none 0 0]) := Lib.hid (by rw [← hW]; exact Bk.fresh W_0 _ _)
        obtain ⟨B5, hB5⟩ : ∃ x, W_0.heap.size = x := ⟨_, rfl⟩
        have hgt5 : w.heap.size < B5 := by rw [← hB5]; exact z1_0.out.lt
        have hgu5 : w.heap.size + 1 < B5 := by rw [← hB5]; exact z2_0.out.lt
        rw [hB5] at q5_1 ⊢
        clear hW hB5
        have hk_1 := Lib.hid (hk_0.out.and hKa)
        have z1_1 := Lib.hid (z1_0.out.and hKa)
        have z2_1 := Lib.hid (z2_0.out.and hKa)
        clear hk_0 z1_0 z2_0 hKa 
        refine wpAnyH_ready (rs := [1, 4]) (by kernel_rfl) (by simp) ?_
        refine AllReadyH.cons (o := ⟨some 16, _, _, _, _, _⟩) rfl (fun K hK => ?_) (AllReadyH.cons (o := ⟨some 5, _, _, _, _, _⟩) rfl (fun K hK => ?_) AllReadyH.nil)
        · go_simp
          (with_reducible refine Calls.mono (HGx.out _ hk_1.out) ?_)
          rintro e W_2 ⟨A1, c1, rfl, ho, hKk⟩
          clear ho
          have hk_2 := Lib.hid (hk_1.out.and hKk)
          have z1_2 := Lib.hid (z1_1.out.and hKk)
          have z2_2 := Lib.hid (z2_1.out.and hKk)
          have q5_2 := Lib.hid (q5_1.out.and hKk)
          clear hk_1 z1_1 z2_1 q5_1
          clear hKk
          refine hK.out _ _ (eight z1_2.out z2_2.out) (fun hHeld => ?_)
          clear hK K
          try simp only [Act.put, List.setIfInBounds_toArray, List.set_cons_zero, List.set_cons_succ]
          refine wpAnyH_ready (rs := [3, 4]) (by kernel_rfl) (by simp) ?_
          refine AllReadyH.cons (o := ⟨some 18, _, _, _, _, _⟩) rfl (fun K hK => ?_) (AllReadyH.cons (o := ⟨some 5, _, _, _, _, _⟩) rfl (fun K hK => ?_) AllReadyH.nil)
          · go_simp
            (with_reducible refine Calls.mono (HGy.out _ hk_2.out) ?_)
            rintro e W_3 ⟨A2, c2, rfl, ho, hKk⟩
            clear ho
            have hk_3 := Lib.hid (hk_2.out.and hKk)
            have z1_3 := Lib.hid (z1_2.out.and hKk)
            have z2_3 := Lib.hid (z2_2.out.and hKk)
            have q5_3 := Lib.hid (q5_2.out.and hKk)
            clear hk_2 z1_2 z2_2 q5_2
            clear hKk
            refine hK.out _ _ (eight z1_3.out z2_3.out) (fun hHeld => ?_)
            clear hK K
            try simp only [Act.put, List.setIfInBounds_toArray, List.set_cons_zero, List.set_cons_succ]
            refine wpAnyH_ready (rs := [4]) (by kernel_rfl) (by simp) ?_
            refine AllReadyH.cons (o := ⟨some 5, _, _, _, _, _⟩) rfl (fun K hK => ?_) AllReadyH.nil
            go_simp
            have hKa : Kp NoB W_3 (W_3.alloc (.cells #[.int .u32 0, .int .i64 0, .int .u32 0, .slice none 0 0] 30)) := (Kp.refl NoB W_3).alloc _
            refine hK.out _ _ (eight (z1_3.out.and hKa) (z2_3.out.and hKa)) (fun hHeld => ?_)
            clear hK K
            try simp only [Act.put, List.setIfInBounds_toArray, List.set_cons_zero, List.set_cons_succ]
            obtain ⟨W_4, hW⟩ : ∃ x, W_3.alloc (.cells #[.int .u32 0, .int .i64 0, .int .u32 0, .slice none 0 0] 30) = x := ⟨_, rfl⟩
            rw [hW]
            rw [hW] at hKa
            have q4_4 : Hid (Bk W_4 W_3.heap.size 30 #[.int .u32 0, .int .i64 0, .int .u32 0, .slice none 0 0]) := Lib.hid (by rw [← hW]; exact Bk.fresh W_3 _ _)
            have hne_4 : B5 ≠ W_3.heap.size := Nat.ne_of_lt q5_3.out.lt
            obtain ⟨B4, hB4⟩ : ∃ x, W_3.heap.size = x := ⟨_, rfl⟩
            have hgt4 : w.heap.size < B4 := by rw [← hB4]; exact z1_3.out.lt
            have hgu4 : w.heap.size + 1 < B4 := by rw [← hB4]; exact z2_3.out.lt
            rw [hB4] at q4_4 hne_4 ⊢
            clear hW hB4
            have hk_4 := Lib.hid (hk_3.out.and hKa)
            have z1_4 := Lib.hid (z1_3.out.and hKa)
            have z2_4 := Lib.hid (z2_3.out.and hKa)
            have q5_4 := Lib.hid (q5_3.out.and hKa)
            clear hk_3 z1_3 z2_3 hKa q5_3
            replace hne_4 := hne_4.symm
            have b4 := q4_4.out
            have b5 := q5_4.out
            obtain ⟨t0, t1, t2, t3, t6, t7, t8, t9, t10⟩ := b4.four
            obtain ⟨u0, u1, u2, u3, u6, u7, u8, u9, u10⟩ := b5.four
            have m4 := b4.set4 (.int .u32 s) (.int .i64 h) (.int .u32 i) (.slice A1 n c1)
            have m5 := b5.far4 (Ne.symm hne_4) (.int .u32 s) (.int .i64 h) (.int .u32 i) (.slice A1 n c1)
            have v1 := Bk.far4 z1_4.out (Nat.ne_of_lt hgt4) (.int .u32 s) (.int .i64 h) (.int .u32 i) (.slice A1 n c1)
            have v2 := Bk.far4 z2_4.out (Nat.ne_of_lt hgu4) (.int .u32 s) (.int .i64 h) (.int .u32 i) (.slice A1 n c1)
            have o4 := m4.far4 hne_4 (.int .u32 s') (.int .i64 h') (.int .u32 i') (.slice A2 m c2)
            have o5 := m5.set4 (.int .u32 s') (.int .i64 h') (.int .u32 i') (.slice A2 m c2)
            have w1' := Bk.far4 v1 (Nat.ne_of_lt hgt5) (.int .u32 s') (.int .i64 h') (.int .u32 i') (.slice A2 m c2)
            have w2' := Bk.far4 v2 (Nat.ne_of_lt hgu5) (.int .u32 s') (.int .i64 h') (.int .u32 i') (.slice A2 m c2)
            have kf := Lib.hid ((hk_4.out.set4 (Nat.le_of_lt hgt4) (.int .u32 s) (.int .i64 h) (.int .u32 i) (.slice A1 n c1)).set4 (Nat.le_of_lt hgt5) (.int .u32 s') (.int .i64 h') (.int .u32 i') (.slice A2 m c2))
            refine wpAnyH_ready (rs := [6]) (by kernel_rfl) (by simp) ?_
            refine AllReadyH.cons (o := ⟨none, _, _, _, _, _⟩) rfl (fun K hK => ?_) AllReadyH.nil
            go_simp
            refine hK.out _ _ (eight v1 v2) (fun hHeld => ?_)
            clear hK K
            try simp only [Act.put, List.setIfInBounds_toArray, List.set_cons_zero, List.set_cons_succ]
            obtain ⟨u0, u1, u2, u3, u6, u7, u8, u9, u10⟩ := m5.four
            refine wpAnyH_ready (rs := [7]) (by kernel_rfl) (by simp) ?_
            refine AllReadyH.cons (o := ⟨none, _, _, _, _, _⟩) rfl (fun K hK => ?_) AllReadyH.nil
            go_simp
            refine hK.out _ _ (eight w1' w2') (fun hHeld => ?_)
            clear hK K
            try simp only [Act.put, List.setIfInBounds_toArray, List.set_cons_zero, List.set_cons_succ]
            refine wpAnyH_done (by kernel_rfl) ?_ _
            refine NoPanic.normal ?_
            go_wp2_with fail
            go_meet
            exact ⟨B4, B5, A1, c1, A2, c2, rfl, rfl, Lib.hid o4, Lib.hid o5, Lib.hid w1', Lib.hid w2', kf⟩
          · go_simp
            have hKa : Kp NoB W_2 (W_2.alloc (.cells #[.int .u32 0, .int .i64 0, .int .u32 0, .slice none 0 0] 30)) := (Kp.refl NoB W_2).alloc _
            refine hK.out _ _ (eight (z1_2.out.and hKa) (z2_2.out.and hKa)) (fun hHeld => ?_)
            clear hK K
            try simp only [Act.put, List.setIfInBounds_toArray, List.set_cons_zero, List.set_cons_succ]
            obtain ⟨W_3, hW⟩ : ∃ x, W_2.alloc (.cells #[.int .u32 0, .int .i64 0, .int .u32 0, .slice none 0 0] 30) = x := ⟨_, rfl⟩
            rw [hW]
            rw [hW] at hKa
            have q4_3 : Hid (Bk W_3 W_2.heap.size 30 #[.int .u32 0, .int .i64 0, .int .u32 0, .slice none 0 0]) := Lib.hid (by rw [← hW]; exact Bk.fresh W_2 _ _)
            have hne_3 : B5 ≠ W_2.heap.size := Nat.ne_of_lt q5_2.out.lt
            obtain ⟨B4, hB4⟩ : ∃ x, W_2.heap.size = x := ⟨_, rfl⟩
            have hgt4 : w.heap.size < B4 := by rw [← hB4]; exact z1_2.out.lt
            have hgu4 : w.heap.size + 1 < B4 := by rw [← hB4]; exact z2_2.out.lt
            rw [hB4] at q4_3 hne_3 ⊢
            clear hW hB4
            have hk_3 := Lib.hid (hk_2.out.and hKa)
            have z1_3 := Lib.hid (z1_2.out.and hKa)
            have z2_3 := Lib.hid (z2_2.out.and hKa)
            have q5_3 := Lib.hid (q5_2.out.and hKa)
            clear hk_2 z1_2 z2_2 hKa q5_2
            replace hne_3 := hne_3.symm
            refine wpAnyH_ready (rs := [3]) (by kernel_rfl) (by simp) ?_
            refine AllReadyH.cons (o := ⟨some 18, _, _, _, _, _⟩) rfl (fun K hK => ?_) AllReadyH.nil
            go_simp
            (with_reducible refine Calls.mono (HGy.out _ hk_3.out) ?_)
            rintro e W_4 ⟨A2, c2, rfl, ho, hKk⟩
            clear ho
            have hk_4 := Lib.hid (hk_3.out.and hKk)
            have z1_4 := Lib.hid (z1_3.out.and hKk)
            have z2_4 := Lib.hid (z2_3.out.and hKk)
            have q5_4 := Lib.hid (q5_3.out.and hKk)
            have q4_4 := Lib.hid (q4_3.out.and hKk)
            have hne_4 := hne_3
            clear hk_3 z1_3 z2_3 q5_3 q4_3 hne_3
            clear hKk
            refine hK.out _ _ (eight z1_4.out z2_4.out) (fun hHeld => ?_)
            clear hK K
            try simp only [Act.put, List.setIfInBounds_toArray, List.set_cons_zero, List.set_cons_succ]
            have b4 := q4_4.out
            have b5 := q5_4.out
            obtain ⟨t0, t1, t2, t3, t6, t7, t8, t9, t10⟩ := b4.four
            obtain ⟨u0, u1, u2, u3, u6, u7, u8, u9, u10⟩ := b5.four
            have m4 := b4.set4 (.int .u32 s) (.int .i64 h) (.int .u32 i) (.slice A1 n c1)
            have m5 := b5.far4 (Ne.symm hne_4) (.int .u32 s) (.int .i64 h) (.int .u32 i) (.slice A1 n c1)
            have v1 := Bk.far4 z1_4.out (Nat.ne_of_lt hgt4) (.int .u32 s) (.int .i64 h) (.int .u32 i) (.slice A1 n c1)
            have v2 := Bk.far4 z2_4.out (Nat.ne_of_lt hgu4) (.int .u32 s) (.int .i64 h) (.int .u32 i) (.slice A1 n c1)
            have o4 := m4.far4 hne_4 (.int .u32 s') (.int .i64 h') (.int .u32 i') (.slice A2 m c2)
            have o5 := m5.set4 (.int .u32 s') (.int .i64 h') (.int .u32 i') (.slice A2 m c2)
            have w1' := Bk.far4 v1 (Nat.ne_of_lt hgt5) (.int .u32 s') (.int .i64 h') (.int .u32 i') (.slice A2 m c2)
            have w2' := Bk.far4 v2 (Nat.ne_of_lt hgu5) (.int .u32 s') (.int .i64 h') (.int .u32 i') (.slice A2 m c2)
            have kf := Lib.hid ((hk_4.out.set4 (Nat.le_of_lt hgt4) (.int .u32 s) (.int .i64 h) (.int .u32 i) (.slice A1 n c1)).set4 (Nat.le_of_lt hgt5) (.int .u32 s') (.int .i64 h') (.int .u32 i') (.slice A2 m c2))
            refine wpAnyH_ready (rs := [6]) (by kernel_rfl) (by simp) ?_
            refine AllReadyH.cons (o := ⟨none, _, _, _, _, _⟩) rfl (fun K hK => ?_) AllReadyH.nil
            go_simp
            refine hK.out _ _ (eight v1 v2) (fun hHeld => ?_)
            clear hK K
            try simp only [Act.put, List.setIfInBounds_toArray, List.set_cons_zero, List.set_cons_succ]
            obtain ⟨u0, u1, u2, u3, u6, u7, u8, u9, u10⟩ := m5.four
            refine wpAnyH_ready (rs := [7]) (by kernel_rfl) (by simp) ?_
            refine AllReadyH.cons (o := ⟨none, _, _, _, _, _⟩) rfl (fun K hK => ?_) AllReadyH.nil
            go_simp
            refine hK.out _ _ (eight w1' w2') (fun hHeld => ?_)
            clear hK K
            try simp only [Act.put, List.setIfInBounds_toArray, List.set_cons_zero, List.set_cons_succ]
            refine wpAnyH_done (by kernel_rfl) ?_ _
            refine NoPanic.normal ?_
            go_wp2_with fail
            go_meet
            exact ⟨B4, B5, A1, c1, A2, c2, rfl, rfl, Lib.hid o4, Lib.hid o5, Lib.hid w1', Lib.hid w2', kf⟩
        · go_simp
          have hKa : Kp NoB W_1 (W_1.alloc (.cells #[.int .u32 0, .int .i64 0, .int .u32 0, .slice none 0 0] 30)) := (Kp.refl NoB W_1).alloc _
          refine hK.out _ _ (eight (z1_1.out.and hKa) (z2_1.out.and hKa)) (fun hHeld => ?_)
          clear hK K
          try simp only [Act.put, List.setIfInBounds_toArray, List.set_cons_zero, List.set_cons_succ]
          obtain ⟨W_2, hW⟩ : ∃ x, W_1.alloc (.cells #[.int .u32 0, .int .i64 0, .int .u32 0, .slice none 0 0] 30) = x := ⟨_, rfl⟩
          rw [hW]
          rw [hW] at hKa
          have q4_2 : Hid (Bk W_2 W_1.heap.size 30 #[.int .u32 0, .int .i64 0, .int .u32 0, .slice none 0 0]) := Lib.hid (by rw [← hW]; exact Bk.fresh W_1 _ _)
          have hne_2 : B5 ≠ W_1.heap.size := Nat.ne_of_lt q5_1.out.lt
          obtain ⟨B4, hB4⟩ : ∃ x, W_1.heap.size = x := ⟨_, rfl⟩
          have hgt4 : w.heap.size < B4 := by rw [← hB4]; exact z1_1.out.lt
          have hgu4 : w.heap.size + 1 < B4 := by rw [← hB4]; exact z2_1.out.lt
          rw [hB4] at q4_2 hne_2 ⊢
          clear hW hB4
          have hk_2 := Lib.hid (hk_1.out.and hKa)
          have z1_2 := Lib.hid (z1_1.out.and hKa)
          have z2_2 := Lib.hid (z2_1.out.and hKa)
          have q5_2 := Lib.hid (q5_1.out.and hKa)
          clear hk_1 z1_1 z2_1 hKa q5_1
          replace hne_2 := hne_2.symm
          refine wpAnyH_ready (rs := [1]) (by kernel_rfl) (by simp) ?_
          refine AllReadyH.cons (o := ⟨some 16, _, _, _, _, _⟩) rfl (fun K hK => ?_) AllReadyH.nil
          go_simp
          (with_reducible refine Calls.mono (HGx.out _ hk_2.out) ?_)
          rintro e W_3 ⟨A1, c1, rfl, ho, hKk⟩
          clear ho
          have hk_3 := Lib.hid (hk_2.out.and hKk)
          have z1_3 := Lib.hid (z1_2.out.and hKk)
          have z2_3 := Lib.hid (z2_2.out.and hKk)
          have q5_3 := Lib.hid (q5_2.out.and hKk)
          have q4_3 := Lib.hid (q4_2.out.and hKk)
          have hne_3 := hne_2
          clear hk_2 z1_2 z2_2 q5_2 q4_2 hne_2
          clear hKk
          refine hK.out _ _ (eight z1_3.out z2_3.out) (fun hHeld => ?_)
          clear hK K
          try simp only [Act.put, List.setIfInBounds_toArray, List.set_cons_zero, List.set_cons_succ]
          refine wpAnyH_ready (rs := [3]) (by kernel_rfl) (by simp) ?_
          refine AllReadyH.cons (o := ⟨some 18, _, _, _, _, _⟩) rfl (fun K hK => ?_) AllReadyH.nil
          go_simp
          (with_reducible refine Calls.mono (HGy.out _ hk_3.out) ?_)
          rintro e W_4 ⟨A2, c2, rfl, ho, hKk⟩
          clear ho
          have hk_4 := Lib.hid (hk_3.out.and hKk)
          have z1_4 := Lib.hid (z1_3.out.and hKk)
          have z2_4 := Lib.hid (z2_3.out.and hKk)
          have q5_4 := Lib.hid (q5_3.out.and hKk)
          have q4_4 := Lib.hid (q4_3.out.and hKk)
          have hne_4 := hne_3
          clear hk_3 z1_3 z2_3 q5_3 q4_3 hne_3
          clear hKk
          refine hK.out _ _ (eight z1_4.out z2_4.out) (fun hHeld => ?_)
          clear hK K
          try simp only [Act.put, List.setIfInBounds_toArray, List.set_cons_zero, List.set_cons_succ]
          have b4 := q4_4.out
          have b5 := q5_4.out
          obtain ⟨t0, t1, t2, t3, t6, t7, t8, t9, t10⟩ := b4.four
          obtain ⟨u0, u1, u2, u3, u6, u7, u8, u9, u10⟩ := b5.four
          have m4 := b4.set4 (.int .u32 s) (.int .i64 h) (.int .u32 i) (.slice A1 n c1)
          have m5 := b5.far4 (Ne.symm hne_4) (.int .u32 s) (.int .i64 h) (.int .u32 i) (.slice A1 n c1)
          have v1 := Bk.far4 z1_4.out (Nat.ne_of_lt hgt4) (.int .u32 s) (.int .i64 h) (.int .u32 i) (.slice A1 n c1)
          have v2 := Bk.far4 z2_4.out (Nat.ne_of_lt hgu4) (.int .u32 s) (.int .i64 h) (.int .u32 i) (.slice A1 n c1)
          have o4 := m4.far4 hne_4 (.int .u32 s') (.int .i64 h') (.int .u32 i') (.slice A2 m c2)
          have o5 := m5.set4 (.int .u32 s') (.int .i64 h') (.int .u32 i') (.slice A2 m c2)
          have w1' := Bk.far4 v1 (Nat.ne_of_lt hgt5) (.int .u32 s') (.int .i64 h') (.int .u32 i') (.slice A2 m c2)
          have w2' := Bk.far4 v2 (Nat.ne_of_lt hgu5) (.int .u32 s') (.int .i64 h') (.int .u32 i') (.slice A2 m c2)
          have kf := Lib.hid ((hk_4.out.set4 (Nat.le_of_lt hgt4) (.int .u32 s) (.int .i64 h) (.int .u32 i) (.slice A1 n c1)).set4 (Nat.le_of_lt hgt5) (.int .u32 s') (.int .i64 h') (.int .u32 i') (.slice A2 m c2))
          refine wpAnyH_ready (rs := [6]) (by kernel_rfl) (by simp) ?_
          refine AllReadyH.cons (o := ⟨none, _, _, _, _, _⟩) rfl (fun K hK => ?_) AllReadyH.nil
          go_simp
          refine hK.out _ _ (eight v1 v2) (fun hHeld => ?_)
          clear hK K
          try simp only [Act.put, List.setIfInBounds_toArray, List.set_cons_zero, List.set_cons_succ]
          obtain ⟨u0, u1, u2, u3, u6, u7, u8, u9, u10⟩ := m5.four
          refine wpAnyH_ready (rs := [7]) (by kernel_rfl) (by simp) ?_
          refine AllReadyH.cons (o := ⟨none, _, _, _, _, _⟩) rfl (fun K hK => ?_) AllReadyH.nil
          go_simp
          refine hK.out _ _ (eight w1' w2') (fun hHeld => ?_)
          clear hK K
          try simp only [Act.put, List.setIfInBounds_toArray, List.set_cons_zero, List.set_cons_succ]
          refine wpAnyH_done (by kernel_rfl) ?_ _
          refine NoPanic.normal ?_
          go_wp2_with fail
          go_meet
          exact ⟨B4, B5, A1, c1, A2, c2, rfl, rfl, Lib.hid o4, Lib.hid o5, Lib.hid w1', Lib.hid w2', kf⟩
    case rest =>
    obtain ⟨B4, B5, A1, c1, A2, c2, rfl, rfl, y4_0, y5_0, y1_0, y2_0, kk_0⟩ := hcut
    clear z1 z2 k1 HGx HGy
    have hw3 : IntKind.i64.wrap 3 = 3 := IntWalk.i64_in _ (by omega)
    rcases HWB.out with ⟨rfl, rfl⟩ | ⟨rfl, rfl⟩ | ⟨rfl, rfl⟩
    · go_upto_region 4 with fail
      obtain ⟨p1, p2, p3, p4, p5, p6, p7, p8⟩ := eight y4_0.out y5_0.out
      go_region_held3 (fun w' => w'.cell? ⟨B4, 0, none⟩ = some (.int .u32 s) ∧ w'.cell? ⟨B4, 1, none⟩ = some (.int .i64 h) ∧ w'.cell? ⟨B4, 2, none⟩ = some (.int .u32 i) ∧ w'.cell? ⟨B4, 3, none⟩ = some (.slice A1 n c1) ∧ w'.cell? ⟨B5, 0, none⟩ = some (.int .u32 s') ∧ w'.cell? ⟨B5, 1, none⟩ = some (.int .i64 h') ∧ w'.cell? ⟨B5, 2, none⟩ = some (.int .u32 i') ∧ w'.cell? ⟨B5, 3, none⟩ = some (.slice A2 m c2)) (go_keep)
        (first
          | (go_at_call 7; (with_reducible refine Calls.mono (HW2.out A1 A2 c1 c2 _) ?_); rintro e w6 ⟨rfl, hK6⟩; have y1_2 := Lib.hid (y1_1.out.and hK6); have y2_2 := Lib.hid (y2_1.out.and hK6); have y4_2 := Lib.hid (y4_1.out.and hK6); have y5_2 := Lib.hid (y5_1.out.and hK6); have kk_2 := Lib.hid (kk_1.out.and hK6); clear hK6 p1 p2 p3 p4 p5 p6 p7 p8; obtain ⟨p1, p2, p3, p4, p5, p6, p7, p8⟩ := eight y4_2.out y5_2.out)
          | (go_at_call 7; (with_reducible refine Calls.mono (HW1.out A1 A2 c1 c2 _) ?_); rintro e w5 ⟨rfl, hK5⟩; have y1_1 := Lib.hid ((y1_0.out.drewN 1).and hK5); have y2_1 := Lib.hid ((y2_0.out.drewN 1).and hK5); have y4_1 := Lib.hid ((y4_0.out.drewN 1).and hK5); have y5_1 := Lib.hid ((y5_0.out.drewN 1).and hK5); have kk_1 := Lib.hid (kk_0.out.drew.and hK5); clear hK5 p1 p2 p3 p4 p5 p6 p7 p8; obtain ⟨p1, p2, p3, p4, p5, p6, p7, p8⟩ := eight y4_1.out y5_1.out))
      go_upto_region 5 with fail
      clear p1 p2 p3 p4 p5 p6 p7 p8
      refine wp_region_noPanic ?_
      refine wp_region_held_drew (S := (fun w' => w'.cell? ⟨w.heap.size, 0, none⟩ = some (.int .u32 s) ∧ w'.cell? ⟨w.heap.size, 1, none⟩ = some (.int .i64 h) ∧ w'.cell? ⟨w.heap.size, 2, none⟩ = some (.int .u32 i) ∧ w'.cell? ⟨w.heap.size, 3, none⟩ = some (.slice A n c) ∧ w'.cell? ⟨w.heap.size + 1, 0, none⟩ = some (.int .u32 s') ∧ w'.cell? ⟨w.heap.size + 1, 1, none⟩ = some (.int .i64 h') ∧ w'.cell? ⟨w.heap.size + 1, 2, none⟩ = some (.int .u32 i') ∧ w'.cell? ⟨w.heap.size + 1, 3, none⟩ = some (.slice B m d) ∧ w'.cell? ⟨B4, 0, none⟩ = some (.int .u32 s) ∧ w'.cell? ⟨B4, 1, none⟩ = some (.int .i64 h) ∧ w'.cell? ⟨B4, 2, none⟩ = some (.int .u32 i) ∧ w'.cell? ⟨B4, 3, none⟩ = some (.slice A1 n c1) ∧ w'.cell? ⟨B5, 0, none⟩ = some (.int .u32 s') ∧ w'.cell? ⟨B5, 1, none⟩ = some (.int .i64 h') ∧ w'.cell? ⟨B5, 2, none⟩ = some (.int .u32 i') ∧ w'.cell? ⟨B5, 3, none⟩ = some (.slice A2 m c2))) (by kernel_rfl) ?_ (fun hHeld => ?_)
      · exact sixteen y1_2.out y2_2.out y4_2.out y5_2.out
      refine wpAnyH_ready (rs := [0]) (by kernel_rfl) (by simp) ?_
      refine AllReadyH.cons (o := ⟨some 25, _, _, _, _, _⟩) rfl (fun K hK => ?_) AllReadyH.nil
      go_simp
      (with_reducible refine Calls.mono (HA.out _) ?_)
      rintro e w7 ⟨rfl, hK7⟩
      have y1_3 := Lib.hid ((y1_2.out.drewN 1).and hK7)
      have y2_3 := Lib.hid ((y2_2.out.drewN 1).and hK7)
      have y4_3 := Lib.hid ((y4_2.out.drewN 1).and hK7)
      have y5_3 := Lib.hid ((y5_2.out.drewN 1).and hK7)
      have kk_3 := Lib.hid (kk_2.out.drew.and hK7)
      clear hK7
      refine hK.out _ _ ?_ (fun hHeld => ?_)
      · (try dsimp only)
        first | (with_reducible exact sixteen y1_5.out y2_5.out y4_5.out y5_5.out) | (with_reducible exact sixteen y1_4.out y2_4.out y4_4.out y5_4.out) | (with_reducible exact sixteen y1_3.out y2_3.out y4_3.out y5_3.out) | go_keep
      clear hK K
      try simp only [Act.put, List.setIfInBounds_toArray, List.set_cons_zero, List.set_cons_succ]
      refine wpAnyH_take (i := 1) (oi := ⟨some 26, _, _, _, _, _⟩) (v := ?_) rfl (by kernel_rfl) (by kernel_rfl) (by kernel_rfl) (fun _ _ _ h => h) (Or.inl ⟨by rfl, fun w hSw => ?_⟩) (by assumption) ?_
      rotate_left
      · (try dsimp only at hSw)
        go_simp
        try with_reducible rfl
      try simp only [Act.put, List.setIfInBounds_toArray, List.set_cons_zero, List.set_cons_succ]
      refine wpAnyH_take (i := 2) (oi := ⟨some 27, _, _, _, _, _⟩) (v := ?_) rfl (by kernel_rfl) (by kernel_rfl) (by kernel_rfl) (fun _ _ _ h => h) (Or.inl ⟨by rfl, fun w hSw => ?_⟩) (by assumption) ?_
      rotate_left
      · (try dsimp only at hSw)
        go_simp
        try with_reducible rfl
      try simp only [Act.put, List.setIfInBounds_toArray, List.set_cons_zero, List.set_cons_succ]
      refine wpAnyH_take (i := 3) (oi := ⟨some 28, _, _, _, _, _⟩) (v := ?_) rfl (by kernel_rfl) (by kernel_rfl) (by kernel_rfl) (fun _ _ _ h => h) (Or.inl ⟨by rfl, fun w hSw => ?_⟩) (by assumption) ?_
      rotate_left
      · (try dsimp only at hSw)
        go_simp
        try with_reducible rfl
      try simp only [Act.put, List.setIfInBounds_toArray, List.set_cons_zero, List.set_cons_succ]
      refine wpAnyH_take (i := 4) (oi := ⟨some 29, _, _, _, _, _⟩) (v := ?_) rfl (by kernel_rfl) (by kernel_rfl) (by kernel_rfl) (fun _ _ _ h => h) (Or.inl ⟨by rfl, fun w hSw => ?_⟩) (by assumption) ?_
      rotate_left
      · (try dsimp only at hSw)
        go_simp
        try with_reducible rfl
      try simp only [Act.put, List.setIfInBounds_toArray, List.set_cons_zero, List.set_cons_succ]
      refine wpAnyH_ready (rs := [5]) (by kernel_rfl) (by simp) ?_
      refine AllReadyH.cons (o := ⟨some 30, _, _, _, _, _⟩) rfl (fun K hK => ?_) AllReadyH.nil
      go_simp
      (with_reducible refine Calls.mono (HRW.out _) ?_)
      rintro e w8 ⟨rfl, hK8⟩
      have y1_4 := Lib.hid (y1_3.out.and hK8)
      have y2_4 := Lib.hid (y2_3.out.and hK8)
      have y4_4 := Lib.hid (y4_3.out.and hK8)
      have y5_4 := Lib.hid (y5_3.out.and hK8)
      have kk_4 := Lib.hid (kk_3.out.and hK8)
      clear hK8
      refine hK.out _ _ ?_ (fun hHeld => ?_)
      · (try dsimp only)
        first | (with_reducible exact sixteen y1_5.out y2_5.out y4_5.out y5_5.out) | (with_reducible exact sixteen y1_4.out y2_4.out y4_4.out y5_4.out) | (with_reducible exact sixteen y1_3.out y2_3.out y4_3.out y5_3.out) | go_keep
      clear hK K
      try simp only [Act.put, List.setIfInBounds_toArray, List.set_cons_zero, List.set_cons_succ]
      refine wpAnyH_take (i := 6) (oi := ⟨some 31, _, _, _, _, _⟩) (v := ?_) rfl (by kernel_rfl) (by kernel_rfl) (by kernel_rfl) (fun _ _ _ h => h) (Or.inl ⟨by rfl, fun w hSw => ?_⟩) (by assumption) ?_
      rotate_left
      · (try dsimp only at hSw)
        go_simp
        try with_reducible rfl
      try simp only [Act.put, List.setIfInBounds_toArray, List.set_cons_zero, List.set_cons_succ]
      refine wpAnyH_take (i := 7) (oi := ⟨some 32, _, _, _, _, _⟩) (v := ?_) rfl (by kernel_rfl) (by kernel_rfl) (by kernel_rfl) (fun _ _ _ h => h) (Or.inl ⟨by rfl, fun w hSw => ?_⟩) (by assumption) ?_
      rotate_left
      · (try dsimp only at hSw)
        go_simp
        try with_reducible rfl
      try simp only [Act.put, List.setIfInBounds_toArray, List.set_cons_zero, List.set_cons_succ]
      refine wpAnyH_take (i := 8) (oi := ⟨some 33, _, _, _, _, _⟩) (v := ?_) rfl (by kernel_rfl) (by kernel_rfl) (by kernel_rfl) (fun _ _ _ h => h) (Or.inl ⟨by rfl, fun w hSw => ?_⟩) (by assumption) ?_
      rotate_left
      · (try dsimp only at hSw)
        go_simp
        try with_reducible rfl
      try simp only [Act.put, List.setIfInBounds_toArray, List.set_cons_zero, List.set_cons_succ]
      refine wpAnyH_take (i := 9) (oi := ⟨some 34, _, _, _, _, _⟩) (v := ?_) rfl (by kernel_rfl) (by kernel_rfl) (by kernel_rfl) (fun _ _ _ h => h) (Or.inl ⟨by rfl, fun w hSw => ?_⟩) (by assumption) ?_
      rotate_left
      · (try dsimp only at hSw)
        go_simp
        try with_reducible rfl
      try simp only [Act.put, List.setIfInBounds_toArray, List.set_cons_zero, List.set_cons_succ]
      refine wpAnyH_take (i := 10) (oi := ⟨some 35, _, _, _, _, _⟩) (v := ?_) rfl (by kernel_rfl) (by kernel_rfl) (by kernel_rfl) (fun _ _ _ h => h) (Or.inl ⟨by rfl, fun w hSw => ?_⟩) (by assumption) ?_
      rotate_left
      · (try dsimp only at hSw)
        go_simp
        try with_reducible rfl
      try simp only [Act.put, List.setIfInBounds_toArray, List.set_cons_zero, List.set_cons_succ]
      refine wpAnyH_take (i := 11) (oi := ⟨some 36, _, _, _, _, _⟩) (v := ?_) rfl (by kernel_rfl) (by kernel_rfl) (by kernel_rfl) (fun _ _ _ h => h) (Or.inl ⟨by rfl, fun w hSw => ?_⟩) (by assumption) ?_
      rotate_left
      · (try dsimp only at hSw)
        go_simp
        try with_reducible rfl
      try simp only [Act.put, List.setIfInBounds_toArray, List.set_cons_zero, List.set_cons_succ]
      refine wpAnyH_take (i := 12) (oi := ⟨some 37, _, _, _, _, _⟩) (v := ?_) rfl (by kernel_rfl) (by kernel_rfl) (by kernel_rfl) (fun _ _ _ h => h) (Or.inl ⟨by rfl, fun w hSw => ?_⟩) (by assumption) ?_
      rotate_left
      · (try dsimp only at hSw)
        go_simp
        try with_reducible rfl
      try simp only [Act.put, List.setIfInBounds_toArray, List.set_cons_zero, List.set_cons_succ]
      refine wpAnyH_take (i := 13) (oi := ⟨some 38, _, _, _, _, _⟩) (v := ?_) rfl (by kernel_rfl) (by kernel_rfl) (by kernel_rfl) (fun _ _ _ h => h) (Or.inl ⟨by rfl, fun w hSw => ?_⟩) (by assumption) ?_
      rotate_left
      · (try dsimp only at hSw)
        go_simp
        try with_reducible rfl
      try simp only [Act.put, List.setIfInBounds_toArray, List.set_cons_zero, List.set_cons_succ]
      refine wpAnyH_take (i := 14) (oi := ⟨some 39, _, _, _, _, _⟩) (v := ?_) rfl (by kernel_rfl) (by kernel_rfl) (by kernel_rfl) (fun _ _ _ h => h) (Or.inl ⟨by rfl, fun w hSw => ?_⟩) (by assumption) ?_
      rotate_left
      · (try dsimp only at hSw)
        go_simp
        try with_reducible rfl
      try simp only [Act.put, List.setIfInBounds_toArray, List.set_cons_zero, List.set_cons_succ]
      refine wpAnyH_take (i := 15) (oi := ⟨some 40, _, _, _, _, _⟩) (v := ?_) rfl (by kernel_rfl) (by kernel_rfl) (by kernel_rfl) (fun _ _ _ h => h) (Or.inl ⟨by rfl, fun w hSw => ?_⟩) (by assumption) ?_
      rotate_left
      · (try dsimp only at hSw)
        go_simp
        try with_reducible rfl
      try simp only [Act.put, List.setIfInBounds_toArray, List.set_cons_zero, List.set_cons_succ]
      refine wpAnyH_take (i := 16) (oi := ⟨some 41, _, _, _, _, _⟩) (v := undef) rfl (by kernel_rfl) (by kernel_rfl) (by kernel_rfl) (fun _ _ _ h => h) (Or.inr ⟨rfl, rfl⟩) (by assumption) ?_
      try simp only [Act.put, List.setIfInBounds_toArray, List.set_cons_zero, List.set_cons_succ]
      refine wpAnyH_take (i := 17) (oi := ⟨some 42, _, _, _, _, _⟩) (v := undef) rfl (by kernel_rfl) (by kernel_rfl) (by kernel_rfl) (fun _ _ _ h => h) (Or.inr ⟨rfl, rfl⟩) (by assumption) ?_
      try simp only [Act.put, List.setIfInBounds_toArray, List.set_cons_zero, List.set_cons_succ]
      refine wpAnyH_take (i := 18) (oi := ⟨some 43, _, _, _, _, _⟩) (v := undef) rfl (by kernel_rfl) (by kernel_rfl) (by kernel_rfl) (fun _ _ _ h => h) (Or.inr ⟨rfl, rfl⟩) (by assumption) ?_
      try simp only [Act.put, List.setIfInBounds_toArray, List.set_cons_zero, List.set_cons_succ]
      refine wpAnyH_take (i := 19) (oi := ⟨some 44, _, _, _, _, _⟩) (v := undef) rfl (by kernel_rfl) (by kernel_rfl) (by kernel_rfl) (fun _ _ _ h => h) (Or.inr ⟨rfl, rfl⟩) (by assumption) ?_
      try simp only [Act.put, List.setIfInBounds_toArray, List.set_cons_zero, List.set_cons_succ]
      refine wpAnyH_take (i := 20) (oi := ⟨some 45, _, _, _, _, _⟩) (v := ?_) rfl (by kernel_rfl) (by kernel_rfl) (by kernel_rfl) (fun _ _ _ h => h) (Or.inl ⟨by rfl, fun w hSw => ?_⟩) (by assumption) ?_
      rotate_left
      · (try dsimp only at hSw)
        go_simp
        try with_reducible rfl
      try simp only [Act.put, List.setIfInBounds_toArray, List.set_cons_zero, List.set_cons_succ]
      refine wpAnyH_take (i := 21) (oi := ⟨some 46, _, _, _, _, _⟩) (v := ?_) rfl (by kernel_rfl) (by kernel_rfl) (by kernel_rfl) (fun _ _ _ h => h) (Or.inl ⟨by rfl, fun w hSw => ?_⟩) (by assumption) ?_
      rotate_left
      · (try dsimp only at hSw)
        go_simp
        try with_reducible rfl
      try simp only [Act.put, List.setIfInBounds_toArray, List.set_cons_zero, List.set_cons_succ]
      refine wpAnyH_take (i := 22) (oi := ⟨some 47, _, _, _, _, _⟩) (v := ?_) rfl (by kernel_rfl) (by kernel_rfl) (by kernel_rfl) (fun _ _ _ h => h) (Or.inl ⟨by rfl, fun w hSw => ?_⟩) (by assumption) ?_
      rotate_left
      · (try dsimp only at hSw)
        go_simp
        try with_reducible rfl
      try simp only [Act.put, List.setIfInBounds_toArray, List.set_cons_zero, List.set_cons_succ]
      refine wpAnyH_take (i := 23) (oi := ⟨some 48, _, _, _, _, _⟩) (v := ?_) rfl (by kernel_rfl) (by kernel_rfl) (by kernel_rfl) (fun _ _ _ h => h) (Or.inl ⟨by rfl, fun w hSw => ?_⟩) (by assumption) ?_
      rotate_left
      · (try dsimp only at hSw)
        go_simp
        try with_reducible rfl
      try simp only [Act.put, List.setIfInBounds_toArray, List.set_cons_zero, List.set_cons_succ]
      refine wpAnyH_take (i := 24) (oi := ⟨some 49, _, _, _, _, _⟩) (v := ?_) rfl (by kernel_rfl) (by kernel_rfl) (by kernel_rfl) (fun _ _ _ h => h) (Or.inl ⟨by rfl, fun w hSw => ?_⟩) (by assumption) ?_
      rotate_left
      · (try dsimp only at hSw)
        go_simp
        try with_reducible rfl
      try simp only [Act.put, List.setIfInBounds_toArray, List.set_cons_zero, List.set_cons_succ]
      refine wpAnyH_take (i := 26) (oi := ⟨some 51, _, _, _, _, _⟩) (v := ?_) rfl (by kernel_rfl) (by kernel_rfl) (by kernel_rfl) (fun _ _ _ h => h) (Or.inl ⟨by rfl, fun w hSw => ?_⟩) (by assumption) ?_
      rotate_left
      · (try dsimp only at hSw)
        go_simp
        try with_reducible rfl
      try simp only [Act.put, List.setIfInBounds_toArray, List.set_cons_zero, List.set_cons_succ]
      refine wpAnyH_take (i := 27) (oi := ⟨some 52, _, _, _, _, _⟩) (v := ?_) rfl (by kernel_rfl) (by kernel_rfl) (by kernel_rfl) (fun _ _ _ h => h) (Or.inl ⟨by rfl, fun w hSw => ?_⟩) (by assumption) ?_
      rotate_left
      · (try dsimp only at hSw)
        go_simp
        try with_reducible rfl
      try simp only [Act.put, List.setIfInBounds_toArray, List.set_cons_zero, List.set_cons_succ]
      refine wpAnyH_take (i := 28) (oi := ⟨some 53, _, _, _, _, _⟩) (v := ?_) rfl (by kernel_rfl) (by kernel_rfl) (by kernel_rfl) (fun _ _ _ h => h) (Or.inl ⟨by rfl, fun w hSw => ?_⟩) (by assumption) ?_
      rotate_left
      · (try dsimp only at hSw)
        go_simp
        try with_reducible rfl
      try simp only [Act.put, List.setIfInBounds_toArray, List.set_cons_zero, List.set_cons_succ]
      refine wpAnyH_take (i := 29) (oi := ⟨some 54, _, _, _, _, _⟩) (v := ?_) rfl (by kernel_rfl) (by kernel_rfl) (by kernel_rfl) (fun _ _ _ h => h) (Or.inl ⟨by rfl, fun w hSw => ?_⟩) (by assumption) ?_
      rotate_left
      · (try dsimp only at hSw)
        go_simp
        try with_reducible rfl
      try simp only [Act.put, List.setIfInBounds_toArray, List.set_cons_zero, List.set_cons_succ]
      refine wpAnyH_take (i := 30) (oi := ⟨some 55, _, _, _, _, _⟩) (v := ?_) rfl (by kernel_rfl) (by kernel_rfl) (by kernel_rfl) (fun _ _ _ h => h) (Or.inl ⟨by rfl, fun w hSw => ?_⟩) (by assumption) ?_
      rotate_left
      · (try dsimp only at hSw)
        go_simp
        try with_reducible rfl
      try simp only [Act.put, List.setIfInBounds_toArray, List.set_cons_zero, List.set_cons_succ]
      refine wpAnyH_ready (rs := [25]) (by kernel_rfl) (by simp) ?_
      refine AllReadyH.cons (o := ⟨some 50, _, _, _, _, _⟩) rfl (fun K hK => ?_) AllReadyH.nil
      go_simp
      (with_reducible refine Calls.mono (HI.out A1 A2 c1 c2 _) ?_)
      rintro e w9 ⟨rfl, hK9⟩
      have y1_5 := Lib.hid (y1_4.out.and hK9)
      have y2_5 := Lib.hid (y2_4.out.and hK9)
      have y4_5 := Lib.hid (y4_4.out.and hK9)
      have y5_5 := Lib.hid (y5_4.out.and hK9)
      have kk_5 := Lib.hid (kk_4.out.and hK9)
      clear hK9
      refine hK.out _ _ ?_ (fun hHeld => ?_)
      · (try dsimp only)
        first | (with_reducible exact sixteen y1_5.out y2_5.out y4_5.out y5_5.out) | (with_reducible exact sixteen y1_4.out y2_4.out y4_4.out y5_4.out) | (with_reducible exact sixteen y1_3.out y2_3.out y4_3.out y5_3.out) | go_keep
      clear hK K
      try simp only [Act.put, List.setIfInBounds_toArray, List.set_cons_zero, List.set_cons_succ]
      refine wpAnyH_take (i := 31) (oi := ⟨some 56, _, _, _, _, _⟩) (v := ?_) rfl (by kernel_rfl) (by kernel_rfl) (by kernel_rfl) (fun _ _ _ h => h) (Or.inl ⟨by rfl, fun w hSw => ?_⟩) (by assumption) ?_
      rotate_left
      · (try dsimp only at hSw)
        go_simp
        try with_reducible rfl
      try simp only [Act.put, List.setIfInBounds_toArray, List.set_cons_zero, List.set_cons_succ]
      refine wpAnyH_take (i := 32) (oi := ⟨some 57, _, _, _, _, _⟩) (v := ?_) rfl (by kernel_rfl) (by kernel_rfl) (by kernel_rfl) (fun _ _ _ h => h) (Or.inl ⟨by rfl, fun w hSw => ?_⟩) (by assumption) ?_
      rotate_left
      · (try dsimp only at hSw)
        go_simp
        try with_reducible rfl
      try simp only [Act.put, List.setIfInBounds_toArray, List.set_cons_zero, List.set_cons_succ]
      refine wpAnyH_ready (rs := [33]) (by kernel_rfl) (by simp) ?_
      refine AllReadyH.cons (o := ⟨some 4, _, _, _, _, _⟩) rfl (fun K hK => ?_) AllReadyH.nil
      go_simp
      refine hK.out _ _ ?_ (fun hHeld => ?_)
      · (try dsimp only)
        first | (with_reducible exact sixteen y1_5.out y2_5.out y4_5.out y5_5.out) | (with_reducible exact sixteen y1_4.out y2_4.out y4_4.out y5_4.out) | (with_reducible exact sixteen y1_3.out y2_3.out y4_3.out y5_3.out) | go_keep
      clear hK K
      try simp only [Act.put, List.setIfInBounds_toArray, List.set_cons_zero, List.set_cons_succ]
      refine wpAnyH_done (by kernel_rfl) ?_ _
      refine NoPanic.normal ?_
      go_wp2_with fail
      go_ret
      exact ⟨by simp, kk_5.out⟩
    · go_upto_region 4 with fail
      obtain ⟨p1, p2, p3, p4, p5, p6, p7, p8⟩ := eight y4_0.out y5_0.out
      go_region_held3 (fun w' => w'.cell? ⟨B4, 0, none⟩ = some (.int .u32 s) ∧ w'.cell? ⟨B4, 1, none⟩ = some (.int .i64 h) ∧ w'.cell? ⟨B4, 2, none⟩ = some (.int .u32 i) ∧ w'.cell? ⟨B4, 3, none⟩ = some (.slice A1 n c1) ∧ w'.cell? ⟨B5, 0, none⟩ = some (.int .u32 s') ∧ w'.cell? ⟨B5, 1, none⟩ = some (.int .i64 h') ∧ w'.cell? ⟨B5, 2, none⟩ = some (.int .u32 i') ∧ w'.cell? ⟨B5, 3, none⟩ = some (.slice A2 m c2)) (go_keep)
        (first
          | (go_at_call 7; (with_reducible refine Calls.mono (HW2.out A1 A2 c1 c2 _) ?_); rintro e w6 ⟨rfl, hK6⟩; have y1_2 := Lib.hid (y1_1.out.and hK6); have y2_2 := Lib.hid (y2_1.out.and hK6); have y4_2 := Lib.hid (y4_1.out.and hK6); have y5_2 := Lib.hid (y5_1.out.and hK6); have kk_2 := Lib.hid (kk_1.out.and hK6); clear hK6 p1 p2 p3 p4 p5 p6 p7 p8; obtain ⟨p1, p2, p3, p4, p5, p6, p7, p8⟩ := eight y4_2.out y5_2.out)
          | (go_at_call 7; (with_reducible refine Calls.mono (HW1.out A1 A2 c1 c2 _) ?_); rintro e w5 ⟨rfl, hK5⟩; have y1_1 := Lib.hid ((y1_0.out.drewN 1).and hK5); have y2_1 := Lib.hid ((y2_0.out.drewN 1).and hK5); have y4_1 := Lib.hid ((y4_0.out.drewN 1).and hK5); have y5_1 := Lib.hid ((y5_0.out.drewN 1).and hK5); have kk_1 := Lib.hid (kk_0.out.drew.and hK5); clear hK5 p1 p2 p3 p4 p5 p6 p7 p8; obtain ⟨p1, p2, p3, p4, p5, p6, p7, p8⟩ := eight y4_1.out y5_1.out))
      go_upto_region 5 with fail
      clear p1 p2 p3 p4 p5 p6 p7 p8
      refine wp_region_noPanic ?_
      refine wp_region_held_drew (S := (fun w' => w'.cell? ⟨w.heap.size, 0, none⟩ = some (.int .u32 s) ∧ w'.cell? ⟨w.heap.size, 1, none⟩ = some (.int .i64 h) ∧ w'.cell? ⟨w.heap.size, 2, none⟩ = some (.int .u32 i) ∧ w'.cell? ⟨w.heap.size, 3, none⟩ = some (.slice A n c) ∧ w'.cell? ⟨w.heap.size + 1, 0, none⟩ = some (.int .u32 s') ∧ w'.cell? ⟨w.heap.size + 1, 1, none⟩ = some (.int .i64 h') ∧ w'.cell? ⟨w.heap.size + 1, 2, none⟩ = some (.int .u32 i') ∧ w'.cell? ⟨w.heap.size + 1, 3, none⟩ = some (.slice B m d) ∧ w'.cell? ⟨B4, 0, none⟩ = some (.int .u32 s) ∧ w'.cell? ⟨B4, 1, none⟩ = some (.int .i64 h) ∧ w'.cell? ⟨B4, 2, none⟩ = some (.int .u32 i) ∧ w'.cell? ⟨B4, 3, none⟩ = some (.slice A1 n c1) ∧ w'.cell? ⟨B5, 0, none⟩ = some (.int .u32 s') ∧ w'.cell? ⟨B5, 1, none⟩ = some (.int .i64 h') ∧ w'.cell? ⟨B5, 2, none⟩ = some (.int .u32 i') ∧ w'.cell? ⟨B5, 3, none⟩ = some (.slice A2 m c2))) (by kernel_rfl) ?_ (fun hHeld => ?_)
      · exact sixteen y1_2.out y2_2.out y4_2.out y5_2.out
      refine wpAnyH_ready (rs := [0]) (by kernel_rfl) (by simp) ?_
      refine AllReadyH.cons (o := ⟨some 25, _, _, _, _, _⟩) rfl (fun K hK => ?_) AllReadyH.nil
      go_simp
      (with_reducible refine Calls.mono (HA.out _) ?_)
      rintro e w7 ⟨rfl, hK7⟩
      have y1_3 := Lib.hid ((y1_2.out.drewN 1).and hK7)
      have y2_3 := Lib.hid ((y2_2.out.drewN 1).and hK7)
      have y4_3 := Lib.hid ((y4_2.out.drewN 1).and hK7)
      have y5_3 := Lib.hid ((y5_2.out.drewN 1).and hK7)
      have kk_3 := Lib.hid (kk_2.out.drew.and hK7)
      clear hK7
      refine hK.out _ _ ?_ (fun hHeld => ?_)
      · (try dsimp only)
        first | (with_reducible exact sixteen y1_5.out y2_5.out y4_5.out y5_5.out) | (with_reducible exact sixteen y1_4.out y2_4.out y4_4.out y5_4.out) | (with_reducible exact sixteen y1_3.out y2_3.out y4_3.out y5_3.out) | go_keep
      clear hK K
      try simp only [Act.put, List.setIfInBounds_toArray, List.set_cons_zero, List.set_cons_succ]
      refine wpAnyH_take (i := 1) (oi := ⟨some 26, _, _, _, _, _⟩) (v := ?_) rfl (by kernel_rfl) (by kernel_rfl) (by kernel_rfl) (fun _ _ _ h => h) (Or.inl ⟨by rfl, fun w hSw => ?_⟩) (by assumption) ?_
      rotate_left
      · (try dsimp only at hSw)
        go_simp
        try with_reducible rfl
      try simp only [Act.put, List.setIfInBounds_toArray, List.set_cons_zero, List.set_cons_succ]
      refine wpAnyH_take (i := 2) (oi := ⟨some 27, _, _, _, _, _⟩) (v := ?_) rfl (by kernel_rfl) (by kernel_rfl) (by kernel_rfl) (fun _ _ _ h => h) (Or.inl ⟨by rfl, fun w hSw => ?_⟩) (by assumption) ?_
      rotate_left
      · (try dsimp only at hSw)
        go_simp
        try with_reducible rfl
      try simp only [Act.put, List.setIfInBounds_toArray, List.set_cons_zero, List.set_cons_succ]
      refine wpAnyH_take (i := 3) (oi := ⟨some 28, _, _, _, _, _⟩) (v := ?_) rfl (by kernel_rfl) (by kernel_rfl) (by kernel_rfl) (fun _ _ _ h => h) (Or.inl ⟨by rfl, fun w hSw => ?_⟩) (by assumption) ?_
      rotate_left
      · (try dsimp only at hSw)
        go_simp
        try with_reducible rfl
      try simp only [Act.put, List.setIfInBounds_toArray, List.set_cons_zero, List.set_cons_succ]
      refine wpAnyH_take (i := 4) (oi := ⟨some 29, _, _, _, _, _⟩) (v := ?_) rfl (by kernel_rfl) (by kernel_rfl) (by kernel_rfl) (fun _ _ _ h => h) (Or.inl ⟨by rfl, fun w hSw => ?_⟩) (by assumption) ?_
      rotate_left
      · (try dsimp only at hSw)
        go_simp
        try with_reducible rfl
      try simp only [Act.put, List.setIfInBounds_toArray, List.set_cons_zero, List.set_cons_succ]
      refine wpAnyH_ready (rs := [5]) (by kernel_rfl) (by simp) ?_
      refine AllReadyH.cons (o := ⟨some 30, _, _, _, _, _⟩) rfl (fun K hK => ?_) AllReadyH.nil
      go_simp
      (with_reducible refine Calls.mono (HRW.out _) ?_)
      rintro e w8 ⟨rfl, hK8⟩
      have y1_4 := Lib.hid (y1_3.out.and hK8)
      have y2_4 := Lib.hid (y2_3.out.and hK8)
      have y4_4 := Lib.hid (y4_3.out.and hK8)
      have y5_4 := Lib.hid (y5_3.out.and hK8)
      have kk_4 := Lib.hid (kk_3.out.and hK8)
      clear hK8
      refine hK.out _ _ ?_ (fun hHeld => ?_)
      · (try dsimp only)
        first | (with_reducible exact sixteen y1_5.out y2_5.out y4_5.out y5_5.out) | (with_reducible exact sixteen y1_4.out y2_4.out y4_4.out y5_4.out) | (with_reducible exact sixteen y1_3.out y2_3.out y4_3.out y5_3.out) | go_keep
      clear hK K
      try simp only [Act.put, List.setIfInBounds_toArray, List.set_cons_zero, List.set_cons_succ]
      refine wpAnyH_take (i := 6) (oi := ⟨some 31, _, _, _, _, _⟩) (v := ?_) rfl (by kernel_rfl) (by kernel_rfl) (by kernel_rfl) (fun _ _ _ h => h) (Or.inl ⟨by rfl, fun w hSw => ?_⟩) (by assumption) ?_
      rotate_left
      · (try dsimp only at hSw)
        go_simp
        try with_reducible rfl
      try simp only [Act.put, List.setIfInBounds_toArray, List.set_cons_zero, List.set_cons_succ]
      refine wpAnyH_take (i := 7) (oi := ⟨some 32, _, _, _, _, _⟩) (v := ?_) rfl (by kernel_rfl) (by kernel_rfl) (by kernel_rfl) (fun _ _ _ h => h) (Or.inl ⟨by rfl, fun w hSw => ?_⟩) (by assumption) ?_
      rotate_left
      · (try dsimp only at hSw)
        go_simp
        try with_reducible rfl
      try simp only [Act.put, List.setIfInBounds_toArray, List.set_cons_zero, List.set_cons_succ]
      refine wpAnyH_take (i := 8) (oi := ⟨some 33, _, _, _, _, _⟩) (v := ?_) rfl (by kernel_rfl) (by kernel_rfl) (by kernel_rfl) (fun _ _ _ h => h) (Or.inl ⟨by rfl, fun w hSw => ?_⟩) (by assumption) ?_
      rotate_left
      · (try dsimp only at hSw)
        go_simp
        try with_reducible rfl
      try simp only [Act.put, List.setIfInBounds_toArray, List.set_cons_zero, List.set_cons_succ]
      refine wpAnyH_take (i := 9) (oi := ⟨some 34, _, _, _, _, _⟩) (v := ?_) rfl (by kernel_rfl) (by kernel_rfl) (by kernel_rfl) (fun _ _ _ h => h) (Or.inl ⟨by rfl, fun w hSw => ?_⟩) (by assumption) ?_
      rotate_left
      · (try dsimp only at hSw)
        go_simp
        try with_reducible rfl
      try simp only [Act.put, List.setIfInBounds_toArray, List.set_cons_zero, List.set_cons_succ]
      refine wpAnyH_take (i := 10) (oi := ⟨some 35, _, _, _, _, _⟩) (v := ?_) rfl (by kernel_rfl) (by kernel_rfl) (by kernel_rfl) (fun _ _ _ h => h) (Or.inl ⟨by rfl, fun w hSw => ?_⟩) (by assumption) ?_
      rotate_left
      · (try dsimp only at hSw)
        go_simp
        try with_reducible rfl
      try simp only [Act.put, List.setIfInBounds_toArray, List.set_cons_zero, List.set_cons_succ]
      refine wpAnyH_take (i := 11) (oi := ⟨some 36, _, _, _, _, _⟩) (v := ?_) rfl (by kernel_rfl) (by kernel_rfl) (by kernel_rfl) (fun _ _ _ h => h) (Or.inl ⟨by rfl, fun w hSw => ?_⟩) (by assumption) ?_
      rotate_left
      · (try dsimp only at hSw)
        go_simp
        try with_reducible rfl
      try simp only [Act.put, List.setIfInBounds_toArray, List.set_cons_zero, List.set_cons_succ]
      refine wpAnyH_take (i := 12) (oi := ⟨some 37, _, _, _, _, _⟩) (v := undef) rfl (by kernel_rfl) (by kernel_rfl) (by kernel_rfl) (fun _ _ _ h => h) (Or.inr ⟨rfl, rfl⟩) (by assumption) ?_
      try simp only [Act.put, List.setIfInBounds_toArray, List.set_cons_zero, List.set_cons_succ]
      refine wpAnyH_take (i := 13) (oi := ⟨some 38, _, _, _, _, _⟩) (v := undef) rfl (by kernel_rfl) (by kernel_rfl) (by kernel_rfl) (fun _ _ _ h => h) (Or.inr ⟨rfl, rfl⟩) (by assumption) ?_
      try simp only [Act.put, List.setIfInBounds_toArray, List.set_cons_zero, List.set_cons_succ]
      refine wpAnyH_take (i := 14) (oi := ⟨some 39, _, _, _, _, _⟩) (v := ?_) rfl (by kernel_rfl) (by kernel_rfl) (by kernel_rfl) (fun _ _ _ h => h) (Or.inl ⟨by rfl, fun w hSw => ?_⟩) (by assumption) ?_
      rotate_left
      · (try dsimp only at hSw)
        go_simp
        try with_reducible rfl
      try simp only [Act.put, List.setIfInBounds_toArray, List.set_cons_zero, List.set_cons_succ]
      refine wpAnyH_take (i := 15) (oi := ⟨some 40, _, _, _, _, _⟩) (v := ?_) rfl (by kernel_rfl) (by kernel_rfl) (by kernel_rfl) (fun _ _ _ h => h) (Or.inl ⟨by rfl, fun w hSw => ?_⟩) (by assumption) ?_
      rotate_left
      · (try dsimp only at hSw)
        go_simp
        try with_reducible rfl
      try simp only [Act.put, List.setIfInBounds_toArray, List.set_cons_zero, List.set_cons_succ]
      refine wpAnyH_take (i := 16) (oi := ⟨some 41, _, _, _, _, _⟩) (v := ?_) rfl (by kernel_rfl) (by kernel_rfl) (by kernel_rfl) (fun _ _ _ h => h) (Or.inl ⟨by rfl, fun w hSw => ?_⟩) (by assumption) ?_
      rotate_left
      · (try dsimp only at hSw)
        go_simp
        try with_reducible rfl
      try simp only [Act.put, List.setIfInBounds_toArray, List.set_cons_zero, List.set_cons_succ]
      refine wpAnyH_take (i := 17) (oi := ⟨some 42, _, _, _, _, _⟩) (v := ?_) rfl (by kernel_rfl) (by kernel_rfl) (by kernel_rfl) (fun _ _ _ h => h) (Or.inl ⟨by rfl, fun w hSw => ?_⟩) (by assumption) ?_
      rotate_left
      · (try dsimp only at hSw)
        go_simp
        try with_reducible rfl
      try simp only [Act.put, List.setIfInBounds_toArray, List.set_cons_zero, List.set_cons_succ]
      refine wpAnyH_take (i := 18) (oi := ⟨some 43, _, _, _, _, _⟩) (v := ?_) rfl (by kernel_rfl) (by kernel_rfl) (by kernel_rfl) (fun _ _ _ h => h) (Or.inl ⟨by rfl, fun w hSw => ?_⟩) (by assumption) ?_
      rotate_left
      · (try dsimp only at hSw)
        go_simp
        try with_reducible rfl
      try simp only [Act.put, List.setIfInBounds_toArray, List.set_cons_zero, List.set_cons_succ]
      refine wpAnyH_take (i := 19) (oi := ⟨some 44, _, _, _, _, _⟩) (v := ?_) rfl (by kernel_rfl) (by kernel_rfl) (by kernel_rfl) (fun _ _ _ h => h) (Or.inl ⟨by rfl, fun w hSw => ?_⟩) (by assumption) ?_
      rotate_left
      · (try dsimp only at hSw)
        go_simp
        try with_reducible rfl
      try simp only [Act.put, List.setIfInBounds_toArray, List.set_cons_zero, List.set_cons_succ]
      refine wpAnyH_take (i := 20) (oi := ⟨some 45, _, _, _, _, _⟩) (v := ?_) rfl (by kernel_rfl) (by kernel_rfl) (by kernel_rfl) (fun _ _ _ h => h) (Or.inl ⟨by rfl, fun w hSw => ?_⟩) (by assumption) ?_
      rotate_left
      · (try dsimp only at hSw)
        go_simp
        try with_reducible rfl
      try simp only [Act.put, List.setIfInBounds_toArray, List.set_cons_zero, List.set_cons_succ]
      refine wpAnyH_take (i := 21) (oi := ⟨some 46, _, _, _, _, _⟩) (v := ?_) rfl (by kernel_rfl) (by kernel_rfl) (by kernel_rfl) (fun _ _ _ h => h) (Or.inl ⟨by rfl, fun w hSw => ?_⟩) (by assumption) ?_
      rotate_left
      · (try dsimp only at hSw)
        go_simp
        try with_reducible rfl
      try simp only [Act.put, List.setIfInBounds_toArray, List.set_cons_zero, List.set_cons_succ]
      refine wpAnyH_take (i := 22) (oi := ⟨some 47, _, _, _, _, _⟩) (v := ?_) rfl (by kernel_rfl) (by kernel_rfl) (by kernel_rfl) (fun _ _ _ h => h) (Or.inl ⟨by rfl, fun w hSw => ?_⟩) (by assumption) ?_
      rotate_left
      · (try dsimp only at hSw)
        go_simp
        try with_reducible rfl
      try simp only [Act.put, List.setIfInBounds_toArray, List.set_cons_zero, List.set_cons_succ]
      refine wpAnyH_take (i := 23) (oi := ⟨some 48, _, _, _, _, _⟩) (v := ?_) rfl (by kernel_rfl) (by kernel_rfl) (by kernel_rfl) (fun _ _ _ h => h) (Or.inl ⟨by rfl, fun w hSw => ?_⟩) (by assumption) ?_
      rotate_left
      · (try dsimp only at hSw)
        go_simp
        try with_reducible rfl
      try simp only [Act.put, List.setIfInBounds_toArray, List.set_cons_zero, List.set_cons_succ]
      refine wpAnyH_take (i := 24) (oi := ⟨some 49, _, _, _, _, _⟩) (v := ?_) rfl (by kernel_rfl) (by kernel_rfl) (by kernel_rfl) (fun _ _ _ h => h) (Or.inl ⟨by rfl, fun w hSw => ?_⟩) (by assumption) ?_
      rotate_left
      · (try dsimp only at hSw)
        go_simp
        try with_reducible rfl
      try simp only [Act.put, List.setIfInBounds_toArray, List.set_cons_zero, List.set_cons_succ]
      refine wpAnyH_take (i := 26) (oi := ⟨some 51, _, _, _, _, _⟩) (v := ?_) rfl (by kernel_rfl) (by kernel_rfl) (by kernel_rfl) (fun _ _ _ h => h) (Or.inl ⟨by rfl, fun w hSw => ?_⟩) (by assumption) ?_
      rotate_left
      · (try dsimp only at hSw)
        go_simp
        try with_reducible rfl
      try simp only [Act.put, List.setIfInBounds_toArray, List.set_cons_zero, List.set_cons_succ]
      refine wpAnyH_take (i := 27) (oi := ⟨some 52, _, _, _, _, _⟩) (v := ?_) rfl (by kernel_rfl) (by kernel_rfl) (by kernel_rfl) (fun _ _ _ h => h) (Or.inl ⟨by rfl, fun w hSw => ?_⟩) (by assumption) ?_
      rotate_left
      · (try dsimp only at hSw)
        go_simp
        try with_reducible rfl
      try simp only [Act.put, List.setIfInBounds_toArray, List.set_cons_zero, List.set_cons_succ]
      refine wpAnyH_take (i := 28) (oi := ⟨some 53, _, _, _, _, _⟩) (v := ?_) rfl (by kernel_rfl) (by kernel_rfl) (by kernel_rfl) (fun _ _ _ h => h) (Or.inl ⟨by rfl, fun w hSw => ?_⟩) (by assumption) ?_
      rotate_left
      · (try dsimp only at hSw)
        go_simp
        try with_reducible rfl
      try simp only [Act.put, List.setIfInBounds_toArray, List.set_cons_zero, List.set_cons_succ]
      refine wpAnyH_take (i := 29) (oi := ⟨some 54, _, _, _, _, _⟩) (v := ?_) rfl (by kernel_rfl) (by kernel_rfl) (by kernel_rfl) (fun _ _ _ h => h) (Or.inl ⟨by rfl, fun w hSw => ?_⟩) (by assumption) ?_
      rotate_left
      · (try dsimp only at hSw)
        go_simp
        try with_reducible rfl
      try simp only [Act.put, List.setIfInBounds_toArray, List.set_cons_zero, List.set_cons_succ]
      refine wpAnyH_take (i := 30) (oi := ⟨some 55, _, _, _, _, _⟩) (v := ?_) rfl (by kernel_rfl) (by kernel_rfl) (by kernel_rfl) (fun _ _ _ h => h) (Or.inl ⟨by rfl, fun w hSw => ?_⟩) (by assumption) ?_
      rotate_left
      · (try dsimp only at hSw)
        go_simp
        try with_reducible rfl
      try simp only [Act.put, List.setIfInBounds_toArray, List.set_cons_zero, List.set_cons_succ]
      refine wpAnyH_ready (rs := [25]) (by kernel_rfl) (by simp) ?_
      refine AllReadyH.cons (o := ⟨some 50, _, _, _, _, _⟩) rfl (fun K hK => ?_) AllReadyH.nil
      go_simp
      (with_reducible refine Calls.mono (HI.out A1 A2 c1 c2 _) ?_)
      rintro e w9 ⟨rfl, hK9⟩
      have y1_5 := Lib.hid (y1_4.out.and hK9)
      have y2_5 := Lib.hid (y2_4.out.and hK9)
      have y4_5 := Lib.hid (y4_4.out.and hK9)
      have y5_5 := Lib.hid (y5_4.out.and hK9)
      have kk_5 := Lib.hid (kk_4.out.and hK9)
      clear hK9
      refine hK.out _ _ ?_ (fun hHeld => ?_)
      · (try dsimp only)
        first | (with_reducible exact sixteen y1_5.out y2_5.out y4_5.out y5_5.out) | (with_reducible exact sixteen y1_4.out y2_4.out y4_4.out y5_4.out) | (with_reducible exact sixteen y1_3.out y2_3.out y4_3.out y5_3.out) | go_keep
      clear hK K
      try simp only [Act.put, List.setIfInBounds_toArray, List.set_cons_zero, List.set_cons_succ]
      refine wpAnyH_take (i := 31) (oi := ⟨some 56, _, _, _, _, _⟩) (v := ?_) rfl (by kernel_rfl) (by kernel_rfl) (by kernel_rfl) (fun _ _ _ h => h) (Or.inl ⟨by rfl, fun w hSw => ?_⟩) (by assumption) ?_
      rotate_left
      · (try dsimp only at hSw)
        go_simp
        try with_reducible rfl
      try simp only [Act.put, List.setIfInBounds_toArray, List.set_cons_zero, List.set_cons_succ]
      refine wpAnyH_take (i := 32) (oi := ⟨some 57, _, _, _, _, _⟩) (v := ?_) rfl (by kernel_rfl) (by kernel_rfl) (by kernel_rfl) (fun _ _ _ h => h) (Or.inl ⟨by rfl, fun w hSw => ?_⟩) (by assumption) ?_
      rotate_left
      · (try dsimp only at hSw)
        go_simp
        try with_reducible rfl
      try simp only [Act.put, List.setIfInBounds_toArray, List.set_cons_zero, List.set_cons_succ]
      refine wpAnyH_ready (rs := [33]) (by kernel_rfl) (by simp) ?_
      refine AllReadyH.cons (o := ⟨some 4, _, _, _, _, _⟩) rfl (fun K hK => ?_) AllReadyH.nil
      go_simp
      refine hK.out _ _ ?_ (fun hHeld => ?_)
      · (try dsimp only)
        first | (with_reducible exact sixteen y1_5.out y2_5.out y4_5.out y5_5.out) | (with_reducible exact sixteen y1_4.out y2_4.out y4_4.out y5_4.out) | (with_reducible exact sixteen y1_3.out y2_3.out y4_3.out y5_3.out) | go_keep
      clear hK K
      try simp only [Act.put, List.setIfInBounds_toArray, List.set_cons_zero, List.set_cons_succ]
      refine wpAnyH_done (by kernel_rfl) ?_ _
      refine NoPanic.normal ?_
      go_wp2_with fail
      go_ret
      exact ⟨by simp, kk_5.out⟩
    · go_upto_region 4 with fail
      obtain ⟨p1, p2, p3, p4, p5, p6, p7, p8⟩ := eight y4_0.out y5_0.out
      go_region_held3 (fun w' => w'.cell? ⟨B4, 0, none⟩ = some (.int .u32 s) ∧ w'.cell? ⟨B4, 1, none⟩ = some (.int .i64 h) ∧ w'.cell? ⟨B4, 2, none⟩ = some (.int .u32 i) ∧ w'.cell? ⟨B4, 3, none⟩ = some (.slice A1 n c1) ∧ w'.cell? ⟨B5, 0, none⟩ = some (.int .u32 s') ∧ w'.cell? ⟨B5, 1, none⟩ = some (.int .i64 h') ∧ w'.cell? ⟨B5, 2, none⟩ = some (.int .u32 i') ∧ w'.cell? ⟨B5, 3, none⟩ = some (.slice A2 m c2)) (go_keep)
        (first
          | (go_at_call 7; (with_reducible refine Calls.mono (HW2.out A1 A2 c1 c2 _) ?_); rintro e w6 ⟨rfl, hK6⟩; have y1_2 := Lib.hid (y1_1.out.and hK6); have y2_2 := Lib.hid (y2_1.out.and hK6); have y4_2 := Lib.hid (y4_1.out.and hK6); have y5_2 := Lib.hid (y5_1.out.and hK6); have kk_2 := Lib.hid (kk_1.out.and hK6); clear hK6 p1 p2 p3 p4 p5 p6 p7 p8; obtain ⟨p1, p2, p3, p4, p5, p6, p7, p8⟩ := eight y4_2.out y5_2.out)
          | (go_at_call 7; (with_reducible refine Calls.mono (HW1.out A1 A2 c1 c2 _) ?_); rintro e w5 ⟨rfl, hK5⟩; have y1_1 := Lib.hid ((y1_0.out.drewN 1).and hK5); have y2_1 := Lib.hid ((y2_0.out.drewN 1).and hK5); have y4_1 := Lib.hid ((y4_0.out.drewN 1).and hK5); have y5_1 := Lib.hid ((y5_0.out.drewN 1).and hK5); have kk_1 := Lib.hid (kk_0.out.drew.and hK5); clear hK5 p1 p2 p3 p4 p5 p6 p7 p8; obtain ⟨p1, p2, p3, p4, p5, p6, p7, p8⟩ := eight y4_1.out y5_1.out))
      go_upto_region 5 with fail
      clear p1 p2 p3 p4 p5 p6 p7 p8
      refine wp_region_noPanic ?_
      refine wp_region_held_drew (S := (fun w' => w'.cell? ⟨w.heap.size, 0, none⟩ = some (.int .u32 s) ∧ w'.cell? ⟨w.heap.size, 1, none⟩ = some (.int .i64 h) ∧ w'.cell? ⟨w.heap.size, 2, none⟩ = some (.int .u32 i) ∧ w'.cell? ⟨w.heap.size, 3, none⟩ = some (.slice A n c) ∧ w'.cell? ⟨w.heap.size + 1, 0, none⟩ = some (.int .u32 s') ∧ w'.cell? ⟨w.heap.size + 1, 1, none⟩ = some (.int .i64 h') ∧ w'.cell? ⟨w.heap.size + 1, 2, none⟩ = some (.int .u32 i') ∧ w'.cell? ⟨w.heap.size + 1, 3, none⟩ = some (.slice B m d) ∧ w'.cell? ⟨B4, 0, none⟩ = some (.int .u32 s) ∧ w'.cell? ⟨B4, 1, none⟩ = some (.int .i64 h) ∧ w'.cell? ⟨B4, 2, none⟩ = some (.int .u32 i) ∧ w'.cell? ⟨B4, 3, none⟩ = some (.slice A1 n c1) ∧ w'.cell? ⟨B5, 0, none⟩ = some (.int .u32 s') ∧ w'.cell? ⟨B5, 1, none⟩ = some (.int .i64 h') ∧ w'.cell? ⟨B5, 2, none⟩ = some (.int .u32 i') ∧ w'.cell? ⟨B5, 3, none⟩ = some (.slice A2 m c2))) (by kernel_rfl) ?_ (fun hHeld => ?_)
      · exact sixteen y1_2.out y2_2.out y4_2.out y5_2.out
      refine wpAnyH_ready (rs := [0]) (by kernel_rfl) (by simp) ?_
      refine AllReadyH.cons (o := ⟨some 25, _, _, _, _, _⟩) rfl (fun K hK => ?_) AllReadyH.nil
      go_simp
      (with_reducible refine Calls.mono (HA.out _) ?_)
      rintro e w7 ⟨rfl, hK7⟩
      have y1_3 := Lib.hid ((y1_2.out.drewN 1).and hK7)
      have y2_3 := Lib.hid ((y2_2.out.drewN 1).and hK7)
      have y4_3 := Lib.hid ((y4_2.out.drewN 1).and hK7)
      have y5_3 := Lib.hid ((y5_2.out.drewN 1).and hK7)
      have kk_3 := Lib.hid (kk_2.out.drew.and hK7)
      clear hK7
      refine hK.out _ _ ?_ (fun hHeld => ?_)
      · (try dsimp only)
        first | (with_reducible exact sixteen y1_5.out y2_5.out y4_5.out y5_5.out) | (with_reducible exact sixteen y1_4.out y2_4.out y4_4.out y5_4.out) | (with_reducible exact sixteen y1_3.out y2_3.out y4_3.out y5_3.out) | go_keep
      clear hK K
      try simp only [Act.put, List.setIfInBounds_toArray, List.set_cons_zero, List.set_cons_succ]
      refine wpAnyH_take (i := 1) (oi := ⟨some 26, _, _, _, _, _⟩) (v := ?_) rfl (by kernel_rfl) (by kernel_rfl) (by kernel_rfl) (fun _ _ _ h => h) (Or.inl ⟨by rfl, fun w hSw => ?_⟩) (by assumption) ?_
      rotate_left
      · (try dsimp only at hSw)
        go_simp
        try with_reducible rfl
      try simp only [Act.put, List.setIfInBounds_toArray, List.set_cons_zero, List.set_cons_succ]
      refine wpAnyH_take (i := 2) (oi := ⟨some 27, _, _, _, _, _⟩) (v := ?_) rfl (by kernel_rfl) (by kernel_rfl) (by kernel_rfl) (fun _ _ _ h => h) (Or.inl ⟨by rfl, fun w hSw => ?_⟩) (by assumption) ?_
      rotate_left
      · (try dsimp only at hSw)
        go_simp
        try with_reducible rfl
      try simp only [Act.put, List.setIfInBounds_toArray, List.set_cons_zero, List.set_cons_succ]
      refine wpAnyH_take (i := 3) (oi := ⟨some 28, _, _, _, _, _⟩) (v := ?_) rfl (by kernel_rfl) (by kernel_rfl) (by kernel_rfl) (fun _ _ _ h => h) (Or.inl ⟨by rfl, fun w hSw => ?_⟩) (by assumption) ?_
      rotate_left
      · (try dsimp only at hSw)
        go_simp
        try with_reducible rfl
      try simp only [Act.put, List.setIfInBounds_toArray, List.set_cons_zero, List.set_cons_succ]
      refine wpAnyH_take (i := 4) (oi := ⟨some 29, _, _, _, _, _⟩) (v := ?_) rfl (by kernel_rfl) (by kernel_rfl) (by kernel_rfl) (fun _ _ _ h => h) (Or.inl ⟨by rfl, fun w hSw => ?_⟩) (by assumption) ?_
      rotate_left
      · (try dsimp only at hSw)
        go_simp
        try with_reducible rfl
      try simp only [Act.put, List.setIfInBounds_toArray, List.set_cons_zero, List.set_cons_succ]
      refine wpAnyH_ready (rs := [5]) (by kernel_rfl) (by simp) ?_
      refine AllReadyH.cons (o := ⟨some 30, _, _, _, _, _⟩) rfl (fun K hK => ?_) AllReadyH.nil
      go_simp
      (with_reducible refine Calls.mono (HRW.out _) ?_)
      rintro e w8 ⟨rfl, hK8⟩
      have y1_4 := Lib.hid (y1_3.out.and hK8)
      have y2_4 := Lib.hid (y2_3.out.and hK8)
      have y4_4 := Lib.hid (y4_3.out.and hK8)
      have y5_4 := Lib.hid (y5_3.out.and hK8)
      have kk_4 := Lib.hid (kk_3.out.and hK8)
      clear hK8
      refine hK.out _ _ ?_ (fun hHeld => ?_)
      · (try dsimp only)
        first | (with_reducible exact sixteen y1_5.out y2_5.out y4_5.out y5_5.out) | (with_reducible exact sixteen y1_4.out y2_4.out y4_4.out y5_4.out) | (with_reducible exact sixteen y1_3.out y2_3.out y4_3.out y5_3.out) | go_keep
      clear hK K
      try simp only [Act.put, List.setIfInBounds_toArray, List.set_cons_zero, List.set_cons_succ]
      refine wpAnyH_take (i := 6) (oi := ⟨some 31, _, _, _, _, _⟩) (v := ?_) rfl (by kernel_rfl) (by kernel_rfl) (by kernel_rfl) (fun _ _ _ h => h) (Or.inl ⟨by rfl, fun w hSw => ?_⟩) (by assumption) ?_
      rotate_left
      · (try dsimp only at hSw)
        go_simp
        try with_reducible rfl
      try simp only [Act.put, List.setIfInBounds_toArray, List.set_cons_zero, List.set_cons_succ]
      refine wpAnyH_take (i := 7) (oi := ⟨some 32, _, _, _, _, _⟩) (v := ?_) rfl (by kernel_rfl) (by kernel_rfl) (by kernel_rfl) (fun _ _ _ h => h) (Or.inl ⟨by rfl, fun w hSw => ?_⟩) (by assumption) ?_
      rotate_left
      · (try dsimp only at hSw)
        go_simp
        try with_reducible rfl
      try simp only [Act.put, List.setIfInBounds_toArray, List.set_cons_zero, List.set_cons_succ]
      refine wpAnyH_take (i := 8) (oi := ⟨some 33, _, _, _, _, _⟩) (v := ?_) rfl (by kernel_rfl) (by kernel_rfl) (by kernel_rfl) (fun _ _ _ h => h) (Or.inl ⟨by rfl, fun w hSw => ?_⟩) (by assumption) ?_
      rotate_left
      · (try dsimp only at hSw)
        go_simp
        try with_reducible rfl
      try simp only [Act.put, List.setIfInBounds_toArray, List.set_cons_zero, List.set_cons_succ]
      refine wpAnyH_take (i := 9) (oi := ⟨some 34, _, _, _, _, _⟩) (v := ?_) rfl (by kernel_rfl) (by kernel_rfl) (by kernel_rfl) (fun _ _ _ h => h) (Or.inl ⟨by rfl, fun w hSw => ?_⟩) (by assumption) ?_
      rotate_left
      · (try dsimp only at hSw)
        go_simp
        try with_reducible rfl
      try simp only [Act.put, List.setIfInBounds_toArray, List.set_cons_zero, List.set_cons_succ]
      refine wpAnyH_take (i := 10) (oi := ⟨some 35, _, _, _, _, _⟩) (v := ?_) rfl (by kernel_rfl) (by kernel_rfl) (by kernel_rfl) (fun _ _ _ h => h) (Or.inl ⟨by rfl, fun w hSw => ?_⟩) (by assumption) ?_
      rotate_left
      · (try dsimp only at hSw)
        go_simp
        try with_reducible rfl
      try simp only [Act.put, List.setIfInBounds_toArray, List.set_cons_zero, List.set_cons_succ]
      refine wpAnyH_take (i := 11) (oi := ⟨some 36, _, _, _, _, _⟩) (v := ?_) rfl (by kernel_rfl) (by kernel_rfl) (by kernel_rfl) (fun _ _ _ h => h) (Or.inl ⟨by rfl, fun w hSw => ?_⟩) (by assumption) ?_
      rotate_left
      · (try dsimp only at hSw)
        go_simp
        try with_reducible rfl
      try simp only [Act.put, List.setIfInBounds_toArray, List.set_cons_zero, List.set_cons_succ]
      refine wpAnyH_take (i := 12) (oi := ⟨some 37, _, _, _, _, _⟩) (v := undef) rfl (by kernel_rfl) (by kernel_rfl) (by kernel_rfl) (fun _ _ _ h => h) (Or.inr ⟨rfl, rfl⟩) (by assumption) ?_
      try simp only [Act.put, List.setIfInBounds_toArray, List.set_cons_zero, List.set_cons_succ]
      refine wpAnyH_take (i := 13) (oi := ⟨some 38, _, _, _, _, _⟩) (v := undef) rfl (by kernel_rfl) (by kernel_rfl) (by kernel_rfl) (fun _ _ _ h => h) (Or.inr ⟨rfl, rfl⟩) (by assumption) ?_
      try simp only [Act.put, List.setIfInBounds_toArray, List.set_cons_zero, List.set_cons_succ]
      refine wpAnyH_take (i := 14) (oi := ⟨some 39, _, _, _, _, _⟩) (v := ?_) rfl (by kernel_rfl) (by kernel_rfl) (by kernel_rfl) (fun _ _ _ h => h) (Or.inl ⟨by rfl, fun w hSw => ?_⟩) (by assumption) ?_
      rotate_left
      · (try dsimp only at hSw)
        go_simp
        try with_reducible rfl
      try simp only [Act.put, List.setIfInBounds_toArray, List.set_cons_zero, List.set_cons_succ]
      refine wpAnyH_take (i := 15) (oi := ⟨some 40, _, _, _, _, _⟩) (v := ?_) rfl (by kernel_rfl) (by kernel_rfl) (by kernel_rfl) (fun _ _ _ h => h) (Or.inl ⟨by rfl, fun w hSw => ?_⟩) (by assumption) ?_
      rotate_left
      · (try dsimp only at hSw)
        go_simp
        try with_reducible rfl
      try simp only [Act.put, List.setIfInBounds_toArray, List.set_cons_zero, List.set_cons_succ]
      refine wpAnyH_take (i := 16) (oi := ⟨some 41, _, _, _, _, _⟩) (v := ?_) rfl (by kernel_rfl) (by kernel_rfl) (by kernel_rfl) (fun _ _ _ h => h) (Or.inl ⟨by rfl, fun w hSw => ?_⟩) (by assumption) ?_
      rotate_left
      · (try dsimp only at hSw)
        go_simp
        try with_reducible rfl
      try simp only [Act.put, List.setIfInBounds_toArray, List.set_cons_zero, List.set_cons_succ]
      refine wpAnyH_take (i := 17) (oi := ⟨some 42, _, _, _, _, _⟩) (v := ?_) rfl (by kernel_rfl) (by kernel_rfl) (by kernel_rfl) (fun _ _ _ h => h) (Or.inl ⟨by rfl, fun w hSw => ?_⟩) (by assumption) ?_
      rotate_left
      · (try dsimp only at hSw)
        go_simp
        try with_reducible rfl
      try simp only [Act.put, List.setIfInBounds_toArray, List.set_cons_zero, List.set_cons_succ]
      refine wpAnyH_take (i := 18) (oi := ⟨some 43, _, _, _, _, _⟩) (v := ?_) rfl (by kernel_rfl) (by kernel_rfl) (by kernel_rfl) (fun _ _ _ h => h) (Or.inl ⟨by rfl, fun w hSw => ?_⟩) (by assumption) ?_
      rotate_left
      · (try dsimp only at hSw)
        go_simp
        try with_reducible rfl
      try simp only [Act.put, List.setIfInBounds_toArray, List.set_cons_zero, List.set_cons_succ]
      refine wpAnyH_take (i := 19) (oi := ⟨some 44, _, _, _, _, _⟩) (v := ?_) rfl (by kernel_rfl) (by kernel_rfl) (by kernel_rfl) (fun _ _ _ h => h) (Or.inl ⟨by rfl, fun w hSw => ?_⟩) (by assumption) ?_
      rotate_left
      · (try dsimp only at hSw)
        go_simp
        try with_reducible rfl
      try simp only [Act.put, List.setIfInBounds_toArray, List.set_cons_zero, List.set_cons_succ]
      refine wpAnyH_take (i := 20) (oi := ⟨some 45, _, _, _, _, _⟩) (v := ?_) rfl (by kernel_rfl) (by kernel_rfl) (by kernel_rfl) (fun _ _ _ h => h) (Or.inl ⟨by rfl, fun w hSw => ?_⟩) (by assumption) ?_
      rotate_left
      · (try dsimp only at hSw)
        go_simp
        try with_reducible rfl
      try simp only [Act.put, List.setIfInBounds_toArray, List.set_cons_zero, List.set_cons_succ]
      refine wpAnyH_take (i := 21) (oi := ⟨some 46, _, _, _, _, _⟩) (v := ?_) rfl (by kernel_rfl) (by kernel_rfl) (by kernel_rfl) (fun _ _ _ h => h) (Or.inl ⟨by rfl, fun w hSw => ?_⟩) (by assumption) ?_
      rotate_left
      · (try dsimp only at hSw)
        go_simp
        try with_reducible rfl
      try simp only [Act.put, List.setIfInBounds_toArray, List.set_cons_zero, List.set_cons_succ]
      refine wpAnyH_take (i := 22) (oi := ⟨some 47, _, _, _, _, _⟩) (v := ?_) rfl (by kernel_rfl) (by kernel_rfl) (by kernel_rfl) (fun _ _ _ h => h) (Or.inl ⟨by rfl, fun w hSw => ?_⟩) (by assumption) ?_
      rotate_left
      · (try dsimp only at hSw)
        go_simp
        try with_reducible rfl
      try simp only [Act.put, List.setIfInBounds_toArray, List.set_cons_zero, List.set_cons_succ]
      refine wpAnyH_take (i := 23) (oi := ⟨some 48, _, _, _, _, _⟩) (v := ?_) rfl (by kernel_rfl) (by kernel_rfl) (by kernel_rfl) (fun _ _ _ h => h) (Or.inl ⟨by rfl, fun w hSw => ?_⟩) (by assumption) ?_
      rotate_left
      · (try dsimp only at hSw)
        go_simp
        try with_reducible rfl
      try simp only [Act.put, List.setIfInBounds_toArray, List.set_cons_zero, List.set_cons_succ]
      refine wpAnyH_take (i := 24) (oi := ⟨some 49, _, _, _, _, _⟩) (v := ?_) rfl (by kernel_rfl) (by kernel_rfl) (by kernel_rfl) (fun _ _ _ h => h) (Or.inl ⟨by rfl, fun w hSw => ?_⟩) (by assumption) ?_
      rotate_left
      · (try dsimp only at hSw)
        go_simp
        try with_reducible rfl
      try simp only [Act.put, List.setIfInBounds_toArray, List.set_cons_zero, List.set_cons_succ]
      refine wpAnyH_take (i := 26) (oi := ⟨some 51, _, _, _, _, _⟩) (v := ?_) rfl (by kernel_rfl) (by kernel_rfl) (by kernel_rfl) (fun _ _ _ h => h) (Or.inl ⟨by rfl, fun w hSw => ?_⟩) (by assumption) ?_
      rotate_left
      · (try dsimp only at hSw)
        go_simp
        try with_reducible rfl
      try simp only [Act.put, List.setIfInBounds_toArray, List.set_cons_zero, List.set_cons_succ]
      refine wpAnyH_take (i := 27) (oi := ⟨some 52, _, _, _, _, _⟩) (v := ?_) rfl (by kernel_rfl) (by kernel_rfl) (by kernel_rfl) (fun _ _ _ h => h) (Or.inl ⟨by rfl, fun w hSw => ?_⟩) (by assumption) ?_
      rotate_left
      · (try dsimp only at hSw)
        go_simp
        try with_reducible rfl
      try simp only [Act.put, List.setIfInBounds_toArray, List.set_cons_zero, List.set_cons_succ]
      refine wpAnyH_take (i := 28) (oi := ⟨some 53, _, _, _, _, _⟩) (v := ?_) rfl (by kernel_rfl) (by kernel_rfl) (by kernel_rfl) (fun _ _ _ h => h) (Or.inl ⟨by rfl, fun w hSw => ?_⟩) (by assumption) ?_
      rotate_left
      · (try dsimp only at hSw)
        go_simp
        try with_reducible rfl
      try simp only [Act.put, List.setIfInBounds_toArray, List.set_cons_zero, List.set_cons_succ]
      refine wpAnyH_take (i := 29) (oi := ⟨some 54, _, _, _, _, _⟩) (v := ?_) rfl (by kernel_rfl) (by kernel_rfl) (by kernel_rfl) (fun _ _ _ h => h) (Or.inl ⟨by rfl, fun w hSw => ?_⟩) (by assumption) ?_
      rotate_left
      · (try dsimp only at hSw)
        go_simp
        try with_reducible rfl
      try simp only [Act.put, List.setIfInBounds_toArray, List.set_cons_zero, List.set_cons_succ]
      refine wpAnyH_take (i := 30) (oi := ⟨some 55, _, _, _, _, _⟩) (v := ?_) rfl (by kernel_rfl) (by kernel_rfl) (by kernel_rfl) (fun _ _ _ h => h) (Or.inl ⟨by rfl, fun w hSw => ?_⟩) (by assumption) ?_
      rotate_left
      · (try dsimp only at hSw)
        go_simp
        try with_reducible rfl
      try simp only [Act.put, List.setIfInBounds_toArray, List.set_cons_zero, List.set_cons_succ]
      refine wpAnyH_ready (rs := [25]) (by kernel_rfl) (by simp) ?_
      refine AllReadyH.cons (o := ⟨some 50, _, _, _, _, _⟩) rfl (fun K hK => ?_) AllReadyH.nil
      go_simp
      (with_reducible refine Calls.mono (HI.out A1 A2 c1 c2 _) ?_)
      rintro e w9 ⟨rfl, hK9⟩
      have y1_5 := Lib.hid (y1_4.out.and hK9)
      have y2_5 := Lib.hid (y2_4.out.and hK9)
      have y4_5 := Lib.hid (y4_4.out.and hK9)
      have y5_5 := Lib.hid (y5_4.out.and hK9)
      have kk_5 := Lib.hid (kk_4.out.and hK9)
      clear hK9
      refine hK.out _ _ ?_ (fun hHeld => ?_)
      · (try dsimp only)
        first | (with_reducible exact sixteen y1_5.out y2_5.out y4_5.out y5_5.out) | (with_reducible exact sixteen y1_4.out y2_4.out y4_4.out y5_4.out) | (with_reducible exact sixteen y1_3.out y2_3.out y4_3.out y5_3.out) | go_keep
      clear hK K
      try simp only [Act.put, List.setIfInBounds_toArray, List.set_cons_zero, List.set_cons_succ]
      refine wpAnyH_take (i := 31) (oi := ⟨some 56, _, _, _, _, _⟩) (v := ?_) rfl (by kernel_rfl) (by kernel_rfl) (by kernel_rfl) (fun _ _ _ h => h) (Or.inl ⟨by rfl, fun w hSw => ?_⟩) (by assumption) ?_
      rotate_left
      · (try dsimp only at hSw)
        go_simp
        try with_reducible rfl
      try simp only [Act.put, List.setIfInBounds_toArray, List.set_cons_zero, List.set_cons_succ]
      refine wpAnyH_take (i := 32) (oi := ⟨some 57, _, _, _, _, _⟩) (v := ?_) rfl (by kernel_rfl) (by kernel_rfl) (by kernel_rfl) (fun _ _ _ h => h) (Or.inl ⟨by rfl, fun w hSw => ?_⟩) (by assumption) ?_
      rotate_left
      · (try dsimp only at hSw)
        go_simp
        try with_reducible rfl
      try simp only [Act.put, List.setIfInBounds_toArray, List.set_cons_zero, List.set_cons_succ]
      refine wpAnyH_ready (rs := [33]) (by kernel_rfl) (by simp) ?_
      refine AllReadyH.cons (o := ⟨some 4, _, _, _, _, _⟩) rfl (fun K hK => ?_) AllReadyH.nil
      go_simp
      refine hK.out _ _ ?_ (fun hHeld => ?_)
      · (try dsimp only)
        first | (with_reducible exact sixteen y1_5.out y2_5.out y4_5.out y5_5.out) | (with_reducible exact sixteen y1_4.out y2_4.out y4_4.out y5_4.out) | (with_reducible exact sixteen y1_3.out y2_3.out y4_3.out y5_3.out) | go_keep
      clear hK K
      try simp only [Act.put, List.setIfInBounds_toArray, List.set_cons_zero, List.set_cons_succ]
      refine wpAnyH_done (by kernel_rfl) ?_ _
      refine NoPanic.normal ?_
      go_wp2_with fail
      go_ret
      exact ⟨by simp, kk_5.out⟩

theorem winners_row (x y : ArgO) (w : World) (hx : InOpen w x) (hy : InOpen w y) (ld : Ld w) :
    Calls Tryd.prog 3 #[x.val, y.val] w (Stay (.bool true) w) := winners_any x y w hx hy

end Go.Proofs.YtjcmgfegnngjjaaDoor
