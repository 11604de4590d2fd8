/- The session of two ends without capabilities, and its text: contracts; the chapter's example. No condition. -/
import Derived.Test.YtjcmgfegnngjjaaDoorEmN
import Derived.Test.YtjcmgfegnngjjaaDoorNotP
import Derived.Test.YtjcmgfegnngjjaaDoorShelf
import Derived.Deep.RegionHeld3
import Derived.Deep.Cut
import Derived.WalkLawsBesides
namespace Go.Proofs.YtjcmgfegnngjjaaDoor
open Go.RowKit
set_option linter.unusedVariables false
set_option linter.unusedSimpArgs false

theorem cell_drew {W : World} {q : Addr} {v : Value} (h : W.cell? q = some v) : W.drew.cell? q = some v := h
theorem cell_far {W : World} {b i b' j : Nat} {u v : Value} (h : W.cell? ⟨b', j, none⟩ = some v) (hne : b' ≠ b) : (W.setCell ⟨b, i, none⟩ u).cell? ⟨b', j, none⟩ = some v :=
  ((Kp.refl (OnB b) W).setCell (p := ⟨b, i, none⟩) (fun _ => rfl) u).cell h (fun e => hne e)

theorem Bk.six {w : World} {b : Nat} {t : TypeId} {a0 a1 a2 a3 a4 a5 : Value} (h : Bk w b t #[a0, a1, a2, a3, a4, a5]) :
    (w.cell? ⟨b, 0, none⟩ = some a0 ∧ w.cell? ⟨b, 1, none⟩ = some a1 ∧ w.cell? ⟨b, 2, none⟩ = some a2 ∧ w.cell? ⟨b, 3, none⟩ = some a3 ∧ w.cell? ⟨b, 4, none⟩ = some a4 ∧ w.cell? ⟨b, 5, none⟩ = some a5) ∧
    (w.frozen? ⟨b, 0, none⟩ = false ∧ w.frozen? ⟨b, 1, none⟩ = false ∧ w.frozen? ⟨b, 2, none⟩ = false ∧ w.frozen? ⟨b, 3, none⟩ = false ∧ w.frozen? ⟨b, 4, none⟩ = false ∧ w.frozen? ⟨b, 5, none⟩ = false) ∧ b < w.heap.size :=
  ⟨⟨h.cell 0, h.cell 1, h.cell 2, h.cell 3, h.cell 4, h.cell 5⟩, ⟨h.frozen 0, h.frozen 1, h.frozen 2, h.frozen 3, h.frozen 4, h.frozen 5⟩, h.lt⟩

set_option maxRecDepth 100000 in
set_option maxHeartbeats 4000000 in
theorem one0 (s h i s' h' i' : Int) (w : World) : Calls Tryd.prog 30 #[ev s h i, ev s' h' i'] w (Stay o0 w) := by
  have H1 := Lib.hid (fun W => both0 s h i s' h' i' W)
  have H2 := Lib.hid (fun k d wk hd W => ecan0 s h i k d wk hd W)
  have b1 := Lib.hid (((Bk.fresh w 76 #[.int .u32 s, .int .i64 h, .int .u32 i, .slice none 0 0]).alloc (.cells #[.int .u32 s', .int .i64 h', .int .u32 i', .slice none 0 0] 76)).alloc (.cells #[.bool false, .bool false, .bool false, .bool false, .bool false, .bool false] 52))
  have b2 := Lib.hid ((Bk.second w (.cells #[.int .u32 s, .int .i64 h, .int .u32 i, .slice none 0 0] 76) 76 #[.int .u32 s', .int .i64 h', .int .u32 i', .slice none 0 0]).alloc (.cells #[.bool false, .bool false, .bool false, .bool false, .bool false, .bool false] 52))
  have b3 := Lib.hid (Bk.third w (.cells #[.int .u32 s, .int .i64 h, .int .u32 i, .slice none 0 0] 76) (.cells #[.int .u32 s', .int .i64 h', .int .u32 i', .slice none 0 0] 76) 52 #[.bool false, .bool false, .bool false, .bool false, .bool false, .bool false])
  have K0 := Lib.hid ((((Kp.refl NoB w).alloc (.cells #[.int .u32 s, .int .i64 h, .int .u32 i, .slice none 0 0] 76)).alloc (.cells #[.int .u32 s', .int .i64 h', .int .u32 i', .slice none 0 0] 76)).alloc (.cells #[.bool false, .bool false, .bool false, .bool false, .bool false, .bool false] 52))
  unfold o0 at *
  unfold ev at *
  obtain ⟨x1, x2, x3, x4, x5, x6, x7, x8, x9⟩ := b1.out.four
  obtain ⟨y1, y2, y3, y4, y5, y6, y7, y8, y9⟩ := b2.out.four
  go_enter Tryd.func30, Tryd.ntmps30
  go_wp2_with fail
  refine (H1.out _).mono ?_
  rintro e w1 ⟨rfl, hK1⟩
  have k1 := Lib.hid (K0.out.and hK1)
  have c1 := Lib.hid (b1.out.and hK1)
  have c3 := Lib.hid (b3.out.and hK1)
  clear hK1 x1 x2 x3 x4 x5 x6 x7 x8 x9 y1 y2 y3 y4 y5 y6 y7 y8 y9
  have hlt : w.heap.size < w1.heap.size := c1.out.lt
  have hlt3 : w.heap.size + 1 + 1 < w1.heap.size := c3.out.lt
  obtain ⟨x1, x2, x3, x4, x5, x6, x7, x8, x9⟩ := c1.out.four
  have hne : w.heap.size ≠ w1.heap.size := by omega
  go_wp2_with fail
  refine (H2.out 1 2 (by decide) (by decide) _).mono ?_
  rintro e w2 ⟨rfl, hK2⟩
  have d1 := Lib.hid ((c1.out.alloc (.cells #[.bool false, .bool false, .bool false, .bool false, .bool false, .bool false] 52)).and hK2)
  have d3 := Lib.hid ((c3.out.alloc (.cells #[.bool false, .bool false, .bool false, .bool false, .bool false, .bool false] 52)).and hK2)
  have d4 := Lib.hid ((Bk.fresh w1 52 #[.bool false, .bool false, .bool false, .bool false, .bool false, .bool false]).and hK2)
  have k2 := Lib.hid ((k1.out.alloc (.cells #[.bool false, .bool false, .bool false, .bool false, .bool false, .bool false] 52)).and hK2)
  clear hK2 x1 x2 x3 x4 x5 x6 x7 x8 x9
  obtain ⟨⟨q0, q1, q2, q3, q4, q5⟩, ⟨p0, p1, p2, p3, p4, p5⟩, hl4⟩ := d4.out.six
  obtain ⟨⟨r0, r1, r2, r3, r4, r5⟩, ⟨t0, t1, t2, t3, t4, t5⟩, hl3⟩ := d3.out.six
  have hn34 : w.heap.size + 1 + 1 ≠ w1.heap.size := by omega
  have hn43 : w1.heap.size ≠ w.heap.size + 1 + 1 := by omega
  go_wp2
  have hb3 : w.heap.size ≤ w.heap.size + 1 + 1 := by omega
  refine bodyPost_ret (v := .agg #[.bool false, .bool false, .bool false, .bool false, .bool false, .bool false]) (by simp [results, Tryd.results30, go_sem, *]) rfl ⟨rfl, (by repeat (first | with_reducible exact k2.out | with_reducible refine Kp.setCell ?_ (fun hq => by simp at hq; omega) _))⟩

theorem hold0 (s h i s' h' i' : Int) (w : World) : Calls Tryd.prog 26 #[ev s h i, ev s' h' i'] w (Stay (.int .i64 (min h h')) w) := by
  unfold ev
  go_enter Tryd.func26, Tryd.ntmps26
  go_wp2
  go_ret
  exact ⟨rfl, ((Kp.refl NoB w).alloc _).alloc _⟩

theorem optext0 (w : World) : Calls Tryd.prog 20 #[o0] w (Stay (.string ⟨#[45]⟩) w) := by
  unfold o0
  go_enter Tryd.func20, Tryd.ntmps20
  go_wp2
  go_ret
  exact ⟨rfl, (Kp.refl NoB w).alloc _⟩

set_option maxRecDepth 100000 in
set_option maxHeartbeats 4000000 in
theorem between0 (s h i s' h' i' : Int) (w : World) : Calls Tryd.prog 25 #[ev s h i, ev s' h' i'] w (Stay (.tuple #[o0, o0]) w) := by
  have H1 := Lib.hid (fun W => one0 s h i s' h' i' W)
  have H2 := Lib.hid (fun W => one0 s' h' i' s h i W)
  have b1 := Lib.hid (((Bk.fresh w 30 #[.int .u32 s, .int .i64 h, .int .u32 i, .slice none 0 0]).alloc (.cells #[.int .u32 s', .int .i64 h', .int .u32 i', .slice none 0 0] 30)).alloc (.cells #[.bool false, .bool false, .bool false, .bool false, .bool false, .bool false] 52) |>.alloc (.cells #[.bool false, .bool false, .bool false, .bool false, .bool false, .bool false] 52))
  have b2 := Lib.hid (((Bk.second w (.cells #[.int .u32 s, .int .i64 h, .int .u32 i, .slice none 0 0] 30) 30 #[.int .u32 s', .int .i64 h', .int .u32 i', .slice none 0 0]).alloc (.cells #[.bool false, .bool false, .bool false, .bool false, .bool false, .bool false] 52)).alloc (.cells #[.bool false, .bool false, .bool false, .bool false, .bool false, .bool false] 52))
  have b3 := Lib.hid ((Bk.third w (.cells #[.int .u32 s, .int .i64 h, .int .u32 i, .slice none 0 0] 30) (.cells #[.int .u32 s', .int .i64 h', .int .u32 i', .slice none 0 0] 30) 52 #[.bool false, .bool false, .bool false, .bool false, .bool false, .bool false]).alloc (.cells #[.bool false, .bool false, .bool false, .bool false, .bool false, .bool false] 52))
  have b4 : Hid (Bk ((((w.alloc (.cells #[.int .u32 s, .int .i64 h, .int .u32 i, .slice none 0 0] 30)).alloc (.cells #[.int .u32 s', .int .i64 h', .int .u32 i', .slice none 0 0] 30)).alloc (.cells #[.bool false, .bool false, .bool false, .bool false, .bool false, .bool false] 52)).alloc (.cells #[.bool false, .bool false, .bool false, .bool false, .bool false, .bool false] 52)) (w.heap.size + 1 + 1 + 1) 52 #[.bool false, .bool false, .bool false, .bool false, .bool false, .bool false]) := Lib.hid (by
    have := Bk.fresh (((w.alloc (.cells #[.int .u32 s, .int .i64 h, .int .u32 i, .slice none 0 0] 30)).alloc (.cells #[.int .u32 s', .int .i64 h', .int .u32 i', .slice none 0 0] 30)).alloc (.cells #[.bool false, .bool false, .bool false, .bool false, .bool false, .bool false] 52)) 52 #[.bool false, .bool false, .bool false, .bool false, .bool false, .bool false]
    rw [World.size_alloc, World.size_alloc, World.size_alloc] at this
    exact this)
  have K0 := Lib.hid (((((Kp.refl NoB w).alloc (.cells #[.int .u32 s, .int .i64 h, .int .u32 i, .slice none 0 0] 30)).alloc (.cells #[.int .u32 s', .int .i64 h', .int .u32 i', .slice none 0 0] 30)).alloc (.cells #[.bool false, .bool false, .bool false, .bool false, .bool false, .bool false] 52)).alloc (.cells #[.bool false, .bool false, .bool false, .bool false, .bool false, .bool false] 52))
  unfold o0 at *
  unfold ev at *
  obtain ⟨x1, x2, x3, x4, x5, x6, x7, x8, x9⟩ := b1.out.four
  obtain ⟨y1, y2, y3, y4, y5, y6, y7, y8, y9⟩ := b2.out.four
  go_enter Tryd.func25, Tryd.ntmps25
  go_upto_region 1 with fail
  go_region_held3 (fun w' => w'.cell? ⟨w.heap.size, 0, none⟩ = some (.int .u32 s) ∧ w'.cell? ⟨w.heap.size, 1, none⟩ = some (.int .i64 h) ∧ w'.cell? ⟨w.heap.size, 2, none⟩ = some (.int .u32 i) ∧ w'.cell? ⟨w.heap.size, 3, none⟩ = some (.slice none 0 0) ∧ w'.cell? ⟨w.heap.size + 1, 0, none⟩ = some (.int .u32 s') ∧ w'.cell? ⟨w.heap.size + 1, 1, none⟩ = some (.int .i64 h') ∧ w'.cell? ⟨w.heap.size + 1, 2, none⟩ = some (.int .u32 i') ∧ w'.cell? ⟨w.heap.size + 1, 3, none⟩ = some (.slice none 0 0)) ((try dsimp only) <;> (repeat' with_reducible apply And.intro) <;> (repeat' (first | with_reducible assumption | with_reducible refine cell_far ?_ ?_ | with_reducible refine cell_drew ?_ | omega)))
    (first
      | (go_at_call 30; (with_reducible refine Calls.mono (H2.out _) ?_); rintro e w2 ⟨rfl, hK2⟩; have k2 := Lib.hid (k1.out.and hK2); have c1 := Lib.hid (a1.out.and hK2); have c2 := Lib.hid (a2.out.and hK2); have c3 := Lib.hid (a3.out.and hK2); have c4 := Lib.hid (a4.out.and hK2); clear hK2 x1 x2 x3 x4 x5 x6 x7 x8 x9 y1 y2 y3 y4 y5 y6 y7 y8 y9; obtain ⟨x1, x2, x3, x4, x5, x6, x7, x8, x9⟩ := c1.out.four; obtain ⟨y1, y2, y3, y4, y5, y6, y7, y8, y9⟩ := c2.out.four; obtain ⟨⟨q0, q1, q2, q3, q4, q5⟩, ⟨p0, p1, p2, p3, p4, p5⟩, hl3⟩ := c3.out.six; obtain ⟨⟨r0, r1, r2, r3, r4, r5⟩, ⟨t0, t1, t2, t3, t4, t5⟩, hl4⟩ := c4.out.six)
      | (go_at_call 30; (with_reducible refine Calls.mono (H1.out _) ?_); rintro e w1 ⟨rfl, hK1⟩; have k1 := Lib.hid (K0.out.drew.and hK1); have a1 := Lib.hid ((b1.out.drewN 1).and hK1); have a2 := Lib.hid ((b2.out.drewN 1).and hK1); have a3 := Lib.hid ((b3.out.drewN 1).and hK1); have a4 := Lib.hid ((b4.out.drewN 1).and hK1); clear hK1 x1 x2 x3 x4 x5 x6 x7 x8 x9 y1 y2 y3 y4 y5 y6 y7 y8 y9; obtain ⟨x1, x2, x3, x4, x5, x6, x7, x8, x9⟩ := a1.out.four; obtain ⟨y1, y2, y3, y4, y5, y6, y7, y8, y9⟩ := a2.out.four))
  go_wp2_with fail
  refine bodyPost_ret (v := .tuple #[.agg #[.bool false, .bool false, .bool false, .bool false, .bool false, .bool false], .agg #[.bool false, .bool false, .bool false, .bool false, .bool false, .bool false]]) (by simp [results, Tryd.results25, go_sem, *]) rfl ⟨rfl, (by repeat (first | with_reducible exact k2.out | with_reducible refine Kp.setCell ?_ (fun hq => by simp at hq; omega) _))⟩

/-- A session without options. -/
def se (h : Int) : Value := .agg #[.bool false, .bool false, .bool false, .bool false, .bool false, .bool false, .bool false, .bool false, .bool false, .bool false, .bool false, .bool false, .int .i64 h]

set_option maxRecDepth 100000 in
set_option maxHeartbeats 4000000 in
theorem of0 (s h i s' h' i' : Int) (w : World) : Calls Tryd.prog 19 #[ev s h i, ev s' h' i'] w (Stay (se (min h h')) w) := by
  have H1 := Lib.hid (fun W => between0 s h i s' h' i' W)
  have H2 := Lib.hid (fun W => hold0 s h i s' h' i' W)
  have b1 := Lib.hid (((Bk.fresh w 30 #[.int .u32 s, .int .i64 h, .int .u32 i, .slice none 0 0]).alloc (.cells #[.int .u32 s', .int .i64 h', .int .u32 i', .slice none 0 0] 30)).alloc (.cells #[.bool false, .bool false, .bool false, .bool false, .bool false, .bool false, .bool false, .bool false, .bool false, .bool false, .bool false, .bool false, .int .i64 0] 54))
  have b2 := Lib.hid ((Bk.second w (.cells #[.int .u32 s, .int .i64 h, .int .u32 i, .slice none 0 0] 30) 30 #[.int .u32 s', .int .i64 h', .int .u32 i', .slice none 0 0]).alloc (.cells #[.bool false, .bool false, .bool false, .bool false, .bool false, .bool false, .bool false, .bool false, .bool false, .bool false, .bool false, .bool false, .int .i64 0] 54))
  have b3 := Lib.hid (Bk.third w (.cells #[.int .u32 s, .int .i64 h, .int .u32 i, .slice none 0 0] 30) (.cells #[.int .u32 s', .int .i64 h', .int .u32 i', .slice none 0 0] 30) 54 #[.bool false, .bool false, .bool false, .bool false, .bool false, .bool false, .bool false, .bool false, .bool false, .bool false, .bool false, .bool false, .int .i64 0])
  have K0 := Lib.hid ((((Kp.refl NoB w).alloc (.cells #[.int .u32 s, .int .i64 h, .int .u32 i, .slice none 0 0] 30)).alloc (.cells #[.int .u32 s', .int .i64 h', .int .u32 i', .slice none 0 0] 30)).alloc (.cells #[.bool false, .bool false, .bool false, .bool false, .bool false, .bool false, .bool false, .bool false, .bool false, .bool false, .bool false, .bool false, .int .i64 0] 54))
  unfold o0 at *
  unfold ev at *
  unfold se
  go_enter Tryd.func19, Tryd.ntmps19
  go_wp2_with fail
  refine (H1.out _).mono ?_
  rintro e w1 ⟨rfl, hK1⟩
  have hkz : Kp NoB w1 ((w1.alloc (.cells #[.bool false, .bool false, .bool false, .bool false, .bool false, .bool false] 52)).alloc (.cells #[.bool false, .bool false, .bool false, .bool false, .bool false, .bool false] 52)) := ((Kp.refl _ _).alloc _).alloc _
  have k1 := Lib.hid ((K0.out.and hK1).and hkz)
  have a1 := Lib.hid ((b1.out.and hK1).and hkz)
  have a2 := Lib.hid ((b2.out.and hK1).and hkz)
  have a3 := Lib.hid ((b3.out.and hK1).and hkz)
  have a4 := Lib.hid ((Bk.fresh w1 52 #[.bool false, .bool false, .bool false, .bool false, .bool false, .bool false]).alloc (.cells #[.bool false, .bool false, .bool false, .bool false, .bool false, .bool false] 52))
  have a5 := Lib.hid (Bk.second w1 (.cells #[.bool false, .bool false, .bool false, .bool false, .bool false, .bool false] 52) 52 #[.bool false, .bool false, .bool false, .bool false, .bool false, .bool false])
  have g1 : w.heap.size < w1.heap.size := (b1.out.and hK1).lt
  have g2 : w.heap.size + 1 < w1.heap.size := (b2.out.and hK1).lt
  have g3 : w.heap.size + 1 + 1 < w1.heap.size := (b3.out.and hK1).lt
  clear hK1
  go_upto_region 2 with fail
  obtain ⟨W2, hW2⟩ : ∃ W2, (w1.alloc (.cells #[.bool false, .bool false, .bool false, .bool false, .bool false, .bool false] 52)).alloc (.cells #[.bool false, .bool false, .bool false, .bool false, .bool false, .bool false] 52) = W2 := ⟨_, rfl⟩
  rw [hW2] at k1 a1 a2 a3 a4 a5 ⊢
  clear hW2 hkz
  obtain ⟨x1, x2, x3, x4, -⟩ := a1.out.four
  obtain ⟨y1, y2, y3, y4, -⟩ := a2.out.four
  obtain ⟨⟨q0, q1, q2, q3, q4, q5⟩, -⟩ := a4.out.six
  obtain ⟨⟨p0, p1, p2, p3, p4, p5⟩, -⟩ := a5.out.six
  go_region_held3 (fun w' => w'.cell? ⟨w.heap.size, 0, none⟩ = some (.int .u32 s) ∧ w'.cell? ⟨w.heap.size, 1, none⟩ = some (.int .i64 h) ∧ w'.cell? ⟨w.heap.size, 2, none⟩ = some (.int .u32 i) ∧ w'.cell? ⟨w.heap.size, 3, none⟩ = some (.slice none 0 0) ∧ w'.cell? ⟨w.heap.size + 1, 0, none⟩ = some (.int .u32 s') ∧ w'.cell? ⟨w.heap.size + 1, 1, none⟩ = some (.int .i64 h') ∧ w'.cell? ⟨w.heap.size + 1, 2, none⟩ = some (.int .u32 i') ∧ w'.cell? ⟨w.heap.size + 1, 3, none⟩ = some (.slice none 0 0) ∧ w'.cell? ⟨w1.heap.size, 0, none⟩ = some (.bool false) ∧ w'.cell? ⟨w1.heap.size, 1, none⟩ = some (.bool false) ∧ w'.cell? ⟨w1.heap.size, 2, none⟩ = some (.bool false) ∧ w'.cell? ⟨w1.heap.size, 3, none⟩ = some (.bool false) ∧ w'.cell? ⟨w1.heap.size, 4, none⟩ = some (.bool false) ∧ w'.cell? ⟨w1.heap.size, 5, none⟩ = some (.bool false) ∧ w'.cell? ⟨w1.heap.size + 1, 0, none⟩ = some (.bool false) ∧ w'.cell? ⟨w1.heap.size + 1, 1, none⟩ = some (.bool false) ∧ w'.cell? ⟨w1.heap.size + 1, 2, none⟩ = some (.bool false) ∧ w'.cell? ⟨w1.heap.size + 1, 3, none⟩ = some (.bool false) ∧ w'.cell? ⟨w1.heap.size + 1, 4, none⟩ = some (.bool false) ∧ w'.cell? ⟨w1.heap.size + 1, 5, none⟩ = some (.bool false)) ((try dsimp only) <;> (repeat' with_reducible apply And.intro) <;> (repeat' (first | with_reducible assumption | with_reducible refine cell_far ?_ ?_ | with_reducible refine cell_drew ?_ | omega)))
    (first
      | (go_at_call 26; (with_reducible refine Calls.mono (H2.out _) ?_); rintro e w2 ⟨rfl, hK2⟩; have k2 := Lib.hid (k1.out.drew.and hK2); have c1 := Lib.hid ((a1.out.drewN 1).and hK2); have c2 := Lib.hid ((a2.out.drewN 1).and hK2); have c3 := Lib.hid ((a3.out.drewN 1).and hK2); have c4 := Lib.hid ((a4.out.drewN 1).and hK2); have c5 := Lib.hid ((a5.out.drewN 1).and hK2); clear hK2 x1 x2 x3 x4 y1 y2 y3 y4 q0 q1 q2 q3 q4 q5 p0 p1 p2 p3 p4 p5; obtain ⟨x1, x2, x3, x4, -⟩ := c1.out.four; obtain ⟨y1, y2, y3, y4, -⟩ := c2.out.four; obtain ⟨⟨q0, q1, q2, q3, q4, q5⟩, -⟩ := c4.out.six; obtain ⟨⟨p0, p1, p2, p3, p4, p5⟩, -⟩ := c5.out.six; have r0 := c3.out.cell 0; have f0 := c3.out.frozen 0; have r1 := c3.out.cell 1; have f1 := c3.out.frozen 1; have r2 := c3.out.cell 2; have f2 := c3.out.frozen 2; have r3 := c3.out.cell 3; have f3 := c3.out.frozen 3; have r4 := c3.out.cell 4; have f4 := c3.out.frozen 4; have r5 := c3.out.cell 5; have f5 := c3.out.frozen 5; have r6 := c3.out.cell 6; have f6 := c3.out.frozen 6; have r7 := c3.out.cell 7; have f7 := c3.out.frozen 7; have r8 := c3.out.cell 8; have f8 := c3.out.frozen 8; have r9 := c3.out.cell 9; have f9 := c3.out.frozen 9; have r10 := c3.out.cell 10; have f10 := c3.out.frozen 10; have r11 := c3.out.cell 11; have f11 := c3.out.frozen 11; have r12 := c3.out.cell 12; have f12 := c3.out.frozen 12))
  go_wp2_with fail
  refine bodyPost_ret (v := .agg #[.bool false, .bool false, .bool false, .bool false, .bool false, .bool false, .bool false, .bool false, .bool false, .bool false, .bool false, .bool false, .int .i64 (min h h')]) (by simp [results, Tryd.results19, go_sem, *]) rfl ⟨rfl, (by repeat (first | with_reducible exact k2.out | with_reducible refine Kp.setCell ?_ (fun hq => by simp at hq; omega) _))⟩

theorem cat_add (x y : List UInt8) (hx : x.length ≤ 100) (hy : y.length ≤ 100) (W : World) : (Op.stringOp .add (ba x) (ba y)).run Tryd.prog W = .ok (.string (ba (x ++ y))) W := by
  rw [run_string_add_sum W _ _ (by rw [ba_size, ba_size]; omega), ba_app]

theorem sess_cells {W : World} {b : Nat} (h : Bk W b 54 #[.bool false, .bool false, .bool false, .bool false, .bool false, .bool false, .bool false, .bool false, .bool false, .bool false, .bool false, .bool false, .int .i64 30]) : W.cell? ⟨b, 0, none⟩ = some (.bool false) ∧ W.cell? ⟨b, 1, none⟩ = some (.bool false) ∧ W.cell? ⟨b, 2, none⟩ = some (.bool false) ∧ W.cell? ⟨b, 3, none⟩ = some (.bool false) ∧ W.cell? ⟨b, 4, none⟩ = some (.bool false) ∧ W.cell? ⟨b, 5, none⟩ = some (.bool false) ∧ W.cell? ⟨b, 6, none⟩ = some (.bool false) ∧ W.cell? ⟨b, 7, none⟩ = some (.bool false) ∧ W.cell? ⟨b, 8, none⟩ = some (.bool false) ∧ W.cell? ⟨b, 9, none⟩ = some (.bool false) ∧ W.cell? ⟨b, 10, none⟩ = some (.bool false) ∧ W.cell? ⟨b, 11, none⟩ = some (.bool false) ∧ W.cell? ⟨b, 12, none⟩ = some (.int .i64 30) :=
  ⟨h.cell 0, h.cell 1, h.cell 2, h.cell 3, h.cell 4, h.cell 5, h.cell 6, h.cell 7, h.cell 8, h.cell 9, h.cell 10, h.cell 11, h.cell 12⟩

set_option maxRecDepth 100000 in
set_option maxHeartbeats 4000000 in
theorem text0 (w : World) : Calls Tryd.prog 12 #[ev 1 90 1, ev 1 30 1] w (Stay (.string ⟨#[45, 47, 32, 45, 47, 32, 104, 111, 108, 100, 32, 51, 48]⟩) w) := by
  have H1 := Lib.hid (fun W => of0 1 90 1 1 30 1 W)
  rw [show min (90 : Int) 30 = 30 by decide] at H1
  have H2 := Lib.hid optext0
  have H3 := Lib.hid (fun W => Tryd.strconv_Itoa_small 30 (by decide) W)
  have e30 : (⟨(Lib.decDigits 30).toArray⟩ : ByteArray) = ⟨#[51, 48]⟩ := by decide +kernel
  rw [e30] at H3
  clear e30
  have q1 := cat_add [45] [47, 32] (by decide) (by decide)
  have q2 := cat_add ([45] ++ [47, 32]) [45] (by decide) (by decide)
  have q3 := cat_add ([45] ++ [47, 32] ++ [45]) [47, 32, 104, 111, 108, 100, 32] (by decide) (by decide)
  have q4 := cat_add ([45] ++ [47, 32] ++ [45] ++ [47, 32, 104, 111, 108, 100, 32]) [51, 48] (by decide) (by decide)
  simp only [ba, List.cons_append, List.nil_append] at q1 q2 q3 q4
  unfold o0 at *
  unfold ev se at *
  go_enter Tryd.func12, Tryd.ntmps12
  go_wp2_with fail
  refine (H1.out _).mono ?_
  rintro e w1 ⟨rfl, hK1⟩
  have k1 := Lib.hid (((((Kp.refl NoB w).alloc _).alloc _).and hK1).alloc (.cells #[.bool false, .bool false, .bool false, .bool false, .bool false, .bool false, .bool false, .bool false, .bool false, .bool false, .bool false, .bool false, .int .i64 30] 54))
  have b1 := Lib.hid (Bk.fresh w1 54 #[.bool false, .bool false, .bool false, .bool false, .bool false, .bool false, .bool false, .bool false, .bool false, .bool false, .bool false, .bool false, .int .i64 30])
  clear hK1
  go_upto_region 2 with fail
  obtain ⟨W2, hW2⟩ : ∃ W2, w1.alloc (.cells #[.bool false, .bool false, .bool false, .bool false, .bool false, .bool false, .bool false, .bool false, .bool false, .bool false, .bool false, .bool false, .int .i64 30] 54) = W2 := ⟨_, rfl⟩
  rw [hW2] at k1 b1 ⊢
  clear hW2
  obtain ⟨x0, x1, x2, x3, x4, x5, x6, x7, x8, x9, x10, x11, x12⟩ := sess_cells b1.out
  go_region_held3 (fun w' => w'.cell? ⟨w1.heap.size, 0, none⟩ = some (.bool false) ∧ w'.cell? ⟨w1.heap.size, 1, none⟩ = some (.bool false) ∧ w'.cell? ⟨w1.heap.size, 2, none⟩ = some (.bool false) ∧ w'.cell? ⟨w1.heap.size, 3, none⟩ = some (.bool false) ∧ w'.cell? ⟨w1.heap.size, 4, none⟩ = some (.bool false) ∧ w'.cell? ⟨w1.heap.size, 5, none⟩ = some (.bool false) ∧ w'.cell? ⟨w1.heap.size, 6, none⟩ = some (.bool false) ∧ w'.cell? ⟨w1.heap.size, 7, none⟩ = some (.bool false) ∧ w'.cell? ⟨w1.heap.size, 8, none⟩ = some (.bool false) ∧ w'.cell? ⟨w1.heap.size, 9, none⟩ = some (.bool false) ∧ w'.cell? ⟨w1.heap.size, 10, none⟩ = some (.bool false) ∧ w'.cell? ⟨w1.heap.size, 11, none⟩ = some (.bool false) ∧ w'.cell? ⟨w1.heap.size, 12, none⟩ = some (.int .i64 30)) ((try dsimp only) <;> (repeat' with_reducible apply And.intro) <;> (repeat' (first | with_reducible assumption | with_reducible refine cell_far ?_ ?_ | with_reducible refine cell_drew ?_ | omega)))
    (first
      | (go_at_call 21; (with_reducible refine Calls.mono (H3.out _) ?_); rintro e w4 ⟨rfl, hw4⟩; replace hw4 := hw4.symm; subst hw4; have k4 := k3)
      | (go_at_call 20; (with_reducible refine Calls.mono (H2.out _) ?_); rintro e w3 ⟨rfl, hK3⟩; have k3 := Lib.hid (k2.out.and hK3); have b3 := Lib.hid (b2.out.and hK3); clear hK3 x0 x1 x2 x3 x4 x5 x6 x7 x8 x9 x10 x11 x12; obtain ⟨x0, x1, x2, x3, x4, x5, x6, x7, x8, x9, x10, x11, x12⟩ := sess_cells b3.out)
      | (go_at_call 20; (with_reducible refine Calls.mono (H2.out _) ?_); rintro e w2 ⟨rfl, hK2⟩; have k2 := Lib.hid (k1.out.drew.and hK2); have b2 := Lib.hid ((b1.out.drewN 1).and hK2); clear hK2 x0 x1 x2 x3 x4 x5 x6 x7 x8 x9 x10 x11 x12; obtain ⟨x0, x1, x2, x3, x4, x5, x6, x7, x8, x9, x10, x11, x12⟩ := sess_cells b2.out))
  go_wp2_with fail
  go_ret
  exact ⟨rfl, k4.out⟩

theorem walive_any (w : World) : Calls Tryd.prog 5 #[] w (Stay (.bool true) w) := by
  have H1 := Lib.hid text0
  unfold ev at H1
  go_enter Tryd.func5, Tryd.ntmps5
  go_wp2_with (go_at_call 12; refine (H1.out _).mono ?_; rintro e w1 ⟨rfl, hK⟩; replace hK := Lib.hid hK)
  go_ret
  exact ⟨rfl, hK.out⟩

end Go.Proofs.YtjcmgfegnngjjaaDoor
