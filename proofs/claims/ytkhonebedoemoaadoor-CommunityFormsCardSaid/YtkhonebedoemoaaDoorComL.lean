/- Package community: Has. No condition but the bounds that arguments have. -/
import Derived.Test.YtkhonebedoemoaaDoorComK
namespace Go.Proofs.YtkhonebedoemoaaDoor
open Go.RowKit Go.Shelf
set_option linter.unusedVariables false
set_option linter.unusedSimpArgs false
attribute [local go_sem] Oper.semAt_some

theorem eq_three (a b c d e f : Int) (w : World) : (Op.equalIn 10000 48 (.agg #[.int .u32 a, .int .u32 b, .int .u32 c]) (.agg #[.int .u32 d, .int .u32 e, .int .u32 f])).run Tryd.prog w = .ok (decide (a = d ∧ b = e ∧ c = f)) w := by
  have h := run_equalIn_row32 (P := Tryd.prog) w 9998 48 22 3 Tryd.underlying48 Tryd.underlying22 (fun w => by kernel_rfl) [a, b, c] [d, e, f] rfl rfl
  have e : decide ([a, b, c] = [d, e, f]) = decide (a = d ∧ b = e ∧ c = f) := by simp
  rw [e] at h
  exact h
/-- Two groups' arrays and lengths tell them apart. -/
theorem grp_eq {l ys : List Int} {g : Nat} (hl : l.length = g) (hg : g ≤ 3) : (((l.take 3).getD 0 0 = (ys.take 3).getD 0 0 ∧ (l.take 3).getD 1 0 = (ys.take 3).getD 1 0 ∧ (l.take 3).getD 2 0 = (ys.take 3).getD 2 0) ∧ min 3 l.length = ys.length) ↔ l = ys := by
  constructor
  · rintro ⟨⟨h0, h1, h2⟩, h3⟩
    have hy : ys.length ≤ 3 := by omega
    match l, ys, hy with
    | [], [], _ => rfl
    | [x], [y], _ => simp at h0; simp [h0]
    | [x, x'], [y, y'], _ => simp at h0 h1; simp [h0, h1]
    | [x, x', x''], [y, y', y''], _ => simp at h0 h1 h2; simp [h0, h1, h2]
    | [], _ :: _, _ => simp at h3
    | [_], [], _ => simp at h3
    | [_], _ :: _ :: _, _ => simp at h3
    | [_, _], [], _ => simp at h3
    | [_, _], [_], _ => simp at h3
    | [_, _], _ :: _ :: _ :: _, _ => simp at h3
    | [_, _, _], [], _ => simp at h3
    | [_, _, _], [_], _ => simp at h3
    | [_, _, _], [_, _], _ => simp at h3
    | [_, _, _], _ :: _ :: _ :: _ :: _, h => simp at h
    | _ :: _ :: _ :: _ :: _, _, _ => simp at hl; omega
  · rintro rfl
    refine ⟨⟨rfl, rfl, rfl⟩, by omega⟩

/-- A group's cells. -/
def gcs (l : List Int) : Array Value := #[.int .u32 ((l.take 3).getD 0 0), .int .u32 ((l.take 3).getD 1 0), .int .u32 ((l.take 3).getD 2 0), .int .i64 (min 3 l.length : Nat)]
theorem grpV_eq (l : List Int) : grpV l = .agg (gcs l) := rfl
theorem gcs_ex (l : List Int) : ∃ g0 g1 g2 gk, gcs l = #[.int .u32 g0, .int .u32 g1, .int .u32 g2, .int .i64 (gk : Nat)] ∧ g0 = (l.take 3).getD 0 0 ∧ g1 = (l.take 3).getD 1 0 ∧ g2 = (l.take 3).getD 2 0 ∧ gk = min 3 l.length := ⟨_, _, _, _, rfl, rfl, rfl, rfl, rfl⟩
theorem kp_own {β : Type} {B : Nat} {w : World} (h : w.heap.size ≤ B) : OwnFrom B (fun (_ : β) W => Kp NoB w W) := fun s X Y row hs hg hr => hs.grown hg (fun b e => .inl (by have := (hr b e).1; omega))
theorem numG_pos {z : AtI} {j : Nat} (h : j < numG z) : validC z = true ∧ numG z = z.ln / grp z.t ∧ 0 < grp z.t ∧ (j + 1) * grp z.t ≤ z.ln := by
  unfold numG at h ⊢
  split at h
  · rename_i hv
    have hv' := hv
    unfold validC at hv'
    simp only [Bool.and_eq_true, decide_eq_true_eq] at hv'
    refine ⟨hv, by rw [if_pos hv], hv'.1.1.1, ?_⟩
    calc (j + 1) * grp z.t ≤ (z.ln / grp z.t) * grp z.t := Nat.mul_le_mul_right _ h
      _ ≤ z.ln := Nat.div_mul_le_self _ _
  · omega

set_option maxRecDepth 100000 in
set_option maxHeartbeats 8000000 in
theorem chas_any (z : AtI) (ok : z.Ok) (xs ys : List Int) (A : Option Addr) (c : Nat) (w : World) (hx : InUs w z.L z.ln z.lc xs) (hy : Arr w A (us ys)) (hl : z.ln ≤ 100000) (hl2 : ys.length ≤ 100000) :
    Calls Tryd.prog 11 #[z.val, .slice A ys.length c] w (Stay (.bool (validC z && hasL (grp z.t) xs ys)) w) := by
  have HOF := Lib.hid (fun W (k : Kp NoB w W) => of_any A c ys W (hy.and k) hl2)
  have HGS := Lib.hid (fun W => groups_any z W)
  have HR := Lib.hid (fun (w1 : World) (k : Kp NoB w w1) Ba hBa S q1 q2 q3 => groups1_rounds z ok xs w1 (hx.and k) hl Ba hBa S q1 q2 q3)
  have HD := Lib.hid (fun ad (e : z.L = some ad) (hn : 0 < z.ln) => hx.2.2.2.1.lt (by intro h; have := congrArg List.length h; simp [us, hx.1] at this; omega) ad e)
  obtain ⟨m, hm⟩ : ∃ m, ys.length = m := ⟨_, rfl⟩
  have HM := Lib.hid hm
  rw [hm] at HOF ⊢
  have HX := Lib.hid hx
  clear hx hy hm
  unfold AtI.val at HGS ⊢
  unfold AtI.cs at HGS ⊢
  obtain ⟨q0, hq0⟩ : ∃ q, (ys.take 3).getD 0 0 = q := ⟨_, rfl⟩
  obtain ⟨q1, hq1⟩ : ∃ q, (ys.take 3).getD 1 0 = q := ⟨_, rfl⟩
  obtain ⟨q2, hq2⟩ : ∃ q, (ys.take 3).getD 2 0 = q := ⟨_, rfl⟩
  obtain ⟨q3, hq3⟩ : ∃ q, min 3 ys.length = q := ⟨_, rfl⟩
  unfold grpV at HOF
  rw [hq0, hq1, hq2, hq3] at HOF
  have HQ0 := Lib.hid hq0
  have HQ1 := Lib.hid hq1
  have HQ2 := Lib.hid hq2
  clear hq0 hq1 hq2 hq3
  refine (callsIn_wide (n := 4)).1 ?_
  refine callsIn_of_wp_marks Tryd.func11 rfl trivial ?_ rfl
  simp only [Tryd.ntmps11, List.size_toArray, List.length_cons, List.length_nil, Nat.reduceAdd, Nat.reduceSub, Array.replicate_succ, Array.replicate_zero, List.push_toArray, List.append_toArray, List.nil_append, List.cons_append]
  have HB0 := Lib.hid (((Bk.fresh w 28 z.cs).alloc (.cells #[.slice A m c] 24)).alloc (.cells #[.bool false] 4))
  have HB1 := Lib.hid ((Bk.second w (.cells z.cs 28) 24 #[.slice A m c]).alloc (.cells #[.bool false] 4))
  have HB2 := Lib.hid (Bk.third w (.cells z.cs 28) (.cells #[.slice A m c] 24) 4 #[.bool false])
  have HK0 := Lib.hid ((((Kp.refl NoB w).alloc (.cells z.cs 28)).alloc (.cells #[.slice A m c] 24)).alloc (.cells #[.bool false] 4))
  unfold AtI.cs at HB0 HB1 HB2 HK0
  gi_wp2_with (first
    | (refine ⟨trivial, ?_⟩; gi_at_call 30; refine (callsIn_wide.2 (HOF.out _ HK0.out)).mono ?_; rintro e w1 ⟨rfl, hK⟩; obtain ⟨x0, x1, x2, x3, x4, x5, x6, x7, x8⟩ := Bk.attr (z := z) ((HB0.out.and hK).alloc (.cells #[.int .u32 q0, .int .u32 q1, .int .u32 q2, .int .i64 q3] 50)); have hk1 := Lib.hid (HK0.out.and hK); have hb1 := Lib.hid (HB1.out.and hK); have hb2 := Lib.hid (HB2.out.and hK); have hs1 := hK.size; simp only [World.size_alloc] at hs1; clear hK)
    | (refine ⟨trivial, ?_⟩; gi_at_call 31; refine (callsIn_wide.2 (HGS.out _)).mono ?_; rintro e w2 ⟨rfl, hBg, hK⟩; have hbw : Hid (Bk w2 w1.heap.size 50 #[.int .u32 q0, .int .u32 q1, .int .u32 q2, .int .i64 q3]) := Lib.hid ((Bk.fresh w1 _ _).and hK); have hk2 := Lib.hid ((hk1.out.alloc _).and hK); replace hb1 := Lib.hid ((hb1.out.alloc _).and hK); replace hb2 := Lib.hid ((hb2.out.alloc _).and hK); have hs2 := hK.size; simp only [World.size_alloc] at hs2 hBg; replace hBg := Lib.hid hBg; clear hK x0 x1 x2 x3 x4 x5 x6 x7 x8))
  have hnum := fun j => @numG_pos z j
  have HNUM := Lib.hid hnum
  clear hnum
  have HG3 : Hid (grp z.t ≤ 3) := Lib.hid (by unfold grp; (repeat' split) <;> omega)
  refine wp_rounds (gf := 46) (lb := #[.pointer (some ⟨w1.heap.size + 1, 0, none⟩)]) (S0 := OnB (w.heap.size + 1 + 1)) rfl (enters_of Tryd.func46 (by kernel_rfl) rfl)
    (HR.out w2 hk2.out (w1.heap.size + 1) hBg.out (OnB (w.heap.size + 1 + 1)) (fun b q => by unfold OnB at q; omega) (fun q => by unfold OnB at q; omega) ?far) (fun _ => rfl) (fun b q => by unfold OnB at q; omega)
    (fun E j W => (∀ q, q < j → chunkN (grp z.t) xs q ≠ ys) ∧ (Bk W (w.heap.size + 1 + 1) 4 #[.bool false] ∧ (Bk W w1.heap.size 50 #[.int .u32 q0, .int .u32 q1, .int .u32 q2, .int .i64 q3] ∧ (Bk W (w.heap.size + 1) 24 #[.slice A m c] ∧ Kp NoB w W))))
    (fun c j W => (c = .ret ∧ ∃ i, j = i + 1 ∧ chunkN (grp z.t) xs i = ys) ∧ (Bk W (w.heap.size + 1 + 1) 4 #[.bool true] ∧ Kp NoB w W))
    (fun E => OwnFrom.and (ownFrom_pure _ _) (OwnFrom.and (bk_own _ _ _ _) (OwnFrom.and (bk_own _ _ _ _) (OwnFrom.and (bk_own _ _ _ _) (kp_own (by omega))))))
    (fun c => OwnFrom.and (ownFrom_pure _ _) (OwnFrom.and (bk_own _ _ _ _) (kp_own (by omega))))
    (fun E => ⟨fun q h => by omega, hb2.out, hbw.out, hb1.out, hk2.out⟩)
    (fun E j a' W => ∃ Bx, w2.heap.size < Bx ∧ Bk W Bx 50 (gcs (chunkN (grp z.t) xs j)) ∧ ∃ u0 u7 u8 u9 u10 u11, a' = { tmps := #[u0, .slice A m c, .pointer (some ⟨w.heap.size, 0, none⟩), .pointer (some ⟨w.heap.size + 1, 0, none⟩), .pointer (some ⟨w.heap.size + 1 + 1, 0, none⟩), .pointer (some ⟨w1.heap.size, 0, none⟩), .pointer (some ⟨Bx, 0, none⟩), u7, u8, u9, u10, u11, undef, undef, undef, undef, undef, undef, undef, undef, undef, undef, undef, undef], defers := [] })
    (fun E j a' s X Y row h hg hr => by
      obtain ⟨Bx, h1, h2, h3⟩ := h
      exact ⟨Bx, h1, bk_kept h2 hg (fun r e => (hr r e).2), h3⟩) ?assign ?body ?done ?stop
  case far =>
    intro ad e hn q
    unfold OnB at q
    have := HD.out ad e hn
    omega
  case assign =>
    intro E l2 j W2 K hE hEW hj hI hK
    have HK := Lib.hid hK
    have HI := Lib.hid hI
    rw [grpV_eq]
    obtain ⟨g0, g1, g2, gk, hg, -⟩ := gcs_ex (chunkN (grp z.t) xs j)
    rw [hg] at HK ⊢
    clear hK hI hg
    gi_wp2
    have ha : Kp NoB W2 (W2.alloc (.cells #[.int .u32 g0, .int .u32 g1, .int .u32 g2, .int .i64 gk] 50)) := (Kp.refl NoB W2).alloc _
    obtain ⟨i1, i2, i3, i4, i5⟩ := HI.out
    exact HK.out _ _ (ha.wide _) ⟨i1, i2.and ha, i3.and ha, i4.and ha, i5.and ha⟩ ⟨W2.heap.size, by omega, Bk.fresh _ _ _, _, _, _, _, _, _, rfl⟩
  case body =>
    rintro E l2 j a' W2 hE hEW hj ⟨i1, i2, i3, i4, i5⟩ ⟨Bx, hBx, hbx, u0, u7, u8, u9, u10, u11, rfl⟩
    obtain ⟨g0, g1, g2, gk, hg, e0, e1, e2, ek⟩ := gcs_ex (chunkN (grp z.t) xs j)
    rw [hg] at hbx
    obtain ⟨hv, hnm, hgp, hle⟩ := HNUM.out j hj
    have hcl := chunk_len (xs := xs) (g := grp z.t) (q := j) (by rw [HX.out.1]; exact hle)
    have hiff := grp_eq (ys := ys) hcl HG3.out
    rw [← e0, ← e1, ← e2, ← ek, HQ0.out, HQ1.out, HQ2.out, HM.out] at hiff
    have HIFF := Lib.hid hiff
    have HI1 := Lib.hid i1
    obtain ⟨b0, b0', b0''⟩ := i2.one
    obtain ⟨b1, b1', b1''⟩ := i4.one
    have w0 := i3.cell 0
    have w1' := i3.cell 1
    have w2' := i3.cell 2
    have w3' := i3.cell 3
    have x0 := hbx.cell 0
    have x1 := hbx.cell 1
    have x2 := hbx.cell 2
    have x3 := hbx.cell 3
    simp only [List.getElem?_toArray, List.getElem?_cons_zero, List.getElem?_cons_succ] at w0 w1' w2' w3' x0 x1 x2 x3
    have heq := eq_three g0 g1 g2 q0 q1 q2
    have I2 := Lib.hid i2
    have I3 := Lib.hid i3
    have I4 := Lib.hid i4
    have I5 := Lib.hid i5
    clear hg e0 e1 e2 ek hcl hiff i1 i2 i3 i4 i5 hbx
    by_cases hA : g0 = q0 ∧ g1 = q1 ∧ g2 = q2
    · rw [decide_eq_true hA] at heq
      by_cases hB : gk = m
      · have hB' : ((gk : Int) == (m : Int)) = true := by simp [hB]
        have hY := Lib.hid (HIFF.out.1 ⟨hA, hB⟩)
        clear hA hB
        gi_wp2
        exact ⟨(Kp.refl (OutE (OnB (w.heap.size + 1 + 1)) E) W2).setCell (p := ⟨w.heap.size + 1 + 1, 0, none⟩) (fun _ => .inl rfl) _, ⟨rfl, j, rfl, hY.out⟩, I2.out.set 0 (.bool true), I5.out.setCell (p := ⟨w.heap.size + 1 + 1, 0, none⟩) (fun h => by simp at h; omega) _⟩
      · have hB' : ((gk : Int) == (m : Int)) = false := by simp; omega
        have hY := Lib.hid (fun e => hB (HIFF.out.2 e).2)
        clear hA hB
        gi_wp2
        exact ⟨Kp.refl _ _, fun q hq => by
          by_cases hqj : q = j
          · subst hqj
            exact hY.out
          · exact HI1.out q (by omega), I2.out, I3.out, I4.out, I5.out⟩
    · rw [decide_eq_false hA] at heq
      have hY := Lib.hid (fun e => hA (HIFF.out.2 e).1)
      clear hA
      gi_wp2
      exact ⟨Kp.refl _ _, fun q hq => by
        by_cases hqj : q = j
        · subst hqj
          exact hY.out
        · exact HI1.out q (by omega), I2.out, I3.out, I4.out, I5.out⟩
  case done =>
    rintro D E W2 hD ⟨i1, i2, i3, i4, i5⟩ hK
    obtain ⟨b0, b0', b0''⟩ := i2.one
    have hres : (validC z && hasL (grp z.t) xs ys) = false := by
      cases hv : validC z with
      | false => rfl
      | true =>
        rw [Bool.true_and]
        refine hasL_no (fun q hq => i1 q ?_)
        unfold numG
        rw [if_pos hv, ← HX.out.1]
        exact hq
    have HRES := Lib.hid hres
    have I2 := Lib.hid i2
    have I5 := Lib.hid i5
    clear i1 i2 i3 i4 i5 hres
    gi_wp2
    have hbb := I2.out.set 0 (.bool false)
    simp only [List.setIfInBounds_toArray, List.set_cons_zero] at hbb
    have hK' := (Below.heap_setCell W2 ⟨w.heap.size + 1 + 1, 0, none⟩ (.bool false) D (by simp; omega)).trans hK
    refine ⟨by simp, .inl ⟨_, _, rfl, run_takeDeferred hK', ?_⟩⟩
    have g1 := (bk_kept hbb (grownBy_putObj' _ D (.deferred none)) (fun r e => by cases e; exact ⟨_, hK', rfl⟩)).cell 0
    simp only [List.getElem?_toArray, List.getElem?_cons_zero] at g1
    refine ⟨.bool false, ?_, by rw [HRES.out], ?_⟩
    · simp [results, Tryd.f11, go_sem, g1]
    · exact (I5.out.setCell (p := ⟨w.heap.size + 1 + 1, 0, none⟩) (fun h => by simp at h; omega) _).new (Kp.put _ D _) (by omega)
  case stop =>
    rintro D c j W2 hD hj ⟨⟨rfl, i, hi, hY⟩, i2, i5⟩ hK
    obtain ⟨b0, b0', b0''⟩ := i2.one
    obtain ⟨hv, hnm, hgp, hle⟩ := HNUM.out j hj
    have hres : (validC z && hasL (grp z.t) xs ys) = true := by
      rw [hv, Bool.true_and]
      refine hasL_yes (q := i) ?_ hY
      rw [HX.out.1, ← hnm]
      omega
    rw [hres]
    have I2 := Lib.hid i2
    have I5 := Lib.hid i5
    clear i2 i5 hres hY
    gi_wp2
    refine ⟨by simp, .inl ⟨_, _, rfl, run_takeDeferred hK, ?_⟩⟩
    have g1 := (bk_kept I2.out (grownBy_putObj' _ D (.deferred none)) (fun r e => by cases e; exact ⟨_, hK, rfl⟩)).cell 0
    simp only [List.getElem?_toArray, List.getElem?_cons_zero] at g1
    refine ⟨.bool true, ?_, rfl, ?_⟩
    · simp [results, Tryd.f11, go_sem, g1]
    · exact I5.out.new (Kp.put _ D _) (by omega)

end Go.Proofs.YtkhonebedoemoaaDoor
