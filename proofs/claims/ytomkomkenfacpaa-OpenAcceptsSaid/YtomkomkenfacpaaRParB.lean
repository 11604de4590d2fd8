/- The reference's Parse: its contract by walking the Go text. -/
import Derived.Test.YtomkomkenfacpaaParE
import Derived.Test.YtomkomkenfacpaaRParA
import Derived.Deep.Cut
import Derived.Deep.CutRange
import Derived.Deep.DeepCutAuto
namespace Go.Proofs.Ytomkomkenfacpaa
open Go.RowKit
set_option linter.unusedVariables false
set_option linter.unusedSimpArgs false

theorem stAt_more {b : List Int} {k : Nat} {v : Int × Int × List Int} (h : (stAt b k).bad = some v) : ∀ j, stAt b (k + j) = stAt b k
  | 0 => rfl
  | j + 1 => by
    show nx (stepF (k + j)) (stAt b (k + j)) = _
    rw [stAt_more h j]
    exact nx_some h
theorem stAt_stop {b : List Int} {k : Nat} {v : Int × Int × List Int} (h : (stAt b k).bad = some v) (hk : k ≤ 7) : stAt b 7 = stAt b k := by
  have := stAt_more h (7 - k)
  rwa [show k + (7 - k) = 7 by omega] at this

section
variable {b : List Int}
theorem at0 (h : 10 ≤ b.length) : (stAt b 0).bad = none := by
  show (stBegin b).bad = none
  unfold stBegin
  exact if_neg (by omega)
theorem at1 (h : 10 ≤ b.length) : (stAt b 1).bad = (if big (b.take 1) = 4 then none else some (1, 0, [0, 4])) ∧ (stAt b 1).o = ⟨0, 0, 0, []⟩ := by
  have e : stAt b 1 = stStart (stAt b 0) := nx_none (at0 h)
  rw [e]
  unfold stStart
  rw [at0 h]
  exact ⟨rfl, rfl⟩
theorem at2 (h : (stAt b 1).bad = none) : (stAt b 2).bad = (if big ((b.drop 1).take 2) = 0 then some (2, 1, []) else none) ∧ (stAt b 2).o = { (stAt b 1).o with sys := big ((b.drop 1).take 2) } := by
  have e : stAt b 2 = stSys (stAt b 1) := nx_none h
  obtain ⟨s1, s2, s3, s4⟩ := shape1 b h
  rw [e]
  unfold stSys
  rw [h, s2]
  exact ⟨rfl, rfl⟩
theorem at3 (h : (stAt b 2).bad = none) : (stAt b 3).bad = (if timedB (big ((b.drop 3).take 2)) = true then none else some (6, 3, [])) ∧ (stAt b 3).o = { (stAt b 2).o with hold := big ((b.drop 3).take 2) } := by
  have e : stAt b 3 = stHold (stAt b 2) := nx_none h
  obtain ⟨s1, s2, s3, s4⟩ := shape2 b h
  rw [e]
  unfold stHold
  rw [h, s2]
  exact ⟨rfl, rfl⟩
theorem at4 (h : (stAt b 3).bad = none) : (stAt b 4).bad = (if big ((b.drop 5).take 4) = 0 then some (3, 5, []) else none) ∧ (stAt b 4).o = { (stAt b 3).o with id := big ((b.drop 5).take 4) } := by
  have e : stAt b 4 = stId (stAt b 3) := nx_none h
  obtain ⟨s1, s2, s3, s4⟩ := shape3 b h
  rw [e]
  unfold stId
  rw [h, s2]
  exact ⟨rfl, rfl⟩
theorem at5 (h : (stAt b 4).bad = none) : (stAt b 5).bad = (if big ((b.drop 9).take 1) = ((b.length : Int) - 10) then none else some (0, 9, [])) ∧ (stAt b 5).o = (stAt b 4).o := by
  have e : stAt b 5 = stLen (stAt b 4) := nx_none h
  obtain ⟨s1, s2, s3, s4⟩ := shape4 b h
  rw [e]
  unfold stLen
  rw [h, s2]
  rw [List.drop_drop, List.length_drop, show ((b.length - (9 + 1) : Nat) : Int) = (b.length : Int) - 10 by omega]
  exact ⟨rfl, rfl⟩
theorem take1 {j : Nat} (h : j < b.length) : big ((b.drop j).take 1) = b.getD j 0 := by
  rw [List.drop_eq_getElem_cons h, List.take_succ_cons, List.take_zero]
  simp [big, h]
end

theorem arr_new2 (X : World) (t : TypeId) (a b : Value) (n : Nat) (h : X.heap.size = n) : Arr (X.alloc (.cells #[a, b] t)) (some ⟨n, 0, none⟩) [a, b] := by
  subst h
  exact Arr.of_bk (Bk.fresh X t #[a, b]) 2
theorem Kp.res {w w1 : World} {b i : Nat} (h : Kp NoB w w1) (hb : w.heap.size ≤ b) (u : Value) : Kp NoB w (w1.setCell ⟨b, i, none⟩ u) := h.setCell (p := ⟨b, i, none⟩) (fun hq => by have hq' : b < w.heap.size := hq; omega) u

set_option maxRecDepth 100000 in
set_option maxHeartbeats 16000000 in
theorem rparse_any (A0 : Option Addr) (c0 : Nat) (b : List Int) (w : World) (ha : Arr w A0 (bs b)) (hb : IsB b) (hc : b.length ≤ c0) (hcm : c0 ≤ maxLen) (hn : b.length ≤ 100000) :
    Calls Try.prog 14 #[.slice A0 b.length c0] w (Parsed w (parsedO (stAt b 7)) (vOf (stAt b 7).bad)) := by
  obtain ⟨fin, hfin⟩ : ∃ st, stAt b 7 = st := ⟨_, rfl⟩
  rw [hfin]
  have HFI := Lib.hid hfin
  have HIB := Lib.hid hb
  have HA0 := Lib.hid ha
  have HEX : Hid (∀ s a, fin.bad = some (s, a, []) → ∀ e w', Kp NoB w w' → e = .returned (.tuple #[.agg #[.int .u32 0, .int .i64 0, .int .u32 0, .slice none 0 0], .agg #[.int .i64 4, .int .i64 2, .int .i64 s, .slice none 0 0, .int .i64 a]]) → Parsed w (parsedO fin) (vOf fin.bad) e w') := Lib.hid (fun s a hf e w' k he => by
    unfold parsedO
    rw [hf]
    exact ⟨none, 0, [], none, 0, he, CapL.nil _, Arr.nil _ _, Arr.nil _ _, k⟩)
  obtain ⟨n, hnn⟩ : ∃ n, b.length = n := ⟨_, rfl⟩
  have HNN := Lib.hid hnn
  rw [hnn] at hc hn ⊢
  clear hfin hb ha hnn
  have hk0 := Lib.hid (((Kp.refl NoB w).alloc (.cells #[.int .u32 0, .int .i64 0, .int .u32 0, .slice none 0 0] 25)).alloc (.cells #[.int .i64 0, .int .i64 0, .int .i64 0, .slice none 0 0, .int .i64 0] 39))
  have hr1 := Lib.hid ((Bk.fresh w 25 #[.int .u32 0, .int .i64 0, .int .u32 0, .slice none 0 0]).alloc (.cells #[.int .i64 0, .int .i64 0, .int .i64 0, .slice none 0 0, .int .i64 0] 39))
  have hr2 := Lib.hid (Bk.second w (.cells #[.int .u32 0, .int .i64 0, .int .u32 0, .slice none 0 0] 25) 39 #[.int .i64 0, .int .i64 0, .int .i64 0, .slice none 0 0, .int .i64 0])
  have hsz : ((w.alloc (.cells #[.int .u32 0, .int .i64 0, .int .u32 0, .slice none 0 0] 25)).alloc (.cells #[.int .i64 0, .int .i64 0, .int .i64 0, .slice none 0 0, .int .i64 0] 39)).heap.size = w.heap.size + 1 + 1 := by simp
  obtain ⟨W0, hW0⟩ : ∃ W0, (w.alloc (.cells #[.int .u32 0, .int .i64 0, .int .u32 0, .slice none 0 0] 25)).alloc (.cells #[.int .i64 0, .int .i64 0, .int .i64 0, .slice none 0 0, .int .i64 0] 39) = W0 := ⟨_, rfl⟩
  rw [hW0] at hk0 hr1 hr2 hsz
  have hres : Hid (∀ wx, Kp NoB W0 wx → (wx.cell? ⟨w.heap.size, 0, none⟩ = some (.int .u32 0) ∧ wx.cell? ⟨w.heap.size, 1, none⟩ = some (.int .i64 0) ∧ wx.cell? ⟨w.heap.size, 2, none⟩ = some (.int .u32 0) ∧ wx.cell? ⟨w.heap.size, 3, none⟩ = some (.slice none 0 0) ∧ wx.frozen? ⟨w.heap.size, 0, none⟩ = false ∧ wx.frozen? ⟨w.heap.size, 1, none⟩ = false ∧ wx.frozen? ⟨w.heap.size, 2, none⟩ = false ∧ wx.frozen? ⟨w.heap.size, 3, none⟩ = false ∧ w.heap.size < wx.heap.size) ∧
      (wx.cell? ⟨w.heap.size + 1, 0, none⟩ = some (.int .i64 0) ∧ wx.cell? ⟨w.heap.size + 1, 1, none⟩ = some (.int .i64 0) ∧ wx.cell? ⟨w.heap.size + 1, 2, none⟩ = some (.int .i64 0) ∧ wx.cell? ⟨w.heap.size + 1, 3, none⟩ = some (.slice none 0 0) ∧ wx.cell? ⟨w.heap.size + 1, 4, none⟩ = some (.int .i64 0)) ∧
      (wx.frozen? ⟨w.heap.size + 1, 0, none⟩ = false ∧ wx.frozen? ⟨w.heap.size + 1, 1, none⟩ = false ∧ wx.frozen? ⟨w.heap.size + 1, 2, none⟩ = false ∧ wx.frozen? ⟨w.heap.size + 1, 3, none⟩ = false ∧ wx.frozen? ⟨w.heap.size + 1, 4, none⟩ = false) ∧ w.heap.size + 1 < wx.heap.size) := Lib.hid (fun wx k => ⟨(hr1.out.and k).four, (hr2.out.and k).five⟩)
  obtain ⟨⟨x1, x2, x3, x4, x5, x6, x7, x8, x9⟩, ⟨y1, y2, y3, y4, y5⟩, ⟨z1, z2, z3, z4, z5⟩, zl⟩ := hres.out W0 (Kp.refl _ _)
  go_enter Try.func14, Try.ntmps14
  by_cases hlt : n < 10
  · have hf : fin.bad = some (0, (n : Int), []) := by
      have e : (stAt b 0).bad = some (0, (n : Int), []) := by
        show (stBegin b).bad = _
        unfold stBegin
        rw [HNN.out]
        exact if_pos hlt
      rw [← HFI.out, stAt_stop e (by decide), e]
    have HF := Lib.hid hf
    clear hf
    go_wp2_with fail
    refine (rbadv_any 0 n _).mono ?_
    rintro e w2 ⟨rfl, hK2⟩
    clear x1 x2 x3 x4 x5 x6 x7 x8 x9 y1 y2 y3 y4 y5 z1 z2 z3 z4 z5 zl
    obtain ⟨⟨x1, x2, x3, x4, x5, x6, x7, x8, x9⟩, ⟨y1, y2, y3, y4, y5⟩, ⟨z1, z2, z3, z4, z5⟩, zl⟩ := hres.out w2 hK2
    have kk := Lib.hid (hk0.out.and hK2)
    go_wp2_with fail
    refine bodyPost_ret (v := .tuple #[.agg #[.int .u32 0, .int .i64 0, .int .u32 0, .slice none 0 0], .agg #[.int .i64 4, .int .i64 2, .int .i64 0, .slice none 0 0, .int .i64 n]]) (by simp [results, Try.results14, go_sem, *]) rfl (HEX.out _ _ HF.out _ _ (by repeat (first | with_reducible exact kk.out | with_reducible refine Kp.res ?_ (by omega) _)) rfl)
  · have hge : 10 ≤ n := by omega
    clear hlt
    have h10 : 10 ≤ b.length := by rw [HNN.out]; exact hge
    obtain ⟨ad, rfl, -⟩ := HA0.out.at (bs_get b 0 (by omega))
    have HCELL : Hid (∀ j, j < n → ∀ wx, Kp NoB w wx → wx.cell? (ad.add j) = some (.int .u8 (b.getD j 0))) := Lib.hid (fun j hj wx k => by
      obtain ⟨ad', e, h⟩ := HA0.out.at (bs_get b j (by rw [HNN.out]; exact hj))
      injection e with e
      subst e
      exact k.cell h (fun q => q))
    have q0 : W0.cell? ad = some (.int .u8 (b.getD 0 0)) := HCELL.out 0 (by omega) W0 hk0.out
    obtain ⟨d1, d1o⟩ := at1 h10
    rw [show big (b.take 1) = b.getD 0 0 from take1 (j := 0) (by omega)] at d1
    obtain ⟨v0, hv0⟩ : ∃ v, b.getD 0 0 = v := ⟨_, rfl⟩
    rw [hv0] at q0 d1
    clear hv0
    by_cases h0 : v0 = 4
    · subst h0
      rw [if_pos rfl] at d1
      have D1 := Lib.hid d1
      have D1O := Lib.hid d1o
      have H10 := Lib.hid h10
      clear d1 d1o h10
      have i1 : ¬ c0 = 1 := by omega
      have i3 : ¬ c0 = 3 := by omega
      have i5 : ¬ c0 = 5 := by omega
      have j3 : (3 : Int) ≤ (c0 : Int) := by omega
      have j5 : (5 : Int) ≤ (c0 : Int) := by omega
      have j9 : (9 : Int) ≤ (c0 : Int) := by omega
      have HBG : Hid (∀ (o m : Nat), o + m ≤ n → m ≤ 4 → 0 < o → ∀ (c : Nat) wx, Kp NoB W0 wx → Calls Try.prog 34 #[.slice (some ⟨ad.block, ad.off + o, none⟩) m c] wx fun e w' => e = .returned (.int .u32 (big ((b.drop o).take m))) ∧ w' = wx) := Lib.hid (fun o m hom hm ho c wx k => by
        have hl : ((b.drop o).take m).length = m := by rw [List.length_take, List.length_drop, HNN.out]; omega
        have harr : Arr wx (some ⟨ad.block, ad.off + o, none⟩) (bs ((b.drop o).take m)) := fun _ => ⟨_, rfl, fun i u hi => by
          have hi' := (List.getElem?_eq_some_iff.1 hi).1
          rw [bs_length, hl] at hi'
          have h1 := HCELL.out (o + i) (by omega) wx (hk0.out.and k)
          rw [add_none, show ad.off + o + i = ad.off + (o + i) by omega]
          have e1 : ad.add (o + i) = ⟨ad.block, ad.off + (o + i), none⟩ := by unfold Addr.add; rw [if_neg (by omega)]
          rw [← e1, h1, ← hi]
          rw [bs_get _ i (by rw [hl]; exact hi')]
          congr 2
          simp only [List.getD_eq_getElem?_getD, List.getElem?_take, List.getElem?_drop, if_pos hi']⟩
        have := rbig_any (some ⟨ad.block, ad.off + o, none⟩) c ((b.drop o).take m) wx harr ((HIB.out.drop o).take m) (by rw [hl]; exact hm)
        rw [hl] at this
        exact this)
      have B1 := Lib.hid (fun c wx k => HBG.out 1 2 (by omega) (by decide) (by decide) c wx k)
      have B3 := Lib.hid (fun c wx k => HBG.out 3 2 (by omega) (by decide) (by decide) c wx k)
      have B5 := Lib.hid (fun c wx k => HBG.out 5 4 (by omega) (by decide) (by decide) c wx k)
      obtain ⟨vs, hvs⟩ : ∃ v, big ((b.drop 1).take 2) = v := ⟨_, rfl⟩
      obtain ⟨vh, hvh⟩ : ∃ v, big ((b.drop 3).take 2) = v := ⟨_, rfl⟩
      obtain ⟨vi, hvi⟩ : ∃ v, big ((b.drop 5).take 4) = v := ⟨_, rfl⟩
      have bvh := big1_lt (b.drop 3) 2 (HIB.out.drop 3) (by decide)
      rw [hvh] at bvh
      have ewh : IntKind.i64.wrap vh = vh := IntWalk.i64_in _ (by omega)
      have HVS := Lib.hid hvs
      have HVH := Lib.hid hvh
      have HVI := Lib.hid hvi
      rw [hvs] at B1
      rw [hvh] at B3
      rw [hvi] at B5
      clear hvs hvh hvi bvh
      have K0 := Lib.hid (Kp.refl NoB W0)
      go_upto_region 5 with fail
      go_cut [4] (fun s4 wx => s4 = .pointer (some ⟨w.heap.size + 1 + 1, 0, none⟩) ∧ wx = (W0.alloc (.cells #[.int .u32 vs, .int .i64 vh, .int .u32 vi, .slice none 0 0] 25)).drew)
      case first =>
        go_region_held3 (fun w' => True) (trivial)
          (first
            | (go_at_call 34; with_reducible refine (B1.out _ _ (by first | with_reducible exact K0.out.drew | with_reducible exact (K0.out.alloc _).drew)).mono ?_; rintro e w1 ⟨rfl, rfl⟩)
            | (go_at_call 34; with_reducible refine (B3.out _ _ (by first | with_reducible exact K0.out.drew | with_reducible exact (K0.out.alloc _).drew)).mono ?_; rintro e w1 ⟨rfl, rfl⟩)
            | (go_at_call 34; with_reducible refine (B5.out _ _ (by first | with_reducible exact K0.out.drew | with_reducible exact (K0.out.alloc _).drew)).mono ?_; rintro e w1 ⟨rfl, rfl⟩))
        all_goals (go_wp2_with fail; go_meet; exact ⟨rfl, rfl⟩)
      case rest =>
        obtain ⟨rfl, rfl⟩ := hcut
        clear x1 x2 x3 x4 x5 x6 x7 x8 x9 y1 y2 y3 y4 y5 z1 z2 z3 z4 z5 zl q0
        obtain ⟨wx, hwx⟩ : ∃ wx, (W0.alloc (.cells #[.int .u32 vs, .int .i64 vh, .int .u32 vi, .slice none 0 0] 25)).drew = wx := ⟨_, rfl⟩
        have KX : Hid (Kp NoB W0 wx) := Lib.hid (by rw [← hwx]; exact ((Kp.refl NoB W0).alloc _).drew)
        have hsx : wx.heap.size = w.heap.size + 1 + 1 + 1 := by
          rw [← hwx]
          show (W0.alloc _).heap.size = _
          simp [hsz]
        have HXB : Hid (Bk wx (w.heap.size + 1 + 1) 25 #[.int .u32 vs, .int .i64 vh, .int .u32 vi, .slice none 0 0]) := Lib.hid (by
          rw [← hwx, ← hsz]
          exact (Bk.fresh W0 _ _).drewN 1)
        rw [hwx]
        clear hwx
        obtain ⟨p1, p2, p3, p4, p5, p6, p7, p8, p9⟩ := HXB.out.four
        obtain ⟨d2, d2o⟩ := at2 D1.out
        rw [HVS.out] at d2 d2o
        by_cases hs0 : vs = 0
        · rw [if_pos hs0] at d2
          have HF : Hid (fin.bad = some (2, 1, [])) := Lib.hid (by rw [← HFI.out, stAt_stop d2 (by decide), d2])
          have hq : (vs == 0) = true := by simp [hs0]
          clear d2 d2o hs0
          go_wp2_with fail
          refine (rbadv_any 2 1 _).mono ?_
          rintro e w2 ⟨rfl, hK2⟩
          obtain ⟨⟨x1, x2, x3, x4, x5, x6, x7, x8, x9⟩, ⟨y1, y2, y3, y4, y5⟩, ⟨z1, z2, z3, z4, z5⟩, zl⟩ := hres.out w2 (KX.out.and hK2)
          have kk := Lib.hid (hk0.out.and (KX.out.and hK2))
          go_wp2_with fail
          refine bodyPost_ret (v := .tuple #[.agg #[.int .u32 0, .int .i64 0, .int .u32 0, .slice none 0 0], .agg #[.int .i64 4, .int .i64 2, .int .i64 2, .slice none 0 0, .int .i64 1]]) (by simp [results, Try.results14, go_sem, *]) rfl (HEX.out _ _ HF.out _ _ (by repeat (first | with_reducible exact kk.out | with_reducible refine Kp.res ?_ (by omega) _)) rfl)
        · rw [if_neg hs0] at d2
          have hq : (vs == 0) = false := by simp [hs0]
          obtain ⟨d3, d3o⟩ := at3 d2
          rw [HVH.out] at d3 d3o
          have HT := Lib.hid (fun w => rhold_any vh w)
          clear hs0
          cases htb : timedB vh with
          | false =>
            rw [htb] at d3 HT
            rw [if_neg (by decide)] at d3
            have HF : Hid (fin.bad = some (6, 3, [])) := Lib.hid (by rw [← HFI.out, stAt_stop d3 (by decide), d3])
            clear d2 d2o d3 d3o htb
            go_wp2_with (go_at_call 35; refine (HT.out _).mono ?_; rintro e w3 ⟨rfl, hw3⟩; replace hw3 := hw3.symm; subst hw3)
            refine (rbadv_any 6 3 _).mono ?_
            rintro e w2 ⟨rfl, hK2⟩
            obtain ⟨⟨x1, x2, x3, x4, x5, x6, x7, x8, x9⟩, ⟨y1, y2, y3, y4, y5⟩, ⟨z1, z2, z3, z4, z5⟩, zl⟩ := hres.out w2 (KX.out.and hK2)
            have kk := Lib.hid (hk0.out.and (KX.out.and hK2))
            go_wp2_with fail
            refine bodyPost_ret (v := .tuple #[.agg #[.int .u32 0, .int .i64 0, .int .u32 0, .slice none 0 0], .agg #[.int .i64 4, .int .i64 2, .int .i64 6, .slice none 0 0, .int .i64 3]]) (by simp [results, Try.results14, go_sem, *]) rfl (HEX.out _ _ HF.out _ _ (by repeat (first | with_reducible exact kk.out | with_reducible refine Kp.res ?_ (by omega) _)) rfl)
          | true =>
            rw [htb] at d3 HT
            rw [if_pos rfl] at d3
            obtain ⟨d4, d4o⟩ := at4 d3
            rw [HVI.out] at d4 d4o
            clear htb
            by_cases hi0 : vi = 0
            · rw [if_pos hi0] at d4
              have HF : Hid (fin.bad = some (3, 5, [])) := Lib.hid (by rw [← HFI.out, stAt_stop d4 (by decide), d4])
              have hqi : (vi == 0) = true := by simp [hi0]
              clear d2 d2o d3 d3o d4 d4o hi0
              go_wp2_with (go_at_call 35; refine (HT.out _).mono ?_; rintro e w3 ⟨rfl, hw3⟩; replace hw3 := hw3.symm; subst hw3)
              refine (rbadv_any 3 5 _).mono ?_
              rintro e w2 ⟨rfl, hK2⟩
              obtain ⟨⟨x1, x2, x3, x4, x5, x6, x7, x8, x9⟩, ⟨y1, y2, y3, y4, y5⟩, ⟨z1, z2, z3, z4, z5⟩, zl⟩ := hres.out w2 (KX.out.and hK2)
              have kk := Lib.hid (hk0.out.and (KX.out.and hK2))
              go_wp2_with fail
              refine bodyPost_ret (v := .tuple #[.agg #[.int .u32 0, .int .i64 0, .int .u32 0, .slice none 0 0], .agg #[.int .i64 4, .int .i64 2, .int .i64 3, .slice none 0 0, .int .i64 5]]) (by simp [results, Try.results14, go_sem, *]) rfl (HEX.out _ _ HF.out _ _ (by repeat (first | with_reducible exact kk.out | with_reducible refine Kp.res ?_ (by omega) _)) rfl)
            · rw [if_neg hi0] at d4
              have hqi : (vi == 0) = false := by simp [hi0]
              obtain ⟨d5, d5o⟩ := at5 d4
              rw [show big ((b.drop 9).take 1) = b.getD 9 0 from take1 (j := 9) (by rw [HNN.out]; omega), HNN.out] at d5
              have q9 := HCELL.out 9 (by omega) wx (hk0.out.and KX.out)
              rw [show ad.add 9 = ⟨ad.block, ad.off + 9, none⟩ from add_field ad 0 9 (by decide)] at q9
              have bq9 := HIB.out.getD 9
              obtain ⟨v9, hv9⟩ : ∃ v, b.getD 9 0 = v := ⟨_, rfl⟩
              rw [hv9] at d5 q9 bq9
              have hO5 : (stAt b 5).o = ⟨vs, vh, vi, []⟩ := by rw [d5o, d4o, d3o, d2o, D1O.out]
              have i9 : (9 : Int) < (n : Int) := by omega
              clear hi0 hv9
              by_cases hl9 : v9 = (n : Int) - 10
              · rw [if_pos hl9] at d5
                have hq9 : (v9 != (n : Int) - 10) = false := by simp [hl9]
                obtain ⟨s1, s2, s3, s4⟩ := shape5 b d5
                have H6 : Hid (stAt b 6 = iterP (stAt b 5).ys.length (stAt b 5)) := Lib.hid (nx_none d5)
                have HPX : Hid (∀ f st v, st.ys.length ≤ f → iterP f st = stAt b 6 → st.bad = none → st.ys ≠ [] → (stParam st).bad = some v → fin.bad = some v) := Lib.hid (fun f st v h1 h2 h3 h4 h5 => by
                  obtain ⟨f', _, hgo⟩ := iterP_go f st h4 h3 h1
                  rw [hgo, iterP_end f' _ (.inr (by rw [h5]; rfl))] at h2
                  have e6 : (stAt b 6).bad = some v := by rw [← h2]; exact h5
                  rw [← HFI.out, stAt_stop e6 (by decide), e6])
                have HST5 : Hid (∃ f st A c cs, st.ys.length ≤ f ∧ iterP f st = stAt b 6 ∧ st.bad = none ∧ st.ys = b.drop 10 ∧ st.t = 10 ∧ st.o = ⟨vs, vh, vi, st.o.caps⟩ ∧ st.o.caps.length ≤ 10 ∧ Bk wx (w.heap.size + 1 + 1) 25 #[.int .u32 vs, .int .i64 vh, .int .u32 vi, .slice A st.o.caps.length c] ∧ wx.ownsRow (w.heap.size + 1 + 1 + 1) 48 2 (.slice A st.o.caps.length c) st.o.caps.length cs ∧ CapOL (w.heap.size + 1 + 1 + 1) wx st.o.caps cs ∧ Kp (OnB (w.heap.size + 1 + 1)) wx wx) := Lib.hid ⟨(stAt b 5).ys.length, stAt b 5, none, 0, [], Nat.le_refl _, H6.out.symm, d5, s2, s3, by rw [hO5], by rw [hO5]; exact Nat.zero_le _, by rw [hO5]; exact HXB.out, by rw [hO5]; exact World.ownsRow_nil _ _ _ _, by rw [hO5]; exact CapOL.nil _ _, Kp.refl _ _⟩
                clear hl9 d2 d2o d3 d3o d4 d4o d5 d5o s1 s2 s3 s4 hO5
                obtain ⟨ic, hic, iz0, iz1, iz2⟩ := info_parts infoRCap
                go_wp2_with (go_at_call 35; refine (HT.out _).mono ?_; rintro e w3 ⟨rfl, hw3⟩; replace hw3 := hw3.symm; subst hw3)
                go_loopw [5] (fun i wr => ∃ at_ : Nat, i = .int .i64 at_ ∧ at_ ≤ n ∧ Hid (∃ f st A c cs, st.ys.length ≤ f ∧ iterP f st = stAt b 6 ∧ st.bad = none ∧ st.ys = b.drop at_ ∧ st.t = at_ ∧ st.o = ⟨vs, vh, vi, st.o.caps⟩ ∧ st.o.caps.length ≤ at_ ∧ Bk wr (w.heap.size + 1 + 1) 25 #[.int .u32 vs, .int .i64 vh, .int .u32 vi, .slice A st.o.caps.length c] ∧ wr.ownsRow (w.heap.size + 1 + 1 + 1) 48 2 (.slice A st.o.caps.length c) st.o.caps.length cs ∧ CapOL (w.heap.size + 1 + 1 + 1) wr st.o.caps cs ∧ Kp (OnB (w.heap.size + 1 + 1)) wx wr)) (fun i _ => n - (intOf i).toNat)
                case atStart => exact ⟨10, rfl, hge, HST5⟩
                case round =>
                  clear p1 p2 p3 p4 p5 p6 p7 p8 p9 q9 HST5
                  obtain ⟨at_, rfl, hat, HX⟩ := hrel
                  obtain ⟨f, st, A, c, cs, g1, g2, g3, g4, g5, g6, g7, g8, g9, g10, g11⟩ := HX.out
                  have hgo := HPX.out f st
                  obtain ⟨p1, p2, p3, p4, p5, p6, p7, p8, p9⟩ := g8.four
                  have kwr : Kp NoB W0 wr := KX.out.trans g11 (fun b hb hq => by have hq' : b = w.heap.size + 1 + 1 := hq; omega)
                  by_cases hlt : at_ < n
                  · have hys : b.drop at_ ≠ [] := fun e => by
                      have := congrArg List.length e
                      rw [List.length_drop, HNN.out] at this
                      simp at this
                      omega
                    have r0 := HCELL.out at_ hlt wr (hk0.out.and kwr)
                    have KW := Lib.hid kwr
                    by_cases hsh : n < at_ + 2
                    · have hlen : (b.drop at_).length = 1 := by rw [List.length_drop, HNN.out]; omega
                      obtain ⟨kk0, hkk0⟩ : ∃ k, b.drop at_ = [k] := by
                        match hdd : b.drop at_ with
                        | [] => rw [hdd] at hlen; simp at hlen
                        | [k] => exact ⟨k, rfl⟩
                        | _ :: _ :: _ => rw [hdd] at hlen; simp at hlen
                      have HF : Hid (fin.bad = some (0, (at_ : Int), [])) := Lib.hid (hgo _ g1 g2 g3 (by rw [g4]; exact hys) (by unfold stParam; rw [g4, hkk0, g5]))
                      have hsh' : (n : Int) < (at_ : Int) + 2 := by omega
                      clear hlen hkk0 hgo g1 g2 g3 g4 g5 g6 g7 g8 g9 g10 g11 kwr HX hys hsh
                      go_wp2_with fail
                      refine (rbadv_any 0 at_ _).mono ?_
                      rintro e w2 ⟨rfl, hK2⟩
                      obtain ⟨⟨x1, x2, x3, x4, x5, x6, x7, x8, x9⟩, ⟨y1, y2, y3, y4, y5⟩, ⟨z1, z2, z3, z4, z5⟩, zl⟩ := hres.out w2 (KW.out.and hK2)
                      have kk := Lib.hid (hk0.out.and (KW.out.and hK2))
                      go_wp2_with fail
                      refine bodyPost_ret (v := .tuple #[.agg #[.int .u32 0, .int .i64 0, .int .u32 0, .slice none 0 0], .agg #[.int .i64 4, .int .i64 2, .int .i64 0, .slice none 0 0, .int .i64 at_]]) (by simp [results, Try.results14, go_sem, *]) rfl (HEX.out _ _ HF.out _ _ (by repeat (first | with_reducible exact kk.out | with_reducible refine Kp.res ?_ (by omega) _)) rfl)
                    · have hsh' : ¬ (n : Int) < (at_ : Int) + 2 := by omega
                      have r1 := HCELL.out (at_ + 1) (by omega) wr (hk0.out.and kwr)
                      rw [show ad.add (at_ + 1) = ⟨ad.block, ad.off + (at_ + 1), none⟩ from by unfold Addr.add; rw [if_neg (by omega)]] at r1
                      have hd2 : b.drop at_ = b.getD at_ 0 :: b.getD (at_ + 1) 0 :: b.drop (at_ + 2) := by
                        rw [List.drop_eq_getElem_cons (by rw [HNN.out]; omega), List.drop_eq_getElem_cons (by rw [HNN.out]; omega)]
                        congr 1
                        · simp [HNN.out, hlt]
                        · congr 1
                          simp [List.getD, List.getElem?_eq_getElem (show at_ + 1 < b.length by rw [HNN.out]; omega)]
                      have bk := HIB.out.getD at_
                      have bm := HIB.out.getD (at_ + 1)
                      obtain ⟨k, hk⟩ : ∃ v, b.getD at_ 0 = v := ⟨_, rfl⟩
                      obtain ⟨mi, hmi⟩ : ∃ v, b.getD (at_ + 1) 0 = v := ⟨_, rfl⟩
                      rw [hk] at hd2 bk r0
                      rw [hmi] at hd2 bm r1
                      clear hk hmi hsh
                      obtain ⟨m, rfl⟩ := Int.eq_ofNat_of_zero_le bm.1
                      have hm255 : m ≤ 255 := by omega
                      have hrl : (b.drop (at_ + 2)).length = n - (at_ + 2) := by rw [List.length_drop, HNN.out]
                      have at63 : (at_ : Int) + 2 + m ≤ 9223372036854775807 := by omega
                      by_cases hsm : n < at_ + 2 + m
                      · have HF : Hid (fin.bad = some (0, (at_ : Int), [])) := Lib.hid (hgo _ g1 g2 g3 (by rw [g4]; exact hys) (by unfold stParam; rw [g4, hd2, g5]; simp only [Int.toNat_natCast]; rw [if_pos (by omega)]))
                        have hsm' : (n : Int) < (at_ : Int) + 2 + m := by omega
                        clear hgo g1 g2 g3 g4 g5 g6 g7 g8 g9 g10 g11 kwr HX hys hsm hd2 hrl
                        go_wp2_with fail
                        refine (rbadv_any 0 at_ _).mono ?_
                        rintro e w2 ⟨rfl, hK2⟩
                        obtain ⟨⟨x1, x2, x3, x4, x5, x6, x7, x8, x9⟩, ⟨y1, y2, y3, y4, y5⟩, ⟨z1, z2, z3, z4, z5⟩, zl⟩ := hres.out w2 (KW.out.and hK2)
                        have kk := Lib.hid (hk0.out.and (KW.out.and hK2))
                        go_wp2_with fail
                        refine bodyPost_ret (v := .tuple #[.agg #[.int .u32 0, .int .i64 0, .int .u32 0, .slice none 0 0], .agg #[.int .i64 4, .int .i64 2, .int .i64 0, .slice none 0 0, .int .i64 at_]]) (by simp [results, Try.results14, go_sem, *]) rfl (HEX.out _ _ HF.out _ _ (by repeat (first | with_reducible exact kk.out | with_reducible refine Kp.res ?_ (by omega) _)) rfl)
                      · have hsm' : ¬ (n : Int) < (at_ : Int) + 2 + m := by omega
                        have hpar : stParam st = ⟨{ st.o with caps := st.o.caps ++ (readC ((b.drop (at_ + 2)).take m)).getD [] }, (b.drop (at_ + 2)).drop m, st.t + 1 + 1 + m, if k ≠ 2 then some (4, st.t, []) else if readC ((b.drop (at_ + 2)).take m) = none then some (0, st.t, []) else st.bad⟩ := by
                          unfold stParam; rw [g4, hd2]; simp only [Int.toNat_natCast]; rw [if_neg (by omega)]
                        by_cases hk2 : k = 2
                        · subst hk2
                          obtain ⟨d, hd⟩ : ∃ d, (b.drop (at_ + 2)).take m = d := ⟨_, rfl⟩
                          have hdl : d.length = m := by rw [← hd, List.length_take, hrl]; omega
                          have hdB : IsB d := by rw [← hd]; exact (HIB.out.drop _).take _
                          have harr : Arr wr (some ⟨ad.block, ad.off + (at_ + 1 + 1), none⟩) (bs d) := fun _ => ⟨_, rfl, fun i u hi => by
                            have hi' := (List.getElem?_eq_some_iff.1 hi).1
                            rw [bs_length, hdl] at hi'
                            have h1 := HCELL.out (at_ + 2 + i) (by omega) wr (hk0.out.and kwr)
                            have e1 : ad.add (at_ + 2 + i) = ⟨ad.block, ad.off + (at_ + 2 + i), none⟩ := by unfold Addr.add; rw [if_neg (by omega)]
                            rw [add_none, show ad.off + (at_ + 1 + 1) + i = ad.off + (at_ + 2 + i) by omega, ← e1, h1, ← hi, bs_get _ i (by rw [hdl]; exact hi'), ← hd]
                            congr 2
                            simp only [List.getD_eq_getElem?_getD, List.getElem?_take, List.getElem?_drop, if_pos hi']⟩
                          rw [hd] at hpar
                          rw [if_neg (by decide)] at hpar
                          have HRS : Hid (∀ ls, readC d = some ls → ∀ A c, m ≤ c → c ≤ maxLen → Arr wr A (bs d) → Calls Try.prog 36 #[.slice A m c] wr (ReadYes 48 ls wr)) := Lib.hid (fun ls h A c h1 h2 h3 => by
                            obtain ⟨e1, e2⟩ := readC_some h
                            have := rread_yes A c d ls wr (by omega) (by omega) h2 h3 hdB e1 e2
                            rwa [hdl] at this)
                          have HRN : Hid (readC d = none → ∀ A c, m ≤ c → c ≤ maxLen → Arr wr A (bs d) → Calls Try.prog 36 #[.slice A m c] wr (Stay (.tuple #[.slice none 0 0, .bool false]) wr)) := Lib.hid (fun h A c h1 h2 h3 => by
                            have := rread_no A c d wr (by omega) (by omega) h2 h3 hdB (readC_none h)
                            rwa [hdl] at this)
                          have HLE := Lib.hid (fun ls (h : readC d = some ls) => by have := caps_read (d := d); rw [h, hdl] at this; exact this : ∀ ls, readC d = some ls → ls.length ≤ m)
                          have HAR := Lib.hid harr
                          have hys' : st.ys ≠ [] := by rw [g4]; exact hys
                          obtain ⟨f', hf', hgo2⟩ := iterP_go f st hys' g3 g1
                          obtain ⟨l1, l2, l3⟩ := param_less st hys'
                          have HREL : Hid (∀ ls A' c' es w', readC d = some ls → Bk w' (w.heap.size + 1 + 1) 25 #[.int .u32 vs, .int .i64 vh, .int .u32 vi, .slice A' (st.o.caps.length + ls.length) c'] → w'.ownsRow (w.heap.size + 1 + 1 + 1) 48 2 (.slice A' (st.o.caps.length + ls.length) c') (st.o.caps.length + ls.length) (cs ++ es) → CapOL (w.heap.size + 1 + 1 + 1) w' (st.o.caps ++ ls) (cs ++ es) → Kp (OnB (w.heap.size + 1 + 1)) wx w' →
                              ∃ f st A c cs, st.ys.length ≤ f ∧ iterP f st = stAt b 6 ∧ st.bad = none ∧ st.ys = b.drop (at_ + 2 + m) ∧ st.t = at_ + 2 + m ∧ st.o = ⟨vs, vh, vi, st.o.caps⟩ ∧ st.o.caps.length ≤ at_ + 2 + m ∧ Bk w' (w.heap.size + 1 + 1) 25 #[.int .u32 vs, .int .i64 vh, .int .u32 vi, .slice A st.o.caps.length c] ∧ w'.ownsRow (w.heap.size + 1 + 1 + 1) 48 2 (.slice A st.o.caps.length c) st.o.caps.length cs ∧ CapOL (w.heap.size + 1 + 1 + 1) w' st.o.caps cs ∧ Kp (OnB (w.heap.size + 1 + 1)) wx w') := Lib.hid (fun ls A' c' es w' hr hB hO hC hK => by
                            have hp2 : stParam st = ⟨{ st.o with caps := st.o.caps ++ ls }, (b.drop (at_ + 2)).drop m, st.t + 1 + 1 + m, st.bad⟩ := by
                              rw [hpar, hr, if_neg (by simp)]
                              rfl
                            have hll : (st.o.caps ++ ls).length = st.o.caps.length + ls.length := List.length_append
                            have hle := HLE.out ls hr
                            refine ⟨f', stParam st, A', c', cs ++ es, by omega, by rw [← hgo2]; exact g2, ?_, ?_, ?_, ?_, ?_, ?_, ?_, ?_, hK⟩
                            · rw [hp2]; exact g3
                            · rw [hp2]; show (b.drop (at_ + 2)).drop m = _; rw [List.drop_drop]
                            · rw [hp2]; show st.t + 1 + 1 + m = _; rw [g5]
                            · rw [hp2, g6]
                            · rw [hp2]; show (st.o.caps ++ ls).length ≤ _; rw [hll]; omega
                            · rw [hp2]; show Bk _ _ _ #[_, _, _, .slice A' (st.o.caps ++ ls).length c']; rw [hll]; exact hB
                            · rw [hp2]; show World.ownsRow _ _ _ _ (.slice A' (st.o.caps ++ ls).length c') (st.o.caps ++ ls).length _; rw [hll]; exact hO
                            · rw [hp2]; exact hC)
                          have HFN : Hid (readC d = none → fin.bad = some (0, (at_ : Int), [])) := Lib.hid (fun h => hgo _ g1 g2 g3 hys' (by rw [hpar, g5, if_pos h]))
                          have hg9 := g9
                          rw [← hsx] at hg9
                          have HG9 := Lib.hid hg9
                          have HG9' := Lib.hid g9
                          have HG8 := Lib.hid g8
                          have HG10 := Lib.hid g10
                          have HG11 := Lib.hid g11
                          obtain ⟨sc, hsc⟩ : ∃ v, st.o.caps.length = v := ⟨_, rfl⟩
                          have HSC := Lib.hid hsc
                          rw [hsc] at p4 g7 HG9 HG9' HG8 HREL
                          have hcd : n ≤ c0 := hc
                          clear hgo g1 g2 g3 g4 g5 g6 g8 g9 g10 g11 kwr HX hys hd2 hrl hpar hd hdB harr hf' hgo2 l1 l2 l3 hys' hg9 hsc
                          by_cases hce : c0 = at_ + 2
                          · have hm0 : m = 0 := by omega
                            have hd0 : d = [] := List.eq_nil_of_length_eq_zero (by rw [hdl, hm0])
                            have HARD : Hid (Arr wr (some ad) (bs d)) := Lib.hid (by rw [hd0]; exact Arr.nil _ _)
                            have hcm0 : c0 - (at_ + 2) ≤ maxLen := Nat.le_trans (Nat.sub_le _ _) hcm
                            have hceT : (c0 = at_ + 2) = True := eq_true hce
                            clear hd0 hm0 hce
                            have hmc : m ≤ (c0 - (at_ + 2)) := by omega
                            cases hr : readC d with
                            | none =>
                              have HF := Lib.hid (HFN.out hr)
                              have HRD := Lib.hid (HRN.out hr _ (c0 - (at_ + 2)) hmc hcm0 HARD.out)
                              clear hr hmc hdl
                              go_wp2_with fail
                              refine HRD.out.mono ?_
                              rintro e w3 ⟨rfl, hK3⟩
                              go_wp2_with fail
                              refine (rbadv_any 0 at_ _).mono ?_
                              rintro e w2 ⟨rfl, hK2⟩
                              obtain ⟨⟨x1, x2, x3, x4, x5, x6, x7, x8, x9⟩, ⟨y1, y2, y3, y4, y5⟩, ⟨z1, z2, z3, z4, z5⟩, zl⟩ := hres.out w2 ((KW.out.and hK3).and hK2)
                              have kk := Lib.hid (hk0.out.and ((KW.out.and hK3).and hK2))
                              go_wp2_with fail
                              refine bodyPost_ret (v := .tuple #[.agg #[.int .u32 0, .int .i64 0, .int .u32 0, .slice none 0 0], .agg #[.int .i64 4, .int .i64 2, .int .i64 0, .slice none 0 0, .int .i64 at_]]) (by simp [results, Try.results14, go_sem, *]) rfl (HEX.out _ _ HF.out _ _ (by repeat (first | with_reducible exact kk.out | with_reducible refine Kp.res ?_ (by omega) _)) rfl)
                            | some ls =>
                              have HRD := Lib.hid (HRS.out ls hr _ (c0 - (at_ + 2)) hmc hcm0 HARD.out)
                              have hle := HLE.out ls hr
                              have HRL := Lib.hid (fun A' c' es w' => HREL.out ls A' c' es w' hr)
                              unfold ReadYes at HRD
                              obtain ⟨lm, hlm⟩ : ∃ v, ls.length = v := ⟨_, rfl⟩
                              have HLM := Lib.hid hlm
                              simp only [hlm] at HRD hle HRL
                              clear hr hmc hdl hlm
                              go_wp2_with fail
                              refine HRD.out.mono ?_
                              rintro e w3 ⟨A5, c5, es, rfl, hown5, hcap5, hK5⟩
                              have HO5 := Lib.hid hown5
                              have HC5 := Lib.hid (hcap5.le (show w.heap.size + 1 + 1 + 1 ≤ wr.heap.size by have := HG11.out.size; omega))
                              have HK5 := Lib.hid hK5
                              clear p1 p2 p3 p4 p5 p6 p7 p8 p9 hown5 hcap5 hK5
                              obtain ⟨p1, p2, p3, p4, p5, p6, p7, p8, p9⟩ := (HG8.out.and HK5.out).four
                              have h10 := HC5.out.1
                              rw [HLM.out] at h10
                              go_wp2_with (at_builtin; refine wpList_app (HG11.out.and HK5.out) rfl (.tmp 128) (.tmp 129) 23 rfl 48 ic (.agg #[.int .i64 0, .slice none 0 0]) 2 32 Try.underlying23 hic iz0 iz1 iz2 rfl (by decide) _ sc cs rfl (HK5.out.own HG9.out (fun _ _ q => q)) A5 lm c5 es rfl (by omega) (Arr.of_own HO5.out) (CapL.one HC5.out.to) (by omega) (by decide) (sc + lm) rfl ?_; intro A6 c6 w6 hown6 hK6 hG6 _; have hG6' := Kp.of_grown hG6; have hrow3 := HK5.out.own HG9'.out (fun _ _ q => q); have b6 := (HG8.out.and HK5.out).keep hG6' (own_ge hrow3 (by omega)); have HB6 := Lib.hid b6; have HCC := Lib.hid (((HG10.out.and HK5.out).append HC5.out).keep hG6' (fun u n ys hu g hg => own_two hu hrow3 (by decide) g hg)); obtain ⟨v1, v2, v3, v4, v5, v6, v7, v8, v9⟩ := b6.four; replace hK6 := Lib.hid hK6; rw [hsx] at hown6; replace hown6 := Lib.hid hown6; clear b6 hG6 hG6' hrow3 p1 p2 p3 p4 p5 p6 p7 p8 p9)
                              go_roundw
                              case rel =>
                                have k7 : Kp (OnB (w.heap.size + 1 + 1)) w6 (w6.setCell ⟨w.heap.size + 1 + 1, 3, none⟩ (.slice A6 (sc + lm) c6)) := (Kp.refl (OnB (w.heap.size + 1 + 1)) w6).set_on _
                                refine ⟨at_ + 2 + m, by go_num, by omega, Lib.hid (HRL.out A6 c6 es _ (HB6.out.set 3 _) (k7.own hown6.out (fun b hb hq => by have := own_base hown6.out b hb; unfold OnB at hq; omega)) (HCC.out.keep k7 (fun u n ys hu b hb hq => by have := own_base hu b hb; unfold OnB at hq; omega)) (hK6.out.same k7))⟩
                              case measure => simp [intOf]; omega
                          · have HARD := HAR
                            have hcm0 : c0 - (at_ + 2) ≤ maxLen := Nat.le_trans (Nat.sub_le _ _) hcm
                            have hmc : m ≤ (c0 - (at_ + 2)) := by omega
                            cases hr : readC d with
                            | none =>
                              have HF := Lib.hid (HFN.out hr)
                              have HRD := Lib.hid (HRN.out hr _ (c0 - (at_ + 2)) hmc hcm0 HARD.out)
                              clear hr hmc hdl
                              go_wp2_with fail
                              refine HRD.out.mono ?_
                              rintro e w3 ⟨rfl, hK3⟩
                              go_wp2_with fail
                              refine (rbadv_any 0 at_ _).mono ?_
                              rintro e w2 ⟨rfl, hK2⟩
                              obtain ⟨⟨x1, x2, x3, x4, x5, x6, x7, x8, x9⟩, ⟨y1, y2, y3, y4, y5⟩, ⟨z1, z2, z3, z4, z5⟩, zl⟩ := hres.out w2 ((KW.out.and hK3).and hK2)
                              have kk := Lib.hid (hk0.out.and ((KW.out.and hK3).and hK2))
                              go_wp2_with fail
                              refine bodyPost_ret (v := .tuple #[.agg #[.int .u32 0, .int .i64 0, .int .u32 0, .slice none 0 0], .agg #[.int .i64 4, .int .i64 2, .int .i64 0, .slice none 0 0, .int .i64 at_]]) (by simp [results, Try.results14, go_sem, *]) rfl (HEX.out _ _ HF.out _ _ (by repeat (first | with_reducible exact kk.out | with_reducible refine Kp.res ?_ (by omega) _)) rfl)
                            | some ls =>
                              have HRD := Lib.hid (HRS.out ls hr _ (c0 - (at_ + 2)) hmc hcm0 HARD.out)
                              have hle := HLE.out ls hr
                              have HRL := Lib.hid (fun A' c' es w' => HREL.out ls A' c' es w' hr)
                              unfold ReadYes at HRD
                              obtain ⟨lm, hlm⟩ : ∃ v, ls.length = v := ⟨_, rfl⟩
                              have HLM := Lib.hid hlm
                              simp only [hlm] at HRD hle HRL
                              clear hr hmc hdl hlm
                              go_wp2_with fail
                              refine HRD.out.mono ?_
                              rintro e w3 ⟨A5, c5, es, rfl, hown5, hcap5, hK5⟩
                              have HO5 := Lib.hid hown5
                              have HC5 := Lib.hid (hcap5.le (show w.heap.size + 1 + 1 + 1 ≤ wr.heap.size by have := HG11.out.size; omega))
                              have HK5 := Lib.hid hK5
                              clear p1 p2 p3 p4 p5 p6 p7 p8 p9 hown5 hcap5 hK5
                              obtain ⟨p1, p2, p3, p4, p5, p6, p7, p8, p9⟩ := (HG8.out.and HK5.out).four
                              have h10 := HC5.out.1
                              rw [HLM.out] at h10
                              go_wp2_with (at_builtin; refine wpList_app (HG11.out.and HK5.out) rfl (.tmp 128) (.tmp 129) 23 rfl 48 ic (.agg #[.int .i64 0, .slice none 0 0]) 2 32 Try.underlying23 hic iz0 iz1 iz2 rfl (by decide) _ sc cs rfl (HK5.out.own HG9.out (fun _ _ q => q)) A5 lm c5 es rfl (by omega) (Arr.of_own HO5.out) (CapL.one HC5.out.to) (by omega) (by decide) (sc + lm) rfl ?_; intro A6 c6 w6 hown6 hK6 hG6 _; have hG6' := Kp.of_grown hG6; have hrow3 := HK5.out.own HG9'.out (fun _ _ q => q); have b6 := (HG8.out.and HK5.out).keep hG6' (own_ge hrow3 (by omega)); have HB6 := Lib.hid b6; have HCC := Lib.hid (((HG10.out.and HK5.out).append HC5.out).keep hG6' (fun u n ys hu g hg => own_two hu hrow3 (by decide) g hg)); obtain ⟨v1, v2, v3, v4, v5, v6, v7, v8, v9⟩ := b6.four; replace hK6 := Lib.hid hK6; rw [hsx] at hown6; replace hown6 := Lib.hid hown6; clear b6 hG6 hG6' hrow3 p1 p2 p3 p4 p5 p6 p7 p8 p9)
                              go_roundw
                              case rel =>
                                have k7 : Kp (OnB (w.heap.size + 1 + 1)) w6 (w6.setCell ⟨w.heap.size + 1 + 1, 3, none⟩ (.slice A6 (sc + lm) c6)) := (Kp.refl (OnB (w.heap.size + 1 + 1)) w6).set_on _
                                refine ⟨at_ + 2 + m, by go_num, by omega, Lib.hid (HRL.out A6 c6 es _ (HB6.out.set 3 _) (k7.own hown6.out (fun b hb hq => by have := own_base hown6.out b hb; unfold OnB at hq; omega)) (HCC.out.keep k7 (fun u n ys hu b hb hq => by have := own_base hu b hb; unfold OnB at hq; omega)) (hK6.out.same k7))⟩
                              case measure => simp [intOf]; omega
                        · have HF : Hid (fin.bad = some (4, (at_ : Int), [])) := Lib.hid (hgo _ g1 g2 g3 (by rw [g4]; exact hys) (by rw [hpar, g5]; exact if_pos hk2))
                          have hqk : (k != 2) = true := by simp [hk2]
                          clear hgo g1 g2 g3 g4 g5 g6 g7 g8 g9 g10 g11 kwr HX hys hsm hd2 hrl hpar hk2
                          go_wp2_with fail
                          refine (rbadv_any 4 at_ _).mono ?_
                          rintro e w2 ⟨rfl, hK2⟩
                          obtain ⟨⟨x1, x2, x3, x4, x5, x6, x7, x8, x9⟩, ⟨y1, y2, y3, y4, y5⟩, ⟨z1, z2, z3, z4, z5⟩, zl⟩ := hres.out w2 (KW.out.and hK2)
                          have kk := Lib.hid (hk0.out.and (KW.out.and hK2))
                          go_wp2_with fail
                          refine bodyPost_ret (v := .tuple #[.agg #[.int .u32 0, .int .i64 0, .int .u32 0, .slice none 0 0], .agg #[.int .i64 4, .int .i64 2, .int .i64 4, .slice none 0 0, .int .i64 at_]]) (by simp [results, Try.results14, go_sem, *]) rfl (HEX.out _ _ HF.out _ _ (by repeat (first | with_reducible exact kk.out | with_reducible refine Kp.res ?_ (by omega) _)) rfl)
                  · have hat' : at_ = n := by omega
                    subst hat'
                    have hy0 : st.ys = [] := by rw [g4]; exact List.drop_eq_nil_of_le (by rw [HNN.out]; omega)
                    rw [iterP_end f st (.inl hy0)] at g2
                    have hb6 : (stAt b 6).bad = none := by rw [← g2]; exact g3
                    have hfn : fin = stNamed st := by
                      rw [← HFI.out, g2]
                      exact nx_none hb6
                    have HS := Lib.hid (rsystem_any A c st.o.caps cs wr g10.to (Arr.of_own g9) (by omega))
                    have hsb6 : st.o.sys = vs := by rw [g6]
                    have hho6 : st.o.hold = vh := by rw [g6]
                    have hid6 : st.o.id = vi := by rw [g6]
                    have HFB : Hid (fin.bad = if (if sysB st.o.caps then sysV st.o.caps else vs) = 0 then some (2, 1, []) else none) := Lib.hid (by
                      rw [hfn]
                      unfold stNamed
                      rw [g3, hsb6])
                    have HPF : Hid (∀ s e w', (if sysB st.o.caps then sysV st.o.caps else vs) = s → fin.bad = none → Kp (fun b => b = w.heap.size ∨ b = w.heap.size + 1 ∨ b = w.heap.size + 1 + 1) wr w' → e = .returned (.tuple #[.agg #[.int .u32 s, .int .i64 vh, .int .u32 vi, .slice A st.o.caps.length c], .agg #[.int .i64 0, .int .i64 0, .int .i64 0, .slice none 0 0, .int .i64 0]]) → Parsed w (parsedO fin) (vOf fin.bad) e w') := Lib.hid (fun s e w' hs hbn k he => by
                      have hO : parsedO fin = ⟨s, vh, vi, st.o.caps⟩ := by
                        unfold parsedO
                        rw [hbn, if_neg (by decide), hfn]
                        unfold stNamed
                        simp only
                        rw [hsb6, hs, hho6, hid6]
                      rw [hO, hbn]
                      refine ⟨A, c, cs, none, 0, he, (g10.keep k (fun u n ys hu b hb hq => ?_)).to, Arr.of_own (k.own g9 (fun b hb hq => ?_)), Arr.nil _ _, ?_⟩
                      · have := own_base hu b hb; rcases hq with h | h | h <;> omega
                      · have := own_base g9 b hb; rcases hq with h | h | h <;> omega
                      · exact (hk0.out.and kwr).trans k (fun b hb hq => by rcases hq with h | h | h <;> omega))
                    have KW := Lib.hid kwr
                    obtain ⟨sb, hsb⟩ : ∃ v, sysB st.o.caps = v := ⟨_, rfl⟩
                    obtain ⟨sv, hsv⟩ : ∃ v, sysV st.o.caps = v := ⟨_, rfl⟩
                    obtain ⟨sc, hsc⟩ : ∃ v, st.o.caps.length = v := ⟨_, rfl⟩
                    rw [hsb, hsv] at HS HFB HPF
                    rw [hsc] at HS HPF p4
                    clear hgo g1 g2 g3 g4 g5 g6 g7 g8 g9 g10 g11 kwr HX hy0 hb6 hfn hsb6 hho6 hid6 hsb hsv hsc
                    obtain ⟨⟨x1, x2, x3, x4, x5, x6, x7, x8, x9⟩, ⟨y1, y2, y3, y4, y5⟩, ⟨z1, z2, z3, z4, z5⟩, zl⟩ := hres.out wr KW.out
                    cases sb
                    · by_cases hz : vs = 0
                      · exact absurd hz (by simpa using hq)
                      · have hfb : fin.bad = none := by have := HFB.out; simp only [Bool.false_eq_true, if_false] at this; rwa [if_neg hz] at this
                        have HFB2 := Lib.hid hfb
                        clear hz hfb
                        go_wp2_with (go_at_call 37; refine HS.out.mono ?_; rintro e w3 ⟨rfl, hw3⟩; replace hw3 := hw3.symm; subst hw3)
                        refine bodyPost_ret (v := .tuple #[.agg #[.int .u32 vs, .int .i64 vh, .int .u32 vi, .slice A sc c], .agg #[.int .i64 0, .int .i64 0, .int .i64 0, .slice none 0 0, .int .i64 0]]) (by simp [results, Try.results14, go_sem, *]) rfl (HPF.out _ _ _ (by first | rfl | exact if_neg (by decide)) HFB2.out (by repeat (first | with_reducible exact Kp.refl _ _ | with_reducible refine Kp.on2 ?_ (Or.inl rfl) _ | with_reducible refine Kp.on2 ?_ (Or.inr (Or.inl rfl)) _ | with_reducible refine Kp.on2 ?_ (Or.inr (Or.inr rfl)) _)) rfl)
                    · by_cases hz : sv = 0
                      · have HF : Hid (fin.bad = some (2, 1, [])) := Lib.hid (by have := HFB.out; simp only [if_true] at this; rwa [if_pos hz] at this)
                        have hqz : (sv == 0) = true := by simp [hz]
                        clear hz
                        go_wp2_with (go_at_call 37; refine HS.out.mono ?_; rintro e w3 ⟨rfl, hw3⟩; replace hw3 := hw3.symm; subst hw3)
                        have KS : Hid (Kp (fun b => b = w.heap.size + 1 + 1) wr (wr.setCell ⟨w.heap.size + 1 + 1, 0, none⟩ (.int .u32 sv))) := Lib.hid ((Kp.refl (fun b => b = w.heap.size + 1 + 1) wr).on2 rfl _)
                        refine (rbadv_any 2 1 _).mono ?_
                        rintro e w2 ⟨rfl, hK2⟩
                        have KT : Hid (Kp (fun b => b = w.heap.size + 1 + 1) W0 w2) := Lib.hid (((KW.out.mono (fun b hb hq => hq.elim)).trans KS.out (fun b hb hq => hq)).and hK2)
                        clear x1 x2 x3 x4 x5 x6 x7 x8 x9 y1 y2 y3 y4 y5 z1 z2 z3 z4 z5 zl
                        obtain ⟨x1, x2, x3, x4, x5, x6, x7, x8, x9⟩ := (hr1.out.keep KT.out (fun hq => by have hq' : w.heap.size = w.heap.size + 1 + 1 := hq; omega)).four
                        obtain ⟨⟨y1, y2, y3, y4, y5⟩, ⟨z1, z2, z3, z4, z5⟩, zl⟩ := (hr2.out.keep KT.out (fun hq => by have hq' : w.heap.size + 1 = w.heap.size + 1 + 1 := hq; omega)).five
                        have kk : Hid (Kp NoB w w2) := Lib.hid (hk0.out.trans KT.out (fun b hb hq => by have hq' : b = w.heap.size + 1 + 1 := hq; omega))
                        go_wp2_with fail
                        refine bodyPost_ret (v := .tuple #[.agg #[.int .u32 0, .int .i64 0, .int .u32 0, .slice none 0 0], .agg #[.int .i64 4, .int .i64 2, .int .i64 2, .slice none 0 0, .int .i64 1]]) (by simp [results, Try.results14, go_sem, *]) rfl (HEX.out _ _ HF.out _ _ (by repeat (first | with_reducible exact kk.out | with_reducible refine Kp.res ?_ (by omega) _)) rfl)
                      · have hfb : fin.bad = none := by have := HFB.out; simp only [if_true] at this; rwa [if_neg hz] at this
                        have HFB2 := Lib.hid hfb
                        have hqz : (sv == 0) = false := by simp [hz]
                        clear hz hfb
                        go_wp2_with (go_at_call 37; refine HS.out.mono ?_; rintro e w3 ⟨rfl, hw3⟩; replace hw3 := hw3.symm; subst hw3)
                        refine bodyPost_ret (v := .tuple #[.agg #[.int .u32 sv, .int .i64 vh, .int .u32 vi, .slice A sc c], .agg #[.int .i64 0, .int .i64 0, .int .i64 0, .slice none 0 0, .int .i64 0]]) (by simp [results, Try.results14, go_sem, *]) rfl (HPF.out _ _ _ (by first | rfl | exact if_pos rfl) HFB2.out (by repeat (first | with_reducible exact Kp.refl _ _ | with_reducible refine Kp.on2 ?_ (Or.inl rfl) _ | with_reducible refine Kp.on2 ?_ (Or.inr (Or.inl rfl)) _ | with_reducible refine Kp.on2 ?_ (Or.inr (Or.inr rfl)) _)) rfl)
              · rw [if_neg hl9] at d5
                have HF : Hid (fin.bad = some (0, 9, [])) := Lib.hid (by rw [← HFI.out, stAt_stop d5 (by decide), d5])
                have hq9 : (v9 != (n : Int) - 10) = true := by simp [hl9]
                clear d2 d2o d3 d3o d4 d4o d5 d5o hl9 hO5
                go_wp2_with (go_at_call 35; refine (HT.out _).mono ?_; rintro e w3 ⟨rfl, hw3⟩; replace hw3 := hw3.symm; subst hw3)
                refine (rbadv_any 0 9 _).mono ?_
                rintro e w2 ⟨rfl, hK2⟩
                obtain ⟨⟨x1, x2, x3, x4, x5, x6, x7, x8, x9⟩, ⟨y1, y2, y3, y4, y5⟩, ⟨z1, z2, z3, z4, z5⟩, zl⟩ := hres.out w2 (KX.out.and hK2)
                have kk := Lib.hid (hk0.out.and (KX.out.and hK2))
                go_wp2_with fail
                refine bodyPost_ret (v := .tuple #[.agg #[.int .u32 0, .int .i64 0, .int .u32 0, .slice none 0 0], .agg #[.int .i64 4, .int .i64 2, .int .i64 0, .slice none 0 0, .int .i64 9]]) (by simp [results, Try.results14, go_sem, *]) rfl (HEX.out _ _ HF.out _ _ (by repeat (first | with_reducible exact kk.out | with_reducible refine Kp.res ?_ (by omega) _)) rfl)
    · rw [if_neg h0] at d1
      have hf : fin.bad = some (1, 0, [0, 4]) := by rw [← HFI.out, stAt_stop d1 (by decide), d1]
      have hne : (v0 != 4) = true := by simp [h0]
      have HF : Hid (∀ e w' A c, Kp NoB w w' → Arr w' A (bs [0, 4]) → e = .returned (.tuple #[.agg #[.int .u32 0, .int .i64 0, .int .u32 0, .slice none 0 0], .agg #[.int .i64 4, .int .i64 2, .int .i64 1, .slice A 2 c, .int .i64 0]]) → Parsed w (parsedO fin) (vOf fin.bad) e w') := Lib.hid (fun e w' A c k ha he => by
        unfold parsedO
        rw [hf]
        exact ⟨none, 0, [], A, c, he, CapL.nil _, Arr.nil _ _, ha, k⟩)
      clear h0 d1 d1o hf h10
      go_wp2_with fail
      refine bodyPost_ret (v := .tuple #[.agg #[.int .u32 0, .int .i64 0, .int .u32 0, .slice none 0 0], .agg #[.int .i64 4, .int .i64 2, .int .i64 1, .slice (some ⟨w.heap.size + 1 + 1, 0, none⟩) 2 2, .int .i64 0]]) (by simp [results, Try.results14, go_sem, *]) rfl (HF.out _ _ _ 2 ?_ ?_ rfl)
      · repeat (first | with_reducible exact hk0.out | with_reducible refine Kp.res ?_ (by omega) _ | with_reducible refine Kp.alloc ?_ _)
      · refine arr_new2 _ _ _ _ _ ?_
        simp [hsz]

end Go.Proofs.Ytomkomkenfacpaa
