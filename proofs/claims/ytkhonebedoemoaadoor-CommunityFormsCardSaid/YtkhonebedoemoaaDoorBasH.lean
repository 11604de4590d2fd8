/- Chapter 9: Few, small, Bare; the reference's Address. No condition but the bounds that arguments have. -/
import Derived.Test.YtkhonebedoemoaaDoorOpenA
import Derived.Test.YtkhonebedoemoaaDoorBigR
import Derived.Test.YtkhonebedoemoaaDoorROf
namespace Go.Proofs.YtkhonebedoemoaaDoor
open Go.RowKit
set_option linter.unusedVariables false
set_option linter.unusedSimpArgs false

/-- What Few leaves: only of few segments it says yes. -/
def FewM (n : Nat) (w : World) (e : Ending) (w' : World) : Prop := ∃ b, e = .returned (.bool b) ∧ (b = true → n ≤ 50) ∧ Kp NoB w w'

set_option maxRecDepth 100000 in
set_option maxHeartbeats 1600000 in
theorem few_any (A : Option Addr) (c : Nat) (xs : List Unit) (w : World) (hs : Sl SegE 2 w A xs) (hn : xs.length ≤ maxLen) :
    Calls Tryd.prog 28 #[.slice A xs.length c] w (FewM xs.length w) := by
  unfold maxLen at hn
  have HS := Lib.hid hs
  obtain ⟨n, hnn⟩ : ∃ n, xs.length = n := ⟨_, rfl⟩
  have HN := Lib.hid hnn
  rw [hnn] at hn ⊢
  clear hs hnn
  go_enter Tryd.func28, Tryd.ntmps28
  go_wp2
  go_loopw [3, 4] (fun vs vi wr => ∃ (j : Nat) (s : Int), j ≤ n ∧ vi = .int .i64 j ∧ vs = .int .i64 s ∧ wr = w) (fun _ vi _ => n - (intOf vi).toNat)
  case atStart => exact ⟨0, 0, Nat.zero_le _, rfl, rfl, rfl⟩
  case round =>
    obtain ⟨j, s, hj, rfl, rfl, rfl⟩ := hrel
    by_cases hlt : j < n
    · obtain ⟨ad, cs, rfl, -, ⟨k, A', n', c', rfl, hn'⟩, hcell⟩ := HS.out.at (j := j) (x := ()) (by rw [List.getElem?_eq_getElem (by rw [HN.out]; exact hlt)])
      have h1 := hcell 1 _ rfl
      rw [add_field ad (j * 2) 1 (by decide)] at h1
      have HC := Lib.hid hcell
      clear hcell
      by_cases hmin : (n' : Int) ≤ 1000
      · go_wp2
        go_roundw
        case rel => exact ⟨j + 1, _, by omega, by go_num, rfl, trivial⟩
        case measure => simp [intOf]; omega
      · go_wp2
        go_roundw
        case rel => exact ⟨j + 1, _, by omega, by go_num, rfl, trivial⟩
        case measure => simp [intOf]; omega
    · have hj' : j = n := by omega
      by_cases h50 : (n : Int) ≤ 50
      · go_wp2
        all_goals
          go_ret
          exact ⟨_, rfl, fun _ => by omega, Kp.refl _ _⟩
      · go_wp2
        go_ret
        exact ⟨false, rfl, (fun h => nomatch h), Kp.refl _ _⟩

/-- What small leaves. -/
def SmallM (z : AtI) (w : World) (e : Ending) (w' : World) : Prop := ∃ b, e = .returned (.bool b) ∧ (b = true → z.small) ∧ Kp NoB w w'
theorem small_ends {z : AtI} {w w' : World} {v : Value} (b : Bool) (hv : v = .bool b) (h : b = true → z.small) (hk : Kp NoB w w') : SmallM z w (.returned v) w' := ⟨b, by rw [hv], h, hk⟩

set_option maxRecDepth 100000 in
set_option maxHeartbeats 1600000 in
theorem small_any (z : AtI) (w : World) (h : InAt w z) : Calls Tryd.prog 8 #[z.val] w (SmallM z w) := by
  obtain ⟨hin, xs, hx, hs⟩ := h
  have hl := hin.l
  have HF := Lib.hid (fun W c (k : Kp NoB w W) => few_any z.S c xs W (hs.and k SegE.and) (by rw [hx]; exact hl.1))
  rw [hx] at HF
  unfold AtI.val AtI.cs
  clear hs hx
  by_cases h1 : (z.ln : Int) ≤ 300
  · by_cases h2 : (z.bn : Int) ≤ 600
    · all_goals
        go_enter Tryd.func8, Tryd.ntmps8
        go_wp2_with (go_at_call 28; refine Calls.mono (HF.out _ _ ((Kp.refl NoB w).alloc _)) ?_; rintro e w1 ⟨b, rfl, hb, hK⟩; have hk1 := Lib.hid (((Kp.refl NoB w).alloc _).and hK); have hZ := Lib.hid ((Bk.fresh w 28 z.cs).and hK); obtain ⟨x0, x1, x2, x3, x4, x5, x6, x7, x8⟩ := hZ.out.attr; have hb' := Lib.hid hb; clear hK hb)
        all_goals
          go_ret
          first | exact small_ends false rfl (fun h => by cases h) hk1.out | exact small_ends (decide ((z.rn : Int) ≤ 100)) rfl (fun h => by have h3 := of_decide_eq_true h; have h4 := hb'.out (by assumption); exact ⟨h4, by omega, by omega, by omega⟩) hk1.out
    · go_enter Tryd.func8, Tryd.ntmps8
      go_wp2_with (go_at_call 28; refine Calls.mono (HF.out _ _ ((Kp.refl NoB w).alloc _)) ?_; rintro e w1 ⟨b, rfl, hb, hK⟩; have hk1 := Lib.hid (((Kp.refl NoB w).alloc _).and hK); have hZ := Lib.hid ((Bk.fresh w 28 z.cs).and hK); obtain ⟨x0, x1, x2, x3, x4, x5, x6, x7, x8⟩ := hZ.out.attr; have hb' := Lib.hid hb; clear hK hb)
      all_goals
        go_ret
        exact small_ends false rfl (fun h => by cases h) hk1.out
  · go_enter Tryd.func8, Tryd.ntmps8
    go_wp2_with (go_at_call 28; refine Calls.mono (HF.out _ _ ((Kp.refl NoB w).alloc _)) ?_; rintro e w1 ⟨b, rfl, hb, hK⟩; have hk1 := Lib.hid (((Kp.refl NoB w).alloc _).and hK); have hZ := Lib.hid ((Bk.fresh w 28 z.cs).and hK); obtain ⟨x0, x1, x2, x3, x4, x5, x6, x7, x8⟩ := hZ.out.attr; have hb' := Lib.hid hb; clear hK hb)
    all_goals
      go_ret
      exact small_ends false rfl (fun h => by cases h) hk1.out

theorem bare_any (z : AtI) (w : World) : Calls Tryd.prog 32 #[z.val] w (Stay (.bool z.bare) w) := by
  have hb : z.bare = (decide (z.sn = 0) && decide (z.ln = 0) && decide (z.bn = 0) && decide (z.f = 0) && decide (z.rn = 0)) := by
    unfold AtI.bare
    rw [Bool.eq_iff_iff]
    simp only [Bool.and_eq_true, decide_eq_true_eq]
    omega
  rw [hb]
  unfold AtI.val AtI.cs
  have c1 : ((z.sn : Int) == 0) = decide (z.sn = 0) := by rw [Bool.eq_iff_iff]; simp
  clear hb
  by_cases h1 : (z.sn : Int) = 0
  · by_cases h2 : (z.ln : Int) = 0
    · by_cases h3 : (z.bn : Int) = 0
      · by_cases h4 : z.f = 0
        · by_cases h5 : (z.rn : Int) = 0
          all_goals
            go_enter Tryd.func32, Tryd.ntmps32
            go_wp2
            go_ret
            refine ⟨congrArg Ending.returned (show Value.bool _ = Value.bool _ from congrArg Value.bool ?_), (Kp.refl _ _).alloc _⟩
            first | (simp; omega) | (simp_all; done) | omega
        all_goals
          go_enter Tryd.func32, Tryd.ntmps32
          go_wp2
          go_ret
          refine ⟨congrArg Ending.returned (show Value.bool _ = Value.bool _ from congrArg Value.bool ?_), (Kp.refl _ _).alloc _⟩
          first | (simp; omega) | (simp_all; done) | omega
      all_goals
        go_enter Tryd.func32, Tryd.ntmps32
        go_wp2
        go_ret
        refine ⟨congrArg Ending.returned (show Value.bool _ = Value.bool _ from congrArg Value.bool ?_), (Kp.refl _ _).alloc _⟩
        first | (simp; omega) | (simp_all; done) | omega
    all_goals
      go_enter Tryd.func32, Tryd.ntmps32
      go_wp2
      go_ret
      refine ⟨congrArg Ending.returned (show Value.bool _ = Value.bool _ from congrArg Value.bool ?_), (Kp.refl _ _).alloc _⟩
      first | (simp; omega) | (simp_all; done) | omega
  all_goals
    go_enter Tryd.func32, Tryd.ntmps32
    go_wp2
    go_ret
    refine ⟨congrArg Ending.returned (show Value.bool _ = Value.bool _ from congrArg Value.bool ?_), (Kp.refl _ _).alloc _⟩
    first | (simp; omega) | (simp_all; done) | omega

theorem fin_at {w w1 : World} {z : AtI} (hK : Kp NoB (w.alloc (.cells z.cs 28)) w1) : Kp NoB w w1 ∧ Bk w1 w.heap.size 28 z.cs := ⟨((Kp.refl NoB w).alloc _).and hK, (Bk.fresh w _ _).and hK⟩

theorem bk_drew {w : World} {b : Nat} {t : TypeId} {cs : Array Value} (h : Bk w b t cs) : Bk w.drew b t cs := h
theorem bk_second_drew (w : World) (o : Obj) (t : TypeId) (cs : Array Value) : Bk (((w.alloc o).drew).alloc (.cells cs t)) (w.heap.size + 1) t cs := Bk.second w o t cs
theorem arm_a {w w1 : World} {z : AtI} (hK : Kp NoB ((w.alloc (.cells z.cs 28)).drew) w1) : Bk w1 w.heap.size 28 z.cs ∧ w.heap.size < w1.heap.size ∧ Kp NoB w w1 := by
  have h := Bk.and (bk_drew (Bk.fresh w 28 z.cs)) hK
  exact ⟨h, h.lt, (((Kp.refl NoB w).alloc _).drew).and hK⟩
theorem arm_b {w w1 : World} {z : AtI} {t : TypeId} {cs : Array Value} (hK : Kp NoB (((w.alloc (.cells z.cs 28)).drew).alloc (.cells cs t)) w1) : Bk w1 w.heap.size 28 z.cs ∧ Bk w1 (w.heap.size + 1) t cs ∧ w.heap.size + 1 < w1.heap.size ∧ Kp NoB w w1 := by
  have h := Bk.and (Bk.alloc (bk_drew (Bk.fresh w 28 z.cs)) (.cells cs t)) hK
  have h2 := Bk.and (bk_second_drew w (.cells z.cs 28) t cs) hK
  exact ⟨h, h2, h2.lt, ((((Kp.refl NoB w).alloc _).drew).alloc _).and hK⟩
theorem arr_one {W : World} {b : Nat} {v : Value} (h : W.cell? ⟨b, 0, none⟩ = some v) : Arr W (some ⟨b, 0, none⟩) [v] := fun _ =>
  ⟨_, rfl, fun j u hu => by
    match j, hu with
    | 0, hu => cases hu; exact h
    | j + 1, hu => cases hu⟩
/-- A whole attribute laid into its block. -/
theorem set9 {w : World} {b : Nat} {t : TypeId} (h : Bk w b t #[.int .i64 0, .bool false, .int .u32 0, .int .u32 0, .slice none 0 0, .slice none 0 0, .slice none 0 0, .int .i64 0, .slice none 0 0]) (v0 v1 v2 v3 v4 v5 v6 v7 v8 : Value) :
    Bk (((((((((w.setCell ⟨b, 0, none⟩ v0).setCell ⟨b, 1, none⟩ v1).setCell ⟨b, 2, none⟩ v2).setCell ⟨b, 3, none⟩ v3).setCell ⟨b, 4, none⟩ v4).setCell ⟨b, 5, none⟩ v5).setCell ⟨b, 6, none⟩ v6).setCell ⟨b, 7, none⟩ v7).setCell ⟨b, 8, none⟩ v8) b t #[v0, v1, v2, v3, v4, v5, v6, v7, v8] := by
  have h2 := (((((((((h.set 0 v0).set 1 v1).set 2 v2).set 3 v3).set 4 v4).set 5 v5).set 6 v6).set 7 v7).set 8 v8)
  simp only [List.setIfInBounds_toArray, List.set_cons_zero, List.set_cons_succ] at h2
  exact h2
theorem kp9 {w0 w : World} {b : Nat} (h : Kp NoB w0 w) (hb : w0.heap.size ≤ b) (v0 v1 v2 v3 v4 v5 v6 v7 v8 : Value) : Kp NoB w0 (((((((((w.setCell ⟨b, 0, none⟩ v0).setCell ⟨b, 1, none⟩ v1).setCell ⟨b, 2, none⟩ v2).setCell ⟨b, 3, none⟩ v3).setCell ⟨b, 4, none⟩ v4).setCell ⟨b, 5, none⟩ v5).setCell ⟨b, 6, none⟩ v6).setCell ⟨b, 7, none⟩ v7).setCell ⟨b, 8, none⟩ v8) :=
  (((((((((h.setCell (fun q => absurd q (Nat.not_lt.2 hb)) v0).setCell (fun q => absurd q (Nat.not_lt.2 hb)) v1).setCell (fun q => absurd q (Nat.not_lt.2 hb)) v2).setCell (fun q => absurd q (Nat.not_lt.2 hb)) v3).setCell (fun q => absurd q (Nat.not_lt.2 hb)) v4).setCell (fun q => absurd q (Nat.not_lt.2 hb)) v5).setCell (fun q => absurd q (Nat.not_lt.2 hb)) v6).setCell (fun q => absurd q (Nat.not_lt.2 hb)) v7).setCell (fun q => absurd q (Nat.not_lt.2 hb)) v8)

set_option maxRecDepth 100000 in
set_option maxHeartbeats 2000000 in
theorem raddress_any (n : Int) (h0 : 0 ≤ n) (h1 : n < 4294967296) (w : World) : Calls Tryd.prog 55 #[.int .u32 n] w (Stay (.string (ba (addrL n))) w) := by
  have hbb : IsB (putL 4 n) := putL_isB _ _
  have hlen : (putL 4 n).length = 4 := putL_length _ _
  have HO := Lib.hid (fun W => rof_4 n W h0 h1)
  unfold OfYes at HO
  go_enter Tryd.func55, Tryd.ntmps55
  go_wp2_with (go_at_call 35; refine Calls.mono (HO.out _) ?_; rintro e w1 ⟨A, c, rfl, hown, hK⟩; have hk1 := Lib.hid hK; have HA := Lib.hid (Arr.of_own hown); clear hown hK)
  go_loopw [4, 5] (fun vs vi wr => ∃ (j : Nat), j ≤ 4 ∧ vi = .int .i64 j ∧ vs = .string (ba ((dotL ((putL 4 n).take j)).drop 1)) ∧ Hid (Kp NoB w1 wr)) (fun _ vi _ => 4 - (intOf vi).toNat)
  case atStart => exact ⟨0, Nat.zero_le _, rfl, rfl, Lib.hid (Kp.refl _ _)⟩
  case round =>
    obtain ⟨j, hj, rfl, rfl, HK⟩ := hrel
    by_cases hlt : j < 4
    · have hs : dotL ((putL 4 n).take (j + 1)) = dotL ((putL 4 n).take j) ++ (46 :: Lib.decDigits ((putL 4 n).getD j 0).toNat) := by rw [take_snoc _ j (by omega), dotL_snoc]
      have hl := dotL_len _ (hbb.take j)
      rw [List.length_take, Nat.min_eq_left (by omega)] at hl
      have hy := hbb.getD j
      obtain ⟨ad, rfl, hcell⟩ := (HA.out.and HK.out).at (bs_get (putL 4 n) j (by omega))
      have hd := dec_short ((putL 4 n).getD j 0).toNat (by omega)
      have hdec := rdec_stay ((putL 4 n).getD j 0).toNat (by omega)
      rw [show ((((putL 4 n).getD j 0).toNat : Nat) : Int) = (putL 4 n).getD j 0 by omega] at hdec
      obtain ⟨s', hss'⟩ : ∃ s, dotL ((putL 4 n).take (j + 1)) = s := ⟨_, rfl⟩
      rw [hss'] at hs
      have hs1 : s'.drop 1 = (dotL ((putL 4 n).take j)).drop 1 ++ (if j = 0 then [] else [46]) ++ Lib.decDigits ((putL 4 n).getD j 0).toNat := by
        rw [hs]
        by_cases h : j = 0
        · subst h; simp [dotL]
        · have hp := dotL_pos ((putL 4 n).take j) (by intro e; have := congrArg List.length e; rw [List.length_take, hlen] at this; simp at this; omega)
          rw [List.drop_append_of_le_length (by omega), if_neg h]
          simp
      obtain ⟨d, hdd⟩ : ∃ d, Lib.decDigits ((putL 4 n).getD j 0).toNat = d := ⟨_, rfl⟩
      rw [hdd] at hdec hs1 hd
      obtain ⟨x, hxx⟩ : ∃ x, (putL 4 n).getD j 0 = x := ⟨_, rfl⟩
      rw [hxx] at hdec hcell hy
      have hwx : wrap64 x = x := Go.IntWalk.wrap64_in _ ⟨by omega, by omega⟩
      obtain ⟨s, hss⟩ : ∃ s, (dotL ((putL 4 n).take j)).drop 1 = s := ⟨_, rfl⟩
      have hsl : s.length ≤ 100 := by rw [← hss, List.length_drop]; omega
      rw [hss] at hs1 ⊢
      have hc1 : ∀ W, (Op.stringOp .add (ba s) ⟨#[46]⟩).run Tryd.prog W = .ok (.string (ba (s ++ [46]))) W := fun W => by
        rw [show (⟨#[46]⟩ : ByteArray) = ba [46] from rfl, run_string_add_sum W _ _ (by rw [ba_size, ba_size, List.length_singleton]; omega), ba_app]
      have hc2 : ∀ W, (Op.stringOp .add (ba (s ++ [46])) (ba d)).run Tryd.prog W = .ok (.string (ba (s ++ [46] ++ d))) W := fun W => by
        rw [run_string_add_sum W _ _ (by rw [ba_size, ba_size, List.length_append, List.length_singleton]; omega), ba_app]
      have hc3 : ∀ W, (Op.stringOp .add (ba s) (ba d)).run Tryd.prog W = .ok (.string (ba (s ++ d))) W := fun W => by
        rw [run_string_add_sum W _ _ (by rw [ba_size, ba_size]; omega), ba_app]
      have HD := Lib.hid hdec
      have HS := Lib.hid hs1
      have HS' := Lib.hid hss'
      have hjl : (j : Int) < 4 := by omega
      by_cases hj0 : j = 0
      · subst hj0
        rw [if_pos rfl, List.append_nil] at HS
        clear hs hl hy hd hdec hs1 hss' hdd hxx hss hsl hbb
        rw [add_zero] at hcell
        go_wp2_with (go_at_call 54; refine Calls.mono (HD.out _) ?_; rintro e w2 ⟨rfl, hK1⟩; replace hK1 := Lib.hid hK1)
        go_roundw
        case rel => exact ⟨0 + 1, by omega, by go_num, by rw [HS'.out, HS.out], Lib.hid (HK.out.and hK1.out)⟩
        case measure => simp [intOf]
      · rw [if_neg hj0] at HS
        have hjp : (0 : Int) < j := by omega
        clear hs hl hy hd hdec hs1 hss' hdd hxx hss hsl hbb
        go_wp2_with (go_at_call 54; refine Calls.mono (HD.out _) ?_; rintro e w2 ⟨rfl, hK1⟩; replace hK1 := Lib.hid hK1)
        go_roundw
        case rel => exact ⟨j + 1, by omega, by go_num, by rw [HS'.out, HS.out]; simp, Lib.hid (HK.out.and hK1.out)⟩
        case measure => simp [intOf]; omega
    · obtain rfl : j = 4 := by omega
      rw [show (putL 4 n).take 4 = putL 4 n from List.take_of_length_le (by omega)]
      have e : (dotL (putL 4 n)).drop 1 = addrL n := rfl
      rw [e]
      clear e hbb hlen
      go_wp2
      go_ret
      exact ⟨rfl, hk1.out.and HK.out⟩

end Go.Proofs.YtkhonebedoemoaaDoor
