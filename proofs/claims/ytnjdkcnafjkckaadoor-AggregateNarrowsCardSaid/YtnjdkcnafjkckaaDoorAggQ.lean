/- Chapter 8: first and Merge of the reference. No condition but the bounds that arguments have. -/
import Derived.Test.YtnjdkcnafjkckaaDoorAggM
namespace Go.Proofs.YtnjdkcnafjkckaaDoor
open Go.RowKit
set_option linter.unusedVariables false
set_option linter.unusedSimpArgs false

set_option maxRecDepth 100000 in
set_option maxHeartbeats 1600000 in
theorem rfirst_any (k : Int) (A : Option Addr) (c : Nat) (zs : List AtI) (w : World) (h : AtsL w A zs) (hn : zs.length ≤ 1000) :
    Calls Tryd.prog 32 #[.slice A zs.length c, .int .i64 k] w (Stay (findV (fun z => z.t == k) zs) w) := by
  have HA := Lib.hid h
  clear h
  obtain ⟨n, hnn⟩ : ∃ n, zs.length = n := ⟨_, rfl⟩
  have HN := Lib.hid hnn
  rw [hnn] at hn ⊢
  clear hnn
  go_enter Tryd.func32, Tryd.ntmps32
  go_wp2
  go_loopw [6] (fun i wr => ∃ j : Nat, j ≤ n ∧ i = .int .i64 j ∧ Hid (Kp NoB w wr) ∧ Hid (Bk wr w.heap.size 30 (mkG 0 0 0).cs) ∧ Hid (zs.find? (fun z => z.t == k) = (zs.drop j).find? (fun z => z.t == k))) (fun i _ => n - (intOf i).toNat)
  case atStart => exact ⟨0, Nat.zero_le _, rfl, Lib.hid ((Kp.refl _ _).alloc _), Lib.hid (Bk.fresh _ _ _), Lib.hid rfl⟩
  case round =>
    obtain ⟨j, hj, rfl, HK, HZ, HD⟩ := hrel
    obtain ⟨z0, z1, z2, z3, z4, z5, z6, z7, z8⟩ := attrMG HZ.out
    have f0 := HZ.out.frozen 0
    have f1 := HZ.out.frozen 1
    have f2 := HZ.out.frozen 2
    have f3 := HZ.out.frozen 3
    have f4 := HZ.out.frozen 4
    have f5 := HZ.out.frozen 5
    have f6 := HZ.out.frozen 6
    have f7 := HZ.out.frozen 7
    have f8 := HZ.out.frozen 8
    by_cases hlt : j < n
    · have hjl : j < zs.length := by rw [HN.out]; exact hlt
      obtain ⟨ad, rfl, x0, x1, x2, x3, x4, x5, x6, x7, x8⟩ := ats_at (HA.out.and HK.out) hjl
      have hd := find_step (fun z => z.t == k) zs j hjl
      obtain ⟨z, hz⟩ : ∃ z, zs[j] = z := ⟨_, rfl⟩
      rw [hz] at x0 x1 x2 x3 x4 x5 x6 x7 x8 hd
      have HDz := Lib.hid hd
      clear hz hd
      by_cases hzk : z.t = k
      · have HT := Lib.hid (show findV (fun z => z.t == k) zs = .tuple #[z.val, .bool true] by unfold findV; rw [HD.out, HDz.out, hzk]; simp)
        obtain ⟨t, p, n', m, S, sn, sc, L, ln, lc, B, bn, bc, f, R, rn, rc⟩ := z
        simp only at hzk x0 x1 x2 x3 x4 x5 x6 x7 x8
        subst hzk
        go_wp2
        refine bodyPost_ret (v := .tuple #[(AtI.mk t p n' m S sn sc L ln lc B bn bc f R rn rc).val, .bool true]) (results_row_tmp (fn := Tryd.f32) rfl _ _ w.heap.size 30 (AtI.mk t p n' m S sn sc L ln lc B bn bc f R rn rc).cs (0, 0) _ rfl (set9 HZ.out _ _ _ _ _ _ _ _ _) Tryd.underlying30 rfl (by kernel_rfl)) rfl ⟨by rw [HT.out], kp9 HK.out (Nat.le_refl _) _ _ _ _ _ _ _ _ _⟩
      · go_wp2
        go_roundw
        case rel => exact ⟨j + 1, by omega, by go_num, HK, HZ, Lib.hid (HD.out.trans (by rw [HDz.out]; simp [hzk]))⟩
        case measure => simp [intOf]; omega
    · have hj' : j = n := by omega
      have HT := Lib.hid (show findV (fun z => z.t == k) zs = .tuple #[(mkG 0 0 0).val, .bool false] by unfold findV; rw [HD.out, List.drop_eq_nil_of_le (by rw [HN.out]; omega)]; rfl)
      go_wp2
      refine bodyPost_ret (v := .tuple #[(mkG 0 0 0).val, .bool false]) (results_row_tmp (fn := Tryd.f32) rfl _ _ w.heap.size 30 (mkG 0 0 0).cs (0, 0) _ rfl (set9 HZ.out _ _ _ _ _ _ _ _ _) Tryd.underlying30 rfl (by kernel_rfl)) rfl ⟨by rw [HT.out], kp9 HK.out (Nat.le_refl _) _ _ _ _ _ _ _ _ _⟩

set_option maxRecDepth 100000 in
set_option maxHeartbeats 3200000 in
theorem rmerge_any (A : Option Addr) (c : Nat) (zs : List AtI) (w : World) (h : AtsL w A zs) (hn : zs.length ≤ 1000) (hok : ∀ z ∈ zs, z.Ok) :
    Calls Tryd.prog 11 #[.slice A zs.length c] w (Stay (.tuple #[(mergeA zs).val, .bool (mergeB zs)]) w) := by
  have HA := Lib.hid h
  have HV := Lib.hid (fun z hz W => grvalid_any 4 z (hok z hz).n W)
  have HO7 := Lib.hid (fun W (k : Kp NoB w W) => rfirst_any 7 A c zs W (h.and k) hn)
  have HO18 := Lib.hid (fun W (k : Kp NoB w W) => rfirst_any 18 A c zs W (h.and k) hn)
  rw [findV_kind] at HO7 HO18
  obtain ⟨X7, hX7⟩ : ∃ x, pick zs 7 = x := ⟨_, rfl⟩
  obtain ⟨X8, hX8⟩ : ∃ x, pick zs 18 = x := ⟨_, rfl⟩
  obtain ⟨Y7, hY7⟩ : ∃ x, has zs 7 = x := ⟨_, rfl⟩
  obtain ⟨Y8, hY8⟩ : ∃ x, has zs 18 = x := ⟨_, rfl⟩
  rw [hX7, hY7] at HO7
  rw [hX8, hY8] at HO18
  have HBad := Lib.hid (fun (hb : badL zs = true) => (show (Value.tuple #[(mergeA zs).val, .bool (mergeB zs)]) = .tuple #[(mkG 0 0 0).val, .bool false] by unfold mergeA mergeB; rw [hb]; rfl))
  have HGood := Lib.hid (fun (hb : badL zs = false) => (show (Value.tuple #[(mergeA zs).val, .bool (mergeB zs)]) = .tuple #[(if Y7 && Y8 && X7.n == 23456 then { X7 with n := X8.n, m := X8.m } else X7).val, .bool Y7] by unfold mergeA mergeB; rw [hb, hX7, hX8, hY7, hY8]; rfl))
  obtain ⟨n, hnn⟩ : ∃ n, zs.length = n := ⟨_, rfl⟩
  have HN := Lib.hid hnn
  rw [hnn] at HO7 HO18 hn ⊢
  obtain ⟨T, hT⟩ : ∃ T, Value.tuple #[(mergeA zs).val, .bool (mergeB zs)] = T := ⟨_, rfl⟩
  rw [hT] at HBad HGood ⊢
  clear hX7 hX8 hY7 hY8 hnn h hT
  unfold AtI.val AtI.cs at HO7 HO18
  go_enter Tryd.func11, Tryd.ntmps11
  go_wp2
  go_loopw [4] (fun i wr => ∃ j : Nat, j ≤ n ∧ i = .int .i64 j ∧ Hid (Kp NoB w wr) ∧ Hid (Bk wr w.heap.size 30 (mkG 0 0 0).cs) ∧ Hid (zs.find? (fun z => !validG 4 z) = (zs.drop j).find? (fun z => !validG 4 z))) (fun i _ => n - (intOf i).toNat)
  case atStart => exact ⟨0, Nat.zero_le _, rfl, Lib.hid ((Kp.refl _ _).alloc _), Lib.hid (Bk.fresh _ _ _), Lib.hid rfl⟩
  case round =>
    obtain ⟨j, hj, rfl, HK, HZ, HD⟩ := hrel
    by_cases hlt : j < n
    · have hjl : j < zs.length := by rw [HN.out]; exact hlt
      obtain ⟨ad, rfl, x0, x1, x2, x3, x4, x5, x6, x7, x8⟩ := ats_at (HA.out.and HK.out) hjl
      have hd := find_step (fun z => !validG 4 z) zs j hjl
      have hv := HV.out _ (List.getElem_mem hjl)
      obtain ⟨z, hz⟩ : ∃ z, zs[j] = z := ⟨_, rfl⟩
      rw [hz] at x0 x1 x2 x3 x4 x5 x6 x7 x8 hd hv
      obtain ⟨V, hV⟩ : ∃ V, validG 4 z = V := ⟨_, rfl⟩
      rw [hV] at hd hv
      have HDz := Lib.hid hd
      have HVz := Lib.hid hv
      clear hz hd hv hV
      unfold AtI.val AtI.cs at HVz
      cases V
      · have HT := Lib.hid (HBad.out (by unfold badL; rw [HD.out, HDz.out]; rfl))
        go_wp2_with (go_at_call 17; (with_reducible refine Calls.mono (HVz.out _) ?_); rintro e w2 ⟨rfl, hK⟩; have hk2 := Lib.hid (HK.out.and hK); have hR2 := Lib.hid (HZ.out.and hK); clear hK; obtain ⟨z0, z1, z2, z3, z4, z5, z6, z7, z8⟩ := attrMG hR2.out; have f0 := hR2.out.frozen 0; have f1 := hR2.out.frozen 1; have f2 := hR2.out.frozen 2; have f3 := hR2.out.frozen 3; have f4 := hR2.out.frozen 4; have f5 := hR2.out.frozen 5; have f6 := hR2.out.frozen 6; have f7 := hR2.out.frozen 7; have f8 := hR2.out.frozen 8)
        refine bodyPost_ret (v := .tuple #[(mkG 0 0 0).val, .bool false]) (results_row_tmp (fn := Tryd.f11) rfl _ _ w.heap.size 30 (mkG 0 0 0).cs (0, 0) _ rfl (set9 hR2.out _ _ _ _ _ _ _ _ _) Tryd.underlying30 rfl (by kernel_rfl)) rfl ⟨by rw [← HT.out], kp9 hk2.out (Nat.le_refl _) _ _ _ _ _ _ _ _ _⟩
      · go_wp2_with (go_at_call 17; (with_reducible refine Calls.mono (HVz.out _) ?_); rintro e w2 ⟨rfl, hK⟩; have hk2 := Lib.hid (HK.out.and hK); have hR2 := Lib.hid (HZ.out.and hK); clear hK)
        go_roundw
        case rel => exact ⟨j + 1, by omega, by go_num, hk2, hR2, Lib.hid (HD.out.trans (by rw [HDz.out]; rfl))⟩
        case measure => simp [intOf]; omega
    · have hj' : j = n := by omega
      have hb : badL zs = false := by unfold badL; rw [HD.out, List.drop_eq_nil_of_le (by rw [HN.out]; omega)]; rfl
      have hG := HGood.out hb
      clear hb
      cases Y7
      · have HT := Lib.hid hG
        clear hG
        go_wp2_with (first
          | (go_at_call 32; (with_reducible refine Calls.mono (HO7.out _ HK.out) ?_); rintro e w2 ⟨rfl, hK⟩; have hk2 := Lib.hid (HK.out.and hK); have hR2 := Lib.hid (HZ.out.and hK); have hW2 := Lib.hid hR2.out.lt; clear hK)
          | (go_at_call 32; (with_reducible refine Calls.mono (HO18.out _ (hk2.out.alloc _)) ?_); rintro e w3 ⟨rfl, hK⟩; have hk3 := Lib.hid ((hk2.out.alloc _).and hK); have hR3 := Lib.hid ((hR2.out.alloc _).and hK); have hA3 := Lib.hid ((Bk.fresh w2 30 X7.cs).and hK); have hlt2 : w2.heap.size < w3.heap.size := hA3.out.lt; have hne2 := Nat.ne_of_lt hlt2; have hlt3 : w.heap.size < w2.heap.size := hW2.out; have hne3 := Nat.ne_of_lt hlt3; have hlt4 := Nat.lt_trans hlt3 hlt2; have hne4 := Nat.ne_of_lt hlt4; clear hK; obtain ⟨y0, y1, y2, y3, y4, y5, y6, y7, y8⟩ := hA3.out.attr; have g2 := hA3.out.frozen 2; have g3 := hA3.out.frozen 3; obtain ⟨z0, z1, z2, z3, z4, z5, z6, z7, z8⟩ := attrMG hR3.out; have f0 := hR3.out.frozen 0; have f1 := hR3.out.frozen 1; have f2 := hR3.out.frozen 2; have f3 := hR3.out.frozen 3; have f4 := hR3.out.frozen 4; have f5 := hR3.out.frozen 5; have f6 := hR3.out.frozen 6; have f7 := hR3.out.frozen 7; have f8 := hR3.out.frozen 8))
        refine bodyPost_ret (v := .tuple #[X7.val, .bool false]) (results_row_tmp (fn := Tryd.f11) rfl _ _ w.heap.size 30 X7.cs (0, 0) _ rfl ((set9 hR3.out _ _ _ _ _ _ _ _ _).alloc _) Tryd.underlying30 rfl (by kernel_rfl)) rfl ⟨(congrArg Ending.returned HT.out).symm, (kp9 hk3.out (Nat.le_refl _) _ _ _ _ _ _ _ _ _).alloc _⟩
      · cases Y8
        · have HT := Lib.hid hG
          clear hG
          go_wp2_with (first
            | (go_at_call 32; (with_reducible refine Calls.mono (HO7.out _ HK.out) ?_); rintro e w2 ⟨rfl, hK⟩; have hk2 := Lib.hid (HK.out.and hK); have hR2 := Lib.hid (HZ.out.and hK); have hW2 := Lib.hid hR2.out.lt; clear hK)
            | (go_at_call 32; (with_reducible refine Calls.mono (HO18.out _ (hk2.out.alloc _)) ?_); rintro e w3 ⟨rfl, hK⟩; have hk3 := Lib.hid ((hk2.out.alloc _).and hK); have hR3 := Lib.hid ((hR2.out.alloc _).and hK); have hA3 := Lib.hid ((Bk.fresh w2 30 X7.cs).and hK); have hlt2 : w2.heap.size < w3.heap.size := hA3.out.lt; have hne2 := Nat.ne_of_lt hlt2; have hlt3 : w.heap.size < w2.heap.size := hW2.out; have hne3 := Nat.ne_of_lt hlt3; have hlt4 := Nat.lt_trans hlt3 hlt2; have hne4 := Nat.ne_of_lt hlt4; clear hK; obtain ⟨y0, y1, y2, y3, y4, y5, y6, y7, y8⟩ := hA3.out.attr; have g2 := hA3.out.frozen 2; have g3 := hA3.out.frozen 3; obtain ⟨z0, z1, z2, z3, z4, z5, z6, z7, z8⟩ := attrMG hR3.out; have f0 := hR3.out.frozen 0; have f1 := hR3.out.frozen 1; have f2 := hR3.out.frozen 2; have f3 := hR3.out.frozen 3; have f4 := hR3.out.frozen 4; have f5 := hR3.out.frozen 5; have f6 := hR3.out.frozen 6; have f7 := hR3.out.frozen 7; have f8 := hR3.out.frozen 8))
          refine bodyPost_ret (v := .tuple #[X7.val, .bool true]) (results_row_tmp (fn := Tryd.f11) rfl _ _ w.heap.size 30 X7.cs (0, 0) _ rfl ((set9 hR3.out _ _ _ _ _ _ _ _ _).alloc _) Tryd.underlying30 rfl (by kernel_rfl)) rfl ⟨(congrArg Ending.returned HT.out).symm, (kp9 hk3.out (Nat.le_refl _) _ _ _ _ _ _ _ _ _).alloc _⟩
        · by_cases hn7 : X7.n = 23456
          · obtain ⟨t7, p7, n7, m7, S7, sn7, sc7, L7, ln7, lc7, B7, bn7, bc7, f, R7, rn7, rc7⟩ := X7
            simp only at hn7
            subst hn7
            have HT := Lib.hid hG
            clear hG
            go_wp2_with (first
              | (go_at_call 32; (with_reducible refine Calls.mono (HO7.out _ HK.out) ?_); rintro e w2 ⟨rfl, hK⟩; have hk2 := Lib.hid (HK.out.and hK); have hR2 := Lib.hid (HZ.out.and hK); have hW2 := Lib.hid hR2.out.lt; clear hK)
              | (go_at_call 32; (with_reducible refine Calls.mono (HO18.out _ (hk2.out.alloc _)) ?_); rintro e w3 ⟨rfl, hK⟩; have hk3 := Lib.hid ((hk2.out.alloc _).and hK); have hR3 := Lib.hid ((hR2.out.alloc _).and hK); have hA3 := Lib.hid ((Bk.fresh w2 30 (AtI.mk t7 p7 23456 m7 S7 sn7 sc7 L7 ln7 lc7 B7 bn7 bc7 f R7 rn7 rc7).cs).and hK); have hlt2 : w2.heap.size < w3.heap.size := hA3.out.lt; have hne2 := Nat.ne_of_lt hlt2; have hlt3 : w.heap.size < w2.heap.size := hW2.out; have hne3 := Nat.ne_of_lt hlt3; have hlt4 := Nat.lt_trans hlt3 hlt2; have hne4 := Nat.ne_of_lt hlt4; clear hK; obtain ⟨y0, y1, y2, y3, y4, y5, y6, y7, y8⟩ := hA3.out.attr; have g2 := hA3.out.frozen 2; have g3 := hA3.out.frozen 3; obtain ⟨z0, z1, z2, z3, z4, z5, z6, z7, z8⟩ := attrMG hR3.out; have f0 := hR3.out.frozen 0; have f1 := hR3.out.frozen 1; have f2 := hR3.out.frozen 2; have f3 := hR3.out.frozen 3; have f4 := hR3.out.frozen 4; have f5 := hR3.out.frozen 5; have f6 := hR3.out.frozen 6; have f7 := hR3.out.frozen 7; have f8 := hR3.out.frozen 8))
            have hR4 := Lib.hid ((hR3.out.far (p := ⟨w2.heap.size, 2, none⟩) hne3 (.int .u32 X8.n)).far (p := ⟨w2.heap.size, 3, none⟩) hne3 (.int .u32 X8.m))
            have hk4 := Lib.hid ((hk3.out.setCell (p := ⟨w2.heap.size, 2, none⟩) (fun q => absurd q (by show ¬ w2.heap.size < w.heap.size; omega)) (.int .u32 X8.n)).setCell (p := ⟨w2.heap.size, 3, none⟩) (fun q => absurd q (by show ¬ w2.heap.size < w.heap.size; omega)) (.int .u32 X8.m))
            refine bodyPost_ret (v := .tuple #[(AtI.mk t7 p7 X8.n X8.m S7 sn7 sc7 L7 ln7 lc7 B7 bn7 bc7 f R7 rn7 rc7).val, .bool true]) (results_row_tmp (fn := Tryd.f11) rfl _ _ w.heap.size 30 (AtI.mk t7 p7 X8.n X8.m S7 sn7 sc7 L7 ln7 lc7 B7 bn7 bc7 f R7 rn7 rc7).cs (0, 0) _ rfl ((set9 hR4.out _ _ _ _ _ _ _ _ _).alloc _) Tryd.underlying30 rfl (by kernel_rfl)) rfl ⟨(congrArg Ending.returned HT.out).symm, (kp9 hk4.out (Nat.le_refl _) _ _ _ _ _ _ _ _ _).alloc _⟩
          · rw [show (if (true && true && X7.n == 23456) = true then { X7 with n := X8.n, m := X8.m } else X7) = X7 by simp [hn7]] at hG
            have HT := Lib.hid hG
            clear hG
            go_wp2_with (first
              | (go_at_call 32; (with_reducible refine Calls.mono (HO7.out _ HK.out) ?_); rintro e w2 ⟨rfl, hK⟩; have hk2 := Lib.hid (HK.out.and hK); have hR2 := Lib.hid (HZ.out.and hK); have hW2 := Lib.hid hR2.out.lt; clear hK)
              | (go_at_call 32; (with_reducible refine Calls.mono (HO18.out _ (hk2.out.alloc _)) ?_); rintro e w3 ⟨rfl, hK⟩; have hk3 := Lib.hid ((hk2.out.alloc _).and hK); have hR3 := Lib.hid ((hR2.out.alloc _).and hK); have hA3 := Lib.hid ((Bk.fresh w2 30 X7.cs).and hK); have hlt2 : w2.heap.size < w3.heap.size := hA3.out.lt; have hne2 := Nat.ne_of_lt hlt2; have hlt3 : w.heap.size < w2.heap.size := hW2.out; have hne3 := Nat.ne_of_lt hlt3; have hlt4 := Nat.lt_trans hlt3 hlt2; have hne4 := Nat.ne_of_lt hlt4; clear hK; obtain ⟨y0, y1, y2, y3, y4, y5, y6, y7, y8⟩ := hA3.out.attr; have g2 := hA3.out.frozen 2; have g3 := hA3.out.frozen 3; obtain ⟨z0, z1, z2, z3, z4, z5, z6, z7, z8⟩ := attrMG hR3.out; have f0 := hR3.out.frozen 0; have f1 := hR3.out.frozen 1; have f2 := hR3.out.frozen 2; have f3 := hR3.out.frozen 3; have f4 := hR3.out.frozen 4; have f5 := hR3.out.frozen 5; have f6 := hR3.out.frozen 6; have f7 := hR3.out.frozen 7; have f8 := hR3.out.frozen 8))
            refine bodyPost_ret (v := .tuple #[X7.val, .bool true]) (results_row_tmp (fn := Tryd.f11) rfl _ _ w.heap.size 30 X7.cs (0, 0) _ rfl ((set9 hR3.out _ _ _ _ _ _ _ _ _).alloc _) Tryd.underlying30 rfl (by kernel_rfl)) rfl ⟨(congrArg Ending.returned HT.out).symm, (kp9 hk3.out (Nat.le_refl _) _ _ _ _ _ _ _ _ _).alloc _⟩

end Go.Proofs.YtnjdkcnafjkckaaDoor
