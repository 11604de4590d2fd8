/- Chapter 8: Merge of package aggregate. No condition but the bounds that arguments have. -/
import Derived.Test.YtnjdkcnafjkckaaDoorAggL
namespace Go.Proofs.YtnjdkcnafjkckaaDoor
open Go.RowKit
set_option linter.unusedVariables false
set_option linter.unusedSimpArgs false

theorem findV_parts (p : AtI → Bool) (zs : List AtI) : ∃ X Y, findV p zs = .tuple #[X.val, .bool Y] ∧ X = (zs.find? p).getD (mkG 0 0 0) ∧ Y = (zs.find? p).isSome := ⟨_, _, rfl, rfl, rfl⟩

set_option maxRecDepth 100000 in
set_option maxHeartbeats 1600000 in
theorem of_kind (k : Int) (A : Option Addr) (c : Nat) (zs : List AtI) (b : Nat) (w : World) (h : AtsL w A zs) (hn : zs.length ≤ 1000) (hb : w.cell? ⟨b, 0, none⟩ = some (.slice A zs.length c)) :
    Calls Tryd.prog 30 #[.int .i64 k, .pointer (some ⟨b, 0, none⟩)] w (Stay (findV (fun z => z.t == k) zs) w) := by
  have hk0 := ((Kp.refl NoB w).alloc (.cells #[.int .i64 k] 3)).alloc (.cells (mkG 0 0 0).cs 30)
  have hb1 := hk0.cell hb (fun q => q)
  have hbk := (Bk.fresh w 3 #[.int .i64 k]).alloc (.cells (mkG 0 0 0).cs 30)
  have HF := Lib.hid (find2_any (fun z => z.t == k) A c zs w.heap.size _ (h.and hk0) hn (fun z hz W hW => clo2_any z k w.heap.size W ((hbk.and hW).cell 0)))
  obtain ⟨X, Y, hf, -, -⟩ := findV_parts (fun z => z.t == k) zs
  rw [hf] at HF ⊢
  have HB := Lib.hid (Bk.second w (.cells #[.int .i64 k] 3) 30 (mkG 0 0 0).cs)
  have HK := Lib.hid hk0
  clear hk0 hbk h hf
  unfold mkG AtI.val AtI.cs at *
  go_enter Tryd.func30, Tryd.ntmps30
  go_wp2_with (go_at_call 28; (with_reducible refine Calls.mono HF.out ?_); rintro e w1 ⟨rfl, hK⟩; have hk1 := Lib.hid (HK.out.and hK); have hZ := Lib.hid (HB.out.and hK); clear hK; obtain ⟨z0, z1, z2, z3, z4, z5, z6, z7, z8⟩ := attrMG hZ.out; have f0 := hZ.out.frozen 0; have f1 := hZ.out.frozen 1; have f2 := hZ.out.frozen 2; have f3 := hZ.out.frozen 3; have f4 := hZ.out.frozen 4; have f5 := hZ.out.frozen 5; have f6 := hZ.out.frozen 6; have f7 := hZ.out.frozen 7; have f8 := hZ.out.frozen 8)
  refine bodyPost_ret (v := .tuple #[X.val, .bool Y]) (results_row_tmp (fn := Tryd.f30) rfl _ _ (w.heap.size + 1) 30 X.cs (0, 0) _ rfl (set9 hZ.out _ _ _ _ _ _ _ _ _) Tryd.underlying30 rfl (by kernel_rfl)) rfl ⟨rfl, kp9 hk1.out (Nat.le_succ _) _ _ _ _ _ _ _ _ _⟩

theorem cell_one {w : World} {b : Nat} {t : TypeId} {v : Value} (h : Bk w b t #[v]) : w.cell? ⟨b, 0, none⟩ = some v := h.cell 0
/-- What Merge returns. -/
def pick (zs : List AtI) (k : Int) : AtI := (zs.find? (fun z => z.t == k)).getD (mkG 0 0 0)
def has (zs : List AtI) (k : Int) : Bool := (zs.find? (fun z => z.t == k)).isSome
def badL (zs : List AtI) : Bool := (zs.find? (fun z => !validG 4 z)).isSome
def mergeA (zs : List AtI) : AtI := if badL zs then mkG 0 0 0 else if has zs 7 && has zs 18 && (pick zs 7).n == 23456 then { pick zs 7 with n := (pick zs 18).n, m := (pick zs 18).m } else pick zs 7
def mergeB (zs : List AtI) : Bool := !badL zs && has zs 7
theorem findV_kind (zs : List AtI) (k : Int) : findV (fun z => z.t == k) zs = .tuple #[(pick zs k).val, .bool (has zs k)] := rfl

set_option maxRecDepth 100000 in
set_option maxHeartbeats 1600000 in
theorem merge_any (A : Option Addr) (c : Nat) (zs : List AtI) (w : World) (h : AtsL w A zs) (hn : zs.length ≤ 1000) (hok : ∀ z ∈ zs, z.Ok) :
    Calls Tryd.prog 10 #[.slice A zs.length c] w (Stay (.tuple #[(mergeA zs).val, .bool (mergeB zs)]) w) := by
  have HF := Lib.hid (fun W (k : Kp NoB w W) => find1_any (fun z => !validG 4 z) A c zs W (h.and k) hn (fun z hz W' _ => clo1_any z (hok z hz) W'))
  have HO7 := Lib.hid (fun W b (k : Kp NoB w W) hb => of_kind 7 A c zs b W (h.and k) hn hb)
  have HO18 := Lib.hid (fun W b (k : Kp NoB w W) hb => of_kind 18 A c zs b W (h.and k) hn hb)
  rw [findV_kind] at HO7 HO18
  obtain ⟨X0, Y0, hf, -, hY0⟩ := findV_parts (fun z => !validG 4 z) zs
  rw [hf] at HF
  have hb0 : badL zs = Y0 := hY0.symm
  have hB : mergeB zs = (!Y0 && has zs 7) := by unfold mergeB; rw [hb0]
  have hA : mergeA zs = if Y0 then mkG 0 0 0 else if has zs 7 && has zs 18 && (pick zs 7).n == 23456 then { pick zs 7 with n := (pick zs 18).n, m := (pick zs 18).m } else pick zs 7 := by unfold mergeA; rw [hb0]
  rw [hB, hA]
  clear hf hY0 hb0 hB hA h hok
  obtain ⟨X7, hX7⟩ : ∃ x, pick zs 7 = x := ⟨_, rfl⟩
  obtain ⟨X8, hX8⟩ : ∃ x, pick zs 18 = x := ⟨_, rfl⟩
  obtain ⟨Y7, hY7⟩ : ∃ x, has zs 7 = x := ⟨_, rfl⟩
  obtain ⟨Y8, hY8⟩ : ∃ x, has zs 18 = x := ⟨_, rfl⟩
  rw [hX7, hY7] at HO7
  rw [hX8, hY8] at HO18
  rw [hX7, hX8, hY7, hY8]
  obtain ⟨n, hnn⟩ : ∃ n, zs.length = n := ⟨_, rfl⟩
  rw [hnn] at HF HO7 HO18 ⊢
  have hL := Lib.hid ((Bk.fresh w 22 #[.slice A n c]).alloc (.cells (mkG 0 0 0).cs 30))
  have hR := Lib.hid (Bk.second w (.cells #[.slice A n c] 22) 30 (mkG 0 0 0).cs)
  have hk0 := Lib.hid (((Kp.refl NoB w).alloc (.cells #[.slice A n c] 22)).alloc (.cells (mkG 0 0 0).cs 30))
  clear hX7 hX8 hY7 hY8 hnn hn
  unfold AtI.val AtI.cs at HF HO7 HO18
  unfold mkG AtI.cs at hL hR hk0
  cases Y0
  · cases Y7
    · go_enter Tryd.func10, Tryd.ntmps10
      go_wp2_with (first
        | (go_at_call 28; (with_reducible refine Calls.mono (HF.out _ hk0.out) ?_); rintro e w1 ⟨rfl, hK⟩; have hk1 := Lib.hid (hk0.out.and hK); have hR1 := Lib.hid (hR.out.and hK); have hL1 := Lib.hid (hL.out.and hK); have hb1 := Lib.hid (fun o => cell_one (hL1.out.alloc o)); clear hK)
        | (go_at_call 30; (with_reducible refine Calls.mono (HO7.out _ _ (hk1.out.alloc _) (hb1.out _)) ?_); rintro e w2 ⟨rfl, hK⟩; have hk2 := Lib.hid ((hk1.out.alloc _).and hK); have hR2 := Lib.hid ((hR1.out.alloc _).and hK); have hL2 := Lib.hid ((hL1.out.alloc _).and hK); have hb2 := Lib.hid (fun o => cell_one (hL2.out.alloc o)); have hW2 := Lib.hid hR2.out.lt; clear hK)
        | (go_at_call 30; (with_reducible refine Calls.mono (HO18.out _ _ (hk2.out.alloc _) (hb2.out _)) ?_); rintro e w3 ⟨rfl, hK⟩; have hk3 := Lib.hid ((hk2.out.alloc _).and hK); have hR3 := Lib.hid ((hR2.out.alloc _).and hK); have hA3 := Lib.hid ((Bk.fresh w2 30 X7.cs).and hK); have hlt2 : w2.heap.size < w3.heap.size := hA3.out.lt; have hne2 := Nat.ne_of_lt hlt2; have hlt3 : w.heap.size + 1 < w2.heap.size := hW2.out; have hne3 := Nat.ne_of_lt hlt3; have hlt4 := Nat.lt_trans hlt3 hlt2; have hne4 := Nat.ne_of_lt hlt4; clear hK; obtain ⟨y0, y1, y2, y3, y4, y5, y6, y7, y8⟩ := hA3.out.attr; have g2 := hA3.out.frozen 2; have g3 := hA3.out.frozen 3; obtain ⟨z0, z1, z2, z3, z4, z5, z6, z7, z8⟩ := attrMG hR3.out; have f0 := hR3.out.frozen 0; have f1 := hR3.out.frozen 1; have f2 := hR3.out.frozen 2; have f3 := hR3.out.frozen 3; have f4 := hR3.out.frozen 4; have f5 := hR3.out.frozen 5; have f6 := hR3.out.frozen 6; have f7 := hR3.out.frozen 7; have f8 := hR3.out.frozen 8))
      refine bodyPost_ret (v := .tuple #[X7.val, .bool false]) (results_row_tmp (fn := Tryd.f10) rfl _ _ (w.heap.size + 1) 30 X7.cs (0, 0) _ rfl ((set9 hR3.out _ _ _ _ _ _ _ _ _).alloc _) Tryd.underlying30 rfl (by kernel_rfl)) rfl ⟨rfl, (kp9 hk3.out (Nat.le_succ _) _ _ _ _ _ _ _ _ _).alloc _⟩
    · cases Y8
      · go_enter Tryd.func10, Tryd.ntmps10
        go_wp2_with (first
          | (go_at_call 28; (with_reducible refine Calls.mono (HF.out _ hk0.out) ?_); rintro e w1 ⟨rfl, hK⟩; have hk1 := Lib.hid (hk0.out.and hK); have hR1 := Lib.hid (hR.out.and hK); have hL1 := Lib.hid (hL.out.and hK); have hb1 := Lib.hid (fun o => cell_one (hL1.out.alloc o)); clear hK)
          | (go_at_call 30; (with_reducible refine Calls.mono (HO7.out _ _ (hk1.out.alloc _) (hb1.out _)) ?_); rintro e w2 ⟨rfl, hK⟩; have hk2 := Lib.hid ((hk1.out.alloc _).and hK); have hR2 := Lib.hid ((hR1.out.alloc _).and hK); have hL2 := Lib.hid ((hL1.out.alloc _).and hK); have hb2 := Lib.hid (fun o => cell_one (hL2.out.alloc o)); have hW2 := Lib.hid hR2.out.lt; clear hK)
          | (go_at_call 30; (with_reducible refine Calls.mono (HO18.out _ _ (hk2.out.alloc _) (hb2.out _)) ?_); rintro e w3 ⟨rfl, hK⟩; have hk3 := Lib.hid ((hk2.out.alloc _).and hK); have hR3 := Lib.hid ((hR2.out.alloc _).and hK); have hA3 := Lib.hid ((Bk.fresh w2 30 X7.cs).and hK); have hlt2 : w2.heap.size < w3.heap.size := hA3.out.lt; have hne2 := Nat.ne_of_lt hlt2; have hlt3 : w.heap.size + 1 < w2.heap.size := hW2.out; have hne3 := Nat.ne_of_lt hlt3; have hlt4 := Nat.lt_trans hlt3 hlt2; have hne4 := Nat.ne_of_lt hlt4; clear hK; obtain ⟨y0, y1, y2, y3, y4, y5, y6, y7, y8⟩ := hA3.out.attr; have g2 := hA3.out.frozen 2; have g3 := hA3.out.frozen 3; obtain ⟨z0, z1, z2, z3, z4, z5, z6, z7, z8⟩ := attrMG hR3.out; have f0 := hR3.out.frozen 0; have f1 := hR3.out.frozen 1; have f2 := hR3.out.frozen 2; have f3 := hR3.out.frozen 3; have f4 := hR3.out.frozen 4; have f5 := hR3.out.frozen 5; have f6 := hR3.out.frozen 6; have f7 := hR3.out.frozen 7; have f8 := hR3.out.frozen 8))
        refine bodyPost_ret (v := .tuple #[X7.val, .bool true]) (results_row_tmp (fn := Tryd.f10) rfl _ _ (w.heap.size + 1) 30 X7.cs (0, 0) _ rfl ((set9 hR3.out _ _ _ _ _ _ _ _ _).alloc _) Tryd.underlying30 rfl (by kernel_rfl)) rfl ⟨rfl, (kp9 hk3.out (Nat.le_succ _) _ _ _ _ _ _ _ _ _).alloc _⟩
      · by_cases hn : X7.n = 23456
        · obtain ⟨t7, p7, n7, m7, S7, sn7, sc7, L7, ln7, lc7, B7, bn7, bc7, f, R7, rn7, rc7⟩ := X7
          simp only at hn
          subst hn
          go_enter Tryd.func10, Tryd.ntmps10
          go_wp2_with (first
            | (go_at_call 28; (with_reducible refine Calls.mono (HF.out _ hk0.out) ?_); rintro e w1 ⟨rfl, hK⟩; have hk1 := Lib.hid (hk0.out.and hK); have hR1 := Lib.hid (hR.out.and hK); have hL1 := Lib.hid (hL.out.and hK); have hb1 := Lib.hid (fun o => cell_one (hL1.out.alloc o)); clear hK)
            | (go_at_call 30; (with_reducible refine Calls.mono (HO7.out _ _ (hk1.out.alloc _) (hb1.out _)) ?_); rintro e w2 ⟨rfl, hK⟩; have hk2 := Lib.hid ((hk1.out.alloc _).and hK); have hR2 := Lib.hid ((hR1.out.alloc _).and hK); have hL2 := Lib.hid ((hL1.out.alloc _).and hK); have hb2 := Lib.hid (fun o => cell_one (hL2.out.alloc o)); have hW2 := Lib.hid hR2.out.lt; clear hK)
            | (go_at_call 30; (with_reducible refine Calls.mono (HO18.out _ _ (hk2.out.alloc _) (hb2.out _)) ?_); rintro e w3 ⟨rfl, hK⟩; have hk3 := Lib.hid ((hk2.out.alloc _).and hK); have hR3 := Lib.hid ((hR2.out.alloc _).and hK); have hA3 := Lib.hid ((Bk.fresh w2 30 (AtI.mk t7 p7 23456 m7 S7 sn7 sc7 L7 ln7 lc7 B7 bn7 bc7 f R7 rn7 rc7).cs).and hK); have hlt2 : w2.heap.size < w3.heap.size := hA3.out.lt; have hne2 := Nat.ne_of_lt hlt2; have hlt3 : w.heap.size + 1 < w2.heap.size := hW2.out; have hne3 := Nat.ne_of_lt hlt3; have hlt4 := Nat.lt_trans hlt3 hlt2; have hne4 := Nat.ne_of_lt hlt4; clear hK; obtain ⟨y0, y1, y2, y3, y4, y5, y6, y7, y8⟩ := hA3.out.attr; have g2 := hA3.out.frozen 2; have g3 := hA3.out.frozen 3; obtain ⟨z0, z1, z2, z3, z4, z5, z6, z7, z8⟩ := attrMG hR3.out; have f0 := hR3.out.frozen 0; have f1 := hR3.out.frozen 1; have f2 := hR3.out.frozen 2; have f3 := hR3.out.frozen 3; have f4 := hR3.out.frozen 4; have f5 := hR3.out.frozen 5; have f6 := hR3.out.frozen 6; have f7 := hR3.out.frozen 7; have f8 := hR3.out.frozen 8))
          go_region
          have hR4 := Lib.hid ((hR3.out.far (p := ⟨w2.heap.size, 2, none⟩) hne3 (.int .u32 X8.n)).far (p := ⟨w2.heap.size, 3, none⟩) hne3 (.int .u32 X8.m))
          have hk4 := Lib.hid ((hk3.out.setCell (p := ⟨w2.heap.size, 2, none⟩) (fun q => absurd q (by show ¬ w2.heap.size < w.heap.size; omega)) (.int .u32 X8.n)).setCell (p := ⟨w2.heap.size, 3, none⟩) (fun q => absurd q (by show ¬ w2.heap.size < w.heap.size; omega)) (.int .u32 X8.m))
          go_wp2
          refine bodyPost_ret (v := .tuple #[(AtI.mk t7 p7 X8.n X8.m S7 sn7 sc7 L7 ln7 lc7 B7 bn7 bc7 f R7 rn7 rc7).val, .bool true]) (results_row_tmp (fn := Tryd.f10) rfl _ _ (w.heap.size + 1) 30 (AtI.mk t7 p7 X8.n X8.m S7 sn7 sc7 L7 ln7 lc7 B7 bn7 bc7 f R7 rn7 rc7).cs (0, 0) _ rfl (bk_drew ((set9 hR4.out _ _ _ _ _ _ _ _ _).alloc _)) Tryd.underlying30 rfl (by kernel_rfl)) rfl ⟨rfl, ((kp9 hk4.out (Nat.le_succ _) _ _ _ _ _ _ _ _ _).alloc _).drew⟩
        · rw [show (if (false : Bool) = true then mkG 0 0 0 else if (true && true && X7.n == 23456) = true then { X7 with n := X8.n, m := X8.m } else X7) = X7 by simp [hn]]
          go_enter Tryd.func10, Tryd.ntmps10
          go_wp2_with (first
            | (go_at_call 28; (with_reducible refine Calls.mono (HF.out _ hk0.out) ?_); rintro e w1 ⟨rfl, hK⟩; have hk1 := Lib.hid (hk0.out.and hK); have hR1 := Lib.hid (hR.out.and hK); have hL1 := Lib.hid (hL.out.and hK); have hb1 := Lib.hid (fun o => cell_one (hL1.out.alloc o)); clear hK)
            | (go_at_call 30; (with_reducible refine Calls.mono (HO7.out _ _ (hk1.out.alloc _) (hb1.out _)) ?_); rintro e w2 ⟨rfl, hK⟩; have hk2 := Lib.hid ((hk1.out.alloc _).and hK); have hR2 := Lib.hid ((hR1.out.alloc _).and hK); have hL2 := Lib.hid ((hL1.out.alloc _).and hK); have hb2 := Lib.hid (fun o => cell_one (hL2.out.alloc o)); have hW2 := Lib.hid hR2.out.lt; clear hK)
            | (go_at_call 30; (with_reducible refine Calls.mono (HO18.out _ _ (hk2.out.alloc _) (hb2.out _)) ?_); rintro e w3 ⟨rfl, hK⟩; have hk3 := Lib.hid ((hk2.out.alloc _).and hK); have hR3 := Lib.hid ((hR2.out.alloc _).and hK); have hA3 := Lib.hid ((Bk.fresh w2 30 X7.cs).and hK); have hlt2 : w2.heap.size < w3.heap.size := hA3.out.lt; have hne2 := Nat.ne_of_lt hlt2; have hlt3 : w.heap.size + 1 < w2.heap.size := hW2.out; have hne3 := Nat.ne_of_lt hlt3; have hlt4 := Nat.lt_trans hlt3 hlt2; have hne4 := Nat.ne_of_lt hlt4; clear hK; obtain ⟨y0, y1, y2, y3, y4, y5, y6, y7, y8⟩ := hA3.out.attr; have g2 := hA3.out.frozen 2; have g3 := hA3.out.frozen 3; obtain ⟨z0, z1, z2, z3, z4, z5, z6, z7, z8⟩ := attrMG hR3.out; have f0 := hR3.out.frozen 0; have f1 := hR3.out.frozen 1; have f2 := hR3.out.frozen 2; have f3 := hR3.out.frozen 3; have f4 := hR3.out.frozen 4; have f5 := hR3.out.frozen 5; have f6 := hR3.out.frozen 6; have f7 := hR3.out.frozen 7; have f8 := hR3.out.frozen 8))
          refine bodyPost_ret (v := .tuple #[X7.val, .bool true]) (results_row_tmp (fn := Tryd.f10) rfl _ _ (w.heap.size + 1) 30 X7.cs (0, 0) _ rfl ((set9 hR3.out _ _ _ _ _ _ _ _ _).alloc _) Tryd.underlying30 rfl (by kernel_rfl)) rfl ⟨rfl, (kp9 hk3.out (Nat.le_succ _) _ _ _ _ _ _ _ _ _).alloc _⟩

  · go_enter Tryd.func10, Tryd.ntmps10
    go_wp2_with (go_at_call 28; (with_reducible refine Calls.mono (HF.out _ hk0.out) ?_); rintro e w1 ⟨rfl, hK⟩; have hk1 := Lib.hid (hk0.out.and hK); have hZ := Lib.hid (hR.out.and hK); have hlt : w.heap.size + 1 < w1.heap.size := hZ.out.lt; have hne := Nat.ne_of_lt hlt; clear hK; obtain ⟨z0, z1, z2, z3, z4, z5, z6, z7, z8⟩ := attrMG hZ.out; have f0 := hZ.out.frozen 0; have f1 := hZ.out.frozen 1; have f2 := hZ.out.frozen 2; have f3 := hZ.out.frozen 3; have f4 := hZ.out.frozen 4; have f5 := hZ.out.frozen 5; have f6 := hZ.out.frozen 6; have f7 := hZ.out.frozen 7; have f8 := hZ.out.frozen 8)
    refine bodyPost_ret (v := .tuple #[(mkG 0 0 0).val, .bool false]) (results_row_tmp (fn := Tryd.f10) rfl _ _ (w.heap.size + 1) 30 (mkG 0 0 0).cs (0, 0) _ rfl ((set9 hZ.out _ _ _ _ _ _ _ _ _).alloc _) Tryd.underlying30 rfl (by kernel_rfl)) rfl ⟨rfl, (kp9 hk1.out (Nat.le_succ _) _ _ _ _ _ _ _ _ _).alloc _⟩

end Go.Proofs.YtnjdkcnafjkckaaDoor
