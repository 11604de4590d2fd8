/- FindingTexts' walk. No condition but the listed tables' content. -/
import Derived.Test.YtknaogpkakdcoaaDoorFinD
import Derived.Test.YtknaogpkakdcoaaDoorOpenV
namespace Go.Proofs.YtknaogpkakdcoaaDoor
open Go.RowKit
set_option linter.unusedVariables false
set_option linter.unusedSimpArgs false

set_option maxRecDepth 100000 in
set_option maxHeartbeats 3200000 in
theorem ftexts_row (z : ArgV) (w : World) (hz : InV w z) (ld : Ld w) :
    Calls Tryd.prog 3 #[z.val] w fun e w' => e = .returned (.bool true) ∧ Kp NoB w w' := by
  obtain ⟨k, c, s, xs, A, m, a⟩ := z
  obtain ⟨⟨-, hn, hc, ha, hb⟩, hk, hcc, hs, haa⟩ := hz
  simp only at hn hc ha hb hk hcc hs haa
  have HAL := Lib.hid (fun W (k : Kp NoB w W) => alive_any W (ld.and k))
  have HPF := Lib.hid (fun n W => fproper_any k c s A n m a W)
  have HPR := Lib.hid (fun n W => rproper_any k c s A n m a W)
  unfold ArgV.val
  simp only
  by_cases h5 : xs.length ≤ 500
  · have HTF := Lib.hid (fun W (q : Kp NoB w W) => ftext_any k c s A m a xs haa.2 W (ld.and q) (ha.and q) hb (by omega))
    have HTR := Lib.hid (fun W (q : Kp NoB w W) => rtext_any k c s A m a xs haa.2 W (ha.and q) hb (by omega))
    obtain ⟨T, hT⟩ : ∃ t, ba (textV k c s xs a) = t := ⟨_, rfl⟩
    rw [hT] at HTF HTR
    obtain ⟨n, hnn⟩ : ∃ n, xs.length = n := ⟨_, rfl⟩
    rw [hnn] at h5 HTF HTR ⊢
    replace HPF := Lib.hid (HPF.out n)
    replace HPR := Lib.hid (HPR.out n)
    obtain ⟨P, hP⟩ : ∃ t, properV k c s n a = t := ⟨_, rfl⟩
    rw [hP] at HPF HPR
    have h5' : ¬ (500 : Int) < n := by omega
    clear hT hnn hP ld ha hb hn hc h5
    go_enter Tryd.func3, Tryd.ntmps3
    go_wp2
    go_region_held3 (fun w' => w'.cell? ⟨w.heap.size, 0, none⟩ = some (.int .i64 k) ∧ w'.cell? ⟨w.heap.size, 1, none⟩ = some (.int .i64 c) ∧ w'.cell? ⟨w.heap.size, 2, none⟩ = some (.int .i64 s) ∧ w'.cell? ⟨w.heap.size, 3, none⟩ = some (.slice A n m) ∧ w'.cell? ⟨w.heap.size, 4, none⟩ = some (.int .i64 a)) (go_keep)
      (first
        | (go_at_call 8; (with_reducible refine Calls.mono (HAL.out _ ((Kp.refl NoB w).alloc _).drew) ?_); rintro e w1 ⟨rfl, hK⟩; have hk1 := Lib.hid (((Kp.refl NoB w).alloc _).drew.and hK); have hv1 := Lib.hid (Bk.and (bk_drew (Bk.fresh w 24 _)) hK); obtain ⟨x0, x1, x2, x3, x4⟩ := hv1.out.five; clear hK)
        | (go_at_call 9; (with_reducible refine Calls.mono (HPF.out _) ?_); rintro e w2 ⟨rfl, hK⟩; have hk2 := Lib.hid (hk1.out.and hK); have hv2 := Lib.hid (hv1.out.and hK); clear x0 x1 x2 x3 x4 hK; obtain ⟨x0, x1, x2, x3, x4⟩ := hv2.out.five)
        | (go_at_call 10; (with_reducible refine Calls.mono (HPR.out _) ?_); rintro e w3 ⟨rfl, hK⟩; have hk3 := Lib.hid (hk2.out.and hK); have hv3 := Lib.hid (hv2.out.and hK); clear x0 x1 x2 x3 x4 hK; obtain ⟨x0, x1, x2, x3, x4⟩ := hv3.out.five)
        | (go_at_call 11; (with_reducible refine Calls.mono (HTF.out _ hk3.out) ?_); rintro e w4 ⟨rfl, hK⟩; have hk4 := Lib.hid (hk3.out.and hK); have hv4 := Lib.hid (hv3.out.and hK); clear x0 x1 x2 x3 x4 hK; obtain ⟨x0, x1, x2, x3, x4⟩ := hv4.out.five)
        | (go_at_call 12; (with_reducible refine Calls.mono (HTR.out _ hk4.out) ?_); rintro e w5 ⟨rfl, hK⟩; have hk5 := Lib.hid (hk4.out.and hK); have hv5 := Lib.hid (hv4.out.and hK); clear x0 x1 x2 x3 x4 hK; obtain ⟨x0, x1, x2, x3, x4⟩ := hv5.out.five))
    go_wp2
    go_ret
    exact ⟨by simp, hk5.out⟩
  · obtain ⟨n, hnn⟩ : ∃ n, xs.length = n := ⟨_, rfl⟩
    rw [hnn] at h5 ⊢
    have h5' : (500 : Int) < n := by omega
    clear hnn ld ha hb hn hc h5 HPF HPR
    go_enter Tryd.func3, Tryd.ntmps3
    go_wp2
    refine wp_region_noPanic ?_
    refine wp_region_held_drew (S := (fun w' => w'.cell? ⟨w.heap.size, 3, none⟩ = some (.slice A n m))) (by kernel_rfl) ?_ (fun hHeld => ?_)
    · go_keep
    refine wpAnyH_take (i := 0) (oi := ⟨some 3, _, _, _, _, _⟩) (v := ?_) rfl (by kernel_rfl) (by kernel_rfl) (by kernel_rfl) (fun _ _ _ h => h) (Or.inl ⟨by rfl, fun w hSw => ?_⟩) (by assumption) ?_
    rotate_left
    · (try dsimp only at hSw)
      go_simp
      try with_reducible rfl
    try simp only [Act.put, List.setIfInBounds_toArray, List.set_cons_zero, List.set_cons_succ]
    refine wpAnyH_take (i := 1) (oi := ⟨some 4, _, _, _, _, _⟩) (v := ?_) rfl (by kernel_rfl) (by kernel_rfl) (by kernel_rfl) (fun _ _ _ h => h) (Or.inl ⟨by rfl, fun w hSw => ?_⟩) (by assumption) ?_
    rotate_left
    · (try dsimp only at hSw)
      go_simp
      try with_reducible rfl
    try simp only [Act.put, List.setIfInBounds_toArray, List.set_cons_zero, List.set_cons_succ]
    refine wpAnyH_take (i := 2) (oi := ⟨some 5, _, _, _, _, _⟩) (v := ?_) rfl (by kernel_rfl) (by kernel_rfl) (by kernel_rfl) (fun _ _ _ h => h) (Or.inl ⟨by rfl, fun w hSw => ?_⟩) (by assumption) ?_
    rotate_left
    · (try dsimp only at hSw)
      go_simp
      try with_reducible rfl
    try simp only [Act.put, List.setIfInBounds_toArray, List.set_cons_zero, List.set_cons_succ]
    refine wpAnyH_take (i := 3) (oi := ⟨some 6, _, _, _, _, _⟩) (v := ?_) rfl (by kernel_rfl) (by kernel_rfl) (by kernel_rfl) (fun _ _ _ h => h) (Or.inl ⟨by rfl, fun w hSw => ?_⟩) (by assumption) ?_
    rotate_left
    · (try dsimp only at hSw)
      go_simp
      try with_reducible rfl
    try simp only [Act.put, List.setIfInBounds_toArray, List.set_cons_zero, List.set_cons_succ]
    refine wpAnyH_take (i := 4) (oi := ⟨some 7, _, _, _, _, _⟩) (v := ?_) rfl (by kernel_rfl) (by kernel_rfl) (by kernel_rfl) (fun _ _ _ h => h) (Or.inl ⟨by rfl, fun w hSw => ?_⟩) (by assumption) ?_
    rotate_left
    · (try dsimp only at hSw)
      go_simp
      try with_reducible rfl
    try simp only [Act.put, List.setIfInBounds_toArray, List.set_cons_zero, List.set_cons_succ]
    refine wpAnyH_ready (rs := [5]) (by kernel_rfl) (by simp) ?_
    refine AllReadyH.cons (o := ⟨some 8, _, _, _, _, _⟩) rfl (fun K hK => ?_) AllReadyH.nil
    go_simp
    refine (HAL.out _ ((Kp.refl NoB w).alloc _).drew).mono ?_
    rintro e w1 ⟨rfl, hK⟩
    have hk1 := Lib.hid (((Kp.refl NoB w).alloc _).drew.and hK)
    have hv1 := Lib.hid (Bk.and (bk_drew (Bk.fresh w 24 _)) hK)
    obtain ⟨x0, x1, x2, x3, x4⟩ := hv1.out.five
    clear hK
    refine hK.out _ _ ?_ (fun hHeld => ?_)
    · (try dsimp only)
      go_keep
    clear hK K
    try simp only [Act.put, List.setIfInBounds_toArray, List.set_cons_zero, List.set_cons_succ]
    refine wpAnyH_take (i := 6) (oi := ⟨some 9, _, _, _, _, _⟩) (v := ?_) rfl (by kernel_rfl) (by kernel_rfl) (by kernel_rfl) (fun _ _ _ h => h) (Or.inl ⟨by rfl, fun w hSw => ?_⟩) (by assumption) ?_
    rotate_left
    · (try dsimp only at hSw)
      go_simp
      try with_reducible rfl
    try simp only [Act.put, List.setIfInBounds_toArray, List.set_cons_zero, List.set_cons_succ]
    refine wpAnyH_take (i := 7) (oi := ⟨some 10, _, _, _, _, _⟩) (v := ?_) rfl (by kernel_rfl) (by kernel_rfl) (by kernel_rfl) (fun _ _ _ h => h) (Or.inl ⟨by rfl, fun w hSw => ?_⟩) (by assumption) ?_
    rotate_left
    · (try dsimp only at hSw)
      go_simp
      try with_reducible rfl
    try simp only [Act.put, List.setIfInBounds_toArray, List.set_cons_zero, List.set_cons_succ]
    refine wpAnyH_take (i := 8) (oi := ⟨some 11, _, _, _, _, _⟩) (v := undef) rfl (by kernel_rfl) (by kernel_rfl) (by kernel_rfl) (fun _ _ _ h => h) (Or.inr ⟨rfl, rfl⟩) (by assumption) ?_
    try simp only [Act.put, List.setIfInBounds_toArray, List.set_cons_zero, List.set_cons_succ]
    refine wpAnyH_take (i := 9) (oi := ⟨some 12, _, _, _, _, _⟩) (v := undef) rfl (by kernel_rfl) (by kernel_rfl) (by kernel_rfl) (fun _ _ _ h => h) (Or.inr ⟨rfl, rfl⟩) (by assumption) ?_
    try simp only [Act.put, List.setIfInBounds_toArray, List.set_cons_zero, List.set_cons_succ]
    refine wpAnyH_take (i := 10) (oi := ⟨some 13, _, _, _, _, _⟩) (v := undef) rfl (by kernel_rfl) (by kernel_rfl) (by kernel_rfl) (fun _ _ _ h => h) (Or.inr ⟨rfl, rfl⟩) (by assumption) ?_
    try simp only [Act.put, List.setIfInBounds_toArray, List.set_cons_zero, List.set_cons_succ]
    refine wpAnyH_take (i := 11) (oi := ⟨some 14, _, _, _, _, _⟩) (v := undef) rfl (by kernel_rfl) (by kernel_rfl) (by kernel_rfl) (fun _ _ _ h => h) (Or.inr ⟨rfl, rfl⟩) (by assumption) ?_
    try simp only [Act.put, List.setIfInBounds_toArray, List.set_cons_zero, List.set_cons_succ]
    refine wpAnyH_take (i := 12) (oi := ⟨some 15, _, _, _, _, _⟩) (v := undef) rfl (by kernel_rfl) (by kernel_rfl) (by kernel_rfl) (fun _ _ _ h => h) (Or.inr ⟨rfl, rfl⟩) (by assumption) ?_
    try simp only [Act.put, List.setIfInBounds_toArray, List.set_cons_zero, List.set_cons_succ]
    refine wpAnyH_take (i := 13) (oi := ⟨some 16, _, _, _, _, _⟩) (v := undef) rfl (by kernel_rfl) (by kernel_rfl) (by kernel_rfl) (fun _ _ _ h => h) (Or.inr ⟨rfl, rfl⟩) (by assumption) ?_
    try simp only [Act.put, List.setIfInBounds_toArray, List.set_cons_zero, List.set_cons_succ]
    refine wpAnyH_take (i := 14) (oi := ⟨some 17, _, _, _, _, _⟩) (v := undef) rfl (by kernel_rfl) (by kernel_rfl) (by kernel_rfl) (fun _ _ _ h => h) (Or.inr ⟨rfl, rfl⟩) (by assumption) ?_
    try simp only [Act.put, List.setIfInBounds_toArray, List.set_cons_zero, List.set_cons_succ]
    refine wpAnyH_take (i := 15) (oi := ⟨some 18, _, _, _, _, _⟩) (v := undef) rfl (by kernel_rfl) (by kernel_rfl) (by kernel_rfl) (fun _ _ _ h => h) (Or.inr ⟨rfl, rfl⟩) (by assumption) ?_
    try simp only [Act.put, List.setIfInBounds_toArray, List.set_cons_zero, List.set_cons_succ]
    refine wpAnyH_take (i := 16) (oi := ⟨some 19, _, _, _, _, _⟩) (v := undef) rfl (by kernel_rfl) (by kernel_rfl) (by kernel_rfl) (fun _ _ _ h => h) (Or.inr ⟨rfl, rfl⟩) (by assumption) ?_
    try simp only [Act.put, List.setIfInBounds_toArray, List.set_cons_zero, List.set_cons_succ]
    refine wpAnyH_take (i := 17) (oi := ⟨some 20, _, _, _, _, _⟩) (v := undef) rfl (by kernel_rfl) (by kernel_rfl) (by kernel_rfl) (fun _ _ _ h => h) (Or.inr ⟨rfl, rfl⟩) (by assumption) ?_
    try simp only [Act.put, List.setIfInBounds_toArray, List.set_cons_zero, List.set_cons_succ]
    refine wpAnyH_take (i := 18) (oi := ⟨some 21, _, _, _, _, _⟩) (v := undef) rfl (by kernel_rfl) (by kernel_rfl) (by kernel_rfl) (fun _ _ _ h => h) (Or.inr ⟨rfl, rfl⟩) (by assumption) ?_
    try simp only [Act.put, List.setIfInBounds_toArray, List.set_cons_zero, List.set_cons_succ]
    refine wpAnyH_take (i := 19) (oi := ⟨some 22, _, _, _, _, _⟩) (v := undef) rfl (by kernel_rfl) (by kernel_rfl) (by kernel_rfl) (fun _ _ _ h => h) (Or.inr ⟨rfl, rfl⟩) (by assumption) ?_
    try simp only [Act.put, List.setIfInBounds_toArray, List.set_cons_zero, List.set_cons_succ]
    refine wpAnyH_take (i := 20) (oi := ⟨some 23, _, _, _, _, _⟩) (v := undef) rfl (by kernel_rfl) (by kernel_rfl) (by kernel_rfl) (fun _ _ _ h => h) (Or.inr ⟨rfl, rfl⟩) (by assumption) ?_
    try simp only [Act.put, List.setIfInBounds_toArray, List.set_cons_zero, List.set_cons_succ]
    refine wpAnyH_take (i := 21) (oi := ⟨some 24, _, _, _, _, _⟩) (v := undef) rfl (by kernel_rfl) (by kernel_rfl) (by kernel_rfl) (fun _ _ _ h => h) (Or.inr ⟨rfl, rfl⟩) (by assumption) ?_
    try simp only [Act.put, List.setIfInBounds_toArray, List.set_cons_zero, List.set_cons_succ]
    refine wpAnyH_take (i := 22) (oi := ⟨some 25, _, _, _, _, _⟩) (v := undef) rfl (by kernel_rfl) (by kernel_rfl) (by kernel_rfl) (fun _ _ _ h => h) (Or.inr ⟨rfl, rfl⟩) (by assumption) ?_
    try simp only [Act.put, List.setIfInBounds_toArray, List.set_cons_zero, List.set_cons_succ]
    refine wpAnyH_take (i := 23) (oi := ⟨some 26, _, _, _, _, _⟩) (v := ?_) rfl (by kernel_rfl) (by kernel_rfl) (by kernel_rfl) (fun _ _ _ h => h) (Or.inl ⟨by rfl, fun w hSw => ?_⟩) (by assumption) ?_
    rotate_left
    · (try dsimp only at hSw)
      go_simp
      try with_reducible rfl
    try simp only [Act.put, List.setIfInBounds_toArray, List.set_cons_zero, List.set_cons_succ]
    refine wpAnyH_ready (rs := [24]) (by kernel_rfl) (by simp) ?_
    refine AllReadyH.cons (o := ⟨some 2, _, _, _, _, _⟩) rfl (fun K hK => ?_) AllReadyH.nil
    go_simp
    refine hK.out _ _ ?_ (fun hHeld => ?_)
    · (try dsimp only)
      go_keep
    clear hK K
    try simp only [Act.put, List.setIfInBounds_toArray, List.set_cons_zero, List.set_cons_succ]
    refine wpAnyH_done (by kernel_rfl) ?_ _
    refine NoPanic.normal ?_
    go_wp2
    go_ret
    exact ⟨by simp, hk1.out⟩

end Go.Proofs.YtknaogpkakdcoaaDoor
