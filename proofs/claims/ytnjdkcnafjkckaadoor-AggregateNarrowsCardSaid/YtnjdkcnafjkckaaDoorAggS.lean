/- Chapter 8: Read of the reference. No condition but the bounds that arguments have. -/
import Derived.Test.YtnjdkcnafjkckaaDoorAggR
import Derived.Test.YtnjdkcnafjkckaaDoorAggC
import Derived.Test.YtnjdkcnafjkckaaDoorRBig
namespace Go.Proofs.YtnjdkcnafjkckaaDoor
open Go.RowKit
set_option linter.unusedVariables false
set_option linter.unusedSimpArgs false

theorem grread_bad1 (width k : Int) (A : Option Addr) (n cp : Nat) (xs : List Int) (hw : ¬ width = 2) (hw4 : ¬ width = 4) (w : World) :
    Calls Tryd.prog 26 #[.int .i64 width, .int .i64 k, .slice A n cp] w (Stay (.tuple #[(mkG 0 0 0).val, .int .i64 1]) w) := by
  have HS := Lib.hid (fun W => gsize_any width k W)
  obtain ⟨K, hK⟩ : ∃ y, sizeG width k = y := ⟨_, rfl⟩
  rw [hK] at HS
  clear hK
  go_enter Tryd.func26, Tryd.ntmps26
  go_wp2_with (go_at_call 37; refine Calls.mono (HS.out _) ?_; rintro e w1 ⟨rfl, hK⟩; have hk1 := Lib.hid (((Kp.refl NoB w).alloc _).and hK); have hZ := Lib.hid ((Bk.fresh w 30 (mkG 0 0 0).cs).and hK); obtain ⟨x0, x1, x2, x3, x4, x5, x6, x7, x8⟩ := hZ.out.attr; have f0 := hZ.out.frozen 0; have f1 := hZ.out.frozen 1; have f2 := hZ.out.frozen 2; have f3 := hZ.out.frozen 3; have f4 := hZ.out.frozen 4; have f5 := hZ.out.frozen 5; have f6 := hZ.out.frozen 6; have f7 := hZ.out.frozen 7; have f8 := hZ.out.frozen 8; clear hK)
  refine bodyPost_ret (v := .tuple #[(mkG 0 0 0).val, .int .i64 1]) (results_row_tmp (fn := Tryd.f26) rfl _ _ w.heap.size 30 (mkG 0 0 0).cs (0, 0) _ rfl (set9 hZ.out _ _ _ _ _ _ _ _ _) Tryd.underlying30 rfl (by kernel_rfl)) rfl ⟨rfl, kp9 hk1.out (Nat.le_refl _) _ _ _ _ _ _ _ _ _⟩

theorem grread_bad2 (width k : Int) (A : Option Addr) (n cp : Nat) (xs : List Int) (hw : width = 2 ∨ width = 4) (hk : hasG k = false) (w : World) :
    Calls Tryd.prog 26 #[.int .i64 width, .int .i64 k, .slice A n cp] w (Stay (.tuple #[(mkG 0 0 0).val, .int .i64 1]) w) := by
  have HS := Lib.hid (fun W => gsize_any width k W)
  have HH := Lib.hid (fun W => grhas_any k W)
  rw [hk] at HH
  obtain ⟨K, hK⟩ : ∃ y, sizeG width k = y := ⟨_, rfl⟩
  rw [hK] at HS
  clear hK hk
  rcases hw with rfl | rfl
  all_goals
    go_enter Tryd.func26, Tryd.ntmps26
    go_wp2_with (first
      | (go_at_call 37; refine Calls.mono (HS.out _) ?_; rintro e w0 ⟨rfl, hK⟩; have hk0 := Lib.hid (((Kp.refl NoB w).alloc _).and hK); have hZ0 := Lib.hid ((Bk.fresh w 30 (mkG 0 0 0).cs).and hK); clear hK)
      | (go_at_call 24; refine Calls.mono (HH.out _) ?_; rintro e w1 ⟨rfl, hK⟩; have hk1 := Lib.hid (hk0.out.and hK); have hZ := Lib.hid (hZ0.out.and hK); obtain ⟨x0, x1, x2, x3, x4, x5, x6, x7, x8⟩ := hZ.out.attr; have f0 := hZ.out.frozen 0; have f1 := hZ.out.frozen 1; have f2 := hZ.out.frozen 2; have f3 := hZ.out.frozen 3; have f4 := hZ.out.frozen 4; have f5 := hZ.out.frozen 5; have f6 := hZ.out.frozen 6; have f7 := hZ.out.frozen 7; have f8 := hZ.out.frozen 8; clear hK))
    refine bodyPost_ret (v := .tuple #[(mkG 0 0 0).val, .int .i64 1]) (results_row_tmp (fn := Tryd.f26) rfl _ _ w.heap.size 30 (mkG 0 0 0).cs (0, 0) _ rfl (set9 hZ.out _ _ _ _ _ _ _ _ _) Tryd.underlying30 rfl (by kernel_rfl)) rfl ⟨rfl, kp9 hk1.out (Nat.le_refl _) _ _ _ _ _ _ _ _ _⟩

theorem grread_bad3 (width k : Int) (A : Option Addr) (n cp : Nat) (xs : List Int) (hw : width = 2 ∨ width = 4) (hk : hasG k = true) (hn : ¬ (n : Int) = sizeG width k + 4) (w : World) :
    Calls Tryd.prog 26 #[.int .i64 width, .int .i64 k, .slice A n cp] w (Stay (.tuple #[(mkG 0 0 0).val, .int .i64 1]) w) := by
  have HS := Lib.hid (fun W => gsize_any width k W)
  have HH := Lib.hid (fun W => grhas_any k W)
  rw [hk] at HH
  have hK4 : sizeG width k = 2 ∨ sizeG width k = 4 := by unfold sizeG; split <;> omega
  obtain ⟨K, hK⟩ : ∃ y, sizeG width k = y := ⟨_, rfl⟩
  rw [hK] at HS hn hK4
  have hwr : wrap64 (K + 4) = K + 4 := Go.IntWalk.wrap64_in _ ⟨by omega, by omega⟩
  clear hK hk
  rcases hw with rfl | rfl
  all_goals
    go_enter Tryd.func26, Tryd.ntmps26
    go_wp2_with (first
      | (go_at_call 37; refine Calls.mono (HS.out _) ?_; rintro e w0 ⟨rfl, hK⟩; have hk0 := Lib.hid (((Kp.refl NoB w).alloc _).and hK); have hZ0 := Lib.hid ((Bk.fresh w 30 (mkG 0 0 0).cs).and hK); clear hK)
      | (go_at_call 24; refine Calls.mono (HH.out _) ?_; rintro e w1 ⟨rfl, hK⟩; have hk1 := Lib.hid (hk0.out.and hK); have hZ := Lib.hid (hZ0.out.and hK); obtain ⟨x0, x1, x2, x3, x4, x5, x6, x7, x8⟩ := hZ.out.attr; have f0 := hZ.out.frozen 0; have f1 := hZ.out.frozen 1; have f2 := hZ.out.frozen 2; have f3 := hZ.out.frozen 3; have f4 := hZ.out.frozen 4; have f5 := hZ.out.frozen 5; have f6 := hZ.out.frozen 6; have f7 := hZ.out.frozen 7; have f8 := hZ.out.frozen 8; clear hK))
    refine bodyPost_ret (v := .tuple #[(mkG 0 0 0).val, .int .i64 1]) (results_row_tmp (fn := Tryd.f26) rfl _ _ w.heap.size 30 (mkG 0 0 0).cs (0, 0) _ rfl (set9 hZ.out _ _ _ _ _ _ _ _ _) Tryd.underlying30 rfl (by kernel_rfl)) rfl ⟨rfl, kp9 hk1.out (Nat.le_refl _) _ _ _ _ _ _ _ _ _⟩

set_option maxRecDepth 100000 in
set_option maxHeartbeats 1600000 in
theorem grread_two (width k : Int) (ad : Addr) (cp : Nat) (xs : List Int) (hw : width = 2) (hk : hasG k = true) (hs : sizeG width k = 2) (hn : xs.length = 6) (hcp : 6 ≤ cp) (w : World) (ha : Arr w (some ad) (bs xs)) (hb : IsB xs) :
    Calls Tryd.prog 26 #[.int .i64 width, .int .i64 k, .slice (some ad) 6 cp] w (Stay (.tuple #[(mkG k (big (xs.take 2)) (big (xs.drop 2))).val, .int .i64 0]) w) := by
  have HS := Lib.hid (fun W => gsize_any width k W)
  have HH := Lib.hid (fun W => grhas_any k W)
  rw [hk] at HH
  rw [hs] at HS
  have HB1 := Lib.hid (fun W c (h : Arr W (some ad) (bs (xs.take 2))) => rbig_any (some ad) c (xs.take 2) W h (hb.take 2) (by rw [List.length_take]; omega))
  have HB2 := Lib.hid (fun W A' c (h : Arr W A' (bs (xs.drop 2))) => rbig_any A' c (xs.drop 2) W h (hb.drop 2) (by rw [List.length_drop]; omega))
  rw [List.length_take, hn, show min 2 6 = 2 from rfl] at HB1
  rw [List.length_drop, hn, show 6 - 2 = 4 from rfl] at HB2
  have hA1 := ha.take 2
  rw [← bs_take] at hA1
  have hA2 := ha.drop (n := 2) (c := cp) (by rw [bs_length, hn]; exact hcp)
  rw [← bs_drop] at hA2
  unfold cutA at hA2
  have hc2 : ¬ cp = 2 := by omega
  rw [if_neg hc2] at hA2
  have H1 := Lib.hid hA1
  have H2 := Lib.hid hA2
  obtain ⟨V1, hV1⟩ : ∃ y, big (xs.take 2) = y := ⟨_, rfl⟩
  obtain ⟨V2, hV2⟩ : ∃ y, big (xs.drop 2) = y := ⟨_, rfl⟩
  rw [hV1] at HB1 ⊢
  rw [hV2] at HB2 ⊢
  have hcp6 : (6 : Int) ≤ cp := by omega
  have hcp2 : (2 : Int) ≤ cp := by omega
  clear ha hb hn hk hs hA1 hA2 hV1 hV2 hcp
  subst hw
  go_enter Tryd.func26, Tryd.ntmps26
  go_wp2_with (first
    | (go_at_call 37; refine Calls.mono (HS.out _) ?_; rintro e w0 ⟨rfl, hK⟩; have hk0 := Lib.hid (((Kp.refl NoB w).alloc _).and hK); have hZ0 := Lib.hid ((Bk.fresh w 30 (mkG 0 0 0).cs).and hK); clear hK)
    | (go_at_call 24; refine Calls.mono (HH.out _) ?_; rintro e w1 ⟨rfl, hK⟩; have hk1 := Lib.hid (hk0.out.and hK); have hZ := Lib.hid (hZ0.out.and hK); obtain ⟨x0, x1, x2, x3, x4, x5, x6, x7, x8⟩ := hZ.out.attr; have f0 := hZ.out.frozen 0; have f1 := hZ.out.frozen 1; have f2 := hZ.out.frozen 2; have f3 := hZ.out.frozen 3; have f4 := hZ.out.frozen 4; have f5 := hZ.out.frozen 5; have f6 := hZ.out.frozen 6; have f7 := hZ.out.frozen 7; have f8 := hZ.out.frozen 8; clear hK))
  go_region_held3 (fun w' => w'.frozen? ⟨w.heap.size, 0, none⟩ = false ∧ w'.frozen? ⟨w.heap.size, 1, none⟩ = false ∧ w'.frozen? ⟨w.heap.size, 2, none⟩ = false ∧ w'.frozen? ⟨w.heap.size, 3, none⟩ = false ∧ w'.frozen? ⟨w.heap.size, 4, none⟩ = false ∧ w'.frozen? ⟨w.heap.size, 5, none⟩ = false ∧ w'.frozen? ⟨w.heap.size, 6, none⟩ = false ∧ w'.frozen? ⟨w.heap.size, 7, none⟩ = false ∧ w'.frozen? ⟨w.heap.size, 8, none⟩ = false) (go_keep)
    (first
      | (go_at_call 47; (with_reducible refine Calls.mono (HB1.out _ _ (H1.out.and hk1.out.drew)) ?_); rintro e w2 ⟨rfl, rfl⟩)
      | (go_at_call 47; refine Calls.mono (HB2.out _ _ _ (H2.out.and hk1.out.drew)) ?_; rintro e w2 ⟨rfl, rfl⟩))
  go_wp2
  refine bodyPost_ret (v := .tuple #[(mkG k V1 V2).val, .int .i64 0]) (results_row_tmp (fn := Tryd.f26) rfl _ _ w.heap.size 30 (mkG k V1 V2).cs (0, 0) _ rfl (bk_drew (set9 hZ.out _ _ _ _ _ _ _ _ _)) Tryd.underlying30 rfl (by kernel_rfl)) rfl ⟨rfl, (kp9 hk1.out (Nat.le_refl _) _ _ _ _ _ _ _ _ _).drew⟩

set_option maxRecDepth 100000 in
set_option maxHeartbeats 1600000 in
theorem grread_four (width k : Int) (ad : Addr) (cp : Nat) (xs : List Int) (hw : width = 2 ∨ width = 4) (hk : hasG k = true) (hs : sizeG width k = 4) (hn : xs.length = 8) (hcp : 8 ≤ cp) (w : World) (ha : Arr w (some ad) (bs xs)) (hb : IsB xs) :
    Calls Tryd.prog 26 #[.int .i64 width, .int .i64 k, .slice (some ad) 8 cp] w (Stay (.tuple #[(mkG k (big (xs.take 4)) (big (xs.drop 4))).val, .int .i64 0]) w) := by
  have HS := Lib.hid (fun W => gsize_any width k W)
  have HH := Lib.hid (fun W => grhas_any k W)
  rw [hk] at HH
  rw [hs] at HS
  have HB1 := Lib.hid (fun W c (h : Arr W (some ad) (bs (xs.take 4))) => rbig_any (some ad) c (xs.take 4) W h (hb.take 4) (by rw [List.length_take]; omega))
  have HB2 := Lib.hid (fun W A' c (h : Arr W A' (bs (xs.drop 4))) => rbig_any A' c (xs.drop 4) W h (hb.drop 4) (by rw [List.length_drop]; omega))
  rw [List.length_take, hn, show min 4 8 = 4 from rfl] at HB1
  rw [List.length_drop, hn, show 8 - 4 = 4 from rfl] at HB2
  have hA1 := ha.take 4
  rw [← bs_take] at hA1
  have hA2 := ha.drop (n := 4) (c := cp) (by rw [bs_length, hn]; exact hcp)
  rw [← bs_drop] at hA2
  unfold cutA at hA2
  have hc2 : ¬ cp = 4 := by omega
  rw [if_neg hc2] at hA2
  have H1 := Lib.hid hA1
  have H2 := Lib.hid hA2
  obtain ⟨V1, hV1⟩ : ∃ y, big (xs.take 4) = y := ⟨_, rfl⟩
  obtain ⟨V2, hV2⟩ : ∃ y, big (xs.drop 4) = y := ⟨_, rfl⟩
  rw [hV1] at HB1 ⊢
  rw [hV2] at HB2 ⊢
  have hcp6 : (8 : Int) ≤ cp := by omega
  have hcp2 : (4 : Int) ≤ cp := by omega
  clear ha hb hn hk hs hA1 hA2 hV1 hV2 hcp
  rcases hw with rfl | rfl
  all_goals
    go_enter Tryd.func26, Tryd.ntmps26
    go_wp2_with (first
      | (go_at_call 37; refine Calls.mono (HS.out _) ?_; rintro e w0 ⟨rfl, hK⟩; have hk0 := Lib.hid (((Kp.refl NoB w).alloc _).and hK); have hZ0 := Lib.hid ((Bk.fresh w 30 (mkG 0 0 0).cs).and hK); clear hK)
      | (go_at_call 24; refine Calls.mono (HH.out _) ?_; rintro e w1 ⟨rfl, hK⟩; have hk1 := Lib.hid (hk0.out.and hK); have hZ := Lib.hid (hZ0.out.and hK); obtain ⟨x0, x1, x2, x3, x4, x5, x6, x7, x8⟩ := hZ.out.attr; have f0 := hZ.out.frozen 0; have f1 := hZ.out.frozen 1; have f2 := hZ.out.frozen 2; have f3 := hZ.out.frozen 3; have f4 := hZ.out.frozen 4; have f5 := hZ.out.frozen 5; have f6 := hZ.out.frozen 6; have f7 := hZ.out.frozen 7; have f8 := hZ.out.frozen 8; clear hK))
    go_region_held3 (fun w' => w'.frozen? ⟨w.heap.size, 0, none⟩ = false ∧ w'.frozen? ⟨w.heap.size, 1, none⟩ = false ∧ w'.frozen? ⟨w.heap.size, 2, none⟩ = false ∧ w'.frozen? ⟨w.heap.size, 3, none⟩ = false ∧ w'.frozen? ⟨w.heap.size, 4, none⟩ = false ∧ w'.frozen? ⟨w.heap.size, 5, none⟩ = false ∧ w'.frozen? ⟨w.heap.size, 6, none⟩ = false ∧ w'.frozen? ⟨w.heap.size, 7, none⟩ = false ∧ w'.frozen? ⟨w.heap.size, 8, none⟩ = false) (go_keep)
      (first
        | (go_at_call 47; (with_reducible refine Calls.mono (HB1.out _ _ (H1.out.and hk1.out.drew)) ?_); rintro e w2 ⟨rfl, rfl⟩)
        | (go_at_call 47; refine Calls.mono (HB2.out _ _ _ (H2.out.and hk1.out.drew)) ?_; rintro e w2 ⟨rfl, rfl⟩))
    go_wp2
    refine bodyPost_ret (v := .tuple #[(mkG k V1 V2).val, .int .i64 0]) (results_row_tmp (fn := Tryd.f26) rfl _ _ w.heap.size 30 (mkG k V1 V2).cs (0, 0) _ rfl (bk_drew (set9 hZ.out _ _ _ _ _ _ _ _ _)) Tryd.underlying30 rfl (by kernel_rfl)) rfl ⟨rfl, (kp9 hk1.out (Nat.le_refl _) _ _ _ _ _ _ _ _ _).drew⟩

theorem gread_same (width k : Int) (A : Option Addr) (cp : Nat) (xs : List Int) (hcp : xs.length ≤ cp) (w : World) (ha : Arr w A (bs xs)) (hb : IsB xs) :
    Calls Tryd.prog 26 #[.int .i64 width, .int .i64 k, .slice A xs.length cp] w (Stay (.tuple #[(attrG width k xs).val, .int .i64 (kindG width k xs)]) w) := by
  by_cases hw : width = 2 ∨ width = 4
  · cases hk : hasG k with
    | false =>
      have hg : goodG width k xs = false := by
        have : ofG width k = 0 := by
          unfold ofG
          rw [if_neg]
          rintro ⟨-, h⟩
          unfold hasG at hk
          simp at hk
          omega
        simp [goodG, this]
      unfold attrG kindG
      rw [hg]
      exact grread_bad2 width k A xs.length cp xs hw hk w
    | true =>
      have hk' : k = 7 ∨ k = 18 := by
        unfold hasG at hk
        simpa using hk
      have ho : ofG width k = sizeG width k := (sizeG_of hw hk').symm
      have hs : sizeG width k = 2 ∧ width = 2 ∨ sizeG width k = 4 := by unfold sizeG; split <;> omega
      by_cases hn : (xs.length : Int) = sizeG width k + 4
      · have hg : goodG width k xs = true := by
          unfold goodG
          rw [ho]
          simp
          omega
        unfold attrG kindG
        rw [if_pos hg, if_pos hg, ho]
        obtain ⟨ad, rfl, -⟩ := ha (by intro e; have := bs_length xs; rw [e] at this; simp at this; omega)
        rcases hs with ⟨hs, hw2⟩ | hs
        · rw [hs] at hn ⊢
          have hl : xs.length = 6 := by omega
          have := grread_two width k ad cp xs hw2 hk hs hl (by omega) w ha hb
          rw [hl]
          exact this
        · rw [hs] at hn ⊢
          have hl : xs.length = 8 := by omega
          have := grread_four width k ad cp xs hw hk hs hl (by omega) w ha hb
          rw [hl]
          exact this
      · have hg : goodG width k xs = false := by
          unfold goodG
          rw [ho]
          simp [hn]
        unfold attrG kindG
        rw [hg]
        exact grread_bad3 width k A xs.length cp xs hw hk hn w
  · have hg : goodG width k xs = false := by
      have : ofG width k = 0 := by
        unfold ofG
        rw [if_neg]
        rintro ⟨h, -⟩
        exact hw h
      simp [goodG, this]
    unfold attrG kindG
    rw [hg]
    exact grread_bad1 width k A xs.length cp xs (fun h => hw (.inl h)) (fun h => hw (.inr h)) w

end Go.Proofs.YtnjdkcnafjkckaaDoor
