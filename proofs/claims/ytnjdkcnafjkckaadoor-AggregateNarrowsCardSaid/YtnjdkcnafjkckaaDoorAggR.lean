/- Chapter 8: Read of package aggregate. No condition but the bounds that arguments have. -/
import Derived.Test.YtnjdkcnafjkckaaDoorAggE
import Derived.Test.YtnjdkcnafjkckaaDoorNewO
import Derived.Test.YtnjdkcnafjkckaaDoorNum
import Derived.Test.YtnjdkcnafjkckaaDoorLeftO
namespace Go.Proofs.YtnjdkcnafjkckaaDoor
open Go.RowKit
set_option linter.unusedVariables false
set_option linter.unusedSimpArgs false

/-- Is it a value of the type? -/
def goodG (width k : Int) (xs : List Int) : Bool := decide (0 < ofG width k) && decide ((xs.length : Int) = ofG width k + 4)
/-- The attribute that Read returns. -/
def attrG (width k : Int) (xs : List Int) : AtI := if goodG width k xs then mkG k (big (xs.take (ofG width k).toNat)) (big (xs.drop (ofG width k).toNat)) else mkG 0 0 0
/-- The kind that Read returns. -/
def kindG (width k : Int) (xs : List Int) : Int := if goodG width k xs then 0 else 1

theorem goodG_eq (width k : Int) (xs : List Int) :
    goodG width k xs = (!(decide (ofG width k = 0)) && numB (ofG width k) xs && numB 4 (xs.drop (numN (ofG width k) xs)) && decide (((xs.drop (numN (ofG width k) xs)).drop (numN 4 (xs.drop (numN (ofG width k) xs)))).length = 0)) := by
  unfold goodG
  rw [Bool.eq_iff_iff]
  rcases ofG_cases width k with h | h | h
  · rw [h]; simp
  · rw [h]
    by_cases h2 : 2 ≤ xs.length
    · have hb : numB 2 xs = true := by simp [numB]; omega
      have hn : numN 2 xs = 2 := by simp [numN, hb]
      rw [hb, hn]
      by_cases h4 : 6 ≤ xs.length
      · have hb4 : numB 4 (xs.drop 2) = true := by simp [numB]; omega
        have hn4 : numN 4 (xs.drop 2) = 4 := by simp [numN, hb4]
        rw [hb4, hn4]
        simp
        omega
      · have hb4 : numB 4 (xs.drop 2) = false := by simp [numB]; omega
        rw [hb4]
        simp
        omega
    · have hb : numB 2 xs = false := by simp [numB]; omega
      rw [hb]
      simp
      omega
  · rw [h]
    by_cases h2 : 4 ≤ xs.length
    · have hb : numB 4 xs = true := by simp [numB]; omega
      have hn : numN 4 xs = 4 := by simp [numN, hb]
      rw [hb, hn]
      by_cases h4 : 8 ≤ xs.length
      · have hb4 : numB 4 (xs.drop 4) = true := by simp [numB]; omega
        have hn4 : numN 4 (xs.drop 4) = 4 := by simp [numN, hb4]
        rw [hb4, hn4]
        simp
        omega
      · have hb4 : numB 4 (xs.drop 4) = false := by simp [numB]; omega
        rw [hb4]
        simp
        omega
    · have hb : numB 4 xs = false := by simp [numB]; omega
      rw [hb]
      simp
      omega

theorem goodG_vals {width k : Int} {xs : List Int} (hg : goodG width k xs = true) : numV (ofG width k) xs = big (xs.take (ofG width k).toNat) ∧ numV 4 (xs.drop (numN (ofG width k) xs)) = big (xs.drop (ofG width k).toNat) := by
  have h := hg
  rw [goodG_eq] at h
  simp only [Bool.and_eq_true] at h
  obtain ⟨⟨⟨_, h1⟩, h2⟩, _⟩ := h
  unfold goodG at hg
  simp only [Bool.and_eq_true, decide_eq_true_eq] at hg
  have hn : numN (ofG width k) xs = (ofG width k).toNat := by unfold numN; rw [if_pos h1]
  refine ⟨by unfold numV; rw [if_pos h1], ?_⟩
  unfold numV
  rw [if_pos h2, hn]
  congr 1
  exact List.take_of_length_le (by rw [List.length_drop]; show xs.length - (ofG width k).toNat ≤ 4; omega)

set_option maxRecDepth 100000 in
set_option maxHeartbeats 3200000 in
theorem gread_any (width k : Int) (A : Option Addr) (cp : Nat) (xs : List Int) (hl : xs.length ≤ 1000000) (w : World) (ha : Arr w A (bs xs)) (hb : IsB xs) :
    Calls Tryd.prog 25 #[.int .i64 width, .int .i64 k, .slice A xs.length cp] w (Stay (.tuple #[(attrG width k xs).val, .int .i64 (kindG width k xs)]) w) := by
  have hg := goodG_eq width k xs
  have hval := fun h => @goodG_vals width k xs h
  have HO := Lib.hid (fun W => gof_any width k W)
  have HA := Lib.hid ha
  have HN1 := Lib.hid (fun w q r h => number_any w q r xs 0 (ofG width k) h)
  have HN2 := Lib.hid (fun w q r t h => number_any w q r (xs.drop (numN (ofG width k) xs)) t 4 h)
  have HW := Lib.hid (fun W ha => new_any A cp xs W (by omega) ha hb)
  have HL := Lib.hid (fun w q r t h => left_any w q r ((xs.drop (numN (ofG width k) xs)).drop (numN 4 (xs.drop (numN (ofG width k) xs)))) t h)
  unfold NumAny at HN1 HN2
  have HY := Lib.hid (fun (h : goodG width k xs = true) => (show Value.tuple #[(mkG k (numV (ofG width k) xs) (numV 4 (xs.drop (numN (ofG width k) xs)))).val, .int .i64 0] = .tuple #[(attrG width k xs).val, .int .i64 (kindG width k xs)] by
    unfold attrG kindG
    rw [if_pos h, if_pos h, (hval h).1, (hval h).2]))
  have HZ := Lib.hid (fun (h : goodG width k xs = false) => (show Value.tuple #[(mkG 0 0 0).val, .int .i64 1] = .tuple #[(attrG width k xs).val, .int .i64 (kindG width k xs)] by
    unfold attrG kindG
    rw [h]
    rfl))
  clear hval ha hb hl
  obtain ⟨zs, hzs⟩ : ∃ y, (xs.drop (numN (ofG width k) xs)).drop (numN 4 (xs.drop (numN (ofG width k) xs))) = y := ⟨_, rfl⟩
  rw [hzs] at hg HL HN2
  obtain ⟨n4, hn4⟩ : ∃ y, numN 4 (xs.drop (numN (ofG width k) xs)) = y := ⟨_, rfl⟩
  rw [hn4] at HN2
  obtain ⟨V2, hV2⟩ : ∃ y, numV 4 (xs.drop (numN (ofG width k) xs)) = y := ⟨_, rfl⟩
  obtain ⟨B2, hB2⟩ : ∃ y, numB 4 (xs.drop (numN (ofG width k) xs)) = y := ⟨_, rfl⟩
  rw [hV2, hB2] at HN2
  rw [hV2] at HY
  rw [hB2] at hg
  obtain ⟨ys, hys⟩ : ∃ y, xs.drop (numN (ofG width k) xs) = y := ⟨_, rfl⟩
  rw [hys] at HN1 HN2
  obtain ⟨n1, hn1⟩ : ∃ y, numN (ofG width k) xs = y := ⟨_, rfl⟩
  rw [hn1] at HN1
  obtain ⟨V1, hV1⟩ : ∃ y, numV (ofG width k) xs = y := ⟨_, rfl⟩
  obtain ⟨B1, hB1⟩ : ∃ y, numB (ofG width k) xs = y := ⟨_, rfl⟩
  rw [hV1, hB1] at HN1
  rw [hV1] at HY
  rw [hB1] at hg
  obtain ⟨K, hK⟩ : ∃ y, ofG width k = y := ⟨_, rfl⟩
  rw [hK] at HO HN1 hg
  obtain ⟨L, hL⟩ : ∃ y, zs.length = y := ⟨_, rfl⟩
  rw [hL] at hg HL
  obtain ⟨G, hG⟩ : ∃ G, goodG width k xs = G := ⟨_, rfl⟩
  rw [hG] at hg HY HZ
  obtain ⟨T, hT⟩ : ∃ T, Value.tuple #[(attrG width k xs).val, .int .i64 (kindG width k xs)] = T := ⟨_, rfl⟩
  rw [hT] at HY HZ ⊢
  obtain ⟨n, hn⟩ : ∃ n, xs.length = n := ⟨_, rfl⟩
  rw [hn] at HW ⊢
  clear hzs hn4 hV2 hB2 hys hn1 hV1 hB1 hK hL hG hT hn
  have HG := Lib.hid hg
  clear hg
  by_cases hK0 : K = 0
  · subst hK0
    go_enter Tryd.func25, Tryd.ntmps25
    go_wp2_with (first
      | (go_at_call 34; refine Calls.mono (HO.out _) ?_; rintro e w1 ⟨rfl, hK⟩; have hk1 := Lib.hid (((Kp.refl NoB w).alloc _).and hK); have hZ := Lib.hid ((Bk.fresh w 30 (mkG 0 0 0).cs).and hK); have hlt : w.heap.size < w1.heap.size := hZ.out.lt; have hne : ¬ w.heap.size = w1.heap.size := Nat.ne_of_lt hlt; clear hK)
      | (go_at_call 44; refine Calls.mono (HW.out _ (HA.out.and hk1.out)) ?_; rintro e w2 ⟨q, r, rfl, hr, -, -, hRd, hK⟩; have hk2 := Lib.hid (hk1.out.and hK); have hZ2 := Lib.hid ((show Bk _ _ _ _ from hZ.out).and hK); have HR := Lib.hid hRd; have hr' := Lib.hid hr; clear hK hRd hr)
      | (go_at_call 45; (with_reducible refine Calls.mono (HN1.out _ _ _ HR.out) ?_); rintro e w3 ⟨rfl, hRd, hK⟩; have HR3 := Lib.hid hRd; have hk3 := Lib.hid (hk2.out.new hK (by have := hr'.out; omega)); have hZ3 := Lib.hid (hZ2.out.keep hK (by have := hr'.out; unfold OnB; omega)); clear hK hRd)
      | (go_at_call 45; (with_reducible refine Calls.mono (HN2.out _ _ _ _ HR3.out) ?_); rintro e w4 ⟨rfl, hRd, hK⟩; have HR4 := Lib.hid hRd; have hk4 := Lib.hid (hk3.out.new hK (by have := hr'.out; omega)); have hZ4 := Lib.hid (hZ3.out.keep hK (by have := hr'.out; unfold OnB; omega)); obtain ⟨x0, x1, x2, x3, x4, x5, x6, x7, x8⟩ := hZ4.out.attr; have f0 := hZ4.out.frozen 0; have f1 := hZ4.out.frozen 1; have f2 := hZ4.out.frozen 2; have f3 := hZ4.out.frozen 3; have f4 := hZ4.out.frozen 4; have f5 := hZ4.out.frozen 5; have f6 := hZ4.out.frozen 6; have f7 := hZ4.out.frozen 7; have f8 := hZ4.out.frozen 8; clear hK hRd)
      | (go_at_call 46; (with_reducible refine Calls.mono (HL.out _ _ _ _ HR4.out) ?_); rintro e w5 ⟨rfl, hK⟩; have hk5 := Lib.hid (hk4.out.and hK); have hZ5 := Lib.hid (hZ4.out.and hK); clear x0 x1 x2 x3 x4 x5 x6 x7 x8 f0 f1 f2 f3 f4 f5 f6 f7 f8; obtain ⟨x0, x1, x2, x3, x4, x5, x6, x7, x8⟩ := hZ5.out.attr; have f0 := hZ5.out.frozen 0; have f1 := hZ5.out.frozen 1; have f2 := hZ5.out.frozen 2; have f3 := hZ5.out.frozen 3; have f4 := hZ5.out.frozen 4; have f5 := hZ5.out.frozen 5; have f6 := hZ5.out.frozen 6; have f7 := hZ5.out.frozen 7; have f8 := hZ5.out.frozen 8; clear hK))
    refine bodyPost_ret (v := .tuple #[(mkG 0 0 0).val, .int .i64 1]) (results_row_tmp (fn := Tryd.f25) rfl _ _ w.heap.size 30 (mkG 0 0 0).cs (0, 0) _ rfl (set9 hZ4.out _ _ _ _ _ _ _ _ _) Tryd.underlying30 rfl (by kernel_rfl)) rfl ⟨congrArg Ending.returned (HZ.out ?_), kp9 hk4.out (Nat.le_refl _) _ _ _ _ _ _ _ _ _⟩
    rw [HG.out]
    clear x0 x1 x2 x3 x4 x5 x6 x7 x8 f0 f1 f2 f3 f4 f5 f6 f7 f8
    simp_all
  cases B1
  · go_enter Tryd.func25, Tryd.ntmps25
    go_wp2_with (first
      | (go_at_call 34; refine Calls.mono (HO.out _) ?_; rintro e w1 ⟨rfl, hK⟩; have hk1 := Lib.hid (((Kp.refl NoB w).alloc _).and hK); have hZ := Lib.hid ((Bk.fresh w 30 (mkG 0 0 0).cs).and hK); have hlt : w.heap.size < w1.heap.size := hZ.out.lt; have hne : ¬ w.heap.size = w1.heap.size := Nat.ne_of_lt hlt; clear hK)
      | (go_at_call 44; refine Calls.mono (HW.out _ (HA.out.and hk1.out)) ?_; rintro e w2 ⟨q, r, rfl, hr, -, -, hRd, hK⟩; have hk2 := Lib.hid (hk1.out.and hK); have hZ2 := Lib.hid ((show Bk _ _ _ _ from hZ.out).and hK); have HR := Lib.hid hRd; have hr' := Lib.hid hr; clear hK hRd hr)
      | (go_at_call 45; (with_reducible refine Calls.mono (HN1.out _ _ _ HR.out) ?_); rintro e w3 ⟨rfl, hRd, hK⟩; have HR3 := Lib.hid hRd; have hk3 := Lib.hid (hk2.out.new hK (by have := hr'.out; omega)); have hZ3 := Lib.hid (hZ2.out.keep hK (by have := hr'.out; unfold OnB; omega)); clear hK hRd)
      | (go_at_call 45; (with_reducible refine Calls.mono (HN2.out _ _ _ _ HR3.out) ?_); rintro e w4 ⟨rfl, hRd, hK⟩; have HR4 := Lib.hid hRd; have hk4 := Lib.hid (hk3.out.new hK (by have := hr'.out; omega)); have hZ4 := Lib.hid (hZ3.out.keep hK (by have := hr'.out; unfold OnB; omega)); obtain ⟨x0, x1, x2, x3, x4, x5, x6, x7, x8⟩ := hZ4.out.attr; have f0 := hZ4.out.frozen 0; have f1 := hZ4.out.frozen 1; have f2 := hZ4.out.frozen 2; have f3 := hZ4.out.frozen 3; have f4 := hZ4.out.frozen 4; have f5 := hZ4.out.frozen 5; have f6 := hZ4.out.frozen 6; have f7 := hZ4.out.frozen 7; have f8 := hZ4.out.frozen 8; clear hK hRd)
      | (go_at_call 46; (with_reducible refine Calls.mono (HL.out _ _ _ _ HR4.out) ?_); rintro e w5 ⟨rfl, hK⟩; have hk5 := Lib.hid (hk4.out.and hK); have hZ5 := Lib.hid (hZ4.out.and hK); clear x0 x1 x2 x3 x4 x5 x6 x7 x8 f0 f1 f2 f3 f4 f5 f6 f7 f8; obtain ⟨x0, x1, x2, x3, x4, x5, x6, x7, x8⟩ := hZ5.out.attr; have f0 := hZ5.out.frozen 0; have f1 := hZ5.out.frozen 1; have f2 := hZ5.out.frozen 2; have f3 := hZ5.out.frozen 3; have f4 := hZ5.out.frozen 4; have f5 := hZ5.out.frozen 5; have f6 := hZ5.out.frozen 6; have f7 := hZ5.out.frozen 7; have f8 := hZ5.out.frozen 8; clear hK))
    refine bodyPost_ret (v := .tuple #[(mkG 0 0 0).val, .int .i64 1]) (results_row_tmp (fn := Tryd.f25) rfl _ _ w.heap.size 30 (mkG 0 0 0).cs (0, 0) _ rfl (set9 hZ4.out _ _ _ _ _ _ _ _ _) Tryd.underlying30 rfl (by kernel_rfl)) rfl ⟨congrArg Ending.returned (HZ.out ?_), kp9 hk4.out (Nat.le_refl _) _ _ _ _ _ _ _ _ _⟩
    rw [HG.out]
    clear x0 x1 x2 x3 x4 x5 x6 x7 x8 f0 f1 f2 f3 f4 f5 f6 f7 f8
    simp_all
  cases B2
  · go_enter Tryd.func25, Tryd.ntmps25
    go_wp2_with (first
      | (go_at_call 34; refine Calls.mono (HO.out _) ?_; rintro e w1 ⟨rfl, hK⟩; have hk1 := Lib.hid (((Kp.refl NoB w).alloc _).and hK); have hZ := Lib.hid ((Bk.fresh w 30 (mkG 0 0 0).cs).and hK); have hlt : w.heap.size < w1.heap.size := hZ.out.lt; have hne : ¬ w.heap.size = w1.heap.size := Nat.ne_of_lt hlt; clear hK)
      | (go_at_call 44; refine Calls.mono (HW.out _ (HA.out.and hk1.out)) ?_; rintro e w2 ⟨q, r, rfl, hr, -, -, hRd, hK⟩; have hk2 := Lib.hid (hk1.out.and hK); have hZ2 := Lib.hid ((show Bk _ _ _ _ from hZ.out).and hK); have HR := Lib.hid hRd; have hr' := Lib.hid hr; clear hK hRd hr)
      | (go_at_call 45; (with_reducible refine Calls.mono (HN1.out _ _ _ HR.out) ?_); rintro e w3 ⟨rfl, hRd, hK⟩; have HR3 := Lib.hid hRd; have hk3 := Lib.hid (hk2.out.new hK (by have := hr'.out; omega)); have hZ3 := Lib.hid (hZ2.out.keep hK (by have := hr'.out; unfold OnB; omega)); clear hK hRd)
      | (go_at_call 45; (with_reducible refine Calls.mono (HN2.out _ _ _ _ HR3.out) ?_); rintro e w4 ⟨rfl, hRd, hK⟩; have HR4 := Lib.hid hRd; have hk4 := Lib.hid (hk3.out.new hK (by have := hr'.out; omega)); have hZ4 := Lib.hid (hZ3.out.keep hK (by have := hr'.out; unfold OnB; omega)); obtain ⟨x0, x1, x2, x3, x4, x5, x6, x7, x8⟩ := hZ4.out.attr; have f0 := hZ4.out.frozen 0; have f1 := hZ4.out.frozen 1; have f2 := hZ4.out.frozen 2; have f3 := hZ4.out.frozen 3; have f4 := hZ4.out.frozen 4; have f5 := hZ4.out.frozen 5; have f6 := hZ4.out.frozen 6; have f7 := hZ4.out.frozen 7; have f8 := hZ4.out.frozen 8; clear hK hRd)
      | (go_at_call 46; (with_reducible refine Calls.mono (HL.out _ _ _ _ HR4.out) ?_); rintro e w5 ⟨rfl, hK⟩; have hk5 := Lib.hid (hk4.out.and hK); have hZ5 := Lib.hid (hZ4.out.and hK); clear x0 x1 x2 x3 x4 x5 x6 x7 x8 f0 f1 f2 f3 f4 f5 f6 f7 f8; obtain ⟨x0, x1, x2, x3, x4, x5, x6, x7, x8⟩ := hZ5.out.attr; have f0 := hZ5.out.frozen 0; have f1 := hZ5.out.frozen 1; have f2 := hZ5.out.frozen 2; have f3 := hZ5.out.frozen 3; have f4 := hZ5.out.frozen 4; have f5 := hZ5.out.frozen 5; have f6 := hZ5.out.frozen 6; have f7 := hZ5.out.frozen 7; have f8 := hZ5.out.frozen 8; clear hK))
    refine bodyPost_ret (v := .tuple #[(mkG 0 0 0).val, .int .i64 1]) (results_row_tmp (fn := Tryd.f25) rfl _ _ w.heap.size 30 (mkG 0 0 0).cs (0, 0) _ rfl (set9 hZ4.out _ _ _ _ _ _ _ _ _) Tryd.underlying30 rfl (by kernel_rfl)) rfl ⟨congrArg Ending.returned (HZ.out ?_), kp9 hk4.out (Nat.le_refl _) _ _ _ _ _ _ _ _ _⟩
    rw [HG.out]
    clear x0 x1 x2 x3 x4 x5 x6 x7 x8 f0 f1 f2 f3 f4 f5 f6 f7 f8
    simp_all
  by_cases hL0 : L = 0
  · subst hL0
    go_enter Tryd.func25, Tryd.ntmps25
    go_wp2_with (first
      | (go_at_call 34; refine Calls.mono (HO.out _) ?_; rintro e w1 ⟨rfl, hK⟩; have hk1 := Lib.hid (((Kp.refl NoB w).alloc _).and hK); have hZ := Lib.hid ((Bk.fresh w 30 (mkG 0 0 0).cs).and hK); have hlt : w.heap.size < w1.heap.size := hZ.out.lt; have hne : ¬ w.heap.size = w1.heap.size := Nat.ne_of_lt hlt; clear hK)
      | (go_at_call 44; refine Calls.mono (HW.out _ (HA.out.and hk1.out)) ?_; rintro e w2 ⟨q, r, rfl, hr, -, -, hRd, hK⟩; have hk2 := Lib.hid (hk1.out.and hK); have hZ2 := Lib.hid ((show Bk _ _ _ _ from hZ.out).and hK); have HR := Lib.hid hRd; have hr' := Lib.hid hr; clear hK hRd hr)
      | (go_at_call 45; (with_reducible refine Calls.mono (HN1.out _ _ _ HR.out) ?_); rintro e w3 ⟨rfl, hRd, hK⟩; have HR3 := Lib.hid hRd; have hk3 := Lib.hid (hk2.out.new hK (by have := hr'.out; omega)); have hZ3 := Lib.hid (hZ2.out.keep hK (by have := hr'.out; unfold OnB; omega)); clear hK hRd)
      | (go_at_call 45; (with_reducible refine Calls.mono (HN2.out _ _ _ _ HR3.out) ?_); rintro e w4 ⟨rfl, hRd, hK⟩; have HR4 := Lib.hid hRd; have hk4 := Lib.hid (hk3.out.new hK (by have := hr'.out; omega)); have hZ4 := Lib.hid (hZ3.out.keep hK (by have := hr'.out; unfold OnB; omega)); obtain ⟨x0, x1, x2, x3, x4, x5, x6, x7, x8⟩ := hZ4.out.attr; have f0 := hZ4.out.frozen 0; have f1 := hZ4.out.frozen 1; have f2 := hZ4.out.frozen 2; have f3 := hZ4.out.frozen 3; have f4 := hZ4.out.frozen 4; have f5 := hZ4.out.frozen 5; have f6 := hZ4.out.frozen 6; have f7 := hZ4.out.frozen 7; have f8 := hZ4.out.frozen 8; clear hK hRd)
      | (go_at_call 46; (with_reducible refine Calls.mono (HL.out _ _ _ _ HR4.out) ?_); rintro e w5 ⟨rfl, hK⟩; have hk5 := Lib.hid (hk4.out.and hK); have hZ5 := Lib.hid (hZ4.out.and hK); clear x0 x1 x2 x3 x4 x5 x6 x7 x8 f0 f1 f2 f3 f4 f5 f6 f7 f8; obtain ⟨x0, x1, x2, x3, x4, x5, x6, x7, x8⟩ := hZ5.out.attr; have f0 := hZ5.out.frozen 0; have f1 := hZ5.out.frozen 1; have f2 := hZ5.out.frozen 2; have f3 := hZ5.out.frozen 3; have f4 := hZ5.out.frozen 4; have f5 := hZ5.out.frozen 5; have f6 := hZ5.out.frozen 6; have f7 := hZ5.out.frozen 7; have f8 := hZ5.out.frozen 8; clear hK))
    refine bodyPost_ret (v := .tuple #[(mkG k V1 V2).val, .int .i64 0]) (results_row_tmp (fn := Tryd.f25) rfl _ _ w.heap.size 30 (mkG k V1 V2).cs (0, 0) _ rfl (set9 hZ5.out _ _ _ _ _ _ _ _ _) Tryd.underlying30 rfl (by kernel_rfl)) rfl ⟨congrArg Ending.returned (HY.out ?_), kp9 hk5.out (Nat.le_refl _) _ _ _ _ _ _ _ _ _⟩
    rw [HG.out]
    clear x0 x1 x2 x3 x4 x5 x6 x7 x8 f0 f1 f2 f3 f4 f5 f6 f7 f8
    simp_all
  · have hL1 : (0 : Int) < L := by omega
    go_enter Tryd.func25, Tryd.ntmps25
    go_wp2_with (first
      | (go_at_call 34; refine Calls.mono (HO.out _) ?_; rintro e w1 ⟨rfl, hK⟩; have hk1 := Lib.hid (((Kp.refl NoB w).alloc _).and hK); have hZ := Lib.hid ((Bk.fresh w 30 (mkG 0 0 0).cs).and hK); have hlt : w.heap.size < w1.heap.size := hZ.out.lt; have hne : ¬ w.heap.size = w1.heap.size := Nat.ne_of_lt hlt; clear hK)
      | (go_at_call 44; refine Calls.mono (HW.out _ (HA.out.and hk1.out)) ?_; rintro e w2 ⟨q, r, rfl, hr, -, -, hRd, hK⟩; have hk2 := Lib.hid (hk1.out.and hK); have hZ2 := Lib.hid ((show Bk _ _ _ _ from hZ.out).and hK); have HR := Lib.hid hRd; have hr' := Lib.hid hr; clear hK hRd hr)
      | (go_at_call 45; (with_reducible refine Calls.mono (HN1.out _ _ _ HR.out) ?_); rintro e w3 ⟨rfl, hRd, hK⟩; have HR3 := Lib.hid hRd; have hk3 := Lib.hid (hk2.out.new hK (by have := hr'.out; omega)); have hZ3 := Lib.hid (hZ2.out.keep hK (by have := hr'.out; unfold OnB; omega)); clear hK hRd)
      | (go_at_call 45; (with_reducible refine Calls.mono (HN2.out _ _ _ _ HR3.out) ?_); rintro e w4 ⟨rfl, hRd, hK⟩; have HR4 := Lib.hid hRd; have hk4 := Lib.hid (hk3.out.new hK (by have := hr'.out; omega)); have hZ4 := Lib.hid (hZ3.out.keep hK (by have := hr'.out; unfold OnB; omega)); obtain ⟨x0, x1, x2, x3, x4, x5, x6, x7, x8⟩ := hZ4.out.attr; have f0 := hZ4.out.frozen 0; have f1 := hZ4.out.frozen 1; have f2 := hZ4.out.frozen 2; have f3 := hZ4.out.frozen 3; have f4 := hZ4.out.frozen 4; have f5 := hZ4.out.frozen 5; have f6 := hZ4.out.frozen 6; have f7 := hZ4.out.frozen 7; have f8 := hZ4.out.frozen 8; clear hK hRd)
      | (go_at_call 46; (with_reducible refine Calls.mono (HL.out _ _ _ _ HR4.out) ?_); rintro e w5 ⟨rfl, hK⟩; have hk5 := Lib.hid (hk4.out.and hK); have hZ5 := Lib.hid (hZ4.out.and hK); clear x0 x1 x2 x3 x4 x5 x6 x7 x8 f0 f1 f2 f3 f4 f5 f6 f7 f8; obtain ⟨x0, x1, x2, x3, x4, x5, x6, x7, x8⟩ := hZ5.out.attr; have f0 := hZ5.out.frozen 0; have f1 := hZ5.out.frozen 1; have f2 := hZ5.out.frozen 2; have f3 := hZ5.out.frozen 3; have f4 := hZ5.out.frozen 4; have f5 := hZ5.out.frozen 5; have f6 := hZ5.out.frozen 6; have f7 := hZ5.out.frozen 7; have f8 := hZ5.out.frozen 8; clear hK))
    refine bodyPost_ret (v := .tuple #[(mkG 0 0 0).val, .int .i64 1]) (results_row_tmp (fn := Tryd.f25) rfl _ _ w.heap.size 30 (mkG 0 0 0).cs (0, 0) _ rfl (set9 hZ5.out _ _ _ _ _ _ _ _ _) Tryd.underlying30 rfl (by kernel_rfl)) rfl ⟨congrArg Ending.returned (HZ.out ?_), kp9 hk5.out (Nat.le_refl _) _ _ _ _ _ _ _ _ _⟩
    rw [HG.out]
    clear x0 x1 x2 x3 x4 x5 x6 x7 x8 f0 f1 f2 f3 f4 f5 f6 f7 f8
    simp_all

end Go.Proofs.YtnjdkcnafjkckaaDoor
