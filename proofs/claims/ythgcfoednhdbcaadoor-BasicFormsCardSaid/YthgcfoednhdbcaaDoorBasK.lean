/- Chapter 7: the reference's Read. No condition but the bounds that arguments have. -/
import Derived.Test.YthgcfoednhdbcaaDoorBasJ
import Derived.Test.YthgcfoednhdbcaaDoorRBig
namespace Go.Proofs.YthgcfoednhdbcaaDoor
open Go.RowKit
set_option linter.unusedVariables false
set_option linter.unusedSimpArgs false

theorem goodR_eq (k : Int) (xs : List Int) (hb : IsB xs) : goodR k xs = (decide ((xs.length : Int) = wdR k) && validA (mkA k (big (xs.take 4)))) := by
  have hbb := big_bound (xs.take 4) (hb.take 4)
  have hle : (xs.take 4).length ≤ 4 := by rw [List.length_take]; omega
  have h256 : (256 : Int) ^ (xs.take 4).length ≤ 4294967296 := by
    have : ∀ j : Nat, j ≤ 4 → (256 : Int) ^ j ≤ 4294967296 := fun j hj => by
      rcases (show j = 0 ∨ j = 1 ∨ j = 2 ∨ j = 3 ∨ j = 4 by omega) with rfl | rfl | rfl | rfl | rfl <;> decide
    exact this _ hle
  unfold goodR
  cases h : wdO k with
  | none =>
    have hv : validA (mkA k (big (xs.take 4))) = false := by unfold validA; simp only [mkA, h]
    rw [hv, Bool.and_false]
  | some r =>
    obtain ⟨a, m, c⟩ := r
    have hv : validA (mkA k (big (xs.take 4))) = decide (big (xs.take 4) ≤ m) := by
      have hm : validA (mkA k (big (xs.take 4))) = (plainB (mkA k (big (xs.take 4))) [(mkA k (big (xs.take 4))).n] && decide ((mkA k (big (xs.take 4))).n ≤ m)) := by unfold validA; simp only [mkA, h]
      rw [hm]
      show (plainB (mkA k (big (xs.take 4))) [big (xs.take 4)] && decide (big (xs.take 4) ≤ m)) = decide (big (xs.take 4) ≤ m)
      have hp : plainB (mkA k (big (xs.take 4))) [big (xs.take 4)] = true := by simp [plainB, AtI.bare, mkA]
      rw [hp, Bool.true_and]
    rw [hv, wdR_some h]
    by_cases h1 : (xs.length : Int) = a
    · have ht : xs.take 4 = xs := List.take_of_length_le (by rcases wdO_kinds h with ⟨_, h2, _⟩ | ⟨_, h2, _⟩ | ⟨_, h2, _⟩ <;> omega)
      rw [ht]
      simp [h1]
    · simp [h1]

theorem kindR_eq (k : Int) (xs : List Int) : kindR k xs = if goodR k xs then 0 else if k = 6 then 1 else 2 := by
  unfold kindR
  cases h : wdO k with
  | none =>
    have hg : goodR k xs = false := by unfold goodR; rw [h]
    have h6 : ¬ k = 6 := by rintro rfl; cases h
    rw [hg]
    simp [h6]
  | some r =>
    obtain ⟨a, m, c⟩ := r
    simp only
    rcases wdO_kinds h with ⟨h1, rfl, rfl, rfl⟩ | ⟨h1, rfl, rfl, rfl⟩ | ⟨h1, rfl, rfl, rfl⟩
    · simp [h1]
    · have h6 : ¬ k = 6 := by omega
      simp [h6]
    · simp [h1]

set_option maxRecDepth 100000 in
set_option maxHeartbeats 3200000 in
theorem rread_any (k : Int) (wk : -9223372036854775808 ≤ k ∧ k ≤ 9223372036854775807) (A : Option Addr) (cp : Nat) (xs : List Int) (hcp : xs.length ≤ cp) (hl : xs.length ≤ 1000000) (w : World) (ha : Arr w A (bs xs)) (hb : IsB xs) :
    Calls Tryd.prog 18 #[.int .i64 k, .slice A xs.length cp] w (Stay (.tuple #[(attrR k xs).val, .int .i64 (kindR k xs)]) w) := by
  have hbt := hb.take 4
  have hgd := goodR_eq k xs hb
  have hkd := kindR_eq k xs
  have hat : goodR k xs = true → big xs = big (xs.take 4) := by
    intro hg
    rw [hgd, Bool.and_eq_true, decide_eq_true_eq] at hg
    rw [List.take_of_length_le]
    unfold wdR at hg
    have := hg.1
    repeat' split at this
    all_goals omega
  have HB := Lib.hid (fun W (h : Arr W A (bs (xs.take 4))) c => rbig_any A c (xs.take 4) W h hbt (by rw [List.length_take]; omega))
  have HA := Lib.hid (ha.take 4)
  rw [← bs_take] at HA
  have HW := Lib.hid (fun W => rwidth_any k W)
  have hbb := big_bound (xs.take 4) hbt
  have h256 : (256 : Int) ^ (xs.take 4).length ≤ 4294967296 := by
    have : ∀ j : Nat, j ≤ 4 → (256 : Int) ^ j ≤ 4294967296 := fun j hj => by
      rcases (show j = 0 ∨ j = 1 ∨ j = 2 ∨ j = 3 ∨ j = 4 by omega) with rfl | rfl | rfl | rfl | rfl <;> decide
    exact this _ (by rw [List.length_take]; omega)
  have HV := Lib.hid (fun W => rvalid_any (mkA k (big (xs.take 4))) ⟨hbb.1, by show big (xs.take 4) < 4294967296; omega⟩ W)
  have hres : ∀ (b : Bool), b = goodR k xs → Value.tuple #[(if b then mkA k (big (xs.take 4)) else mkA 0 0).val, .int .i64 (if b then 0 else if k = 6 then 1 else 2)] = .tuple #[(attrR k xs).val, .int .i64 (kindR k xs)] := by
    intro b hb
    subst hb
    rw [hkd]
    unfold attrR
    cases hg : goodR k xs with
    | false => rfl
    | true => rw [hat hg]
  obtain ⟨N, hN⟩ : ∃ N, big (xs.take 4) = N := ⟨_, rfl⟩
  obtain ⟨V, hV⟩ : ∃ V, validA (mkA k (big (xs.take 4))) = V := ⟨_, rfl⟩
  obtain ⟨R, hR⟩ : ∃ R, wdR k = R := ⟨_, rfl⟩
  obtain ⟨n, hn⟩ : ∃ n, xs.length = n := ⟨_, rfl⟩
  rw [hV, hR, hn] at hgd
  rw [hV] at HV
  rw [hN] at HB HV hres
  rw [hR] at HW
  rw [hn] at hl hcp ⊢
  rw [List.length_take, hn] at HB
  have HRt := Lib.hid (fun (h : goodR k xs = true) => (hres true h.symm : Value.tuple #[(mkA k N).val, .int .i64 0] = .tuple #[(attrR k xs).val, .int .i64 (kindR k xs)]))
  have HR6 := Lib.hid (fun (h : goodR k xs = false) (h6 : k = 6) => (show Value.tuple #[(mkA 0 0).val, .int .i64 1] = .tuple #[(attrR k xs).val, .int .i64 (kindR k xs)] by have := hres false h.symm; rw [if_pos h6] at this; exact this))
  have HR2 := Lib.hid (fun (h : goodR k xs = false) (h6 : ¬ k = 6) => (show Value.tuple #[(mkA 0 0).val, .int .i64 2] = .tuple #[(attrR k xs).val, .int .i64 (kindR k xs)] by have := hres false h.symm; rw [if_neg h6] at this; exact this))
  have HG := Lib.hid hgd
  unfold AtI.val AtI.cs mkA at HV
  clear hbt hgd hkd hat ha hbb h256 hres hN hV hR hn hb
  have e4 : min 4 n = (min (n : Int) 4).toNat := by omega
  rw [e4] at HB
  clear e4
  go_enter Tryd.func18, Tryd.ntmps18
  go_wp2_with (first
    | (go_at_call 33; refine Calls.mono (HB.out _ (HA.out.alloc _) _) ?_; rintro e w1 ⟨rfl, rfl⟩)
    | (go_at_call 34; refine Calls.mono (HW.out _) ?_; rintro e w2 ⟨rfl, rfl⟩)
    | (go_at_call 14; refine Calls.mono (HV.out _) ?_; rintro e w3 ⟨rfl, hK⟩; have hk3 := Lib.hid ((((Kp.refl NoB w).alloc _).alloc _).and hK); have hZ3 := Lib.hid (((Bk.fresh w 28 (mkA 0 0).cs).alloc _).and hK); have hY3 := Lib.hid ((Bk.second w _ 28 (mkA k N).cs).and hK); obtain ⟨x0, x1, x2, x3, x4, x5, x6, x7, x8⟩ := hZ3.out.attr; obtain ⟨y0, y1, y2, y3, y4, y5, y6, y7, y8⟩ := hY3.out.attr; have f0 := hZ3.out.frozen 0; have f1 := hZ3.out.frozen 1; have f2 := hZ3.out.frozen 2; have f3 := hZ3.out.frozen 3; have f4 := hZ3.out.frozen 4; have f5 := hZ3.out.frozen 5; have f6 := hZ3.out.frozen 6; have f7 := hZ3.out.frozen 7; have f8 := hZ3.out.frozen 8; clear hK))
  · refine bodyPost_ret (v := .tuple #[(mkA k N).val, .int .i64 0]) (results_row_tmp (fn := Tryd.f18) rfl _ _ w.heap.size 28 (mkA k N).cs (0, 0) _ rfl (set9 hZ3.out _ _ _ _ _ _ _ _ _) Tryd.underlying28 rfl (by kernel_rfl)) rfl ⟨?_, kp9 hk3.out (Nat.le_refl _) _ _ _ _ _ _ _ _ _⟩
    exact congrArg Ending.returned (HRt.out (by rw [HG.out]; simp_all))
  · refine bodyPost_ret (v := .tuple #[(mkA 0 0).val, .int .i64 1]) (results_row_tmp (fn := Tryd.f18) rfl _ _ w.heap.size 28 (mkA 0 0).cs (0, 0) _ rfl (set9 hZ3.out _ _ _ _ _ _ _ _ _) Tryd.underlying28 rfl (by kernel_rfl)) rfl ⟨?_, kp9 hk3.out (Nat.le_refl _) _ _ _ _ _ _ _ _ _⟩
    exact congrArg Ending.returned (HR6.out (by rw [HG.out]; simp_all) (by simp_all))
  · refine bodyPost_ret (v := .tuple #[(mkA 0 0).val, .int .i64 2]) (results_row_tmp (fn := Tryd.f18) rfl _ _ w.heap.size 28 (mkA 0 0).cs (0, 0) _ rfl (set9 hZ3.out _ _ _ _ _ _ _ _ _) Tryd.underlying28 rfl (by kernel_rfl)) rfl ⟨?_, kp9 hk3.out (Nat.le_refl _) _ _ _ _ _ _ _ _ _⟩
    exact congrArg Ending.returned (HR2.out (by rw [HG.out]; simp_all) (by simp_all))
  · refine bodyPost_ret (v := .tuple #[(mkA 0 0).val, .int .i64 1]) (results_row_tmp (fn := Tryd.f18) rfl _ _ w.heap.size 28 (mkA 0 0).cs (0, 0) _ rfl (Bk.alloc (Bk.fresh w 28 (mkA 0 0).cs) _) Tryd.underlying28 rfl (by kernel_rfl)) rfl ⟨?_, ((Kp.refl NoB w).alloc _).alloc _⟩
    exact congrArg Ending.returned (HR6.out (by rw [HG.out]; simp_all) (by simp_all))
  · refine bodyPost_ret (v := .tuple #[(mkA 0 0).val, .int .i64 2]) (results_row_tmp (fn := Tryd.f18) rfl _ _ w.heap.size 28 (mkA 0 0).cs (0, 0) _ rfl (Bk.alloc (Bk.fresh w 28 (mkA 0 0).cs) _) Tryd.underlying28 rfl (by kernel_rfl)) rfl ⟨?_, ((Kp.refl NoB w).alloc _).alloc _⟩
    exact congrArg Ending.returned (HR2.out (by rw [HG.out]; simp_all) (by simp_all))

end Go.Proofs.YthgcfoednhdbcaaDoor
