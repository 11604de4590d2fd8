/- The reference's prefixes: Make: its contract by walking the Go text. -/
import Derived.Test.YtkkfigdfgagimaaRPreB
import Derived.Test.YtkkfigdfgagimaaPreE
namespace Go.Proofs.Ytkkfigdfgagimaa
open Go.RowKit
set_option linter.unusedVariables false
set_option linter.unusedSimpArgs false

theorem or_bit : ∀ y : Nat, y < 256 → ∀ m : Nat, m < 8 → (y : Int) / 2 ^ (7 - m) % 2 = 1 → bits .or .u8 (maskB ((m : Nat) : Int) ((y : Nat) : Int)) (2 ^ (7 - m) % 256) = maskB ((m : Nat) + 1 : Int) ((y : Nat) : Int) := by decide +kernel
theorem no_bit : ∀ y : Nat, y < 256 → ∀ m : Nat, m < 8 → ¬ (y : Int) / 2 ^ (7 - m) % 2 = 1 → maskB ((m : Nat) : Int) ((y : Nat) : Int) = maskB ((m : Nat) + 1 : Int) ((y : Nat) : Int) := by decide +kernel
theorem bit_u8 (y : Nat) (k : Nat) (h : y < 256) : bits .and .u8 ((y : Int) / 2 ^ k) 1 = (y : Int) / 2 ^ k % 2 := by
  have hb := shr_bd (y : Int) k (by omega)
  exact bits_mask .u8 8 (by decide) (fun n h0 h1 => by rw [IntKind.wrap_u8]; omega) 1 (by decide) _ hb.1 (by omega)
theorem maskL_step (i : Nat) (a : List Int) (hi : i < 128) (ha : a.length = 16) (v : Int) (hv : v = maskB ((i % 8 : Nat) + 1 : Int) (a.getD (i / 8) 0)) : (maskL (i : Int) a).set (i / 8) v = maskL ((i : Int) + 1) a := by
  refine ext16 (by simp [maskL, mkTo_length]) (mkTo_length _ _ _) (fun j hj => ?_)
  rw [maskL_get _ _ j hj]
  by_cases h : i / 8 = j
  · subst h
    have hl : i / 8 < (maskL (i : Int) a).length := by rw [show (maskL (i : Int) a).length = 16 from mkTo_length _ _ _]; omega
    rw [List.getD_eq_getElem?_getD, List.getElem?_set_self hl, hv]
    simp only [Option.getD_some]
    congr 1
    omega
  · rw [List.getD_eq_getElem?_getD, List.getElem?_set_ne h, ← List.getD_eq_getElem?_getD, maskL_get _ _ j hj]
    rcases Nat.lt_or_ge j (i / 8) with h1 | h1
    · rw [maskB_high _ _ (by omega), maskB_high ((i : Int) + 1 - 8 * (j : Int)) _ (by omega)]
    · rw [maskB_low _ _ (by omega), maskB_low ((i : Int) + 1 - 8 * (j : Int)) _ (by omega)]
theorem padL_zero (b : List Int) (j : Nat) (h : b.length ≤ j) : (padL b).getD j 0 = 0 := by
  unfold padL
  rw [List.getD_eq_getElem?_getD, List.getElem?_append_right h]
  rw [List.getElem?_replicate]
  split <;> rfl
theorem padL_in (b : List Int) (j : Nat) (h : j < b.length) : (padL b).getD j 0 = b.getD j 0 := by
  unfold padL
  rw [List.getD_eq_getElem?_getD, List.getD_eq_getElem?_getD, List.getElem?_append_left h]
theorem maskB_zero (k : Int) : maskB k 0 = 0 := by unfold maskB; split <;> (try rfl); split <;> simp
theorem maskL_done (i : Nat) (len : Int) (b : List Int) (hb : b.length ≤ 16) (h : (i : Int) = len ∨ (i = 8 * b.length ∧ (i : Int) ≤ len)) : maskL (i : Int) (padL b) = maskL len (padL b) := by
  rcases h with h | ⟨h, hl⟩
  · rw [h]
  · refine ext16 (mkTo_length _ _ _) (mkTo_length _ _ _) (fun j hj => ?_)
    rw [maskL_get _ _ j hj, maskL_get _ _ j hj]
    rcases Nat.lt_or_ge j b.length with h1 | h1
    · rw [maskB_high _ _ (by omega), maskB_high (len - 8 * (j : Int)) _ (by omega)]
    · rw [padL_zero b j h1, maskB_zero, maskB_zero]
theorem maskL_none (b : List Int) (hb : b.length ≤ 16) : maskL 0 (padL b) = List.replicate 16 0 := by
  refine ext16 (mkTo_length _ _ _) (by simp) (fun j hj => ?_)
  rw [maskL_get _ _ j hj, maskB_low _ _ (by omega)]
  unfold maskB
  rw [if_pos (by decide), List.getD_eq_getElem?_getD, List.getElem?_replicate, if_pos hj]
  rfl
theorem preC_set (fam len : Int) (m : List Int) (j : Nat) (v : Int) : (preC ⟨fam, len, m⟩).toArray.setIfInBounds (2 + j) (.int .u8 v) = (preC ⟨fam, len, m.set j v⟩).toArray := by
  rw [List.setIfInBounds_toArray]
  congr 1
  unfold preC bs
  rw [show 2 + j = j + 1 + 1 by omega, List.set_cons_succ, List.set_cons_succ, List.map_set]

theorem set_same (l : List Int) (i : Nat) (v : Int) (hi : i < l.length) (h : l.getD i 0 = v) : l.set i v = l := by
  rw [List.getD_eq_getElem?_getD, List.getElem?_eq_getElem hi] at h
  simp only [Option.getD_some] at h
  rw [← h, List.set_getElem_self]

/-- Where the loop stands. -/
def rmk (fam len : Int) (b : List Int) (i : Nat) : List Value := preC ⟨fam, len, maskL (i : Int) (padL b)⟩
theorem rmk_length (fam len : Int) (b : List Int) (i : Nat) : (rmk fam len b i).length = 18 := preC_length (mkTo_length _ _ _)

set_option maxRecDepth 100000 in
set_option maxHeartbeats 4000000 in
theorem rmake_yes (fam len : Int) (A : Option Addr) (c : Nat) (b : List Int) (w : World) (ha : Arr w A (bs b)) (hb : IsB b) (h0 : 0 ≤ len) (h1 : len ≤ mostI fam) (h2 : 8 * (b.length : Int) ≤ mostI fam) :
    Calls Try.prog 61 #[.int .i64 fam, .int .i64 len, .slice A b.length c] w (Stay (.tuple #[(makeP fam len b).val, .bool true]) w) := by
  have HM := Lib.hid (fun w => rmost_any fam w)
  have hmb := most_bd fam
  obtain ⟨mo, hmo⟩ : ∃ mo, mostI fam = mo := ⟨_, rfl⟩
  rw [hmo] at HM hmb h1 h2
  have hn16 : b.length ≤ 16 := by omega
  have hv : (makeP fam len b).val = .agg (preC ⟨fam, len, maskL len (padL b)⟩).toArray := rfl
  rw [hv]
  have HZ := Lib.hid (Bk.fresh w 29 (preF 0 0).toArray)
  have HG := Lib.hid (Bk.second w (.cells (preF 0 0).toArray 29) 29 (preF fam len).toArray)
  have hrm : preF fam len = rmk fam len b 0 := by unfold preF rmk; rw [show ((0 : Nat) : Int) = 0 from rfl, maskL_none b hn16]
  have HDN := Lib.hid (fun i h => maskL_done i len b hn16 h)
  have HI18 := Lib.hid (size_of infoPre).2
  have HFO := Lib.hid (show (preF fam len).toArray.all (·.oneCell') = true from all_oneCell_toArray (preC_one ⟨fam, len, List.replicate 16 0⟩))
  obtain ⟨F, hF⟩ : ∃ F, preF fam len = F := ⟨_, rfl⟩
  have HFL : Hid (F.length = 18) := Lib.hid (by rw [← hF]; rfl)
  have HE : Hid (PreI.val ⟨fam, len, List.replicate 16 0⟩ = .agg F.toArray) := Lib.hid (by rw [← hF]; rfl)
  rw [hF] at HG hrm HFO
  have HRM := Lib.hid hrm
  have HA := Lib.hid ha
  obtain ⟨n, hn⟩ : ∃ n, b.length = n := ⟨_, rfl⟩
  have HN := Lib.hid hn
  rw [hn] at h2 hn16 ⊢
  have h8 : (n : Int) * 8 ≤ mo := by omega
  clear hmo hv hrm hF ha hn
  go_enter Try.func61, Try.ntmps61
  go_wp2_with (first
    | (go_at_call 60; (with_reducible refine (HM.out _).mono ?_); rintro e w1 ⟨rfl, rfl⟩)
    | (refine wpList_store_newg (w := w.alloc (.cells (preF 0 0).toArray 29)) rfl 29 (.tmp 8) (.tmp 29) rfl (w.heap.size + 1) (by simp) (preF 0 0).toArray F.toArray rfl ?_ 29 (by rw [List.size_toArray, HFL.out]; exact HI18.out) (by rw [List.size_toArray, List.size_toArray, HFL.out, preF_length]) HFO.out ?_; exact HE.out))
  have HK0 := Lib.hid (((Kp.refl NoB w).alloc (.cells (preF 0 0).toArray 29)).alloc (.cells F.toArray 29))
  have HBY : Hid (∀ j, j < n → ∃ ad, A = some ad ∧ w.cell? (ad.add j) = some (.int .u8 (b.getD j 0)) ∧ (0 ≤ b.getD j 0 ∧ b.getD j 0 < 256)) := Lib.hid (fun j hj => by
    obtain ⟨ad, e, hc⟩ := HA.out.at (bs_get b j (by rw [HN.out]; exact hj))
    exact ⟨ad, e, hc, hb.getD j⟩)
  have HRS := Lib.hid (fun (j : Nat) => (rmk_length fam len b j))
  go_loopw [9] (fun i wr => ∃ j : Nat, j ≤ 8 * n ∧ (j : Int) ≤ len ∧ i = .int .i64 j ∧ Hid (Bk wr (w.heap.size + 1) 29 (rmk fam len b j).toArray) ∧ Hid (Bk wr w.heap.size 29 (preF 0 0).toArray) ∧ Hid (Kp NoB w wr)) (fun i _ => 128 - (intOf i).toNat)
  case atStart => exact ⟨0, Nat.zero_le _, by simpa using h0, rfl, Lib.hid (by rw [← HRM.out]; exact HG.out), Lib.hid (HZ.out.alloc _), HK0⟩
  case round =>
    obtain ⟨j, hj8, hjl, rfl, HB, HZW, HKW⟩ := hrel
    by_cases hlt : j < 8 * n ∧ (j : Int) < len
    · obtain ⟨hlt1, hlt2⟩ := hlt
      obtain ⟨ad, rfl, hcell, hyb⟩ := HBY.out (j / 8) (by omega)
      replace hcell := HKW.out.cell hcell (fun q => q)
      have hoc := HB.out.cell (2 + j / 8)
      have hof := HB.out.frozen (2 + j / 8)
      have hpi := padL_in b (j / 8) (by rw [HN.out]; omega)
      have hgo : (rmk fam len b j).toArray[2 + j / 8]? = some (.int .u8 (maskB ((j % 8 : Nat) : Int) (b.getD (j / 8) 0))) := by
        rw [List.getElem?_toArray]
        unfold rmk preC
        rw [show 2 + j / 8 = j / 8 + 1 + 1 by omega, List.getElem?_cons_succ, List.getElem?_cons_succ, bs_get _ _ (by rw [show (maskL (j : Int) (padL b)).length = 16 from mkTo_length _ _ _]; omega), maskL_get _ _ _ (by omega), hpi]
        congr 3
        omega
      rw [hgo] at hoc
      have HVAL := Lib.hid hpi
      have HST := Lib.hid (fun (v : Int) (hv : v = maskB ((j % 8 : Nat) + 1 : Int) (b.getD (j / 8) 0)) => maskL_step j (padL b) (by omega) (padL_length (by rw [HN.out]; omega)) v (by rw [hpi]; exact hv))
      obtain ⟨y, hy⟩ : ∃ y, b.getD (j / 8) 0 = y := ⟨_, rfl⟩
      rw [hy] at hcell hyb hoc HST HVAL
      obtain ⟨yn, rfl⟩ := Int.eq_ofNat_of_zero_le hyb.1
      clear hgo hpi hy
      by_cases hbit : (yn : Int) / 2 ^ (7 - j % 8) % 2 = 1
      · have hbt : (bits .and .u8 ((yn : Int) / 2 ^ (7 - j % 8)) 1 == 1) = true := by rw [bit_u8 _ _ (by omega), hbit]; rfl
        have HOR := Lib.hid (or_bit yn (by omega) (j % 8) (by omega) hbit)
        clear hbit
        rw [show ((j % 8 : Nat) : Int) = (j : Int) % 8 by omega] at HOR HST
        go_wp2_with fail
        refine ⟨⟨j + 1, by omega, by omega, by go_num, Lib.hid ?_, Lib.hid (HZW.out.far (p := ⟨w.heap.size + 1, 2 + j / 8, none⟩) (by show w.heap.size ≠ w.heap.size + 1; omega) _), Lib.hid (HKW.out.setCell (p := ⟨w.heap.size + 1, 2 + j / 8, none⟩) (fun h => by have h : w.heap.size + 1 < w.heap.size := h; omega) _)⟩, by simp [intOf]; omega⟩
        have h1 := HB.out.set (2 + j / 8) (.int .u8 (bits .or .u8 (maskB ((j : Int) % 8) (yn : Int)) (2 ^ (7 - j % 8) % 256)))
        unfold rmk at h1 ⊢
        rw [preC_set, HST.out _ HOR.out] at h1
        exact h1
      · have hbt : (bits .and .u8 ((yn : Int) / 2 ^ (7 - j % 8)) 1 == 1) = false := by rw [bit_u8 _ _ (by omega)]; simpa using hbit
        have HNO := Lib.hid (no_bit yn (by omega) (j % 8) (by omega) hbit)
        clear hbit
        go_wp2_with fail
        refine ⟨⟨j + 1, by omega, by omega, by go_num, Lib.hid ?_, HZW, HKW⟩, by simp [intOf]; omega⟩
        have h1 := HST.out _ HNO.out
        rw [set_same _ _ _ (by rw [show (maskL (j : Int) (padL b)).length = 16 from mkTo_length _ _ _]; omega) (by
          rw [maskL_get _ _ _ (by omega)]
          have h2 := HVAL.out
          rw [h2]
          congr 1
          omega)] at h1
        have h3 : rmk fam len b (j + 1) = rmk fam len b j := by unfold rmk; rw [show ((j + 1 : Nat) : Int) = (j : Int) + 1 by omega, ← h1]
        rw [h3]
        exact HB.out
    · have hj : (j : Int) = len ∨ (j = 8 * b.length ∧ (j : Int) ≤ len) := by rw [HN.out]; omega
      have HX := Lib.hid (HDN.out j hj)
      have HBX : Hid (Bk wr (w.heap.size + 1) 29 (preC ⟨fam, len, maskL len (padL b)⟩).toArray) := Lib.hid (by
        have h1 := HB.out
        unfold rmk at h1
        rw [HX.out] at h1
        exact h1)
      have HXL := Lib.hid (show (preC ⟨fam, len, maskL len (padL b)⟩).length = 18 from preC_length (mkTo_length _ _ _))
      have HXO := Lib.hid (all_oneCell_toArray (preC_one ⟨fam, len, maskL len (padL b)⟩))
      obtain ⟨cX, hcX⟩ : ∃ cX, preC ⟨fam, len, maskL len (padL b)⟩ = cX := ⟨_, rfl⟩
      rw [hcX] at HBX HXL HXO
      have HCX := Lib.hid hcX
      clear hcX hj
      have hcase : (j < 8 * n ∧ ¬ (j : Int) < len) ∨ ¬ j < 8 * n := by omega
      rcases hcase with ⟨hc1, hc2⟩ | hc1
      all_goals
        go_wp2_with (first
          | (refine wpList_load_at rfl 29 (.tmp 8) rfl ⟨w.heap.size + 1, 0, none⟩ rfl cX _ (CellsAt.of_bk HBX.out) Try.underlying29 rfl (by rw [HXL.out]; exact HI18.out) ?_)
          | (refine wpList_store_row rfl 29 (.tmp 6) (.tmp 69) rfl w.heap.size cX.toArray rfl rfl 29 (preF 0 0).toArray HZW.out (by rw [List.size_toArray, HXL.out]; exact HI18.out) (by rw [List.size_toArray, List.size_toArray, HXL.out, preF_length]) HXO.out ?_))
        refine bodyPost_ret (v := .tuple #[.agg cX.toArray, .bool true]) (results_row_tmp (fn := Try.f61) rfl _ _ w.heap.size 29 cX.toArray (0, 0) _ rfl (HZW.out.row cX.toArray) Try.underlying29 rfl (by rw [List.size_toArray, HXL.out]; exact HI18.out)) rfl ⟨by rw [HCX.out], ?_⟩
        exact Kp.row HKW.out (fun h => by omega) _

end Go.Proofs.Ytkkfigdfgagimaa
