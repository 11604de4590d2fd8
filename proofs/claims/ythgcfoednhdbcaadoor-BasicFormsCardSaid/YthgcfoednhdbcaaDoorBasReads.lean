/- BasicReads' walk. No condition but the table of powers of ten. -/
import Derived.Test.YthgcfoednhdbcaaDoorBasLen
import Derived.Test.YthgcfoednhdbcaaDoorEqual
import Derived.Test.YthgcfoednhdbcaaDoorOpen
namespace Go.Proofs.YthgcfoednhdbcaaDoor
open Go.RowKit
set_option linter.unusedVariables false
set_option linter.unusedSimpArgs false

theorem putL_of_big (xs : List Int) (hb : IsB xs) : putL xs.length (big xs) = xs := by
  have aux : ∀ (n : Nat) (xs : List Int), xs.length = n → IsB xs → putL n (big xs) = xs := by
    intro n
    induction n with
    | zero => intro xs h _; rw [List.eq_nil_of_length_eq_zero h]; rfl
    | succ n ih =>
      intro xs h hb
      obtain ⟨l, y, rfl⟩ : ∃ l y, xs = l ++ [y] := ⟨xs.dropLast, xs.getLast (by intro e; rw [e] at h; cases h), (List.dropLast_concat_getLast _).symm⟩
      rw [List.length_append, List.length_singleton] at h
      have hy := hb y (by simp)
      have hl := ih l (by omega) (fun x hx => hb x (by simp [hx]))
      have hbl := big_bound l (fun x hx => hb x (by simp [hx]))
      rw [big_snoc]
      simp only [putL]
      rw [show (big l * 256 + y) / 256 = big l by omega, show (big l * 256 + y) % 256 = y by omega, hl]
  exact aux _ xs rfl hb

theorem good_valid {k : Int} {xs : List Int} (hb : IsB xs) (hg : goodR k xs = true) : validA (mkA k (big xs)) = true ∧ bytesA (mkA k (big xs)) = xs := by
  have h := goodR_eq k xs hb
  rw [hg] at h
  have h' := h.symm
  rw [Bool.and_eq_true, decide_eq_true_eq] at h'
  unfold goodR at hg
  cases hk : wdO k with
  | none => rw [hk] at hg; cases hg
  | some r =>
    obtain ⟨a, m, c⟩ := r
    rw [wdR_some hk] at h'
    have h4 : xs.take 4 = xs := List.take_of_length_le (by rcases wdO_kinds hk with ⟨_, h2, _⟩ | ⟨_, h2, _⟩ | ⟨_, h2, _⟩ <;> omega)
    rw [h4] at h'
    refine ⟨h'.2, ?_⟩
    unfold bytesA
    rw [if_pos h'.2]
    have hw : wdT (mkA k (big xs)).t = xs.length := by
      have := (wdO_a hk).1
      show wdT k = xs.length
      omega
    rw [hw]
    exact putL_of_big xs hb

theorem attrM {w : World} {b : Nat} {t : TypeId} {k n : Int} (h : Bk w b t (mkA k n).cs) :
    w.cell? ⟨b, 0, none⟩ = some (.int .i64 k) ∧ w.cell? ⟨b, 1, none⟩ = some (.bool false) ∧ w.cell? ⟨b, 2, none⟩ = some (.int .u32 n) ∧ w.cell? ⟨b, 3, none⟩ = some (.int .u32 0) ∧
    w.cell? ⟨b, 4, none⟩ = some (.slice none 0 0) ∧ w.cell? ⟨b, 5, none⟩ = some (.slice none 0 0) ∧ w.cell? ⟨b, 6, none⟩ = some (.slice none 0 0) ∧ w.cell? ⟨b, 7, none⟩ = some (.int .i64 0) ∧ w.cell? ⟨b, 8, none⟩ = some (.slice none 0 0) := h.attr

set_option maxRecDepth 100000 in
set_option maxHeartbeats 1600000 in
theorem breads_row (k : Int) (A : Option Addr) (n c : Nat) (xs : List Int) (w : World) (wk : -9223372036854775808 ≤ k ∧ k ≤ 9223372036854775807) (hx : InBytes w A n c xs) (ld : Ld w) :
    Calls Tryd.prog 6 #[.int .i64 k, .slice A n c] w fun e w' => e = .returned (.bool true) ∧ Kp NoB w w' := by
  obtain ⟨rfl, hn, hc, ha, hb⟩ := hx
  have HAL := Lib.hid (fun W (k : Kp NoB w W) => alive_any W (ld.tb.and k))
  by_cases h300 : (xs.length : Int) ≤ 300
  · have HRD := Lib.hid (fun W (h : Kp NoB w W) => read_any k wk A c xs (by omega) W (ha.and h) hb)
    have HRR := Lib.hid (fun W (h : Kp NoB w W) => rread_any k wk A c xs hn (by omega) W (ha.and h) hb)
    have HA := Lib.hid ha
    have hbb := big_bound xs hb
    obtain ⟨kk, nn, hZ, hkk, hnn0, hnn1⟩ : ∃ kk nn, attrR k xs = mkA kk nn ∧ (-9223372036854775808 ≤ kk ∧ kk ≤ 9223372036854775807) ∧ 0 ≤ nn ∧ nn < 4294967296 := by
      unfold attrR
      cases hg : goodR k xs with
      | false => exact ⟨0, 0, rfl, ⟨by decide, by decide⟩, by decide, by decide⟩
      | true =>
        refine ⟨k, big xs, rfl, wk, hbb.1, ?_⟩
        unfold goodR at hg
        cases hk : wdO k with
        | none => rw [hk] at hg; cases hg
        | some r =>
          obtain ⟨a, m, c'⟩ := r
          rw [hk] at hg
          simp only [decide_eq_true_eq] at hg
          rcases wdO_kinds hk with ⟨_, _, h2, _⟩ | ⟨_, _, h2, _⟩ | ⟨_, _, h2, _⟩ <;> omega
    have HB := Lib.hid (fun W => bytes_any (mkA kk nn) (mkA_ok kk nn hkk ⟨hnn0, hnn1⟩) W)
    have HP := Lib.hid (fun W A' c' (h : Arr W A' (us [nn])) => rplain_any (mkA kk nn) A' c' [nn] W h (by simp [maxLen]))
    have hpl : plainB (mkA kk nn) [nn] = true := by simp [plainB, AtI.bare, mkA]
    rw [hpl, List.length_singleton] at HP
    rw [hZ] at HRD HRR
    have HE := Lib.hid (fun W A' c' (h : Arr W A' (bs xs)) (h2 : Arr W A (bs xs)) => equal_any A' A c' c xs xs W h h2 (by omega))
    simp only [decide_true] at HE
    unfold BytesM at HB
    cases hg : goodR k xs with
    | true =>
      have hgv := good_valid hb hg
      have hZ' : mkA kk nn = mkA k (big xs) := by rw [← hZ]; unfold attrR; rw [if_pos hg]
      rw [hZ', hgv.1, hgv.2, ← hZ'] at HB
      rw [kind_good hg] at HRD HRR
      obtain ⟨n, hnn⟩ : ∃ n, xs.length = n := ⟨_, rfl⟩
      simp only [hnn] at HRD HRR HB HE h300 ⊢
      clear hg hgv hZ hZ' hpl hbb hkk hnn0 hnn1 hnn ha hb hn hc ld
      unfold AtI.val AtI.cs mkA at HRD HRR HB HP
      go_enter Tryd.func6, Tryd.ntmps6
      go_wp2_with (first
        | (go_at_call 19; refine Calls.mono (HRD.out _ (Kp.refl _ _)) ?_; rintro e w1 ⟨rfl, hK⟩; have hk1 := Lib.hid hK; clear hK)
        | (go_at_call 18; refine Calls.mono (HRR.out _ (hk1.out.alloc _)) ?_; rintro e w2 ⟨rfl, hK⟩; have hk2 := Lib.hid ((hk1.out.alloc _).and hK); have h5 := Lib.hid ((Bk.fresh w1 28 (mkA kk nn).cs).and hK); obtain ⟨x0, x1, x2, x3, x4, x5, x6, x7, x8⟩ := attrM h5.out; have hlt : w1.heap.size < w2.heap.size := h5.out.lt; have hne := Nat.ne_of_lt hlt; clear hK)
        | (go_at_call 15; refine Calls.mono (HB.out _) ?_; rintro e w3 ⟨A', c', rfl, hA, -, -, hK⟩; have hk3 := Lib.hid ((hk2.out.alloc _).and hK); have h5a := Lib.hid (((show Bk _ _ _ _ from h5.out).alloc _).and hK); have h7 := Lib.hid ((Bk.fresh w2 28 (mkA kk nn).cs).and hK); have HA' := Lib.hid hA; clear hK hA)
        | (go_at_call 9; refine Calls.mono (HAL.out _ hk3.out) ?_; rintro e w4 ⟨rfl, hK⟩; have hk4 := Lib.hid (hk3.out.and hK); have h5b := Lib.hid (h5a.out.and hK); have h7b := Lib.hid (h7.out.and hK); clear x0 x1 x2 x3 x4 x5 x6 x7 x8; have HA2 := Lib.hid (HA'.out.and hK); obtain ⟨x0, x1, x2, x3, x4, x5, x6, x7, x8⟩ := (attrM h5b.out); obtain ⟨y0, y1, y2, y3, y4, y5, y6, y7, y8⟩ := (attrM h7b.out); clear hK)
        | (go_at_call 11; refine Calls.mono (HP.out _ _ _ (arr_one ((Bk.fresh w4 22 #[.int .u32 nn]).cell 0))) ?_; rintro e w5 ⟨rfl, hK⟩; have hk5 := Lib.hid ((hk4.out.alloc _).and hK); have HA3 := Lib.hid ((HA2.out.alloc _).and hK); clear hK)
        | (go_at_call 16; refine Calls.mono (HE.out _ _ _ HA3.out (HA.out.and hk5.out)) ?_; rintro e w6 ⟨rfl, nq, rfl⟩; have hk6 := Lib.hid (hk5.out.drewN nq)))
      go_ret
      exact ⟨by simp, hk6.out⟩
    | false =>
      have hkb := kind_bad hg
      obtain ⟨K, hK0⟩ : ∃ K, kindR k xs = K := ⟨_, rfl⟩
      rw [hK0] at HRD HRR hkb
      obtain ⟨BL, hBL⟩ : ∃ l, bytesA (mkA kk nn) = l := ⟨_, rfl⟩
      obtain ⟨VB, hVB⟩ : ∃ l, validA (mkA kk nn) = l := ⟨_, rfl⟩
      rw [hBL, hVB] at HB
      obtain ⟨n, hnn⟩ : ∃ n, xs.length = n := ⟨_, rfl⟩
      simp only [hnn] at HRD HRR h300 ⊢
      clear hg hZ hpl hbb hkk hnn0 hnn1 hnn ha hb hn hc ld hK0 hBL hVB HE
      unfold AtI.val AtI.cs mkA at HRD HRR HB HP
      go_enter Tryd.func6, Tryd.ntmps6
      go_wp2_with (first
        | (go_at_call 19; refine Calls.mono (HRD.out _ (Kp.refl _ _)) ?_; rintro e w1 ⟨rfl, hK⟩; have hk1 := Lib.hid hK; clear hK)
        | (go_at_call 18; refine Calls.mono (HRR.out _ (hk1.out.alloc _)) ?_; rintro e w2 ⟨rfl, hK⟩; have hk2 := Lib.hid ((hk1.out.alloc _).and hK); have h5 := Lib.hid ((Bk.fresh w1 28 (mkA kk nn).cs).and hK); obtain ⟨x0, x1, x2, x3, x4, x5, x6, x7, x8⟩ := attrM h5.out; have hlt : w1.heap.size < w2.heap.size := h5.out.lt; have hne := Nat.ne_of_lt hlt; clear hK)
        | (go_at_call 15; refine Calls.mono (HB.out _) ?_; rintro e w3 ⟨A', c', rfl, hA, -, -, hK⟩; have hk3 := Lib.hid ((hk2.out.alloc _).and hK); have h5a := Lib.hid (((show Bk _ _ _ _ from h5.out).alloc _).and hK); have h7 := Lib.hid ((Bk.fresh w2 28 (mkA kk nn).cs).and hK); clear hK hA)
        | (go_at_call 9; refine Calls.mono (HAL.out _ hk3.out) ?_; rintro e w4 ⟨rfl, hK⟩; have hk4 := Lib.hid (hk3.out.and hK); have h5b := Lib.hid (h5a.out.and hK); have h7b := Lib.hid (h7.out.and hK); clear x0 x1 x2 x3 x4 x5 x6 x7 x8; obtain ⟨x0, x1, x2, x3, x4, x5, x6, x7, x8⟩ := (attrM h5b.out); obtain ⟨y0, y1, y2, y3, y4, y5, y6, y7, y8⟩ := (attrM h7b.out); clear hK)
        | (go_at_call 11; refine Calls.mono (HP.out _ _ _ (arr_one ((Bk.fresh w4 22 #[.int .u32 nn]).cell 0))) ?_; rintro e w5 ⟨rfl, hK⟩; have hk5 := Lib.hid ((hk4.out.alloc _).and hK); clear hK))
      all_goals
        go_ret
        exact ⟨by simp, hk5.out⟩
  · obtain ⟨n, hnn⟩ : ∃ n, xs.length = n := ⟨_, rfl⟩
    rw [hnn] at h300 ⊢
    clear hnn ha hb hn ld
    go_enter Tryd.func6, Tryd.ntmps6
    go_wp2_with (go_at_call 9; refine Calls.mono (HAL.out _ (Kp.refl _ _)) ?_; rintro e w2 ⟨rfl, hK⟩; have hk2 := Lib.hid hK; clear hK)
    go_ret
    exact ⟨rfl, hk2.out⟩

end Go.Proofs.YthgcfoednhdbcaaDoor
