/- AggregateWidths' walk. No condition but the table of powers of ten. -/
import Derived.Test.YtnjdkcnafjkckaaDoorAggReads
namespace Go.Proofs.YtnjdkcnafjkckaaDoor
open Go.RowKit
set_option linter.unusedVariables false
set_option linter.unusedSimpArgs false

theorem equal_not (A B : Option Addr) (c d : Nat) (xs ys : List Int) (w : World) (hl : xs.length ≤ 140737488355328) (ha : Arr w A (bs xs)) (hb : Arr w B (bs ys)) (hne : xs.length ≠ ys.length) :
    Calls Tryd.prog 20 #[.slice A xs.length c, .slice B ys.length d] w (Stay (.bool false) w) :=
  (equal_any A B c d xs ys w ha hb hl).mono fun e w' ⟨h1, n, h2⟩ => ⟨by rw [h1]; congr; simp; rintro rfl; exact hne rfl, by rw [h2]; exact (Kp.refl _ _).drewN n⟩

/-- What is valid for two bytes is valid for four. -/
theorem valid_two {z : AtI} (hn : 0 ≤ z.n ∧ z.n < 4294967296) (hv : validG 2 z = true) : validG 4 z = true ∧ (z.t = 7 ∨ z.t = 18) := by
  obtain ⟨K, hK, hk, hb, -, ht⟩ := validG_k hn hv
  refine ⟨?_, ht⟩
  rw [validG_eq _ _ hn, hb]
  rcases ht with h | h <;> simp [hasG, sizeG, h]

set_option maxRecDepth 100000 in
set_option maxHeartbeats 1600000 in
theorem awid_go (t : Int) (p : Bool) (n m : Int) (S : Option Addr) (sn sc : Nat) (L : Option Addr) (ln lc : Nat) (B : Option Addr) (bn bc : Nat) (f : Int) (R : Option Addr) (rn rc : Nat) (w : World)
    (hz : InAt w (AtI.mk t p n m S sn sc L ln lc B bn bc f R rn rc)) (ld : Ld w) (hsm : (AtI.mk t p n m S sn sc L ln lc B bn bc f R rn rc).small) (hv : validG 2 (AtI.mk t p n m S sn sc L ln lc B bn bc f R rn rc) = true) :
    Calls Tryd.prog 7 #[(AtI.mk t p n m S sn sc L ln lc B bn bc f R rn rc).val] w fun e w' => e = .returned (.bool true) ∧ Kp NoB w w' := by
  obtain ⟨hv4, ht⟩ := valid_two hz.1.n hv
  have HAL := Lib.hid (fun W (k : Kp NoB w W) => alive_any W (ld.tb.and k))
  have HS := Lib.hid (fun W (k : Kp NoB w W) => small_any _ W (hz.and k))
  have HB := Lib.hid (fun W => gbytes_any 2 _ (hz.1.ok hsm) W)
  have HC := Lib.hid (fun W => gbytes_any 4 _ (hz.1.ok hsm) W)
  have HRV := Lib.hid (fun W => grvalid_any 2 _ hz.1.n W)
  unfold GBytesM at HB HC
  rw [hv] at HB HRV
  rw [hv4] at HC
  have l2 := bytesG_len hv
  have l4 := bytesG_len hv4
  have s2 := bytesG_short 2 (AtI.mk t p n m S sn sc L ln lc B bn bc f R rn rc)
  have s4 := bytesG_short 4 (AtI.mk t p n m S sn sc L ln lc B bn bc f R rn rc)
  have HR2 := Lib.hid (fun W A c h => gread_any 4 t A c (bytesG 2 (AtI.mk t p n m S sn sc L ln lc B bn bc f R rn rc)) (by omega) W h (bytesG_isB _ _))
  have HR4 := Lib.hid (fun W A c h => gread_any 2 t A c (bytesG 4 (AtI.mk t p n m S sn sc L ln lc B bn bc f R rn rc)) (by omega) W h (bytesG_isB _ _))
  have rb2 := read_bytes hz.1.n hz.1.m hv
  have rb4 := read_bytes hz.1.n hz.1.m hv4
  simp only at ht rb2 rb4 l2 l4
  rcases ht with rfl | rfl
  · rw [show ofG 2 7 = 2 from rfl] at l2
    rw [show ofG 4 7 = 4 from rfl] at l4
    have g2 : goodG 4 7 (bytesG 2 (AtI.mk 7 p n m S sn sc L ln lc B bn bc f R rn rc)) = false := by unfold goodG; rw [l2]; rfl
    have g4 : goodG 2 7 (bytesG 4 (AtI.mk 7 p n m S sn sc L ln lc B bn bc f R rn rc)) = false := by unfold goodG; rw [l4]; rfl
    rw [show attrG 4 7 (bytesG 2 (AtI.mk 7 p n m S sn sc L ln lc B bn bc f R rn rc)) = mkG 0 0 0 by unfold attrG; rw [g2]; rfl, show kindG 4 7 (bytesG 2 (AtI.mk 7 p n m S sn sc L ln lc B bn bc f R rn rc)) = 1 by unfold kindG; rw [g2]; rfl] at HR2
    rw [show attrG 2 7 (bytesG 4 (AtI.mk 7 p n m S sn sc L ln lc B bn bc f R rn rc)) = mkG 0 0 0 by unfold attrG; rw [g4]; rfl, show kindG 2 7 (bytesG 4 (AtI.mk 7 p n m S sn sc L ln lc B bn bc f R rn rc)) = 1 by unfold kindG; rw [g4]; rfl] at HR4
    have HE := Lib.hid (fun W A1 A2 c d h1 h2 => equal_not A1 A2 c d (bytesG 2 (AtI.mk 7 p n m S sn sc L ln lc B bn bc f R rn rc)) (bytesG 4 (AtI.mk 7 p n m S sn sc L ln lc B bn bc f R rn rc)) W (by omega) h1 h2 (by omega))
    obtain ⟨X, hX⟩ : ∃ x, bytesG 2 (AtI.mk 7 p n m S sn sc L ln lc B bn bc f R rn rc) = x := ⟨_, rfl⟩
    obtain ⟨Y, hY⟩ : ∃ x, bytesG 4 (AtI.mk 7 p n m S sn sc L ln lc B bn bc f R rn rc) = x := ⟨_, rfl⟩
    rw [hX] at HB HR2 HE
    rw [hY] at HC HR4 HE
    clear hz ld hsm hv hv4 l2 l4 s2 s4 rb2 rb4 g2 g4 hX hY
    unfold AtI.val AtI.cs at *
    unfold mkG at HR2 HR4
    simp only at HR2 HR4
    go_enter Tryd.func7, Tryd.ntmps7
    go_wp2_with (first
      | (go_at_call 9; (with_reducible refine Calls.mono (HS.out _ ((Kp.refl NoB w).alloc _)) ?_); rintro e w1 ⟨b1, rfl, -, hK⟩; obtain ⟨hk1', hZ'⟩ := fin_at (z := ⟨7, p, n, m, S, sn, sc, L, ln, lc, B, bn, bc, f, R, rn, rc⟩) hK; have hk1 := Lib.hid hk1'; have hz1 := Lib.hid hZ'; obtain ⟨x0, x1, x2, x3, x4, x5, x6, x7, x8⟩ := hz1.out.attr; clear hK hk1' hZ')
      | (go_at_call 17; (with_reducible refine Calls.mono (HRV.out _) ?_); rintro e w2 ⟨rfl, hK⟩; have hk2 := Lib.hid (hk1.out.and hK); have hz2 := Lib.hid (hz1.out.and hK); clear x0 x1 x2 x3 x4 x5 x6 x7 x8; obtain ⟨x0, x1, x2, x3, x4, x5, x6, x7, x8⟩ := hz2.out.attr; clear hK)
      | (go_at_call 18; (with_reducible refine Calls.mono (HB.out _) ?_); rintro e w3 ⟨A3, c3, rfl, hA, -, -, hK⟩; have p3 := Lib.hid hA; have hk3 := Lib.hid (hk2.out.and hK); have hz3 := Lib.hid (hz2.out.and hK); clear x0 x1 x2 x3 x4 x5 x6 x7 x8; obtain ⟨x0, x1, x2, x3, x4, x5, x6, x7, x8⟩ := hz3.out.attr; clear hK hA)
      | (go_at_call 18; (with_reducible refine Calls.mono (HC.out _) ?_); rintro e w4 ⟨A4, c4, rfl, hA, -, -, hK⟩; have q4 := Lib.hid hA; have p4 := Lib.hid (p3.out.and hK); have hk4 := Lib.hid (hk3.out.and hK); have hz4 := Lib.hid (hz3.out.and hK); clear x0 x1 x2 x3 x4 x5 x6 x7 x8; obtain ⟨x0, x1, x2, x3, x4, x5, x6, x7, x8⟩ := hz4.out.attr; clear hK hA)
      | (go_at_call 25; (with_reducible refine Calls.mono (HR2.out _ _ _ p4.out) ?_); rintro e w5 ⟨rfl, hK⟩; have hk5 := Lib.hid (hk4.out.and hK); have hz5 := Lib.hid (hz4.out.and hK); have p5 := Lib.hid ((p4.out.and hK).alloc (.cells (mkG 0 0 0).cs 30)); have q5 := Lib.hid ((q4.out.and hK).alloc (.cells (mkG 0 0 0).cs 30)); clear x0 x1 x2 x3 x4 x5 x6 x7 x8; obtain ⟨x0, x1, x2, x3, x4, x5, x6, x7, x8⟩ := hz5.out.attr; have hlt : w.heap.size < w5.heap.size := hz5.out.lt; have hne := Nat.ne_of_lt hlt; clear hK)
      | (go_at_call 25; (refine Calls.mono (HR4.out _ _ _ q5.out) ?_); rintro e w6 ⟨rfl, hK⟩; have hk6 := Lib.hid ((hk5.out.alloc _).and hK); have hz6 := Lib.hid (((show Bk _ _ _ _ from hz5.out).alloc _).and hK); have p6 := Lib.hid ((p5.out.and hK).alloc (.cells (mkG 0 0 0).cs 30)); have q6 := Lib.hid ((q5.out.and hK).alloc (.cells (mkG 0 0 0).cs 30)); clear x0 x1 x2 x3 x4 x5 x6 x7 x8; obtain ⟨x0, x1, x2, x3, x4, x5, x6, x7, x8⟩ := hz6.out.attr; have hlt2 : w.heap.size < w6.heap.size := hz6.out.lt; have hne2 := Nat.ne_of_lt hlt2; clear hK)
      | (go_at_call 8; (with_reducible refine Calls.mono (HAL.out _ hk1.out) ?_); rintro e w7 ⟨rfl, hK⟩; have hk7 := Lib.hid (hk1.out.and hK); clear hK)
      | (go_at_call 8; (with_reducible refine Calls.mono (HAL.out _ (hk6.out.alloc _)) ?_); rintro e w8 ⟨rfl, hK⟩; have hk8 := Lib.hid ((hk6.out.alloc _).and hK); have p8 := Lib.hid (p6.out.and hK); have q8 := Lib.hid (q6.out.and hK); clear hK)
      | (go_at_call 20; (with_reducible refine Calls.mono (HE.out _ _ _ _ _ p8.out q8.out) ?_); rintro e w9 ⟨rfl, hK⟩; have hk9 := Lib.hid (hk8.out.and hK); clear hK))
    all_goals go_ret
    all_goals first | exact ⟨rfl, hk7.out⟩ | exact ⟨by simp, hk9.out⟩
  · have e24 : bytesG 4 (AtI.mk 18 p n m S sn sc L ln lc B bn bc f R rn rc) = bytesG 2 (AtI.mk 18 p n m S sn sc L ln lc B bn bc f R rn rc) := by unfold bytesG; rw [if_pos hv, if_pos hv4]; rfl
    have g2 : attrG 4 18 (bytesG 2 (AtI.mk 18 p n m S sn sc L ln lc B bn bc f R rn rc)) = mkG 18 n m ∧ kindG 4 18 (bytesG 2 (AtI.mk 18 p n m S sn sc L ln lc B bn bc f R rn rc)) = 0 := by rw [← e24]; exact rb4
    have g4 : attrG 2 18 (bytesG 4 (AtI.mk 18 p n m S sn sc L ln lc B bn bc f R rn rc)) = mkG 18 n m ∧ kindG 2 18 (bytesG 4 (AtI.mk 18 p n m S sn sc L ln lc B bn bc f R rn rc)) = 0 := by rw [e24]; exact rb2
    rw [g2.1, g2.2] at HR2
    rw [g4.1, g4.2] at HR4
    have HE := Lib.hid (fun W A1 A2 c d h1 h2 => equal_same A1 A2 c d (bytesG 2 (AtI.mk 18 p n m S sn sc L ln lc B bn bc f R rn rc)) W (by omega) h1 h2)
    rw [e24] at HC HR4
    obtain ⟨X, hX⟩ : ∃ x, bytesG 2 (AtI.mk 18 p n m S sn sc L ln lc B bn bc f R rn rc) = x := ⟨_, rfl⟩
    rw [hX] at HB HR2 HE HC HR4
    clear hz ld hsm hv hv4 l2 l4 s2 s4 rb2 rb4 g2 g4 hX e24
    unfold AtI.val AtI.cs at *
    unfold mkG at HR2 HR4
    simp only at HR2 HR4
    go_enter Tryd.func7, Tryd.ntmps7
    go_wp2_with (first
      | (go_at_call 9; (with_reducible refine Calls.mono (HS.out _ ((Kp.refl NoB w).alloc _)) ?_); rintro e w1 ⟨b1, rfl, -, hK⟩; obtain ⟨hk1', hZ'⟩ := fin_at (z := ⟨18, p, n, m, S, sn, sc, L, ln, lc, B, bn, bc, f, R, rn, rc⟩) hK; have hk1 := Lib.hid hk1'; have hz1 := Lib.hid hZ'; obtain ⟨x0, x1, x2, x3, x4, x5, x6, x7, x8⟩ := hz1.out.attr; clear hK hk1' hZ')
      | (go_at_call 17; (with_reducible refine Calls.mono (HRV.out _) ?_); rintro e w2 ⟨rfl, hK⟩; have hk2 := Lib.hid (hk1.out.and hK); have hz2 := Lib.hid (hz1.out.and hK); clear x0 x1 x2 x3 x4 x5 x6 x7 x8; obtain ⟨x0, x1, x2, x3, x4, x5, x6, x7, x8⟩ := hz2.out.attr; clear hK)
      | (go_at_call 18; (with_reducible refine Calls.mono (HB.out _) ?_); rintro e w3 ⟨A3, c3, rfl, hA, -, -, hK⟩; have p3 := Lib.hid hA; have hk3 := Lib.hid (hk2.out.and hK); have hz3 := Lib.hid (hz2.out.and hK); clear x0 x1 x2 x3 x4 x5 x6 x7 x8; obtain ⟨x0, x1, x2, x3, x4, x5, x6, x7, x8⟩ := hz3.out.attr; clear hK hA)
      | (go_at_call 18; (with_reducible refine Calls.mono (HC.out _) ?_); rintro e w4 ⟨A4, c4, rfl, hA, -, -, hK⟩; have q4 := Lib.hid hA; have p4 := Lib.hid (p3.out.and hK); have hk4 := Lib.hid (hk3.out.and hK); have hz4 := Lib.hid (hz3.out.and hK); clear x0 x1 x2 x3 x4 x5 x6 x7 x8; obtain ⟨x0, x1, x2, x3, x4, x5, x6, x7, x8⟩ := hz4.out.attr; clear hK hA)
      | (go_at_call 25; (with_reducible refine Calls.mono (HR2.out _ _ _ p4.out) ?_); rintro e w5 ⟨rfl, hK⟩; have hk5 := Lib.hid (hk4.out.and hK); have hz5 := Lib.hid (hz4.out.and hK); have p5 := Lib.hid ((p4.out.and hK).alloc (.cells (mkG 18 n m).cs 30)); have q5 := Lib.hid ((q4.out.and hK).alloc (.cells (mkG 18 n m).cs 30)); clear x0 x1 x2 x3 x4 x5 x6 x7 x8; obtain ⟨x0, x1, x2, x3, x4, x5, x6, x7, x8⟩ := hz5.out.attr; have hlt : w.heap.size < w5.heap.size := hz5.out.lt; have hne := Nat.ne_of_lt hlt; clear hK)
      | (go_at_call 25; (refine Calls.mono (HR4.out _ _ _ q5.out) ?_); rintro e w6 ⟨rfl, hK⟩; have hk6 := Lib.hid ((hk5.out.alloc _).and hK); have hz6 := Lib.hid (((show Bk _ _ _ _ from hz5.out).alloc _).and hK); have p6 := Lib.hid ((p5.out.and hK).alloc (.cells (mkG 18 n m).cs 30)); have q6 := Lib.hid ((q5.out.and hK).alloc (.cells (mkG 18 n m).cs 30)); clear x0 x1 x2 x3 x4 x5 x6 x7 x8; obtain ⟨x0, x1, x2, x3, x4, x5, x6, x7, x8⟩ := hz6.out.attr; have hlt2 : w.heap.size < w6.heap.size := hz6.out.lt; have hne2 := Nat.ne_of_lt hlt2; clear hK)
      | (go_at_call 8; (with_reducible refine Calls.mono (HAL.out _ hk1.out) ?_); rintro e w7 ⟨rfl, hK⟩; have hk7 := Lib.hid (hk1.out.and hK); clear hK)
      | (go_at_call 8; (with_reducible refine Calls.mono (HAL.out _ (hk6.out.alloc _)) ?_); rintro e w8 ⟨rfl, hK⟩; have hk8 := Lib.hid ((hk6.out.alloc _).and hK); have p8 := Lib.hid (p6.out.and hK); have q8 := Lib.hid (q6.out.and hK); clear hK)
      | (go_at_call 20; (with_reducible refine Calls.mono (HE.out _ _ _ _ _ p8.out q8.out) ?_); rintro e w9 ⟨rfl, hK⟩; have hk9 := Lib.hid (hk8.out.and hK); clear hK))
    all_goals go_ret
    all_goals first | exact ⟨rfl, hk7.out⟩ | exact ⟨by simp, hk9.out⟩

set_option maxRecDepth 100000 in
theorem awid_not (z : AtI) (w : World) (hz : InAt w z) (ld : Ld w) (hv : validG 2 z = false) :
    Calls Tryd.prog 7 #[z.val] w fun e w' => e = .returned (.bool true) ∧ Kp NoB w w' := by
  have HAL := Lib.hid (fun W (k : Kp NoB w W) => alive_any W (ld.tb.and k))
  have HS := Lib.hid (fun W (k : Kp NoB w W) => small_any _ W (hz.and k))
  have HRV := Lib.hid (fun W => grvalid_any 2 _ hz.1.n W)
  rw [hv] at HRV
  clear hz ld hv
  unfold AtI.val AtI.cs at *
  go_enter Tryd.func7, Tryd.ntmps7
  go_wp2_with (first
    | (go_at_call 9; (with_reducible refine Calls.mono (HS.out _ ((Kp.refl NoB w).alloc _)) ?_); rintro e w1 ⟨b1, rfl, -, hK⟩; obtain ⟨hk1', hZ'⟩ := fin_at (z := z) hK; have hk1 := Lib.hid hk1'; have hz1 := Lib.hid hZ'; obtain ⟨x0, x1, x2, x3, x4, x5, x6, x7, x8⟩ := hz1.out.attr; clear hK hk1' hZ')
    | (go_at_call 17; (with_reducible refine Calls.mono (HRV.out _) ?_); rintro e w2 ⟨rfl, hK⟩; have hk2 := Lib.hid (hk1.out.and hK); clear hK)
    | (go_at_call 8; (with_reducible refine Calls.mono (HAL.out _ hk1.out) ?_); rintro e w7 ⟨rfl, hK⟩; have hk7 := Lib.hid (hk1.out.and hK); clear hK)
    | (go_at_call 8; (with_reducible refine Calls.mono (HAL.out _ hk2.out) ?_); rintro e w7 ⟨rfl, hK⟩; have hk7 := Lib.hid (hk2.out.and hK); clear hK))
  all_goals
    go_ret
    exact ⟨rfl, hk7.out⟩

set_option maxRecDepth 100000 in
theorem awid_big (z : AtI) (w : World) (hz : InAt w z) (ld : Ld w) (hsm : ¬ z.small) :
    Calls Tryd.prog 7 #[z.val] w fun e w' => e = .returned (.bool true) ∧ Kp NoB w w' := by
  have HAL := Lib.hid (fun W (k : Kp NoB w W) => alive_any W (ld.tb.and k))
  have HS := Lib.hid (fun W (k : Kp NoB w W) => (small_any z W (hz.and k)).mono fun e w' (h : SmallM z W e w') => (show Stay (.bool false) W e w' by
    obtain ⟨b, rfl, hb, hK⟩ := h
    cases b with
    | false => exact ⟨rfl, hK⟩
    | true => exact absurd (hb rfl) hsm))
  clear hz ld hsm
  unfold AtI.val AtI.cs at *
  go_enter Tryd.func7, Tryd.ntmps7
  go_wp2_with (first
    | (go_at_call 9; refine Calls.mono (HS.out _ ((Kp.refl NoB w).alloc _)) ?_; rintro e w1 ⟨rfl, hK⟩; have hk1 := Lib.hid (((Kp.refl NoB w).alloc _).and hK); clear hK)
    | (go_at_call 8; refine Calls.mono (HAL.out _ hk1.out) ?_; rintro e w14 ⟨rfl, hK⟩; have hk14 := Lib.hid (hk1.out.and hK); clear hK))
  go_ret
  exact ⟨rfl, hk14.out⟩

theorem awid_row (z : AtI) (w : World) (hz : InAt w z) (ld : Ld w) :
    Calls Tryd.prog 7 #[z.val] w fun e w' => e = .returned (.bool true) ∧ Kp NoB w w' := by
  by_cases hsm : z.small
  · cases hv : validG 2 z with
    | false => exact awid_not z w hz ld hv
    | true => exact awid_go _ _ _ _ _ _ _ _ _ _ _ _ _ _ _ _ _ w hz ld hsm hv
  · exact awid_big z w hz ld hsm

end Go.Proofs.YtnjdkcnafjkckaaDoor
