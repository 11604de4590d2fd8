/- AggregateReads' walk. No condition but the table of powers of ten. -/
import Derived.Test.YtnjdkcnafjkckaaDoorAggForms
import Derived.Test.YtnjdkcnafjkckaaDoorOpen
namespace Go.Proofs.YtnjdkcnafjkckaaDoor
open Go.RowKit
set_option linter.unusedVariables false
set_option linter.unusedSimpArgs false

theorem putL_of_big (xs : List Int) (hb : IsB xs) : putL xs.length (big xs) = xs := by
  have aux : ∀ (n : Nat) (xs : List Int), xs.length = n → IsB xs → putL n (big xs) = xs := by
    intro n
    induction n with
    | zero => intro xs h _; rw [List.eq_nil_of_length_eq_zero h]; rfl
    | succ n ih =>
      intro xs h hb
      obtain ⟨l, y, rfl⟩ : ∃ l y, xs = l ++ [y] := ⟨xs.dropLast, xs.getLast (by intro e; rw [e] at h; cases h), (List.dropLast_concat_getLast _).symm⟩
      rw [List.length_append, List.length_singleton] at h
      have hy := hb y (by simp)
      have hl := ih l (by omega) (fun x hx => hb x (by simp [hx]))
      have hbl := big_bound l (fun x hx => hb x (by simp [hx]))
      rw [big_snoc]
      simp only [putL]
      rw [show (big l * 256 + y) / 256 = big l by omega, show (big l * 256 + y) % 256 = y by omega, hl]
  exact aux _ xs rfl hb

theorem big4_bound (xs : List Int) (hb : IsB xs) (h : xs.length ≤ 4) : 0 ≤ big xs ∧ big xs < 4294967296 := by
  have hbb := big_bound xs hb
  have : ∀ j : Nat, j ≤ 4 → (256 : Int) ^ j ≤ 4294967296 := fun j hj => by
    rcases (show j = 0 ∨ j = 1 ∨ j = 2 ∨ j = 3 ∨ j = 4 by omega) with rfl | rfl | rfl | rfl | rfl <;> decide
  have := this _ h
  omega

/-- What is read is valid, and has the form that was read. -/
theorem good_back {width k : Int} {xs : List Int} (hb : IsB xs) (hg : goodG width k xs = true) :
    ∃ N M, attrG width k xs = mkG k N M ∧ (0 ≤ N ∧ N < 4294967296) ∧ (0 ≤ M ∧ M < 4294967296) ∧ validG width (mkG k N M) = true ∧ bytesG width (mkG k N M) = xs ∧ kindG width k xs = 0 ∧ (k = 7 ∨ k = 18) := by
  have h := hg
  unfold goodG at h
  simp only [Bool.and_eq_true, decide_eq_true_eq] at h
  obtain ⟨h1, h2⟩ := h
  obtain ⟨K, hK, hK24⟩ : ∃ K : Nat, ofG width k = K ∧ (K = 2 ∨ K = 4) := by
    rcases ofG_cases width k with h | h | h
    · omega
    · exact ⟨2, h, .inl rfl⟩
    · exact ⟨4, h, .inr rfl⟩
  have hkk : k = 7 ∨ k = 18 := by
    unfold ofG at h1
    split at h1
    · rename_i h; exact h.2
    · omega
  rw [hK] at h1 h2
  have hl : xs.length = K + 4 := by omega
  have ht : (xs.take K).length = K := by rw [List.length_take]; omega
  have hd : (xs.drop K).length = 4 := by rw [List.length_drop]; omega
  have b1 := big4_bound (xs.take K) (hb.take K) (by omega)
  have b2 := big4_bound (xs.drop K) (hb.drop K) (by omega)
  have hv : validG width (mkG k (big (xs.take K)) (big (xs.drop K))) = true := by
    unfold validG
    rw [show (mkG k (big (xs.take K)) (big (xs.drop K))).t = k from rfl, show (mkG k (big (xs.take K)) (big (xs.drop K))).n = big (xs.take K) from rfl, hK]
    have hf : fits K (big (xs.take K)) = true := by
      have hbb := (big_bound (xs.take K) (hb.take K)).2
      rw [ht] at hbb
      simp only [fits, decide_eq_true_eq]
      exact ⟨by omega, by omega, by rw [Int.toNat_natCast]; exact hbb⟩
    rw [hf]
    simp [AtI.bare, mkG]
    omega
  refine ⟨big (xs.take K), big (xs.drop K), ?_, b1, b2, hv, ?_, ?_, hkk⟩
  · unfold attrG
    rw [if_pos hg, hK]
    rfl
  · unfold bytesG
    rw [if_pos hv, show (mkG k (big (xs.take K)) (big (xs.drop K))).t = k from rfl, hK]
    show putL ((K : Int)).toNat (big (xs.take K)) ++ putL 4 (big (xs.drop K)) = xs
    rw [Int.toNat_natCast]
    have e1 := putL_of_big (xs.take K) (hb.take K)
    have e2 := putL_of_big (xs.drop K) (hb.drop K)
    rw [ht] at e1
    rw [hd] at e2
    rw [e1, e2, List.take_append_drop]
  · unfold kindG
    rw [if_pos hg]

set_option maxRecDepth 100000 in
set_option maxHeartbeats 1600000 in
theorem areads_good (width k : Int) (A : Option Addr) (n c : Nat) (xs : List Int) (w : World) (wk : -9223372036854775808 ≤ k ∧ k ≤ 9223372036854775807) (hx : InBytes w A n c xs) (ld : Ld w) (h3 : n ≤ 300) (hg : goodG width k xs = true) :
    Calls Tryd.prog 6 #[.int .i64 width, .int .i64 k, .slice A n c] w fun e w' => e = .returned (.bool true) ∧ Kp NoB w w' := by
  obtain ⟨rfl, hn, hc, ha, hb⟩ := hx
  obtain ⟨N, M, hat, hN, hM, hv, hbt, hkd, hkk⟩ := good_back hb hg
  have HAL := Lib.hid (fun W (k : Kp NoB w W) => alive_any W (ld.tb.and k))
  have HA := Lib.hid ha
  have HR := Lib.hid (fun W (k' : Kp NoB w W) => gread_any width k A c xs (by omega) W (ha.and k') hb)
  have HRR := Lib.hid (fun W (k' : Kp NoB w W) => gread_same width k A c xs hn W (ha.and k') hb)
  rw [hat, hkd] at HR HRR
  have ok : (mkG k N M).Ok := mkG_ok k N M wk hN hM
  have HB := Lib.hid (fun W => gbytes_any width (mkG k N M) ok W)
  unfold GBytesM at HB
  rw [hv, hbt] at HB
  have HS := Lib.hid (fun W => gsame_any (mkG k N M) (mkG k N M) rfl rfl rfl rfl (by simp [AtI.bare, mkG]) (by simp [AtI.bare, mkG]) W)
  have HE := Lib.hid (fun W A B c d h1 h2 => equal_same A B c d xs W (by omega) h1 h2)
  obtain ⟨l, hl⟩ : ∃ n, xs.length = n := ⟨_, rfl⟩
  rw [hl] at HR HRR HB HE h3 ⊢
  have h3' : (l : Int) ≤ 300 := by omega
  clear ha hb hg hat hN hM hv hbt hkd hkk ok ld hl hn hc wk h3
  unfold AtI.val AtI.cs mkG at *
  simp only at HR HRR HB HS
  go_enter Tryd.func6, Tryd.ntmps6
  go_wp2_with (first
    | (go_at_call 25; (with_reducible refine Calls.mono (HR.out _ (Kp.refl _ _)) ?_); rintro e w1 ⟨rfl, hK⟩; have hk1 := Lib.hid hK; clear hK)
    | (go_at_call 26; (with_reducible refine Calls.mono (HRR.out _ (hk1.out.alloc _)) ?_); rintro e w2 ⟨rfl, hK⟩; have hk2 := Lib.hid ((hk1.out.alloc _).and hK); have hy2 := Lib.hid ((Bk.fresh w1 30 (mkG k N M).cs).and hK); have hlt : w1.heap.size < w2.heap.size := hy2.out.lt; have hne := Nat.ne_of_lt hlt; obtain ⟨y0, y1, y2, y3, y4, y5, y6, y7, y8⟩ := attrMG hy2.out; clear hK)
    | (go_at_call 18; (with_reducible refine Calls.mono (HB.out _) ?_); rintro e w3 ⟨A3, c3, rfl, hA, -, -, hK⟩; have p3 := Lib.hid hA; have hk3 := Lib.hid ((hk2.out.alloc _).and hK); have hy3 := Lib.hid (((show Bk _ _ _ _ from hy2.out).alloc _).and hK); have hz3 := Lib.hid ((Bk.fresh w2 30 (mkG k N M).cs).and hK); clear hA y0 y1 y2 y3 y4 y5 y6 y7 y8; clear hK)
    | (go_at_call 8; (with_reducible refine Calls.mono (HAL.out _ hk3.out) ?_); rintro e w4 ⟨rfl, hK⟩; have hk4 := Lib.hid (hk3.out.and hK); have hy4 := Lib.hid (hy3.out.and hK); have hz4 := Lib.hid (hz3.out.and hK); have p4 := Lib.hid (p3.out.and hK); obtain ⟨y0, y1, y2, y3, y4, y5, y6, y7, y8⟩ := attrMG hy4.out; obtain ⟨z0, z1, z2, z3, z4, z5, z6, z7, z8⟩ := attrMG hz4.out; clear hK)
    | (go_at_call 12; (with_reducible refine Calls.mono (HS.out _) ?_); rintro e w5 ⟨rfl, hK⟩; have hk5 := Lib.hid (hk4.out.and hK); have p5 := Lib.hid (p4.out.and hK); have q5 := Lib.hid (HA.out.and hk5.out); clear hK)
    | (go_at_call 20; (with_reducible refine Calls.mono (HE.out _ _ _ _ _ p5.out q5.out) ?_); rintro e w6 ⟨rfl, hK⟩; have hk6 := Lib.hid (hk5.out.and hK); clear hK))
  go_ret
  exact ⟨by simp, hk6.out⟩

set_option maxRecDepth 100000 in
set_option maxHeartbeats 1600000 in
theorem areads_bad (width k : Int) (A : Option Addr) (n c : Nat) (xs : List Int) (w : World) (wk : -9223372036854775808 ≤ k ∧ k ≤ 9223372036854775807) (hx : InBytes w A n c xs) (ld : Ld w) (h3 : n ≤ 300) (hg : goodG width k xs = false) :
    Calls Tryd.prog 6 #[.int .i64 width, .int .i64 k, .slice A n c] w fun e w' => e = .returned (.bool true) ∧ Kp NoB w w' := by
  obtain ⟨rfl, hn, hc, ha, hb⟩ := hx
  have hat : attrG width k xs = mkG 0 0 0 := by unfold attrG; rw [hg]; rfl
  have hkd : kindG width k xs = 1 := by unfold kindG; rw [hg]; rfl
  have HAL := Lib.hid (fun W (k : Kp NoB w W) => alive_any W (ld.tb.and k))
  have HR := Lib.hid (fun W (k' : Kp NoB w W) => gread_any width k A c xs (by omega) W (ha.and k') hb)
  have HRR := Lib.hid (fun W (k' : Kp NoB w W) => gread_same width k A c xs hn W (ha.and k') hb)
  rw [hat, hkd] at HR HRR
  have ok : (mkG 0 0 0).Ok := mkG_ok 0 0 0 (by decide) (by decide) (by decide)
  have HB := Lib.hid (fun W => gbytes_any width (mkG 0 0 0) ok W)
  unfold GBytesM at HB
  have HS := Lib.hid (fun W => gsame_any (mkG 0 0 0) (mkG 0 0 0) rfl rfl rfl rfl (by simp [AtI.bare, mkG]) (by simp [AtI.bare, mkG]) W)
  obtain ⟨Y, hY⟩ : ∃ y, bytesG width (mkG 0 0 0) = y := ⟨_, rfl⟩
  obtain ⟨V, hV⟩ : ∃ y, validG width (mkG 0 0 0) = y := ⟨_, rfl⟩
  rw [hY, hV] at HB
  obtain ⟨l, hl⟩ : ∃ n, xs.length = n := ⟨_, rfl⟩
  rw [hl] at HR HRR h3 ⊢
  have h3' : (l : Int) ≤ 300 := by omega
  clear ha hb hg hat hkd ok ld hl hn hc wk h3 hY hV
  unfold AtI.val AtI.cs mkG at *
  simp only at HR HRR HB HS
  go_enter Tryd.func6, Tryd.ntmps6
  go_wp2_with (first
    | (go_at_call 25; (with_reducible refine Calls.mono (HR.out _ (Kp.refl _ _)) ?_); rintro e w1 ⟨rfl, hK⟩; have hk1 := Lib.hid hK; clear hK)
    | (go_at_call 26; (with_reducible refine Calls.mono (HRR.out _ (hk1.out.alloc _)) ?_); rintro e w2 ⟨rfl, hK⟩; have hk2 := Lib.hid ((hk1.out.alloc _).and hK); have hy2 := Lib.hid ((Bk.fresh w1 30 (mkG 0 0 0).cs).and hK); have hlt : w1.heap.size < w2.heap.size := hy2.out.lt; have hne := Nat.ne_of_lt hlt; obtain ⟨y0, y1, y2, y3, y4, y5, y6, y7, y8⟩ := attrMG hy2.out; clear hK)
    | (go_at_call 18; (with_reducible refine Calls.mono (HB.out _) ?_); rintro e w3 ⟨A3, c3, rfl, hA, -, -, hK⟩; have hk3 := Lib.hid ((hk2.out.alloc _).and hK); have hy3 := Lib.hid (((show Bk _ _ _ _ from hy2.out).alloc _).and hK); have hz3 := Lib.hid ((Bk.fresh w2 30 (mkG 0 0 0).cs).and hK); clear hA y0 y1 y2 y3 y4 y5 y6 y7 y8; clear hK)
    | (go_at_call 8; (with_reducible refine Calls.mono (HAL.out _ hk3.out) ?_); rintro e w4 ⟨rfl, hK⟩; have hk4 := Lib.hid (hk3.out.and hK); have hy4 := Lib.hid (hy3.out.and hK); have hz4 := Lib.hid (hz3.out.and hK); obtain ⟨y0, y1, y2, y3, y4, y5, y6, y7, y8⟩ := attrMG hy4.out; obtain ⟨z0, z1, z2, z3, z4, z5, z6, z7, z8⟩ := attrMG hz4.out; clear hK)
    | (go_at_call 12; (with_reducible refine Calls.mono (HS.out _) ?_); rintro e w5 ⟨rfl, hK⟩; have hk5 := Lib.hid (hk4.out.and hK); clear hK))
  go_ret
  exact ⟨by simp, hk5.out⟩

theorem areads_row (width k : Int) (A : Option Addr) (n c : Nat) (xs : List Int) (w : World) (ww : -9223372036854775808 ≤ width ∧ width ≤ 9223372036854775807) (wk : -9223372036854775808 ≤ k ∧ k ≤ 9223372036854775807) (hx : InBytes w A n c xs) (ld : Ld w) :
    Calls Tryd.prog 6 #[.int .i64 width, .int .i64 k, .slice A n c] w fun e w' => e = .returned (.bool true) ∧ Kp NoB w w' := by
  by_cases h3 : n ≤ 300
  · cases hg : goodG width k xs with
    | false => exact areads_bad width k A n c xs w wk hx ld h3 hg
    | true => exact areads_good width k A n c xs w wk hx ld h3 hg
  · have HAL := Lib.hid (alive_any w ld.tb)
    have h3' : (300 : Int) < n := by omega
    clear hx ld h3 wk ww
    go_enter Tryd.func6, Tryd.ntmps6
    go_wp2_with (go_at_call 8; (with_reducible refine Calls.mono HAL.out ?_); rintro e w1 ⟨rfl, hK⟩)
    go_ret
    exact ⟨rfl, hK⟩

end Go.Proofs.YtnjdkcnafjkckaaDoor
