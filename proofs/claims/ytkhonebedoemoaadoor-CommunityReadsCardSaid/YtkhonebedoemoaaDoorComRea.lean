/- CommunityReads' walk. No condition but the table of powers of ten. -/
import Derived.Test.YtkhonebedoemoaaDoorComZ
namespace Go.Proofs.YtkhonebedoemoaaDoor
open Go.RowKit
set_option linter.unusedVariables false
set_option linter.unusedSimpArgs false

theorem putL_of_big (xs : List Int) (hb : IsB xs) : putL xs.length (big xs) = xs := by
  have aux : ∀ (n : Nat) (xs : List Int), xs.length = n → IsB xs → putL n (big xs) = xs := by
    intro n
    induction n with
    | zero => intro xs h _; rw [List.eq_nil_of_length_eq_zero h]; rfl
    | succ n ih =>
      intro xs h hb
      obtain ⟨l, y, rfl⟩ : ∃ l y, xs = l ++ [y] := ⟨xs.dropLast, xs.getLast (by intro e; rw [e] at h; cases h), (List.dropLast_concat_getLast _).symm⟩
      rw [List.length_append, List.length_singleton] at h
      have hy := hb y (by simp)
      have hl := ih l (by omega) (fun x hx => hb x (by simp [hx]))
      have hbl := big_bound l (fun x hx => hb x (by simp [hx]))
      rw [big_snoc]
      simp only [putL]
      rw [show (big l * 256 + y) / 256 = big l by omega, show (big l * 256 + y) % 256 = y by omega, hl]
  exact aux _ xs rfl hb
/-- The bytes of the numbers of bytes. -/
theorem bytes_nums (b : List Int) (hb : IsB b) : ∀ j, 4 * j ≤ b.length → bytesU (numsU b j) = b.take (4 * j) := by
  intro j
  induction j with
  | zero => intro _; simp [numsU, bytesU, catL, partsU]
  | succ j ih =>
    intro h
    have h4 : ((b.drop (4 * j)).take 4).length = 4 := by rw [List.length_take, List.length_drop]; omega
    have hq : IsB ((b.drop (4 * j)).take 4) := fun x hx => hb x (List.mem_of_mem_drop (List.mem_of_mem_take hx))
    have hp := putL_of_big _ hq
    rw [h4] at hp
    rw [numsU_succ, bytesU_snoc, ih (by omega), hp, show 4 * (j + 1) = 4 * j + 4 by omega, List.take_add]
/-- What Read and Bytes leave, the fields written out. -/
def ReadW (w : World) (k : Int) (l : List Int) (n : Nat) (v : Int) (e : Ending) (w' : World) : Prop :=
  ∃ A c, e = .returned (.tuple #[.agg #[.int .i64 k, .bool false, .int .u32 0, .int .u32 0, .slice none 0 0, .slice A n c, .slice none 0 0, .int .i64 0, .slice none 0 0], .int .i64 v]) ∧ w'.ownsRow w.heap.size 22 1 (.slice A n c) n (us l) ∧ Kp NoB w w'
theorem ReadU.w {w w' : World} {k v : Int} {l : List Int} {e : Ending} (h : ReadU w k l v e w') : ReadW w k l l.length v e w' := h
def BytesW (w : World) (b : Bool) (l : List Int) (n : Nat) (e : Ending) (w' : World) : Prop :=
  ∃ A c, e = .returned (.tuple #[.slice A n c, .bool b]) ∧ w'.ownsRow w.heap.size 5 1 (.slice A n c) n (bs l) ∧ Kp NoB w w'
theorem BytesU.w {w w' : World} {b : Bool} {l : List Int} {e : Ending} (h : BytesU w b l e w') : BytesW w b l l.length e w' := h

set_option maxRecDepth 100000 in
set_option maxHeartbeats 16000000 in
theorem creads_row (k : Int) (A : Option Addr) (n c : Nat) (b : List Int) (w : World) (wk : -9223372036854775808 ≤ k ∧ k ≤ 9223372036854775807) (hx : InBytes w A n c b) (ld : Ld w) :
    Calls Tryd.prog 6 #[.int .i64 k, .slice A n c] w fun e w' => e = .returned (.bool true) ∧ Kp NoB w w' := by
  obtain ⟨rfl, hn, hc, ha, hb⟩ := hx
  have HAL := Lib.hid (fun W (k : Kp NoB w W) => alive_any W (ld.tb.and k))
  by_cases h600 : (b.length : Int) ≤ 600
  · have HRD := Lib.hid (fun W (h : Kp NoB w W) => (cread_any k wk A c b W (ha.and h) hb (by omega)).mono (fun e w' h => h.w))
    have HRR := Lib.hid (fun W (h : Kp NoB w W) => (rread_any k wk A c b W (ha.and h) hb (by omega) hn hc).mono (fun e w' h => h.w))
    have HA := Lib.hid ha
    have hle : (rdL k b).length ≤ 200 := by
      unfold rdL
      split
      · rw [numsU_len]; omega
      · simp
    have hKb : -9223372036854775808 ≤ rdK k b ∧ rdK k b ≤ 9223372036854775807 := by
      unfold rdK
      split
      · exact wk
      · decide
    have hIU : IsU (rdL k b) := by
      unfold rdL
      split
      · exact numsU_isU b _ hb
      · exact fun x hx => by cases hx
    have hvr : ∀ B d, validC (zU (rdK k b) false B (rdL k b).length d) = readOk k b := by
      intro B d
      cases hr : readOk k b with
      | true =>
        unfold rdK rdL
        rw [if_pos hr, if_pos hr, numsU_len]
        unfold readOk at hr
        rw [Bool.and_eq_true] at hr
        exact hr.2
      | false =>
        unfold rdK rdL
        rw [if_neg (by rw [hr]; decide), if_neg (by rw [hr]; decide)]
        simp [validC, zU, grp]
    obtain ⟨K, hK⟩ : ∃ x, rdK k b = x := ⟨_, rfl⟩
    obtain ⟨L, hL⟩ : ∃ x, rdL k b = x := ⟨_, rfl⟩
    obtain ⟨V, hV⟩ : ∃ x, rdV k b = x := ⟨_, rfl⟩
    obtain ⟨m, hm⟩ : ∃ x, L.length = x := ⟨_, rfl⟩
    have hbn : readOk k b = true → bytesU L = b := by
      intro hr
      rw [← hL]
      unfold rdL
      rw [if_pos hr]
      unfold readOk at hr
      rw [Bool.and_eq_true, decide_eq_true_eq] at hr
      rw [bytes_nums b hb _ (by omega), List.take_of_length_le (by omega)]
    have hv0 : V = if readOk k b = true then 0 else 2 := by rw [← hV]; rfl
    rw [hK] at hKb
    rw [hL, hm] at hle
    rw [hL] at hIU
    rw [hK, hL, hm] at hvr
    rw [hK, hL, hV, hm] at HRD HRR
    have HSA := Lib.hid (fun W B D d e (h1 : Arr W B (us L)) (h2 : Arr W D (us L)) => (show Calls Tryd.prog 14 #[.agg #[.int .i64 K, .bool false, .int .u32 0, .int .u32 0, .slice none 0 0, .slice B m d, .slice none 0 0, .int .i64 0, .slice none 0 0], .agg #[.int .i64 K, .bool false, .int .u32 0, .int .u32 0, .slice none 0 0, .slice D m e, .slice none 0 0, .int .i64 0, .slice none 0 0]] W (Stay (.bool true) W) by
      have h := usame2 K false B D d e L W (by omega) h1 h2
      rw [hm] at h
      exact h))
    have HE := Lib.hid (fun W B d (h : Arr W B (bs b)) (h2 : Arr W A (bs b)) => equal_any B A d c b b W h h2 (by omega))
    simp only [decide_true] at HE
    obtain ⟨R, hR⟩ : ∃ r, readOk k b = r := ⟨_, rfl⟩
    rw [hR] at hvr hbn hv0
    have HBY : Hid (∀ W B d, m ≤ d → d ≤ maxLen → Arr W B (us L) → Calls Tryd.prog 17 #[.agg #[.int .i64 K, .bool false, .int .u32 0, .int .u32 0, .slice none 0 0, .slice B m d, .slice none 0 0, .int .i64 0, .slice none 0 0]] W (BytesW W R (if R then b else []) (if R then b.length else 0))) := Lib.hid (fun W B d h1 h2 h3 => by
      cases R with
      | true =>
        have h := cbytes_good (zU K false B m d) (zU_ok hKb false B d (by omega)) L W ⟨hm, h1, h2, h3, hIU⟩ (by show m ≤ 1000; omega) (hvr B d)
        rw [hbn rfl] at h
        exact h
      | false => exact cbytes_bad (zU K false B m d) (zU_ok hKb false B d (by omega)) W (hvr B d))
    obtain ⟨n, hnn⟩ : ∃ n, b.length = n := ⟨_, rfl⟩
    simp only [hnn] at HRD HRR HBY HE h600 ⊢
    clear hnn ha hb hn hc ld hK hL hV hm hR hvr hbn hle hKb hIU
    unfold ReadW at HRD HRR
    unfold BytesW at HBY
    cases R with
    | true =>
      simp only [if_true] at HBY hv0
      subst hv0
      go_enter Tryd.func6, Tryd.ntmps6
      go_wp2_with (first
        | (go_at_call 26; refine Calls.mono (HRD.out _ (Kp.refl _ _)) ?_; rintro e w1 ⟨A1, c1, rfl, ho, hK⟩; have hk1 := Lib.hid hK; have ho1 := Lib.hid (own_parts ho); clear hK ho)
        | (go_at_call 27; refine Calls.mono (HRR.out _ (hk1.out.alloc _)) ?_; rintro e w2 ⟨A2, c2, rfl, ho, hK⟩; have hk2 := Lib.hid ((hk1.out.alloc _).and hK); have h5 := Lib.hid ((Bk.fresh w1 28 (zU K false A1 m c1).cs).and hK); have hr1 := Lib.hid ((ho1.out.2.2.and ((Kp.refl NoB w1).alloc _)).and hK); have ho2 := Lib.hid (own_parts ho); obtain ⟨x0, x1, x2, x3, x4, x5, x6, x7, x8⟩ := (Bk.attr (z := zU K false A1 m c1) h5.out); unfold zU at x0 x1 x2 x3 x4 x5 x6 x7 x8; simp only at x0 x1 x2 x3 x4 x5 x6 x7 x8; have hlt : w1.heap.size < w2.heap.size := h5.out.lt; have hne := Nat.ne_of_lt hlt; clear hK ho)
        | (go_at_call 17; refine Calls.mono (HBY.out _ _ _ ho1.out.1 ho1.out.2.1 (hr1.out.and ((Kp.refl NoB w2).alloc _))) ?_; rintro e w3 ⟨A3, c3, rfl, ho, hK⟩; have hk3 := Lib.hid ((hk2.out.alloc _).and hK); have h5a := Lib.hid ((h5.out.alloc _).and hK); have h7 := Lib.hid ((Bk.fresh w2 28 (zU K false A2 m c2).cs).and hK); have ha3 := Lib.hid (own_parts ho).2.2; have hr1a := Lib.hid ((hr1.out.and ((Kp.refl NoB w2).alloc _)).and hK); have hr2a := Lib.hid ((ho2.out.2.2.and ((Kp.refl NoB w2).alloc _)).and hK); clear hK ho)
        | (go_at_call 9; refine Calls.mono (HAL.out _ hk3.out) ?_; rintro e w4 ⟨rfl, hK⟩; have hk4 := Lib.hid (hk3.out.and hK); have h5b := h5a.out.and hK; have h7b := h7.out.and hK; clear x0 x1 x2 x3 x4 x5 x6 x7 x8; have ha4 := Lib.hid (ha3.out.and hK); have hr1b := Lib.hid (hr1a.out.and hK); have hr2b := Lib.hid (hr2a.out.and hK); obtain ⟨x0, x1, x2, x3, x4, x5, x6, x7, x8⟩ := (Bk.attr (z := zU K false A1 m c1) h5b); obtain ⟨y0, y1, y2, y3, y4, y5, y6, y7, y8⟩ := (Bk.attr (z := zU K false A2 m c2) h7b); unfold zU at x0 x1 x2 x3 x4 x5 x6 x7 x8 y0 y1 y2 y3 y4 y5 y6 y7 y8; simp only at x0 x1 x2 x3 x4 x5 x6 x7 x8 y0 y1 y2 y3 y4 y5 y6 y7 y8; clear hK h5b h7b)
        | (go_at_call 14; refine Calls.mono (HSA.out _ _ _ _ _ hr1b.out hr2b.out) ?_; rintro e w5 ⟨rfl, hK⟩; have hk5 := Lib.hid (hk4.out.and hK); have ha5 := Lib.hid (ha4.out.and hK); clear hK)
        | (go_at_call 21; refine Calls.mono (HE.out _ _ _ ha5.out (HA.out.and hk5.out)) ?_; rintro e w6 ⟨rfl, nq, rfl⟩; have hk6 := Lib.hid (hk5.out.drewN nq)))
      go_ret
      exact ⟨by simp, hk6.out⟩
    | false =>
      simp only [Bool.false_eq_true, if_false] at HBY hv0
      subst hv0
      clear HE
      go_enter Tryd.func6, Tryd.ntmps6
      go_wp2_with (first
        | (go_at_call 26; refine Calls.mono (HRD.out _ (Kp.refl _ _)) ?_; rintro e w1 ⟨A1, c1, rfl, ho, hK⟩; have hk1 := Lib.hid hK; have ho1 := Lib.hid (own_parts ho); clear hK ho)
        | (go_at_call 27; refine Calls.mono (HRR.out _ (hk1.out.alloc _)) ?_; rintro e w2 ⟨A2, c2, rfl, ho, hK⟩; have hk2 := Lib.hid ((hk1.out.alloc _).and hK); have h5 := Lib.hid ((Bk.fresh w1 28 (zU K false A1 m c1).cs).and hK); have hr1 := Lib.hid ((ho1.out.2.2.and ((Kp.refl NoB w1).alloc _)).and hK); have ho2 := Lib.hid (own_parts ho); obtain ⟨x0, x1, x2, x3, x4, x5, x6, x7, x8⟩ := (Bk.attr (z := zU K false A1 m c1) h5.out); unfold zU at x0 x1 x2 x3 x4 x5 x6 x7 x8; simp only at x0 x1 x2 x3 x4 x5 x6 x7 x8; have hlt : w1.heap.size < w2.heap.size := h5.out.lt; have hne := Nat.ne_of_lt hlt; clear hK ho)
        | (go_at_call 17; refine Calls.mono (HBY.out _ _ _ ho1.out.1 ho1.out.2.1 (hr1.out.and ((Kp.refl NoB w2).alloc _))) ?_; rintro e w3 ⟨A3, c3, rfl, ho, hK⟩; have hk3 := Lib.hid ((hk2.out.alloc _).and hK); have h5a := Lib.hid ((h5.out.alloc _).and hK); have h7 := Lib.hid ((Bk.fresh w2 28 (zU K false A2 m c2).cs).and hK); have hr1a := Lib.hid ((hr1.out.and ((Kp.refl NoB w2).alloc _)).and hK); have hr2a := Lib.hid ((ho2.out.2.2.and ((Kp.refl NoB w2).alloc _)).and hK); clear hK ho)
        | (go_at_call 9; refine Calls.mono (HAL.out _ hk3.out) ?_; rintro e w4 ⟨rfl, hK⟩; have hk4 := Lib.hid (hk3.out.and hK); have h5b := h5a.out.and hK; have h7b := h7.out.and hK; clear x0 x1 x2 x3 x4 x5 x6 x7 x8; have hr1b := Lib.hid (hr1a.out.and hK); have hr2b := Lib.hid (hr2a.out.and hK); obtain ⟨x0, x1, x2, x3, x4, x5, x6, x7, x8⟩ := (Bk.attr (z := zU K false A1 m c1) h5b); obtain ⟨y0, y1, y2, y3, y4, y5, y6, y7, y8⟩ := (Bk.attr (z := zU K false A2 m c2) h7b); unfold zU at x0 x1 x2 x3 x4 x5 x6 x7 x8 y0 y1 y2 y3 y4 y5 y6 y7 y8; simp only at x0 x1 x2 x3 x4 x5 x6 x7 x8 y0 y1 y2 y3 y4 y5 y6 y7 y8; clear hK h5b h7b)
        | (go_at_call 14; refine Calls.mono (HSA.out _ _ _ _ _ hr1b.out hr2b.out) ?_; rintro e w5 ⟨rfl, hK⟩; have hk5 := Lib.hid (hk4.out.and hK); clear hK))
      all_goals
        go_ret
        exact ⟨by simp, hk5.out⟩
  · obtain ⟨n, hnn⟩ : ∃ n, b.length = n := ⟨_, rfl⟩
    rw [hnn] at h600 ⊢
    clear hnn ha hb hn ld
    go_enter Tryd.func6, Tryd.ntmps6
    go_wp2_with (go_at_call 9; refine Calls.mono (HAL.out _ (Kp.refl _ _)) ?_; rintro e w2 ⟨rfl, hK⟩; have hk2 := Lib.hid hK; clear hK)
    go_ret
    exact ⟨rfl, hk2.out⟩

end Go.Proofs.YtkhonebedoemoaaDoor
