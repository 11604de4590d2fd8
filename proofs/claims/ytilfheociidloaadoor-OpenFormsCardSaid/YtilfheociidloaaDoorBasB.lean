/- The texts of package basic: decimal, Address. No condition but the table of powers of ten. -/
import Derived.Test.YtilfheociidloaaDoorNotP
import Derived.Test.YtilfheociidloaaDoorProg
import Derived.KernelRfl
import Derived.Test.YtilfheociidloaaDoorFu10
import Derived.Test.YtilfheociidloaaDoorDec
import Derived.BigCall
import Derived.Deep.RegionHeld3
namespace Go.Proofs.YtilfheociidloaaDoor
open Go.RowKit
set_option linter.unusedVariables false
set_option linter.unusedSimpArgs false

theorem decimal_any (n : Int) (h0 : 0 ≤ n) (h1 : n < 4294967296) (w : World) (htab : Tb w) : Calls Tryd.prog 57 #[.int .u32 n] w (Stay (.string (ba (Lib.decDigits n.toNat))) w) := by
  have H := Lib.hid (fu10_any n.toNat (by omega) w htab)
  rw [show ((n.toNat : Nat) : Int) = n by omega] at H
  clear htab
  go_enter Tryd.func57, Tryd.ntmps57
  go_wp2_with (go_at_call 28; refine H.out.mono ?_; rintro e w1 ⟨rfl, hK⟩)
  go_ret
  exact ⟨rfl, hK⟩

/-- Numbers with a dot in front of each. -/
def dotL (xs : List Int) : List UInt8 := xs.flatMap fun x => 46 :: Lib.decDigits x.toNat
theorem dotL_snoc (xs : List Int) (x : Int) : dotL (xs ++ [x]) = dotL xs ++ (46 :: Lib.decDigits x.toNat) := by simp [dotL]
theorem dotL_len (xs : List Int) (h : IsB xs) : (dotL xs).length ≤ 21 * xs.length := by
  induction xs with
  | nil => simp [dotL]
  | cons x xs ih =>
    have hx := h x (.head _)
    have h2 := ih (fun y hy => h y (.tail _ hy))
    have h3 := dec_short x.toNat (by omega)
    simp only [dotL, List.flatMap_cons, List.length_append, List.length_cons] at h2 ⊢
    omega
theorem dotL_pos (xs : List Int) (h : xs ≠ []) : 1 ≤ (dotL xs).length := by
  cases xs with
  | nil => exact absurd rfl h
  | cons x xs => simp only [dotL, List.flatMap_cons, List.length_append, List.length_cons]; omega
/-- The text of an address. -/
def addrL (n : Int) : List UInt8 := (dotL (putL 4 n)).drop 1

theorem putL4_0 (n : Int) (h0 : 0 ≤ n) (h1 : n < 4294967296) : bits .and .u32 (n / 16777216) 255 = (putL 4 n).getD 0 0 := by rw [putL_4]; exact u32_and255 _ (by omega) (by omega)
theorem putL4_1 (n : Int) (h0 : 0 ≤ n) (h1 : n < 4294967296) : bits .and .u32 (n / 65536) 255 = (putL 4 n).getD 1 0 := by rw [putL_4]; exact u32_and255 _ (by omega) (by omega)
theorem putL4_2 (n : Int) (h0 : 0 ≤ n) (h1 : n < 4294967296) : bits .and .u32 (n / 256) 255 = (putL 4 n).getD 2 0 := by rw [putL_4]; exact u32_and255 _ (by omega) (by omega)
theorem putL4_3 (n : Int) (h0 : 0 ≤ n) (h1 : n < 4294967296) : bits .and .u32 n 255 = (putL 4 n).getD 3 0 := by rw [putL_4]; exact u32_and255 _ (by omega) (by omega)

set_option maxRecDepth 100000 in
set_option maxHeartbeats 2000000 in
theorem address_any (n : Int) (h0 : 0 ≤ n) (h1 : n < 4294967296) (w : World) (htab : Tb w) : Calls Tryd.prog 30 #[.int .u32 n] w (Stay (.string (ba (addrL n))) w) := by
  have hbb : IsB (putL 4 n) := putL_isB _ _
  have hlen : (putL 4 n).length = 4 := putL_length _ _
  have HT := Lib.hid htab
  clear htab
  go_enter Tryd.func30, Tryd.ntmps30
  go_wp2
  go_loopw [3, 4] (fun vs vi wr => ∃ (j : Nat) (i : Int), j ≤ 4 ∧ i = 24 - 8 * (j : Int) ∧ vi = .int .i64 i ∧ vs = .string (ba (dotL ((putL 4 n).take j))) ∧ Hid (Kp NoB w wr)) (fun _ vi _ => (intOf vi + 8).toNat)
  case atStart => exact ⟨0, 24, Nat.zero_le _, rfl, rfl, rfl, Lib.hid (Kp.refl _ _)⟩
  case round =>
    obtain ⟨j, i, hj, hi, rfl, rfl, HK⟩ := hrel
    by_cases hlt : j < 4
    · have hs : dotL ((putL 4 n).take (j + 1)) = dotL ((putL 4 n).take j) ++ (46 :: Lib.decDigits ((putL 4 n).getD j 0).toNat) := by rw [take_snoc _ j (by omega), dotL_snoc]
      have hl := dotL_len _ (hbb.take j)
      rw [List.length_take, Nat.min_eq_left (by omega)] at hl
      have hy := hbb.getD j
      have hp0 := putL4_0 n h0 h1
      have hp1 := putL4_1 n h0 h1
      have hp2 := putL4_2 n h0 h1
      have hp3 := putL4_3 n h0 h1
      have hcat := fun (s : List UInt8) (x : Int) (hx : 0 ≤ x ∧ x < 256) (hl : s.length ≤ 100) (w : World) => (show (Op.stringOp .add (ba s) (ba (46 :: Lib.decDigits x.toNat))).run Tryd.prog w = .ok (.string (ba (s ++ 46 :: Lib.decDigits x.toNat))) w by
        have hd := dec_short x.toNat (by omega)
        rw [run_string_add_sum w _ _ (by rw [ba_size, ba_size, List.length_cons]; omega), ba_app])
      have hdot := fun (x : Int) (hx : 0 ≤ x ∧ x < 256) (w : World) => (show (Op.stringOp .add ⟨#[46]⟩ (ba (Lib.decDigits x.toNat))).run Tryd.prog w = .ok (.string (ba (46 :: Lib.decDigits x.toNat))) w by
        have hd := dec_short x.toNat (by omega)
        rw [show (⟨#[46]⟩ : ByteArray) = ba [46] from rfl, run_string_add_sum w _ _ (by rw [ba_size, ba_size]; simp; omega), ba_app]
        rfl)
      have hl1 : (dotL ((putL 4 n).take j)).length ≤ 100 := by omega
      have hcat1 := hcat _ _ hy hl1
      have hdot1 := hdot _ hy
      have hdec := decimal_any ((putL 4 n).getD j 0) hy.1 (by omega)
      obtain ⟨s, hss⟩ : ∃ s, dotL ((putL 4 n).take j) = s := ⟨_, rfl⟩
      rw [hss] at hs hcat1 ⊢
      obtain ⟨s', hss'⟩ : ∃ s, dotL ((putL 4 n).take (j + 1)) = s := ⟨_, rfl⟩
      rw [hss'] at hs
      obtain ⟨d, hd⟩ : ∃ d, Lib.decDigits ((putL 4 n).getD j 0).toNat = d := ⟨_, rfl⟩
      have hbits : (i = 24 ∧ bits .and .u32 (n / 16777216) 255 = (putL 4 n).getD j 0) ∨ (i = 16 ∧ bits .and .u32 (n / 65536) 255 = (putL 4 n).getD j 0) ∨ (i = 8 ∧ bits .and .u32 (n / 256) 255 = (putL 4 n).getD j 0) ∨ (i = 0 ∧ bits .and .u32 n 255 = (putL 4 n).getD j 0) := by
        rcases (show j = 0 ∨ j = 1 ∨ j = 2 ∨ j = 3 by omega) with rfl | rfl | rfl | rfl
        · exact .inl ⟨by omega, hp0⟩
        · exact .inr (.inl ⟨by omega, hp1⟩)
        · exact .inr (.inr (.inl ⟨by omega, hp2⟩))
        · exact .inr (.inr (.inr ⟨by omega, hp3⟩))
      obtain ⟨x, hxx⟩ : ∃ x, (putL 4 n).getD j 0 = x := ⟨_, rfl⟩
      rw [hxx] at hd hdec hbits hs hcat1 hdot1
      rw [hd] at hdec hs hcat1 hdot1
      have HS := Lib.hid hs
      have HS' := Lib.hid hss'
      have HI := Lib.hid hi
      have HD := Lib.hid hdec
      have hT := Lib.hid (HT.out.and HK.out)
      clear hp0 hp1 hp2 hp3 hxx hd hss hss' hcat hdot hs hl1 hl hy hdec hbb hi
      rcases hbits with ⟨rfl, hb⟩ | ⟨rfl, hb⟩ | ⟨rfl, hb⟩ | ⟨rfl, hb⟩
      all_goals
        go_wp2_with (go_at_call 57; refine (HD.out _ hT.out).mono ?_; rintro e w1 ⟨rfl, hK1⟩; replace hK1 := Lib.hid hK1)
        go_roundw
        case rel => exact ⟨j + 1, _, by omega, by have := HI.out; push_cast; omega, rfl, by rw [HS'.out, HS.out], Lib.hid (HK.out.and hK1.out)⟩
        case measure => simp [intOf]
    · obtain rfl : j = 4 := by omega
      obtain rfl : i = -8 := by omega
      rw [show (putL 4 n).take 4 = putL 4 n from List.take_of_length_le (by omega)]
      have hpos := dotL_pos (putL 4 n) (by intro e; rw [e] at hlen; cases hlen)
      have hs1 : ∀ w, (Instr.slice 9 (.string (ba (dotL (putL 4 n)))) (some (.int .i64 1)) none none).run Tryd.prog w = .ok (.string (ba (addrL n))) w := fun w => by
        rw [run_slice_string_from_if w 9 (ba _) .i64 1 Tryd.underlying9, if_pos ⟨by omega, by rw [ba_size]; omega⟩, ba_extract, ba_size]
        unfold addrL
        rw [List.take_of_length_le (by rw [List.length_drop]; exact Nat.le_refl _)]
        rfl
      obtain ⟨s, hss⟩ : ∃ s, dotL (putL 4 n) = s := ⟨_, rfl⟩
      rw [hss] at hs1 ⊢
      clear hss hpos hbb hlen hlt hi hj
      go_wp2
      go_ret
      exact ⟨rfl, HK.out⟩

theorem addr_short (n : Int) : (addrL n).length ≤ 200 := by
  unfold addrL
  have h := dotL_len _ (putL_isB 4 n)
  rw [putL_length] at h
  rw [List.length_drop]
  omega

end Go.Proofs.YtilfheociidloaaDoor
