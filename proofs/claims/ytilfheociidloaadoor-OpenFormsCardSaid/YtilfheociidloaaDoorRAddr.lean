/- The reference's Address: its contract. No condition but that the number is one of 32 bits. -/
import Derived.Test.YtilfheociidloaaDoorBasB
import Derived.Test.YtilfheociidloaaDoorRCat
namespace Go.Proofs.YtilfheociidloaaDoor
open Go.RowKit
set_option linter.unusedVariables false
set_option linter.unusedSimpArgs false

set_option maxRecDepth 100000 in
set_option maxHeartbeats 2000000 in
theorem raddress_any (n : Int) (h0 : 0 ≤ n) (h1 : n < 4294967296) (w : World) : Calls Tryd.prog 32 #[.int .u32 n] w (Stay (.string (ba (addrL n))) w) := by
  have hbb : IsB (putL 4 n) := putL_isB _ _
  have hlen : (putL 4 n).length = 4 := putL_length _ _
  have HO := Lib.hid (fun W => rof_4 n W h0 h1)
  unfold OfYes at HO
  go_enter Tryd.func32, Tryd.ntmps32
  go_wp2_with (go_at_call 24; refine Calls.mono (HO.out _) ?_; rintro e w1 ⟨A, c, rfl, hown, hK⟩; have hk1 := Lib.hid hK; have HA := Lib.hid (Arr.of_own hown); clear hown hK)
  go_loopw [4, 5] (fun vs vi wr => ∃ (j : Nat), j ≤ 4 ∧ vi = .int .i64 j ∧ vs = .string (ba ((dotL ((putL 4 n).take j)).drop 1)) ∧ Hid (Kp NoB w1 wr)) (fun _ vi _ => 4 - (intOf vi).toNat)
  case atStart => exact ⟨0, Nat.zero_le _, rfl, rfl, Lib.hid (Kp.refl _ _)⟩
  case round =>
    obtain ⟨j, hj, rfl, rfl, HK⟩ := hrel
    by_cases hlt : j < 4
    · have hs : dotL ((putL 4 n).take (j + 1)) = dotL ((putL 4 n).take j) ++ (46 :: Lib.decDigits ((putL 4 n).getD j 0).toNat) := by rw [take_snoc _ j (by omega), dotL_snoc]
      have hl := dotL_len _ (hbb.take j)
      rw [List.length_take, Nat.min_eq_left (by omega)] at hl
      have hy := hbb.getD j
      obtain ⟨ad, rfl, hcell⟩ := (HA.out.and HK.out).at (bs_get (putL 4 n) j (by omega))
      have hd := dec_short ((putL 4 n).getD j 0).toNat (by omega)
      have hdec := rdec_stay ((putL 4 n).getD j 0).toNat (by omega)
      rw [show ((((putL 4 n).getD j 0).toNat : Nat) : Int) = (putL 4 n).getD j 0 by omega] at hdec
      obtain ⟨s', hss'⟩ : ∃ s, dotL ((putL 4 n).take (j + 1)) = s := ⟨_, rfl⟩
      rw [hss'] at hs
      have hs1 : s'.drop 1 = (dotL ((putL 4 n).take j)).drop 1 ++ (if j = 0 then [] else [46]) ++ Lib.decDigits ((putL 4 n).getD j 0).toNat := by
        rw [hs]
        by_cases h : j = 0
        · subst h; simp [dotL]
        · have hp := dotL_pos ((putL 4 n).take j) (by intro e; have := congrArg List.length e; rw [List.length_take, hlen] at this; simp at this; omega)
          rw [List.drop_append_of_le_length (by omega), if_neg h]
          simp
      obtain ⟨d, hdd⟩ : ∃ d, Lib.decDigits ((putL 4 n).getD j 0).toNat = d := ⟨_, rfl⟩
      rw [hdd] at hdec hs1 hd
      obtain ⟨x, hxx⟩ : ∃ x, (putL 4 n).getD j 0 = x := ⟨_, rfl⟩
      rw [hxx] at hdec hcell hy
      have hwx : wrap64 x = x := Go.IntWalk.wrap64_in _ ⟨by omega, by omega⟩
      obtain ⟨s, hss⟩ : ∃ s, (dotL ((putL 4 n).take j)).drop 1 = s := ⟨_, rfl⟩
      have hsl : s.length ≤ 100 := by rw [← hss, List.length_drop]; omega
      rw [hss] at hs1 ⊢
      have hc1 : ∀ W, (Op.stringOp .add (ba s) ⟨#[46]⟩).run Tryd.prog W = .ok (.string (ba (s ++ [46]))) W := fun W => by
        rw [show (⟨#[46]⟩ : ByteArray) = ba [46] from rfl, run_string_add_sum W _ _ (by rw [ba_size, ba_size, List.length_singleton]; omega), ba_app]
      have hc2 : ∀ W, (Op.stringOp .add (ba (s ++ [46])) (ba d)).run Tryd.prog W = .ok (.string (ba (s ++ [46] ++ d))) W := fun W => by
        rw [run_string_add_sum W _ _ (by rw [ba_size, ba_size, List.length_append, List.length_singleton]; omega), ba_app]
      have hc3 : ∀ W, (Op.stringOp .add (ba s) (ba d)).run Tryd.prog W = .ok (.string (ba (s ++ d))) W := fun W => by
        rw [run_string_add_sum W _ _ (by rw [ba_size, ba_size]; omega), ba_app]
      have HD := Lib.hid hdec
      have HS := Lib.hid hs1
      have HS' := Lib.hid hss'
      have hjl : (j : Int) < 4 := by omega
      by_cases hj0 : j = 0
      · subst hj0
        rw [if_pos rfl, List.append_nil] at HS
        clear hs hl hy hd hdec hs1 hss' hdd hxx hss hsl hbb
        rw [add_zero] at hcell
        go_wp2_with (go_at_call 31; refine Calls.mono (HD.out _) ?_; rintro e w2 ⟨rfl, hK1⟩; replace hK1 := Lib.hid hK1)
        go_roundw
        case rel => exact ⟨0 + 1, by omega, by go_num, by rw [HS'.out, HS.out], Lib.hid (HK.out.and hK1.out)⟩
        case measure => simp [intOf]
      · rw [if_neg hj0] at HS
        have hjp : (0 : Int) < j := by omega
        clear hs hl hy hd hdec hs1 hss' hdd hxx hss hsl hbb
        go_wp2_with (go_at_call 31; refine Calls.mono (HD.out _) ?_; rintro e w2 ⟨rfl, hK1⟩; replace hK1 := Lib.hid hK1)
        go_roundw
        case rel => exact ⟨j + 1, by omega, by go_num, by rw [HS'.out, HS.out]; simp, Lib.hid (HK.out.and hK1.out)⟩
        case measure => simp [intOf]; omega
    · obtain rfl : j = 4 := by omega
      rw [show (putL 4 n).take 4 = putL 4 n from List.take_of_length_le (by omega)]
      have e : (dotL (putL 4 n)).drop 1 = addrL n := rfl
      rw [e]
      clear e hbb hlen
      go_wp2
      go_ret
      exact ⟨rfl, hk1.out.and HK.out⟩

end Go.Proofs.YtilfheociidloaaDoor
