/- AggregateNarrows' walk. No condition but the table of powers of ten. -/
import Derived.Test.YtnjdkcnafjkckaaDoorAggN
namespace Go.Proofs.YtnjdkcnafjkckaaDoor
open Go.RowKit
set_option linter.unusedVariables false
set_option linter.unusedSimpArgs false

set_option maxRecDepth 100000 in
set_option maxHeartbeats 3200000 in
theorem anar_go (z : AtI) (w : World) (hz : InAt w z) (ld : Ld w) (hsm : z.small) :
    Calls Tryd.prog 4 #[z.val] w fun e w' => e = .returned (.bool true) ∧ Kp NoB w w' := by
  have hn := hz.1.n
  have ok := hz.1.ok hsm
  have HAL := Lib.hid (fun W (k : Kp NoB w W) => alive_any W (ld.tb.and k))
  have HS := Lib.hid (fun W (k : Kp NoB w W) => small_any z W (hz.and k))
  have HN := Lib.hid (fun W => narrow_any z ok W)
  have HRN := Lib.hid (fun W => rnarrow_any z hn W)
  unfold NarM at HN HRN
  have hal := nar_alike z hn
  have hle := nar_len z
  have HE := Lib.hid (fun W A B c d h1 h2 => efunc_eq A B c d (narL z) (narR z) W h1 h2 (by omega) hal.1 (fun j h => hal.2 j h (by rw [hal.1]; exact h)))
  rw [hal.1] at HE HRN
  have HV2 := Lib.hid (fun x hx W => gvalid_any 2 x (nar_ok z ok x hx) W)
  have HV2' := Lib.hid (nar_valid z hn)
  have HRV := Lib.hid (fun W => grvalid_any 4 z hn W)
  have HM := Lib.hid (fun W A c h => merge_any A c (narL z) W h (by omega) (nar_ok z ok))
  have HMz := Lib.hid (fun h => nar_merge z hn h)
  have HSa := Lib.hid (fun (h : z.t = 7 ∧ validG 4 z = true) W => gsame_any z z rfl rfl rfl rfl (validG_k hn h.2).choose_spec.2.2.1 (validG_k hn h.2).choose_spec.2.2.1 W)
  have hq0 := hle.2
  obtain ⟨q, hq⟩ : ∃ q, (narL z).length = q := ⟨_, rfl⟩
  have HQ := Lib.hid hq
  rw [hq] at HN HRN HE HM hq0
  have hq2 : q ≤ 2 := by rw [← hq]; exact hle.1
  obtain ⟨V, hV⟩ : ∃ V, validG 4 z = V := ⟨_, rfl⟩
  rw [hV] at HRV hq0 HMz HSa
  have HQ0 := Lib.hid hq0
  obtain ⟨l, hl⟩ : ∃ l, narL z = l := ⟨_, rfl⟩
  obtain ⟨l', hl'⟩ : ∃ l, narR z = l := ⟨_, rfl⟩
  rw [hl] at HN HE HM HMz HV2 HV2' HQ
  rw [hl'] at HRN HE
  clear hz ld hsm hal hle hq hV hl hl' hq0 ok hn
  unfold AtI.val AtI.cs at HS HN HRN HRV HSa ⊢
  go_enter Tryd.func4, Tryd.ntmps4
  go_wp2_with (first
    | (go_at_call 9; (with_reducible refine Calls.mono (HS.out _ ((Kp.refl NoB w).alloc _)) ?_); rintro e w1 ⟨b1, rfl, -, hK⟩; obtain ⟨hk1', hZ'⟩ := fin_at (z := z) hK; have hk1 := Lib.hid hk1'; have hz1 := Lib.hid hZ'; obtain ⟨x0, x1, x2, x3, x4, x5, x6, x7, x8⟩ := hz1.out.attr; clear hK hk1' hZ')
    | (go_at_call 8; (with_reducible refine Calls.mono (HAL.out _ hk1.out) ?_); rintro e w9 ⟨rfl, hK⟩; have hk9 := Lib.hid (hk1.out.and hK); clear hK)
    | (go_at_call 13; (with_reducible refine Calls.mono (HN.out _) ?_); rintro e w2 ⟨A2, c2, rfl, hA, hK⟩; have p2 := Lib.hid hA; have hk2 := Lib.hid (hk1.out.and hK); have hz2 := Lib.hid (hz1.out.and hK); clear x0 x1 x2 x3 x4 x5 x6 x7 x8; obtain ⟨x0, x1, x2, x3, x4, x5, x6, x7, x8⟩ := hz2.out.attr; clear hK hA)
    | (go_at_call 15; (with_reducible refine Calls.mono (HRN.out _) ?_); rintro e w3 ⟨A3, c3, rfl, hA, hK⟩; have q3 := Lib.hid hA; have p3 := Lib.hid (p2.out.and hK); have hk3 := Lib.hid (hk2.out.and hK); have hz3 := Lib.hid (hz2.out.and hK); clear x0 x1 x2 x3 x4 x5 x6 x7 x8; clear hK hA)
    | (go_at_call 14; (with_reducible refine Calls.mono (HE.out _ _ _ _ _ p3.out q3.out) ?_); rintro e w4 ⟨rfl, hK⟩; have p4 := Lib.hid (p3.out.and hK); have hk4 := Lib.hid (hk3.out.and hK); have hz4 := Lib.hid (hz3.out.and hK); clear hK))
  · go_ret
    exact ⟨rfl, hk9.out⟩
  go_loopw [21] (fun i wr => ∃ j : Nat, j ≤ q ∧ i = .int .i64 j ∧ Hid (Kp NoB w4 wr)) (fun i _ => q - (intOf i).toNat)
  case atStart => exact ⟨0, Nat.zero_le _, rfl, Lib.hid (Kp.refl _ _)⟩
  case round =>
    obtain ⟨j, hj, rfl, HK⟩ := hrel
    by_cases hlt : j < q
    · have hjl : j < l.length := by rw [HQ.out]; exact hlt
      obtain ⟨ad, rfl, x0, x1, x2, x3, x4, x5, x6, x7, x8⟩ := ats_at (p4.out.and HK.out) hjl
      have hs := HV2.out _ (List.getElem_mem hjl)
      rw [HV2'.out _ (List.getElem_mem hjl)] at hs
      obtain ⟨y, hy⟩ : ∃ y, l[j] = y := ⟨_, rfl⟩
      rw [hy] at x0 x1 x2 x3 x4 x5 x6 x7 x8 hs
      have HSz := Lib.hid hs
      clear hy hs
      unfold AtI.val AtI.cs at HSz
      go_wp2_with (go_at_call 16; (with_reducible refine Calls.mono (HSz.out _) ?_); rintro e w5 ⟨rfl, hK⟩; have hk5 := Lib.hid ((HK.out.alloc _).and hK); clear hK)
      go_roundw
      case rel => exact ⟨j + 1, by omega, by go_num, hk5⟩
      case measure => simp [intOf]; omega
    · have hj' : j = q := by omega
      have hk5 := Lib.hid (hk4.out.and HK.out)
      have hz5 := Lib.hid (hz4.out.and HK.out)
      have p5 := Lib.hid (p4.out.and HK.out)
      obtain ⟨x0, x1, x2, x3, x4, x5, x6, x7, x8⟩ := hz5.out.attr
      by_cases hq : q = 0
      · have hno := HQ0.out.1 hq
        have hq' : (q : Int) = 0 := by omega
        cases V
        · clear hno
          go_wp2_with (first
            | (go_at_call 8; (with_reducible refine Calls.mono (HAL.out _ hk5.out) ?_); rintro e w6 ⟨rfl, hK⟩; have hk6 := Lib.hid (hk5.out.and hK); have hz6 := Lib.hid (hz5.out.and hK); clear x0 x1 x2 x3 x4 x5 x6 x7 x8; obtain ⟨x0, x1, x2, x3, x4, x5, x6, x7, x8⟩ := hz6.out.attr; clear hK)
            | (go_at_call 17; (with_reducible refine Calls.mono (HRV.out _) ?_); rintro e w7 ⟨rfl, hK⟩; have hk7 := Lib.hid (hk6.out.and hK); clear hK))
          go_ret
          exact ⟨rfl, hk7.out⟩
        · have h7 : ¬ z.t = 7 := fun h => hno ⟨h, rfl⟩
          clear hno
          go_wp2_with (first
            | (go_at_call 8; (with_reducible refine Calls.mono (HAL.out _ hk5.out) ?_); rintro e w6 ⟨rfl, hK⟩; have hk6 := Lib.hid (hk5.out.and hK); have hz6 := Lib.hid (hz5.out.and hK); clear x0 x1 x2 x3 x4 x5 x6 x7 x8; obtain ⟨x0, x1, x2, x3, x4, x5, x6, x7, x8⟩ := hz6.out.attr; clear hK)
            | (go_at_call 17; (with_reducible refine Calls.mono (HRV.out _) ?_); rintro e w7 ⟨rfl, hK⟩; have hk7 := Lib.hid (hk6.out.and hK); have hz7 := Lib.hid (hz6.out.and hK); clear x0 x1 x2 x3 x4 x5 x6 x7 x8; obtain ⟨x0, x1, x2, x3, x4, x5, x6, x7, x8⟩ := hz7.out.attr; clear hK))
          go_ret
          exact ⟨by simp [h7], hk7.out⟩
      · have hyes : z.t = 7 ∧ V = true := by
          rcases Classical.em (z.t = 7 ∧ V = true) with h | h
          · exact h
          · exact absurd (HQ0.out.2 h) hq
        have hm := HMz.out hyes
        have HSy := Lib.hid (HSa.out hyes)
        have HMy := HM
        rw [hm.1, hm.2] at HMy
        unfold AtI.val AtI.cs at HMy
        have hq' : ¬ (q : Int) = 0 := by omega
        clear hm hyes
        go_wp2_with (first
          | (go_at_call 10; (with_reducible refine Calls.mono (HMy.out _ _ _ p5.out) ?_); rintro e w6 ⟨rfl, hK⟩; have hk6 := Lib.hid (hk5.out.and hK); have hz6 := Lib.hid (hz5.out.and hK); have hlt6 : w.heap.size < w6.heap.size := hz6.out.lt; have hne6 := Nat.ne_of_lt hlt6; clear x0 x1 x2 x3 x4 x5 x6 x7 x8; clear hK)
          | (go_at_call 8; (with_reducible refine Calls.mono (HAL.out _ (hk6.out.alloc _)) ?_); rintro e w7 ⟨rfl, hK⟩; have hk7 := Lib.hid ((hk6.out.alloc _).and hK); have hz7 := Lib.hid ((hz6.out.alloc _).and hK); have hy7 := Lib.hid ((Bk.fresh w6 30 z.cs).and hK); obtain ⟨x0, x1, x2, x3, x4, x5, x6, x7, x8⟩ := hz7.out.attr; obtain ⟨y0, y1, y2, y3, y4, y5, y6, y7, y8⟩ := hy7.out.attr; clear hK)
          | (go_at_call 12; (with_reducible refine Calls.mono (HSy.out _) ?_); rintro e w8 ⟨rfl, hK⟩; have hk8 := Lib.hid (hk7.out.and hK); clear hK))
        go_ret
        exact ⟨by simp, hk8.out⟩

set_option maxRecDepth 100000 in
theorem anar_big (z : AtI) (w : World) (hz : InAt w z) (ld : Ld w) (hsm : ¬ z.small) :
    Calls Tryd.prog 4 #[z.val] w fun e w' => e = .returned (.bool true) ∧ Kp NoB w w' := by
  have HAL := Lib.hid (fun W (k : Kp NoB w W) => alive_any W (ld.tb.and k))
  have HS := Lib.hid (fun W (k : Kp NoB w W) => (small_any z W (hz.and k)).mono fun e w' (h : SmallM z W e w') => (show Stay (.bool false) W e w' by
    obtain ⟨b, rfl, hb, hK⟩ := h
    cases b with
    | false => exact ⟨rfl, hK⟩
    | true => exact absurd (hb rfl) hsm))
  clear hz ld hsm
  unfold AtI.val AtI.cs at *
  go_enter Tryd.func4, Tryd.ntmps4
  go_wp2_with (first
    | (go_at_call 9; refine Calls.mono (HS.out _ ((Kp.refl NoB w).alloc _)) ?_; rintro e w1 ⟨rfl, hK⟩; have hk1 := Lib.hid (((Kp.refl NoB w).alloc _).and hK); clear hK)
    | (go_at_call 8; refine Calls.mono (HAL.out _ hk1.out) ?_; rintro e w14 ⟨rfl, hK⟩; have hk14 := Lib.hid (hk1.out.and hK); clear hK))
  go_ret
  exact ⟨rfl, hk14.out⟩

theorem anar_row (z : AtI) (w : World) (hz : InAt w z) (ld : Ld w) :
    Calls Tryd.prog 4 #[z.val] w fun e w' => e = .returned (.bool true) ∧ Kp NoB w w' := by
  by_cases hsm : z.small
  · exact anar_go z w hz ld hsm
  · exact anar_big z w hz ld hsm

end Go.Proofs.YtnjdkcnafjkckaaDoor
