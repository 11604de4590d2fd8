/- The law NlriSplits, walked. -/
import Derived.Test.YtkkfigdfgagimaaSplE
import Derived.Test.YtkkfigdfgagimaaNlEq
import Derived.Test.YtkkfigdfgagimaaOpenRt
namespace Go.Proofs.Ytkkfigdfgagimaa
open Go.RowKit
set_option linter.unusedVariables false
set_option linter.unusedSimpArgs false

theorem nsplits_big (most : Int) (add : Bool) (A : Option Addr) (n c : Nat) (w : World) (hn : 100 < n) : Calls Try.prog 4 #[.int .i64 most, .bool add, .slice A n c] w (Stay (.bool true) w) := by
  have HA := Lib.hid alive_any
  have hn' : (100 : Int) < (n : Int) := by omega
  go_enter Try.func4, Try.ntmps4
  go_wp2_with (go_at_call 9; refine (HA.out _).mono ?_; rintro e w7 ⟨rfl, hK3⟩)
  go_ret
  exact ⟨rfl, hK3⟩

set_option maxRecDepth 100000 in
set_option maxHeartbeats 8000000 in
theorem nsplits_small (most : Int) (add : Bool) (A : Option Addr) (c : Nat) (xs : List RtI) (w : World) (hmo : -9223372036854775808 ≤ most ∧ most ≤ 9223372036854775807) (hx : RtL w A xs) (hn : xs.length ≤ 100) :
    Calls Try.prog 4 #[.int .i64 most, .bool add, .slice A xs.length c] w (Stay (.bool true) w) := by
  have HA := Lib.hid alive_any
  have hF := splF_of most 2 add xs hx.2
  have hB : ∀ g ∈ (splitO most 2 add xs).getD [], ∀ x ∈ g, x.B := fun g hg => (hF.good g hg).1
  have H1 := Lib.hid (fun w' (k : Kp NoB w w') => (nsplit_any most 2 add A c xs w' (hx.and k) (by omega) hmo).mono (fun e w2 h => splitU_of h hB))
  have H2 := Lib.hid (fun w' (k : Kp NoB w w') => (rsplit_any most 2 add A c xs w' (hx.and k) (by omega) hmo).mono (fun e w2 h => splitU_of h hB))
  obtain ⟨gs, hgs⟩ : ∃ gs, (splitO most 2 add xs).getD [] = gs := ⟨_, rfl⟩
  obtain ⟨ok, hok⟩ : ∃ ok, (splitO most 2 add xs).isSome = ok := ⟨_, rfl⟩
  simp only [hgs, hok] at hF H1 H2
  have HF := Lib.hid hF
  have H3 := Lib.hid (fun w' A' c' B' d (h : Sl RtE 1 w' A' gs) (k : Sl RtE 1 w' B' gs) => efunc_eq A' B' c' d gs w' h k (by have := hF.few; omega) (fun g hg => by have := (hF.good g hg).2.2; omega))
  have H4 := Lib.hid (fun w' A' c' (h : Sl RtE 1 w' A' gs) => concatR_any A' c' gs w' h (by have := hF.few; omega) (by have := hF.sum; omega))
  have H5 : Hid (ok = true → ∀ w' A' c' (h : RtL w' A' xs) (k : Kp NoB w w'), Calls Try.prog 11 #[.slice A' xs.length c', .slice A xs.length c] w' (Stay (.bool true) w')) := Lib.hid (fun _ w' A' c' h k => by
    have := equalR_any A' A c' c xs xs w' h (hx.and k) (by omega)
    simpa using this)
  have HRL : Hid (∀ (w' : World) (base : Nat) (A' : Option Addr) (c' : Nat), w'.ownsRow base 31 19 (.slice A' xs.length c') xs.length (flatE rtC xs) → RtL w' A' xs) := Lib.hid (fun w' base A' c' h => rtL_of_own h hx.2)
  obtain ⟨q, hq⟩ : ∃ q, gs.length = q := ⟨_, rfl⟩
  have HQ := Lib.hid hq
  obtain ⟨n, hnn⟩ : ∃ n, xs.length = n := ⟨_, rfl⟩
  unfold SplitU at H1 H2
  simp only [hq] at H1 H2 H3 H4
  simp only [hnn] at H1 H2 H5 HRL ⊢
  have HNN := Lib.hid hnn
  rw [hnn] at hn
  have hqn : q ≤ n := by rw [← hq, ← hnn]; exact hF.few
  clear hF hB hgs hok hq hnn hx hmo
  go_enter Try.func4, Try.ntmps4
  go_wp2_with (first
    | (go_at_call 14; (with_reducible refine (H1.out _ (Kp.refl _ _)).mono ?_); rintro e w1 ⟨A1, c1, rfl, hs1, hK1⟩; have S1 := Lib.hid hs1; have k1 := Lib.hid hK1; clear hs1 hK1)
    | (go_at_call 15; (with_reducible refine (H2.out _ k1.out).mono ?_); rintro e w2 ⟨A2, c2, rfl, hs2, hK2⟩; have S2 := Lib.hid hs2; replace S1 := Lib.hid (S1.out.and hK2 (RtE.and hK2)); replace k1 := Lib.hid (k1.out.and hK2); clear hs2 hK2)
    | (go_at_call 16; (with_reducible refine (H3.out _ A1 c1 A2 c2 S1.out S2.out).mono ?_); rintro e w3 ⟨rfl, hK3⟩; replace S1 := Lib.hid (S1.out.and hK3 (RtE.and hK3)); replace k1 := Lib.hid (k1.out.and hK3); clear hK3))
  go_loopw [42] (fun i wr => ∃ j : Nat, j ≤ q ∧ i = .int .i64 j ∧ Hid (Kp NoB w3 wr)) (fun i _ => q - (intOf i).toNat)
  case atStart => exact ⟨0, Nat.zero_le _, rfl, Lib.hid (Kp.refl _ _)⟩
  case round =>
    obtain ⟨j, hj, rfl, HK⟩ := hrel
    by_cases hlt : j < q
    · have hjl : j < gs.length := by rw [HQ.out]; exact hlt
      obtain ⟨ad, B, d, rfl, hcell, -, hR⟩ := rtE_at (S1.out.and HK.out (RtE.and HK.out)) j hjl
      have hm := HF.out.each _ (List.getElem_mem hjl)
      have hg := HF.out.good _ (List.getElem_mem hjl)
      obtain ⟨g, hgg⟩ : ∃ g, gs[j] = g := ⟨_, rfl⟩
      rw [hgg] at hcell hR hm hg
      have HS := Lib.hid (size_any add B d g wr hR (by have := hg.2.2; have := HNN.out; omega) hg.2.1)
      have hpos := List.length_pos_iff.2 hm.1
      obtain ⟨m, hml⟩ : ∃ m, g.length = m := ⟨_, rfl⟩
      obtain ⟨s, hsl⟩ : ∃ s, (formN add g).length = s := ⟨_, rfl⟩
      rw [hml] at hcell HS hpos
      rw [hsl] at HS hm
      have hm1 : ((m : Int) == 0) = false := by simp; omega
      have hm2 : ¬ (m = 0) := by omega
      have hm3 := hm.2
      have hm4 : ¬ (most < (s : Int)) := by omega
      clear hm hg hgg hml hsl hR
      go_wp2_with (go_at_call 18; refine HS.out.mono ?_; rintro e w4 ⟨rfl, hK4⟩; replace hK4 := Lib.hid hK4)
      go_roundw
      case rel => exact ⟨j + 1, by omega, by go_num, Lib.hid (HK.out.and hK4.out)⟩
      case measure => simp [intOf]; omega
    · have hj' : j = q := by omega
      have SW := Lib.hid (S1.out.and HK.out (RtE.and HK.out))
      have kw := Lib.hid (k1.out.and HK.out)
      rcases ok with _ | _
      · go_wp2_with (go_at_call 9; refine (HA.out _).mono ?_; rintro e w7 ⟨rfl, hK3⟩; replace kw := Lib.hid (kw.out.and hK3); clear hK3)
        go_ret
        exact ⟨rfl, kw.out⟩
      · have hall := HF.out.all rfl
        rw [hall] at H4
        unfold JoinedR at H4
        simp only [HNN.out] at H4
        have H6 := Lib.hid (H5.out rfl)
        go_wp2_with (first
          | (go_at_call 9; (with_reducible refine (HA.out _).mono ?_); rintro e w7 ⟨rfl, hK3⟩; replace kw := Lib.hid (kw.out.and hK3); replace SW := Lib.hid (SW.out.and hK3 (RtE.and hK3)); clear hK3)
          | (go_at_call 13; (with_reducible refine (H4.out _ A1 c1 SW.out).mono ?_); rintro e w8 ⟨A8, c8, rfl, hown8, hK3⟩; have ha8 := Lib.hid (HRL.out _ _ A8 c8 hown8); replace kw := Lib.hid (kw.out.and hK3); clear hK3 hown8)
          | (go_at_call 11; (with_reducible refine (H6.out _ A8 c8 ha8.out kw.out).mono ?_); rintro e w9 ⟨rfl, hK3⟩; replace kw := Lib.hid (kw.out.and hK3); clear hK3))
        go_ret
        exact ⟨rfl, kw.out⟩

theorem nsplits_row (most : Int) (add : Bool) (A : Option Addr) (n c : Nat) (xs : List RtI) (w : World) (hmo : -9223372036854775808 ≤ most ∧ most ≤ 9223372036854775807) (h : InRts w A n c xs) :
    Calls Try.prog 4 #[.int .i64 most, .bool add, .slice A n c] w (Stay (.bool true) w) := by
  obtain ⟨rfl, hn, hc, hx⟩ := h
  by_cases h3 : xs.length ≤ 100
  · exact nsplits_small most add A c xs w hmo hx h3
  · exact nsplits_big most add A _ c w (by omega)

end Go.Proofs.Ytkkfigdfgagimaa
