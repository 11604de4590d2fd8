/- The walk of the law CapabilityReads: it returns true and makes only new blocks, for all bytes. -/
import Derived.Test.YtnennkcomkenkaaCapJ
namespace Go.Proofs.Ytnennkcomkenkaa
open Go.RowKit
set_option linter.unusedVariables false
set_option linter.unusedSimpArgs false

theorem caps_le (xs : List CapI) : xs.length ≤ (formC xs).length := by
  induction xs with
  | nil => exact Nat.zero_le _
  | cons x xs ih => simp only [formC, List.flatMap_cons, List.length_append, List.length_cons] at ih ⊢; omega

set_option maxRecDepth 100000 in
set_option maxHeartbeats 8000000 in
theorem reads_yes (A : Option Addr) (c : Nat) (zs : List Int) (xs : List CapI) (w : World) (ha : Arr w A (bs zs)) (hb : IsB zs) (hc : zs.length ≤ c) (hcm : c ≤ maxLen) (hn : zs.length ≤ 600) (hv : validB xs = true) (hz : formC xs = zs) :
    Calls Try.prog 4 #[.slice A zs.length c] w (Stay (.bool true) w) := by
  have hnx := caps_le xs
  have H1 := Lib.hid (read_yes A c zs xs w (by omega) ha hb hv hz)
  have H2 := Lib.hid (fun w' (k : Kp NoB w w') => rread_yes A c zs xs w' (by omega) hc hcm (ha.and k) hb hv hz)
  subst hz
  have H3 := Lib.hid (fun w' A' c' cs (h : CapL w' xs cs) (k : Arr w' A' cs) => bytes_yes A' c' xs cs w' h k (by omega) hv (by omega))
  have HA := Lib.hid alive_any
  have H4 := Lib.hid (fun w' A' c' ds (h : CapL w' xs ds) (k : Arr w' A' ds) => back_any A' c' xs ds w' h k (by omega))
  have H5 := Lib.hid (fun w' A' c' B d cs ds (h : CapL w' xs cs) (k : Arr w' A' cs) (h2 : CapL w' xs ds) (k2 : Arr w' B ds) => rsame16_any A' B c' d xs xs cs ds w' h k h2 k2 (by omega) (by omega))
  simp only [decide_true] at H5
  have H6 := Lib.hid (fun w' A' c' (h : Arr w' A' (bs (formC xs))) (k : Kp NoB w w') => equal_stay A' A c' c (formC xs) (formC xs) w' h (ha.and k) (by omega))
  simp only [decide_true] at H6
  unfold ReadYes at H1 H2
  unfold Formed at H3
  obtain ⟨n, hnn⟩ : ∃ n, xs.length = n := ⟨_, rfl⟩
  simp only [hnn] at H1 H2 H3 H4 H5
  obtain ⟨F, hF⟩ : ∃ F, formC xs = F := ⟨_, rfl⟩
  rw [hF] at H1 H2 H3 H6 hn ⊢
  obtain ⟨m, hm⟩ : ∃ m, F.length = m := ⟨_, rfl⟩
  simp only [hm] at H1 H2 H3 H6 hn ⊢
  clear hnn hF hm ha hb hc hcm hv hnx
  go_enter Try.func4, Try.ntmps4
  go_wp2_with fail
  refine H1.out.mono ?_
  rintro e w1 ⟨A1, c1, cs1, rfl, hown1, hcap1, hK1⟩
  replace hown1 := Lib.hid hown1
  replace hcap1 := Lib.hid hcap1
  go_wp2_with fail
  refine (H2.out _ hK1).mono ?_
  rintro e w2 ⟨A2, c2, cs2, rfl, hown2, hcap2, hK2⟩
  replace hown2 := Lib.hid hown2
  replace hcap2 := Lib.hid hcap2
  have k2 := hK1.and hK2
  go_wp2_with fail
  refine (H3.out _ _ _ cs1 (hcap1.out.and hK2).to ((Arr.of_own hown1.out).and hK2)).mono ?_
  rintro e w3 ⟨A3, c3, rfl, hown3, hK3⟩
  replace hown3 := Lib.hid hown3
  have k3 := k2.and hK3
  go_wp2_with fail
  refine (HA.out _).mono ?_
  rintro e w4 ⟨rfl, hK4⟩
  have k4 := k3.and hK4
  go_wp2_with fail
  refine (H4.out _ _ _ cs1 (((hcap1.out.and hK2).and hK3).and hK4).to ((((Arr.of_own hown1.out).and hK2).and hK3).and hK4)).mono ?_
  rintro e w5 ⟨A5, c5, rfl, hown5, hK5⟩
  replace hown5 := Lib.hid hown5
  have k5 := k4.and hK5
  go_wp2_with fail
  refine (H5.out _ _ _ _ _ cs1 cs2 ((((hcap1.out.and hK2).and hK3).and hK4).and hK5).to (Arr.of_own hown5.out) (((hcap2.out.and hK3).and hK4).and hK5).to ((((Arr.of_own hown2.out).and hK3).and hK4).and hK5)).mono ?_
  rintro e w6 ⟨rfl, hK6⟩
  have k6 := k5.and hK6
  go_wp2_with fail
  refine (H6.out _ _ _ ((((Arr.of_own hown3.out).and hK4).and hK5).and hK6) k6).mono ?_
  rintro e w7 ⟨rfl, hK7⟩
  go_wp2_with fail
  go_ret
  exact ⟨rfl, k6.and hK7⟩

set_option maxRecDepth 100000 in
set_option maxHeartbeats 8000000 in
theorem reads_no (A : Option Addr) (c : Nat) (zs : List Int) (w : World) (ha : Arr w A (bs zs)) (hb : IsB zs) (hc : zs.length ≤ c) (hcm : c ≤ maxLen) (hn : zs.length ≤ 600) (hno : ∀ xs, validB xs = true → formC xs ≠ zs) :
    Calls Try.prog 4 #[.slice A zs.length c] w (Stay (.bool true) w) := by
  have H1 := Lib.hid (read_no A c zs w (by omega) ha hb hno)
  have H2 := Lib.hid (fun w' (k : Kp NoB w w') => rread_no A c zs w' (by omega) hc hcm (ha.and k) hb hno)
  have H3 : Hid (∀ w', Calls Try.prog 8 #[.slice none 0 0] w' (Formed w' [])) := Lib.hid (fun w' => bytes_yes none 0 [] [] w' (CapL.nil _) (Arr.nil _ _) (by decide) rfl (by decide))
  have HA := Lib.hid alive_any
  have H4 : Hid (∀ w', Calls Try.prog 15 #[.slice none 0 0] w' (Copied 44 0 [] w')) := Lib.hid (fun w' => back_any none 0 [] [] w' (CapL.nil _) (Arr.nil _ _) (by decide))
  have H5 : Hid (∀ w' A' c', Calls Try.prog 14 #[.slice A' 0 c', .slice none 0 0] w' (Stay (.bool true) w')) := Lib.hid (fun w' A' c' => rsame16_any A' none c' 0 [] [] [] [] w' (CapL.nil _) (Arr.nil _ _) (CapL.nil _) (Arr.nil _ _) (by decide) (by decide))
  obtain ⟨m, hm⟩ : ∃ m, zs.length = m := ⟨_, rfl⟩
  simp only [hm] at H1 H2 hn ⊢
  clear hm ha hb hc hcm hno
  go_enter Try.func4, Try.ntmps4
  go_wp2_with fail
  refine H1.out.mono ?_
  rintro e w1 ⟨rfl, hK1⟩
  go_wp2_with fail
  refine (H2.out _ hK1).mono ?_
  rintro e w2 ⟨rfl, hK2⟩
  have k2 := hK1.and hK2
  go_wp2_with fail
  refine (H3.out _).mono ?_
  rintro e w3 ⟨A3, c3, rfl, hown3, hK3⟩
  clear hown3
  have k3 := k2.and hK3
  go_wp2_with fail
  refine (HA.out _).mono ?_
  rintro e w4 ⟨rfl, hK4⟩
  have k4 := k3.and hK4
  go_wp2_with fail
  refine (H4.out _).mono ?_
  rintro e w5 ⟨A5, c5, rfl, hown5, hK5⟩
  clear hown5
  have k5 := k4.and hK5
  go_wp2_with fail
  refine (H5.out _ _ _).mono ?_
  rintro e w6 ⟨rfl, hK6⟩
  have k6 := k5.and hK6
  go_wp2_with fail
  go_ret
  exact ⟨rfl, k6⟩

theorem reads_row (A : Option Addr) (n c : Nat) (zs : List Int) (w : World) (h : InBytes w A n c zs) :
    Calls Try.prog 4 #[.slice A n c] w (Stay (.bool true) w) := by
  obtain ⟨rfl, hc, hcm, ha, hb⟩ := h
  by_cases hn : zs.length ≤ 600
  · by_cases hex : ∃ xs, validB xs = true ∧ formC xs = zs
    · obtain ⟨xs, h1, h2⟩ := hex
      exact reads_yes A c zs xs w ha hb hc hcm hn h1 h2
    · exact reads_no A c zs w ha hb hc hcm hn (fun xs h1 h2 => hex ⟨xs, h1, h2⟩)
  · have HA := Lib.hid alive_any
    obtain ⟨n, hnn⟩ : ∃ n, zs.length = n := ⟨_, rfl⟩
    rw [hnn] at hn ⊢
    have hn' : (600 : Int) < (n : Int) := by omega
    clear hnn ha hb hc hcm hn
    go_enter Try.func4, Try.ntmps4
    go_wp2_with fail
    refine (HA.out _).mono ?_
    rintro e w8 ⟨rfl, hK8⟩
    go_wp2_with fail
    go_ret
    exact ⟨rfl, hK8⟩

end Go.Proofs.Ytnennkcomkenkaa
