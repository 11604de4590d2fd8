/- The law NlriForms, walked. -/
import Derived.Test.YtkkfigdfgagimaaNlI
import Derived.Test.YtkkfigdfgagimaaNlEq
import Derived.Test.YtkkfigdfgagimaaRNlB
import Derived.Test.YtkkfigdfgagimaaOpenRt
namespace Go.Proofs.Ytkkfigdfgagimaa
open Go.RowKit
set_option linter.unusedVariables false
set_option linter.unusedSimpArgs false

set_option maxRecDepth 100000 in
set_option maxHeartbeats 8000000 in
theorem nforms_yes (fam : Int) (add : Bool) (A : Option Addr) (c : Nat) (xs : List RtI) (w : World) (hx : RtL w A xs) (hn : xs.length ≤ 300) (hfb : -9223372036854775808 ≤ fam ∧ fam ≤ 9223372036854775807) (hv : validL fam add xs = true) :
    Calls Try.prog 8 #[.int .i64 fam, .bool add, .slice A xs.length c] w (Stay (.bool true) w) := by
  have hfl := formN_len add xs (validL_pre hv)
  have hfb2 := formN_isB hx.2 hv
  have H1 := Lib.hid (fun w' (k : Kp NoB w w') => nbytes_good fam add A c xs w' (hx.and k) (by omega) hv)
  have H2 := Lib.hid (fun w' (k : Kp NoB w w') => rnbytes_good fam add A c xs w' (hx.and k) (by omega) hv)
  have H3 := Lib.hid (fun w' (k : Kp NoB w w') => nvalid_any fam add A c xs w' (hx.and k) (by omega))
  have H4 := Lib.hid (fun w' (k : Kp NoB w w') => rnvalid_any fam add A c xs w' (hx.and k) (by omega))
  rw [hv] at H3 H4
  have H5 := Lib.hid (fun w' A' c' B d (h : Arr w' A' (bs (formN add xs))) (k : Arr w' B (bs (formN add xs))) => equal_stay A' B c' d (formN add xs) (formN add xs) w' h k (by omega))
  simp only [decide_true] at H5
  have H6 := Lib.hid (fun w' A' c' (h : Arr w' A' (bs (formN add xs))) => nread_any fam add A' c' (formN add xs) w' (by omega) h hfb2 hfb)
  rw [readL_form hx.2 hv] at H6
  have H8 := Lib.hid (fun w' A' c' (h : RtL w' A' xs) (k : Kp NoB w w') => equalR_any A' A c' c xs xs w' h (hx.and k) (by omega))
  simp only [decide_true] at H8
  have H9 := Lib.hid (fun w' (k : Kp NoB w w') => size_any add A c xs w' (hx.and k) (by omega) (validL_pre hv))
  have HA := Lib.hid alive_any
  have HB := Lib.hid hx.2
  unfold FormedP at H1 H2
  unfold NReadAny NReadYes at H6
  have HRL := Lib.hid (fun (w' : World) (base : Nat) (A' : Option Addr) (c' : Nat) (h : w'.ownsRow base 31 19 (.slice A' xs.length c') xs.length (flatE rtC xs)) => rtL_of_own h hx.2)
  obtain ⟨n, hnn⟩ : ∃ n, xs.length = n := ⟨_, rfl⟩
  simp only [hnn] at H1 H2 H3 H4 H6 H8 H9 HRL ⊢
  rw [hnn] at hn
  obtain ⟨F, hF⟩ : ∃ F, formN add xs = F := ⟨_, rfl⟩
  rw [hF] at H1 H2 H5 H6 H9
  obtain ⟨m, hm⟩ : ∃ m, F.length = m := ⟨_, rfl⟩
  simp only [hm] at H1 H2 H5 H6 H9
  clear hnn hF hm hx hv hfl hfb2 hfb
  go_enter Try.func8, Try.ntmps8
  go_wp2_with (first
    | (go_at_call 24; refine (H1.out _ (Kp.refl _ _)).mono ?_; rintro e w1 ⟨A1, c1, rfl, hown1, hK1⟩; have ha1 := Lib.hid (Arr.of_own hown1); have k1 := Lib.hid hK1; clear hown1 hK1)
    | (go_at_call 27; refine (H2.out _ k1.out).mono ?_; rintro e w2 ⟨A2, c2, rfl, hown2, hK2⟩; have ha2 := Lib.hid (Arr.of_own hown2); replace ha1 := Lib.hid (ha1.out.and hK2); replace k1 := Lib.hid (k1.out.and hK2); clear hown2 hK2)
    | (go_at_call 22; refine (H3.out _ k1.out).mono ?_; rintro e w3 ⟨rfl, hK3⟩; replace ha1 := Lib.hid (ha1.out.and hK3); replace ha2 := Lib.hid (ha2.out.and hK3); replace k1 := Lib.hid (k1.out.and hK3); clear hK3)
    | (go_at_call 23; refine (H4.out _ k1.out).mono ?_; rintro e w4 ⟨rfl, hK3⟩; replace ha1 := Lib.hid (ha1.out.and hK3); replace ha2 := Lib.hid (ha2.out.and hK3); replace k1 := Lib.hid (k1.out.and hK3); clear hK3)
    | (go_at_call 26; refine (H5.out _ A1 c1 A2 c2 ha1.out ha2.out).mono ?_; rintro e w5 ⟨rfl, hK3⟩; replace ha1 := Lib.hid (ha1.out.and hK3); replace k1 := Lib.hid (k1.out.and hK3); clear hK3)
    | (go_at_call 20; refine (H6.out _ A1 c1 ha1.out).mono ?_; rintro e w6 ⟨A6, c6, rfl, hown6, hK3⟩; have ha6 := Lib.hid (HRL.out _ _ A6 c6 hown6); replace k1 := Lib.hid (k1.out.and hK3); clear hK3 hown6)
    | (go_at_call 9; refine (HA.out _).mono ?_; rintro e w7 ⟨rfl, hK3⟩; replace ha6 := Lib.hid (ha6.out.and hK3); replace k1 := Lib.hid (k1.out.and hK3); clear hK3)
    | (go_at_call 11; refine (H8.out _ A6 c6 ha6.out k1.out).mono ?_; rintro e w8 ⟨rfl, hK3⟩; replace k1 := Lib.hid (k1.out.and hK3); clear hK3)
    | (go_at_call 18; refine (H9.out _ k1.out).mono ?_; rintro e w9 ⟨rfl, hK3⟩; replace k1 := Lib.hid (k1.out.and hK3); clear hK3))
  go_ret
  exact ⟨by simp, k1.out⟩

set_option maxRecDepth 100000 in
set_option maxHeartbeats 8000000 in
theorem nforms_no (fam : Int) (add : Bool) (A : Option Addr) (c : Nat) (xs : List RtI) (w : World) (hx : RtL w A xs) (hn : xs.length ≤ 300) (hv : validL fam add xs = false) :
    Calls Try.prog 8 #[.int .i64 fam, .bool add, .slice A xs.length c] w (Stay (.bool true) w) := by
  have H1 := Lib.hid (fun w' (k : Kp NoB w w') => nbytes_bad fam add A c xs w' (hx.and k) (by omega) hv)
  have H2 := Lib.hid (fun w' (k : Kp NoB w w') => rnbytes_bad fam add A c xs w' (hx.and k) (by omega) hv)
  have H3 := Lib.hid (fun w' (k : Kp NoB w w') => nvalid_any fam add A c xs w' (hx.and k) (by omega))
  have H4 := Lib.hid (fun w' (k : Kp NoB w w') => rnvalid_any fam add A c xs w' (hx.and k) (by omega))
  rw [hv] at H3 H4
  have H5 := Lib.hid (fun w' => equal_stay none none 0 0 [] [] w' (Arr.nil _ _) (Arr.nil _ _) (by decide))
  simp only [decide_true] at H5
  have HA := Lib.hid alive_any
  obtain ⟨n, hnn⟩ : ∃ n, xs.length = n := ⟨_, rfl⟩
  simp only [hnn] at H1 H2 H3 H4 ⊢
  rw [hnn] at hn
  clear hnn hx hv
  go_enter Try.func8, Try.ntmps8
  go_wp2_with (first
    | (go_at_call 24; refine (H1.out _ (Kp.refl _ _)).mono ?_; rintro e w1 ⟨rfl, hK1⟩; have k1 := Lib.hid hK1; clear hK1)
    | (go_at_call 27; refine (H2.out _ k1.out).mono ?_; rintro e w2 ⟨rfl, hK2⟩; replace k1 := Lib.hid (k1.out.and hK2); clear hK2)
    | (go_at_call 22; refine (H3.out _ k1.out).mono ?_; rintro e w3 ⟨rfl, hK3⟩; replace k1 := Lib.hid (k1.out.and hK3); clear hK3)
    | (go_at_call 23; refine (H4.out _ k1.out).mono ?_; rintro e w4 ⟨rfl, hK3⟩; replace k1 := Lib.hid (k1.out.and hK3); clear hK3)
    | (go_at_call 26; refine (H5.out _).mono ?_; rintro e w5 ⟨rfl, hK3⟩; replace k1 := Lib.hid (k1.out.and hK3); clear hK3)
    | (go_at_call 9; refine (HA.out _).mono ?_; rintro e w7 ⟨rfl, hK3⟩; replace k1 := Lib.hid (k1.out.and hK3); clear hK3))
  go_ret
  exact ⟨rfl, k1.out⟩

theorem nforms_big (fam : Int) (add : Bool) (A : Option Addr) (n c : Nat) (w : World) (hn : 300 < n) : Calls Try.prog 8 #[.int .i64 fam, .bool add, .slice A n c] w (Stay (.bool true) w) := by
  have HA := Lib.hid alive_any
  have hn' : (300 : Int) < (n : Int) := by omega
  go_enter Try.func8, Try.ntmps8
  go_wp2_with (go_at_call 9; refine (HA.out _).mono ?_; rintro e w7 ⟨rfl, hK3⟩)
  go_ret
  exact ⟨rfl, hK3⟩

theorem nforms_row (fam : Int) (add : Bool) (A : Option Addr) (n c : Nat) (xs : List RtI) (w : World) (hfb : -9223372036854775808 ≤ fam ∧ fam ≤ 9223372036854775807) (h : InRts w A n c xs) :
    Calls Try.prog 8 #[.int .i64 fam, .bool add, .slice A n c] w (Stay (.bool true) w) := by
  obtain ⟨rfl, hn, hc, hx⟩ := h
  by_cases h3 : xs.length ≤ 300
  · by_cases hv : validL fam add xs = true
    · exact nforms_yes fam add A c xs w hx h3 hfb hv
    · exact nforms_no fam add A c xs w hx h3 (by simpa using hv)
  · exact nforms_big fam add A _ c w (by omega)

end Go.Proofs.Ytkkfigdfgagimaa
