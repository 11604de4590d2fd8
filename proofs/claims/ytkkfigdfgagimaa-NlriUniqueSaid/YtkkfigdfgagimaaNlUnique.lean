/- The law NlriUnique, walked. Printed by wip/tools/nluniq.py. -/
import Derived.Test.YtkkfigdfgagimaaUniE
import Derived.Test.YtkkfigdfgagimaaNlI
import Derived.Test.YtkkfigdfgagimaaNlJoins
import Derived.Test.YtkkfigdfgagimaaOpenRt
namespace Go.Proofs.Ytkkfigdfgagimaa
open Go.RowKit
set_option linter.unusedVariables false
set_option linter.unusedSimpArgs false

theorem nunique_big (A : Option Addr) (n c : Nat) (w : World) (hn : 100 < n) : Calls Try.prog 3 #[.slice A n c] w (Stay (.bool true) w) := by
  have HA := Lib.hid alive_any
  have hn' : (100 : Int) < (n : Int) := by omega
  go_enter Try.func3, Try.ntmps3
  go_wp2_with (go_at_call 9; refine (HA.out _).mono ?_; rintro e w7 ⟨rfl, hK3⟩)
  go_ret
  exact ⟨rfl, hK3⟩

set_option maxRecDepth 100000 in
set_option maxHeartbeats 8000000 in
theorem nunique_small (A : Option Addr) (c : Nat) (xs : List RtI) (w : World) (hx : RtL w A xs) (hn : xs.length ≤ 100) (hc : xs.length ≤ c ∧ c ≤ maxLen) :
    Calls Try.prog 3 #[.slice A xs.length c] w (Stay (.bool true) w) := by
  have HA := Lib.hid alive_any
  have hUB := uniqL_B hx.2
  have hUl := uniqL_le xs
  have hCB : ∀ z ∈ xs ++ xs, z.B := fun z hz => (List.mem_append.1 hz).elim (hx.2 z) (hx.2 z)
  have H1 := Lib.hid (fun w' (k : Kp NoB w w') => nuniq_any A c xs w' (hx.and k) (by omega))
  have H2 := Lib.hid (fun w' (k : Kp NoB w w') => runiq_any A c xs w' (hx.and k) (by omega))
  have H3 := Lib.hid (fun w' A' c' (h : RtL w' A' (uniqL xs)) => nuniq_any A' c' (uniqL xs) w' h (by omega))
  rw [uniqL_idem] at H3
  have H4 := Lib.hid (fun w' g (k : Kp NoB w w') (h : Bk w' g 22 #[.slice A xs.length c, .slice A xs.length c]) => concatR_two w' g A A c c xs xs h hc hc (hx.and k) (hx.and k) (by omega))
  have H5 := Lib.hid (fun w' A' c' (h : RtL w' A' (xs ++ xs)) => nuniq_any A' c' (xs ++ xs) w' h (by rw [List.length_append]; omega))
  rw [uniqL_twice] at H5
  have HE := Lib.hid (fun w' A' c' B' d (h : RtL w' A' (uniqL xs)) (k : RtL w' B' (uniqL xs)) => equalR_any A' B' c' d (uniqL xs) (uniqL xs) w' h k (by omega))
  simp only [decide_true] at HE
  have HRU := Lib.hid (fun (w' : World) (base : Nat) (A' : Option Addr) (c' : Nat) (h : w'.ownsRow base 31 19 (.slice A' (uniqL xs).length c') (uniqL xs).length (flatE rtC (uniqL xs))) => rtL_of_own h hUB)
  have HRC := Lib.hid (fun (w' : World) (base : Nat) (A' : Option Addr) (c' : Nat) (h : w'.ownsRow base 31 19 (.slice A' (xs ++ xs).length c') (xs ++ xs).length (flatE rtC (xs ++ xs))) => rtL_of_own h hCB)
  have k1 := Lib.hid (Kp.refl NoB w)
  unfold JoinedR at H1 H2 H3 H4 H5
  obtain ⟨U, hU⟩ : ∃ U, uniqL xs = U := ⟨_, rfl⟩
  simp only [hU] at H1 H2 H3 H5 HE HRU
  obtain ⟨zs, hzs⟩ : ∃ zs, xs ++ xs = zs := ⟨_, rfl⟩
  simp only [hzs] at H4 H5 HRC
  obtain ⟨n, hnn⟩ : ∃ n, xs.length = n := ⟨_, rfl⟩
  obtain ⟨q, hqq⟩ : ∃ q, U.length = q := ⟨_, rfl⟩
  obtain ⟨r, hrr⟩ : ∃ r, zs.length = r := ⟨_, rfl⟩
  rw [hnn] at hn
  simp only [hnn, hqq, hrr] at H1 H2 H3 H4 H5 HE HRU HRC ⊢
  clear hnn hqq hrr hx hUB hUl hCB hU hzs hc
  have hn' : ¬ ((100 : Int) < (n : Int)) := by omega
  go_enter Try.func3, Try.ntmps3
  go_wp2_with (first
    | (go_at_call 10; (with_reducible refine (H5.out _ Ar cr har.out).mono ?_); rintro e w1 ⟨A4, c4, rfl, hown1, hK1⟩; (try replace ha1 := Lib.hid (ha1.out.and hK1)); (try replace ha2 := Lib.hid (ha2.out.and hK1)); (try replace ha3 := Lib.hid (ha3.out.and hK1)); (try replace ha4 := Lib.hid (ha4.out.and hK1)); (try replace har := Lib.hid (har.out.and hK1)); (try replace k1 := Lib.hid (k1.out.and hK1)); have ha4 := Lib.hid (HRU.out _ _ A4 c4 hown1); clear hK1 hown1)
    | (go_at_call 10; (with_reducible refine (H3.out _ A1 c1 ha1.out).mono ?_); rintro e w1 ⟨A3, c3, rfl, hown1, hK1⟩; (try replace ha1 := Lib.hid (ha1.out.and hK1)); (try replace ha2 := Lib.hid (ha2.out.and hK1)); (try replace ha3 := Lib.hid (ha3.out.and hK1)); (try replace ha4 := Lib.hid (ha4.out.and hK1)); (try replace har := Lib.hid (har.out.and hK1)); (try replace k1 := Lib.hid (k1.out.and hK1)); have ha3 := Lib.hid (HRU.out _ _ A3 c3 hown1); clear hK1 hown1)
    | (go_at_call 10; (with_reducible refine (H1.out _ k1.out).mono ?_); rintro e w1 ⟨A1, c1, rfl, hown1, hK1⟩; (try replace ha1 := Lib.hid (ha1.out.and hK1)); (try replace ha2 := Lib.hid (ha2.out.and hK1)); (try replace ha3 := Lib.hid (ha3.out.and hK1)); (try replace ha4 := Lib.hid (ha4.out.and hK1)); (try replace har := Lib.hid (har.out.and hK1)); (try replace k1 := Lib.hid (k1.out.and hK1)); have ha1 := Lib.hid (HRU.out _ _ A1 c1 hown1); clear hK1 hown1)
    | (go_at_call 12; (with_reducible refine (H2.out _ k1.out).mono ?_); rintro e w1 ⟨A2, c2, rfl, hown1, hK1⟩; (try replace ha1 := Lib.hid (ha1.out.and hK1)); (try replace ha2 := Lib.hid (ha2.out.and hK1)); (try replace ha3 := Lib.hid (ha3.out.and hK1)); (try replace ha4 := Lib.hid (ha4.out.and hK1)); (try replace har := Lib.hid (har.out.and hK1)); (try replace k1 := Lib.hid (k1.out.and hK1)); have ha2 := Lib.hid (HRU.out _ _ A2 c2 hown1); clear hK1 hown1)
    | (go_at_call 13; (with_reducible refine (H4.out _ _ (k1.out.alloc _) (Bk.fresh _ _ _)).mono ?_); rintro e w1 ⟨Ar, cr, rfl, hown1, hK1⟩; (try replace ha1 := Lib.hid ((ha1.out.alloc _).and hK1)); (try replace ha2 := Lib.hid ((ha2.out.alloc _).and hK1)); (try replace ha3 := Lib.hid ((ha3.out.alloc _).and hK1)); (try replace ha4 := Lib.hid ((ha4.out.alloc _).and hK1)); (try replace har := Lib.hid ((har.out.alloc _).and hK1)); (try replace k1 := Lib.hid ((k1.out.alloc _).and hK1)); have har := Lib.hid (HRC.out _ _ Ar cr hown1); clear hK1 hown1)
    | (go_at_call 11; (with_reducible refine (HE.out _ A4 c4 A1 c1 ha4.out ha1.out).mono ?_); rintro e w1 ⟨rfl, hK1⟩; (try replace ha1 := Lib.hid (ha1.out.and hK1)); (try replace ha2 := Lib.hid (ha2.out.and hK1)); (try replace ha3 := Lib.hid (ha3.out.and hK1)); (try replace ha4 := Lib.hid (ha4.out.and hK1)); (try replace har := Lib.hid (har.out.and hK1)); (try replace k1 := Lib.hid (k1.out.and hK1)); clear hK1)
    | (go_at_call 11; (with_reducible refine (HE.out _ A3 c3 A1 c1 ha3.out ha1.out).mono ?_); rintro e w1 ⟨rfl, hK1⟩; (try replace ha1 := Lib.hid (ha1.out.and hK1)); (try replace ha2 := Lib.hid (ha2.out.and hK1)); (try replace ha3 := Lib.hid (ha3.out.and hK1)); (try replace ha4 := Lib.hid (ha4.out.and hK1)); (try replace har := Lib.hid (har.out.and hK1)); (try replace k1 := Lib.hid (k1.out.and hK1)); clear hK1)
    | (go_at_call 11; (with_reducible refine (HE.out _ A1 c1 A2 c2 ha1.out ha2.out).mono ?_); rintro e w1 ⟨rfl, hK1⟩; (try replace ha1 := Lib.hid (ha1.out.and hK1)); (try replace ha2 := Lib.hid (ha2.out.and hK1)); (try replace ha3 := Lib.hid (ha3.out.and hK1)); (try replace ha4 := Lib.hid (ha4.out.and hK1)); (try replace har := Lib.hid (har.out.and hK1)); (try replace k1 := Lib.hid (k1.out.and hK1)); clear hK1)
    | (go_at_call 9; (with_reducible refine (HA.out _).mono ?_); rintro e w1 ⟨rfl, hK1⟩; (try replace ha1 := Lib.hid (ha1.out.and hK1)); (try replace ha2 := Lib.hid (ha2.out.and hK1)); (try replace ha3 := Lib.hid (ha3.out.and hK1)); (try replace ha4 := Lib.hid (ha4.out.and hK1)); (try replace har := Lib.hid (har.out.and hK1)); (try replace k1 := Lib.hid (k1.out.and hK1)); clear hK1))
  go_ret
  exact ⟨rfl, k1.out⟩

theorem nunique_row (A : Option Addr) (n c : Nat) (xs : List RtI) (w : World) (h : InRts w A n c xs) :
    Calls Try.prog 3 #[.slice A n c] w (Stay (.bool true) w) := by
  obtain ⟨rfl, hn, hc, hx⟩ := h
  by_cases h1 : xs.length ≤ 100
  · exact nunique_small A c xs w hx h1 ⟨hn, hc⟩
  · exact nunique_big A _ c w (by omega)

end Go.Proofs.Ytkkfigdfgagimaa
