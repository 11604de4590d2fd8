/- The walk of the law NoticeParses: it returns true and makes only new blocks, for all bytes. No condition but the listed tables' content. -/
import Derived.Test.YtlklhcgacdjkiaaDoorNotN
import Derived.Test.YtlklhcgacdjkiaaDoorNotCR
import Derived.Test.YtlklhcgacdjkiaaDoorNotS
import Derived.Test.YtlklhcgacdjkiaaDoorEqual
import Derived.Test.YtlklhcgacdjkiaaDoorOpen
namespace Go.Proofs.YtlklhcgacdjkiaaDoor
open Go.RowKit
set_option linter.unusedVariables false
set_option linter.unusedSimpArgs false

set_option maxHeartbeats 1000000 in
theorem nparses_long (A : Option Addr) (n m : Nat) (w : World) (hn : 600 < n) (ld : Ld w) : Calls Tryd.prog 7 #[.slice A n m] w (Stay (.bool true) w) := by
  have HA := Lib.hid (fun w' (k : Kp NoB w w') => alive_any w' (ld.and k))
  clear ld
  go_enter Tryd.func7, Tryd.ntmps7
  go_wp2_with (go_at_call 9; refine (HA.out _ (Kp.refl _ _)).mono ?_; rintro e w1 ⟨rfl, hK1⟩)
  go_ret
  exact ⟨rfl, hK1⟩

/-- Nothing, as an own row. -/
theorem form00 (w : World) : InD w none [] 0 := ⟨Arr.nil _ _, IsB.nil, by simp, by simp [maxLen]⟩

set_option maxRecDepth 100000 in
set_option maxHeartbeats 4000000 in
theorem nparses_short (A : Option Addr) (m : Nat) (xs : List Int) (w : World) (hn : xs.length < 2) (ha : Arr w A (bs xs)) (hb : IsB xs) (ld : Ld w) : Calls Tryd.prog 7 #[.slice A xs.length m] w (Stay (.bool true) w) := by
  have HA := Lib.hid (fun w' (k : Kp NoB w w') => alive_any w' (ld.and k))
  have H1 : Hid (∀ w', Kp NoB w w' → Calls Tryd.prog 18 #[.slice A xs.length m] w' (Stay nparseNone w')) := Lib.hid (fun w' k => by
    match xs, hn, ha, hb with
    | [], _, ha, hb => exact nparse_nil A m w' (ha.and k) hb
    | [x], _, ha, hb => exact nparse_one x A m w' (ha.and k) hb)
  have H2 := Lib.hid (fun w' => rnparse_short A xs.length m w' hn)
  have H3 := Lib.hid (fun w' => nbytes_good 0 0 none [] 0 w' (by decide) (form00 w'))
  have H4 := Lib.hid (fun w' => rnsame_any 0 0 [] none 0 0 0 [] none 0 w' (Arr.nil _ _) IsB.nil (Arr.nil _ _) IsB.nil)
  rw [eqN_refl] at H4
  have hl0 : (formN 0 0 []).length = 2 := rfl
  unfold nparseNone at H1 H2
  unfold NForm at H3
  simp only [hl0, List.length_nil] at H3 H4
  obtain ⟨n, hnn⟩ : ∃ n, xs.length = n := ⟨_, rfl⟩
  simp only [hnn] at *
  have hn600 : ¬ 600 < n := by omega
  clear ld ha hb hl0 hnn
  go_enter Tryd.func7, Tryd.ntmps7
  go_wp2_with fail
  refine (H1.out _ (Kp.refl _ _)).mono ?_
  rintro e w1 ⟨rfl, hK1⟩
  go_wp2_with fail
  refine (H2.out _).mono ?_
  rintro e w2 ⟨rfl, hK2⟩
  have b2 := Lib.hid ((Bk.fresh w1 32 #[.int .i64 0, .int .i64 0, .slice none 0 0]).and hK2)
  have k2 := Lib.hid ((hK1.alloc (.cells #[.int .i64 0, .int .i64 0, .slice none 0 0] 32)).and hK2)
  clear hK1 hK2
  obtain ⟨x1, x2, x3, x4, x5, x6, x7⟩ := b2.out.three
  go_wp2_with fail
  refine (H3.out _).mono ?_
  rintro e w3 ⟨A3, c3, rfl, -, hK3⟩
  have b3 := Lib.hid ((b2.out.alloc (.cells #[.int .i64 0, .int .i64 0, .slice none 0 0] 35)).and hK3)
  have r3 := Lib.hid ((Bk.fresh w2 35 #[.int .i64 0, .int .i64 0, .slice none 0 0]).and hK3)
  have k3 := Lib.hid ((k2.out.alloc (.cells #[.int .i64 0, .int .i64 0, .slice none 0 0] 35)).and hK3)
  clear hK3 x1 x2 x3 x4 x5 x6 x7
  go_wp2_with fail
  refine (HA.out _ k3.out).mono ?_
  rintro e w4 ⟨rfl, hK4⟩
  have b4 := Lib.hid (b3.out.and hK4)
  have r4 := Lib.hid (r3.out.and hK4)
  have k4 := Lib.hid (k3.out.and hK4)
  clear hK4
  obtain ⟨x1, x2, x3, x4, x5, x6, x7⟩ := b4.out.three
  obtain ⟨y1, y2, y3, y4, y5, y6, y7⟩ := r4.out.three
  go_wp2_with fail
  refine (H4.out _).mono ?_
  rintro e w5 ⟨rfl, hK5⟩
  go_wp2_with fail
  go_ret
  exact ⟨rfl, k4.out.and hK5⟩

set_option maxRecDepth 100000 in
set_option maxHeartbeats 4000000 in
theorem nparses_good (A : Option Addr) (m : Nat) (c s : Int) (d : List Int) (w : World) (hn : d.length + 2 ≤ 600) (hm : d.length + 2 ≤ m) (hM : m ≤ maxLen) (ha : Arr w A (bs (formN c s d))) (hb : IsB (formN c s d)) (ld : Ld w) :
    Calls Tryd.prog 7 #[.slice A (d.length + 2) m] w (Stay (.bool true) w) := by
  have hc := hb c (by simp [formN])
  have hs := hb s (by simp [formN])
  have hbd : IsB d := fun x hx => hb x (by simp [formN, hx])
  have hv : validN c s d.length = true := by simp [validN]; omega
  have HA := Lib.hid (fun w' (k : Kp NoB w w') => alive_any w' (ld.and k))
  have H1 := Lib.hid (nparse_good c s d A m w ha hb (by omega))
  have H2 := Lib.hid (fun w' (k : Kp NoB w w') => rnparse_good c s d A m w' (ha.and k) hb (by omega) hm hM)
  have H3 := Lib.hid (fun w' A' m' (h : Arr w' A' (bs d)) (h1 : d.length ≤ m') (h2 : m' ≤ maxLen) => nbytes_good c s A' d m' w' hv ⟨h, hbd, h1, h2⟩)
  have H4 := Lib.hid (fun w' A' B m' p (h : Arr w' A' (bs d)) (k : Arr w' B (bs d)) => rnsame_any c s d A' m' c s d B p w' h hbd k hbd)
  rw [eqN_refl] at H4
  have hFl : (formN c s d).length = d.length + 2 := rfl
  have H5 := Lib.hid (fun w' A' p (h : Arr w' A' (bs (formN c s d))) (k : Kp NoB w w') => equal_stay A' A p m (formN c s d) (formN c s d) w' h (ha.and k) (by rw [hFl]; omega))
  simp only [decide_true] at H5
  unfold NForm at H3
  unfold NParse at H1
  unfold RNParse at H2
  simp only [hFl] at H3 H5
  obtain ⟨n, hnn⟩ : ∃ n, d.length = n := ⟨_, rfl⟩
  simp only [hnn] at *
  have hn600 : ¬ 600 < n + 2 := by omega
  clear ld ha hb hFl hnn hc hs hbd hv hm hM
  go_enter Tryd.func7, Tryd.ntmps7
  go_wp2_with fail
  refine (H1.out).mono ?_
  rintro e w1 ⟨A1, c1, rfl, hown1, hK1⟩
  go_wp2_with fail
  refine (H2.out _ (hK1.alloc _)).mono ?_
  rintro e w2 ⟨A2, c2, rfl, harr2, hl2, hM2, hK2⟩
  have b2 := Lib.hid ((Bk.fresh w1 32 #[.int .i64 c, .int .i64 s, .slice A1 n c1]).and hK2)
  have kk := ((Kp.refl NoB w1).alloc (.cells #[.int .i64 c, .int .i64 s, .slice A1 n c1] 32)).and hK2
  have k2 := Lib.hid (hK1.and kk)
  have hf1 := own_form hown1
  have a1 := Lib.hid ((Arr.of_own hown1).and kk)
  have hb1 : n ≤ c1 ∧ c1 ≤ maxLen := by
    obtain ⟨A', c', e1, e2, e3, _⟩ := hf1
    injection e1 with e1 e4 e5
    subst e5
    exact ⟨e2, e3⟩
  replace hb1 := Lib.hid hb1
  replace harr2 := Lib.hid harr2
  clear hK1 hK2 kk hown1 hf1 hl2 hM2
  obtain ⟨x1, x2, x3, x4, x5, x6, x7⟩ := b2.out.three
  go_wp2_with fail
  refine (H3.out _ _ _ (a1.out.alloc _) hb1.out.1 hb1.out.2).mono ?_
  rintro e w3 ⟨A3, c3, rfl, hown3, hK3⟩
  have kk := ((Kp.refl NoB w2).alloc (.cells #[.int .i64 c, .int .i64 s, .slice A2 n c2] 35)).and hK3
  have b3 := Lib.hid (b2.out.and kk)
  have r3 := Lib.hid ((Bk.fresh w2 35 #[.int .i64 c, .int .i64 s, .slice A2 n c2]).and hK3)
  have k3 := Lib.hid (k2.out.and kk)
  have a3 := Lib.hid (a1.out.and kk)
  have d3 := Lib.hid (harr2.out.and kk)
  have f3 := Lib.hid (Arr.of_own hown3)
  clear hK3 x1 x2 x3 x4 x5 x6 x7 kk hown3
  go_wp2_with fail
  refine (HA.out _ k3.out).mono ?_
  rintro e w4 ⟨rfl, hK4⟩
  have b4 := Lib.hid (b3.out.and hK4)
  have r4 := Lib.hid (r3.out.and hK4)
  have k4 := Lib.hid (k3.out.and hK4)
  have a4 := Lib.hid (a3.out.and hK4)
  have d4 := Lib.hid (d3.out.and hK4)
  have f4 := Lib.hid (f3.out.and hK4)
  clear hK4
  obtain ⟨x1, x2, x3, x4, x5, x6, x7⟩ := b4.out.three
  obtain ⟨y1, y2, y3, y4, y5, y6, y7⟩ := r4.out.three
  go_wp2_with fail
  refine (H4.out _ _ _ _ _ a4.out d4.out).mono ?_
  rintro e w5 ⟨rfl, hK5⟩
  have k5 := Lib.hid (k4.out.and hK5)
  have f5 := Lib.hid (f4.out.and hK5)
  clear hK5
  go_wp2_with fail
  refine (H5.out _ _ _ f5.out k5.out).mono ?_
  rintro e w6 ⟨rfl, hK6⟩
  go_wp2_with fail
  go_ret
  exact ⟨rfl, k5.out.and hK6⟩

theorem nparses_row (A : Option Addr) (n m : Nat) (xs : List Int) (w : World) (hx : InBytes w A n m xs) (ld : Ld w) : Calls Tryd.prog 7 #[.slice A n m] w (Stay (.bool true) w) := by
  obtain ⟨rfl, hm, hM, ha, hb⟩ := hx
  by_cases h6 : 600 < xs.length
  · exact nparses_long A _ m w h6 ld
  · by_cases h2 : xs.length < 2
    · exact nparses_short A m xs w h2 ha hb ld
    · match xs, ha, hb, hm, h6, h2 with
      | c :: s :: d, ha, hb, hm, h6, _ => exact nparses_good A m c s d w (by simp at h6; omega) (by simpa using hm) hM ha hb ld
      | [], _, _, _, _, h2 => exact absurd (by simp) h2
      | [x], _, _, _, _, h2 => exact absurd (by simp) h2

end Go.Proofs.YtlklhcgacdjkiaaDoor
