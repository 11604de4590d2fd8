/- The law NlriJoins, walked. Printed by wip/tools/joins.py. -/
import Derived.Test.YtkkfigdfgagimaaNlI
import Derived.Test.YtkkfigdfgagimaaNlEq
import Derived.Test.YtkkfigdfgagimaaNlCat
import Derived.Test.YtkkfigdfgagimaaRNlA
import Derived.Test.YtkkfigdfgagimaaOpenRt
namespace Go.Proofs.Ytkkfigdfgagimaa
open Go.RowKit
set_option linter.unusedVariables false
set_option linter.unusedSimpArgs false

theorem own_cap {w : World} {base n c : Nat} {e : TypeId} {A : Option Addr} {xs : List Value} (h : w.ownsRow base e 1 (.slice A n c) n xs) : n ≤ c ∧ c ≤ maxLen := by
  obtain ⟨A', c', e1, q1, q2, q3⟩ := own_form h
  injection e1 with _ _ e2
  subst e2
  exact ⟨q1, q2⟩
theorem RtL.alloc {w : World} {A : Option Addr} {xs : List RtI} (h : RtL w A xs) (o : Obj) : RtL (w.alloc o) A xs := h.and ((Kp.refl _ _).alloc o)

theorem sl_two {α : Type} {E : World → α → List Value → Prop} {W : World} {g : Nat} {t : TypeId} {u v : Value} {x y : α} (h : Bk W g t #[u, v]) (h1 : E W x [u]) (h2 : E W y [v]) : Sl E 1 W (some ⟨g, 0, none⟩) [x, y] := fun _ => ⟨_, rfl, fun j z hz => by
  have hj : j < 2 := by have := (List.getElem?_eq_some_iff.1 hz).1; simpa using this
  have hc := h.cell j
  match j, hj with
  | 0, _ =>
    simp at hz; subst hz
    exact ⟨[_], rfl, h1, fun i q hq => by
      have hi : i = 0 := by have := (List.getElem?_eq_some_iff.1 hq).1; simp at this; omega
      subst hi; simp at hq; subst hq; exact hc⟩
  | 1, _ =>
    simp at hz; subst hz
    exact ⟨[_], rfl, h2, fun i q hq => by
      have hi : i = 0 := by have := (List.getElem?_eq_some_iff.1 hq).1; simp at this; omega
      subst hi; simp at hq; subst hq; exact hc⟩⟩

theorem concatR_two (W : World) (g : Nat) (A B : Option Addr) (ca cb : Nat) (xs ys : List RtI) (h : Bk W g 22 #[.slice A xs.length ca, .slice B ys.length cb]) (h1 : xs.length ≤ ca ∧ ca ≤ maxLen) (h2 : ys.length ≤ cb ∧ cb ≤ maxLen)
    (hA : RtL W A xs) (hB : RtL W B ys) (hl : xs.length + ys.length ≤ 1000000) :
    Calls Try.prog 13 #[.slice (some ⟨g, 0, none⟩) 2 2] W (JoinedR W (xs ++ ys)) := by
  have := concatR_any (some ⟨g, 0, none⟩) 2 [xs, ys] W (sl_two h ⟨A, ca, rfl, h1.1, h1.2, hA⟩ ⟨B, cb, rfl, h2.1, h2.2, hB⟩) (by simp) (by simpa using hl)
  simpa using this
theorem concatB_two (W : World) (g : Nat) (A B : Option Addr) (ca cb : Nat) (xs ys : List Int) (h : Bk W g 42 #[.slice A xs.length ca, .slice B ys.length cb]) (h1 : xs.length ≤ ca ∧ ca ≤ maxLen) (h2 : ys.length ≤ cb ∧ cb ≤ maxLen)
    (hA : Arr W A (bs xs)) (hB : Arr W B (bs ys)) (hx : IsB xs) (hy : IsB ys) (hl : xs.length + ys.length ≤ 1000000) :
    Calls Try.prog 25 #[.slice (some ⟨g, 0, none⟩) 2 2] W (Joined W (xs ++ ys)) := by
  have := concat_any (some ⟨g, 0, none⟩) 2 [xs, ys] W (sl_two h ⟨A, ca, rfl, h1.1, h1.2, hA, hx⟩ ⟨B, cb, rfl, h2.1, h2.2, hB, hy⟩) (by simp) (by simp [catL]; omega)
  simpa [catL] using this

theorem formN_append (add : Bool) (xs ys : List RtI) : formN add (xs ++ ys) = formN add xs ++ formN add ys := by simp [formN]
theorem validL_append (fam : Int) (add : Bool) (xs ys : List RtI) : validL fam add (xs ++ ys) = (validL fam add xs && validL fam add ys) := by simp [validL]


theorem njoins_big1 (add : Bool) (A B : Option Addr) (n m ca cb : Nat) (w : World) (hn : 200 < n) :
    Calls Try.prog 7 #[.bool add, .slice A n ca, .slice B m cb] w (Stay (.bool true) w) := by
  have HA := Lib.hid alive_any
  have hn' : (200 : Int) < (n : Int) := by omega
  go_enter Try.func7, Try.ntmps7
  go_wp2_with (go_at_call 9; refine (HA.out _).mono ?_; rintro e w7 ⟨rfl, hK3⟩)
  go_ret
  exact ⟨rfl, hK3⟩


theorem njoins_big2 (add : Bool) (A B : Option Addr) (n m ca cb : Nat) (w : World) (hn : n ≤ 200) (hm : 200 < m) :
    Calls Try.prog 7 #[.bool add, .slice A n ca, .slice B m cb] w (Stay (.bool true) w) := by
  have HA := Lib.hid alive_any
  have hn' : ¬ ((200 : Int) < (n : Int)) := by omega
  have hm' : (200 : Int) < (m : Int) := by omega
  go_enter Try.func7, Try.ntmps7
  go_wp2_with (go_at_call 9; refine (HA.out _).mono ?_; rintro e w7 ⟨rfl, hK3⟩)
  go_ret
  exact ⟨rfl, hK3⟩


set_option maxRecDepth 100000 in
set_option maxHeartbeats 8000000 in
theorem njoins_bad (add : Bool) (A B : Option Addr) (ca cb : Nat) (xs ys : List RtI) (w : World) (hx : RtL w A xs) (hy : RtL w B ys) (hn : xs.length ≤ 200) (hm : ys.length ≤ 200) (hv : validL 1 add xs = false ∨ validL 1 add ys = false) :
    Calls Try.prog 7 #[.bool add, .slice A xs.length ca, .slice B ys.length cb] w (Stay (.bool true) w) := by
  have HA := Lib.hid alive_any
  have HVa := Lib.hid (fun w' (k : Kp NoB w w') => rnvalid_any 1 add A ca xs w' (hx.and k) (by omega))
  have HVb := Lib.hid (fun w' (k : Kp NoB w w') => rnvalid_any 1 add B cb ys w' (hy.and k) (by omega))
  have k1 := Lib.hid (Kp.refl NoB w)
  obtain ⟨n, hnn⟩ : ∃ n, xs.length = n := ⟨_, rfl⟩
  obtain ⟨m, hmm⟩ : ∃ m, ys.length = m := ⟨_, rfl⟩
  rw [hnn] at hn
  rw [hmm] at hm
  simp only [hnn, hmm] at HVa HVb ⊢
  obtain ⟨va, hva⟩ : ∃ va, validL 1 add xs = va := ⟨_, rfl⟩
  obtain ⟨vb, hvb⟩ : ∃ vb, validL 1 add ys = vb := ⟨_, rfl⟩
  rw [hva] at HVa hv
  rw [hvb] at HVb hv
  clear hnn hmm hx hy hva hvb
  have hn' : ¬ ((200 : Int) < (n : Int)) := by omega
  have hm' : ¬ ((200 : Int) < (m : Int)) := by omega
  cases va
  · go_enter Try.func7, Try.ntmps7
    go_wp2_with (first
    | (go_at_call 23; (with_reducible refine (HVa.out _ k1.out).mono ?_); rintro e w1 ⟨rfl, hK1⟩; replace k1 := Lib.hid (k1.out.and hK1); clear hK1)
    | (go_at_call 23; (with_reducible refine (HVb.out _ k1.out).mono ?_); rintro e w1 ⟨rfl, hK1⟩; replace k1 := Lib.hid (k1.out.and hK1); clear hK1)
    | (go_at_call 9; (with_reducible refine (HA.out _).mono ?_); rintro e w1 ⟨rfl, hK1⟩; replace k1 := Lib.hid (k1.out.and hK1); clear hK1))
    go_ret
    exact ⟨rfl, k1.out⟩
  · obtain rfl : vb = false := by simpa using hv
    go_enter Try.func7, Try.ntmps7
    go_wp2_with (first
    | (go_at_call 23; (with_reducible refine (HVa.out _ k1.out).mono ?_); rintro e w1 ⟨rfl, hK1⟩; replace k1 := Lib.hid (k1.out.and hK1); clear hK1)
    | (go_at_call 23; (with_reducible refine (HVb.out _ k1.out).mono ?_); rintro e w1 ⟨rfl, hK1⟩; replace k1 := Lib.hid (k1.out.and hK1); clear hK1)
    | (go_at_call 9; (with_reducible refine (HA.out _).mono ?_); rintro e w1 ⟨rfl, hK1⟩; replace k1 := Lib.hid (k1.out.and hK1); clear hK1))
    go_ret
    exact ⟨rfl, k1.out⟩

set_option maxRecDepth 100000 in
set_option maxHeartbeats 8000000 in
theorem njoins_good (add : Bool) (A B : Option Addr) (ca cb : Nat) (xs ys : List RtI) (w : World) (hx : RtL w A xs) (hy : RtL w B ys) (hn : xs.length ≤ 200) (hm : ys.length ≤ 200) (hva : validL 1 add xs = true) (hvb : validL 1 add ys = true)
    (hcA : xs.length ≤ ca ∧ ca ≤ maxLen) (hcB : ys.length ≤ cb ∧ cb ≤ maxLen) :
    Calls Try.prog 7 #[.bool add, .slice A xs.length ca, .slice B ys.length cb] w (Stay (.bool true) w) := by
  have HA := Lib.hid alive_any
  have HVa := Lib.hid (fun w' (k : Kp NoB w w') => rnvalid_any 1 add A ca xs w' (hx.and k) (by omega))
  have HVb := Lib.hid (fun w' (k : Kp NoB w w') => rnvalid_any 1 add B cb ys w' (hy.and k) (by omega))
  rw [hva] at HVa
  rw [hvb] at HVb
  have hfa := formN_len add xs (validL_pre hva)
  have hfb := formN_len add ys (validL_pre hvb)
  have hia := formN_isB hx.2 hva
  have hib := formN_isB hy.2 hvb
  have hvz : validL 1 add (xs ++ ys) = true := by rw [validL_append, hva, hvb]; rfl
  have hBz : ∀ z ∈ xs ++ ys, z.B := fun z hz => (List.mem_append.1 hz).elim (hx.2 z) (hy.2 z)
  have hzl : (xs ++ ys).length ≤ 400 := by rw [List.length_append]; omega
  have hfz := formN_len add _ (validL_pre hvz)
  have hiz := formN_isB hBz hvz
  have HBa := Lib.hid (fun w' (k : Kp NoB w w') => nbytes_good 1 add A ca xs w' (hx.and k) (by omega) hva)
  have HBb := Lib.hid (fun w' (k : Kp NoB w w') => nbytes_good 1 add B cb ys w' (hy.and k) (by omega) hvb)
  have HBz := Lib.hid (fun w' Ar cr (h : RtL w' Ar (xs ++ ys)) => nbytes_good 1 add Ar cr (xs ++ ys) w' h (by omega) hvz)
  have HCR := Lib.hid (fun w' g (k : Kp NoB w w') (h : Bk w' g 22 #[.slice A xs.length ca, .slice B ys.length cb]) => concatR_two w' g A B ca cb xs ys h hcA hcB (hx.and k) (hy.and k) (by omega))
  have HCB := Lib.hid (fun w' g A1 c1 A2 c2 (h1 : (formN add xs).length ≤ c1 ∧ c1 ≤ maxLen) (h2 : (formN add ys).length ≤ c2 ∧ c2 ≤ maxLen) (a1 : Arr w' A1 (bs (formN add xs))) (a2 : Arr w' A2 (bs (formN add ys))) (h : Bk w' g 42 #[.slice A1 (formN add xs).length c1, .slice A2 (formN add ys).length c2]) => concatB_two w' g A1 A2 c1 c2 (formN add xs) (formN add ys) h h1 h2 a1 a2 hia hib (by omega))
  rw [← formN_append] at HCB
  have HRd := Lib.hid (fun w' A' c' (h : Arr w' A' (bs (formN add (xs ++ ys)))) => nread_any 1 add A' c' (formN add (xs ++ ys)) w' (by omega) h hiz (by decide))
  rw [readL_form hBz hvz] at HRd
  have HEb := Lib.hid (fun w' A' c' B' d (h : Arr w' A' (bs (formN add (xs ++ ys)))) (k : Arr w' B' (bs (formN add (xs ++ ys)))) => equal_stay A' B' c' d (formN add (xs ++ ys)) (formN add (xs ++ ys)) w' h k (by omega))
  have HER := Lib.hid (fun w' A' c' B' d (h : RtL w' A' (xs ++ ys)) (k : RtL w' B' (xs ++ ys)) => equalR_any A' B' c' d (xs ++ ys) (xs ++ ys) w' h k (by omega))
  simp only [decide_true] at HEb HER
  have HRL := Lib.hid (fun (w' : World) (base : Nat) (A' : Option Addr) (c' : Nat) (h : w'.ownsRow base 31 19 (.slice A' (xs ++ ys).length c') (xs ++ ys).length (flatE rtC (xs ++ ys))) => rtL_of_own h hBz)
  have k1 := Lib.hid (Kp.refl NoB w)
  unfold FormedP at HBa HBb HBz
  unfold NReadAny NReadYes at HRd
  unfold JoinedR at HCR
  unfold Joined at HCB
  obtain ⟨zs, hzs⟩ : ∃ zs, xs ++ ys = zs := ⟨_, rfl⟩
  simp only [hzs] at HBz HCR HCB HRd HEb HER HRL
  obtain ⟨n, hnn⟩ : ∃ n, xs.length = n := ⟨_, rfl⟩
  obtain ⟨m, hmm⟩ : ∃ m, ys.length = m := ⟨_, rfl⟩
  obtain ⟨q, hqq⟩ : ∃ q, zs.length = q := ⟨_, rfl⟩
  rw [hnn] at hn
  rw [hmm] at hm
  simp only [hnn, hmm, hqq] at HVa HVb HBa HBb HBz HCR HRd HER HRL ⊢
  obtain ⟨Fa, hFa⟩ : ∃ F, formN add xs = F := ⟨_, rfl⟩
  obtain ⟨Fb, hFb⟩ : ∃ F, formN add ys = F := ⟨_, rfl⟩
  obtain ⟨Fz, hFz⟩ : ∃ F, formN add zs = F := ⟨_, rfl⟩
  simp only [hFa, hFb, hFz] at HBa HBb HBz HCB HRd HEb
  obtain ⟨fa, hfal⟩ : ∃ m, Fa.length = m := ⟨_, rfl⟩
  obtain ⟨fb, hfbl⟩ : ∃ m, Fb.length = m := ⟨_, rfl⟩
  obtain ⟨fz, hfzl⟩ : ∃ m, Fz.length = m := ⟨_, rfl⟩
  simp only [hfal, hfbl, hfzl] at HBa HBb HBz HCB HRd HEb
  clear hnn hmm hqq hx hy hva hvb hfa hfb hia hib hvz hBz hzl hfz hiz hzs hFa hFb hFz hfal hfbl hfzl hcA hcB
  have hn' : ¬ ((200 : Int) < (n : Int)) := by omega
  have hm' : ¬ ((200 : Int) < (m : Int)) := by omega
  go_enter Try.func7, Try.ntmps7
  go_wp2_with (first
    | (go_at_call 23; (with_reducible refine (HVa.out _ k1.out).mono ?_); rintro e w1 ⟨rfl, hK1⟩; (try replace ha1 := Lib.hid (ha1.out.and hK1)); (try replace ha2 := Lib.hid (ha2.out.and hK1)); (try replace haz := Lib.hid (haz.out.and hK1)); (try replace haF := Lib.hid (haF.out.and hK1)); (try replace har := Lib.hid (har.out.and hK1)); (try replace hal := Lib.hid (hal.out.and hK1)); (try replace k1 := Lib.hid (k1.out.and hK1)); clear hK1)
    | (go_at_call 23; (with_reducible refine (HVb.out _ k1.out).mono ?_); rintro e w1 ⟨rfl, hK1⟩; (try replace ha1 := Lib.hid (ha1.out.and hK1)); (try replace ha2 := Lib.hid (ha2.out.and hK1)); (try replace haz := Lib.hid (haz.out.and hK1)); (try replace haF := Lib.hid (haF.out.and hK1)); (try replace har := Lib.hid (har.out.and hK1)); (try replace hal := Lib.hid (hal.out.and hK1)); (try replace k1 := Lib.hid (k1.out.and hK1)); clear hK1)
    | (go_at_call 24; (with_reducible refine (HBz.out _ Ar cr har.out).mono ?_); rintro e w1 ⟨Az, cz, rfl, hown1, hK1⟩; (try replace ha1 := Lib.hid (ha1.out.and hK1)); (try replace ha2 := Lib.hid (ha2.out.and hK1)); (try replace haz := Lib.hid (haz.out.and hK1)); (try replace haF := Lib.hid (haF.out.and hK1)); (try replace har := Lib.hid (har.out.and hK1)); (try replace hal := Lib.hid (hal.out.and hK1)); (try replace k1 := Lib.hid (k1.out.and hK1)); have haz := Lib.hid (Arr.of_own hown1); clear hK1 hown1)
    | (go_at_call 24; (with_reducible refine (HBb.out _ k1.out).mono ?_); rintro e w1 ⟨A2, c2, rfl, hown1, hK1⟩; (try replace ha1 := Lib.hid (ha1.out.and hK1)); (try replace ha2 := Lib.hid (ha2.out.and hK1)); (try replace haz := Lib.hid (haz.out.and hK1)); (try replace haF := Lib.hid (haF.out.and hK1)); (try replace har := Lib.hid (har.out.and hK1)); (try replace hal := Lib.hid (hal.out.and hK1)); (try replace k1 := Lib.hid (k1.out.and hK1)); have ha2 := Lib.hid (Arr.of_own hown1); have hc2 := Lib.hid (own_cap hown1); clear hK1 hown1)
    | (go_at_call 24; (with_reducible refine (HBa.out _ k1.out).mono ?_); rintro e w1 ⟨A1, c1, rfl, hown1, hK1⟩; (try replace ha1 := Lib.hid (ha1.out.and hK1)); (try replace ha2 := Lib.hid (ha2.out.and hK1)); (try replace haz := Lib.hid (haz.out.and hK1)); (try replace haF := Lib.hid (haF.out.and hK1)); (try replace har := Lib.hid (har.out.and hK1)); (try replace hal := Lib.hid (hal.out.and hK1)); (try replace k1 := Lib.hid (k1.out.and hK1)); have ha1 := Lib.hid (Arr.of_own hown1); have hc1 := Lib.hid (own_cap hown1); clear hK1 hown1)
    | (go_at_call 13; (with_reducible refine (HCR.out _ _ (k1.out.alloc _) (Bk.fresh _ _ _)).mono ?_); rintro e w1 ⟨Ar, cr, rfl, hown1, hK1⟩; (try replace ha1 := Lib.hid ((ha1.out.alloc _).and hK1)); (try replace ha2 := Lib.hid ((ha2.out.alloc _).and hK1)); (try replace haz := Lib.hid ((haz.out.alloc _).and hK1)); (try replace haF := Lib.hid ((haF.out.alloc _).and hK1)); (try replace har := Lib.hid ((har.out.alloc _).and hK1)); (try replace hal := Lib.hid ((hal.out.alloc _).and hK1)); (try replace k1 := Lib.hid ((k1.out.alloc _).and hK1)); have har := Lib.hid (HRL.out _ _ Ar cr hown1); clear hK1 hown1)
    | (go_at_call 25; (with_reducible refine (HCB.out _ _ A1 c1 A2 c2 hc1.out hc2.out (ha1.out.alloc _) (ha2.out.alloc _) (Bk.fresh _ _ _)).mono ?_); rintro e w1 ⟨AF, cF, rfl, hown1, hK1⟩; (try replace ha1 := Lib.hid ((ha1.out.alloc _).and hK1)); (try replace ha2 := Lib.hid ((ha2.out.alloc _).and hK1)); (try replace haz := Lib.hid ((haz.out.alloc _).and hK1)); (try replace haF := Lib.hid ((haF.out.alloc _).and hK1)); (try replace har := Lib.hid ((har.out.alloc _).and hK1)); (try replace hal := Lib.hid ((hal.out.alloc _).and hK1)); (try replace k1 := Lib.hid ((k1.out.alloc _).and hK1)); have haF := Lib.hid (Arr.of_own hown1); clear hK1 hown1)
    | (go_at_call 20; (with_reducible refine (HRd.out _ AF cF haF.out).mono ?_); rintro e w1 ⟨Al, cl, rfl, hown1, hK1⟩; (try replace ha1 := Lib.hid (ha1.out.and hK1)); (try replace ha2 := Lib.hid (ha2.out.and hK1)); (try replace haz := Lib.hid (haz.out.and hK1)); (try replace haF := Lib.hid (haF.out.and hK1)); (try replace har := Lib.hid (har.out.and hK1)); (try replace hal := Lib.hid (hal.out.and hK1)); (try replace k1 := Lib.hid (k1.out.and hK1)); have hal := Lib.hid (HRL.out _ _ Al cl hown1); clear hK1 hown1)
    | (go_at_call 9; (with_reducible refine (HA.out _).mono ?_); rintro e w1 ⟨rfl, hK1⟩; (try replace ha1 := Lib.hid (ha1.out.and hK1)); (try replace ha2 := Lib.hid (ha2.out.and hK1)); (try replace haz := Lib.hid (haz.out.and hK1)); (try replace haF := Lib.hid (haF.out.and hK1)); (try replace har := Lib.hid (har.out.and hK1)); (try replace hal := Lib.hid (hal.out.and hK1)); (try replace k1 := Lib.hid (k1.out.and hK1)); clear hK1)
    | (go_at_call 26; (with_reducible refine (HEb.out _ Az cz AF cF haz.out haF.out).mono ?_); rintro e w1 ⟨rfl, hK1⟩; (try replace ha1 := Lib.hid (ha1.out.and hK1)); (try replace ha2 := Lib.hid (ha2.out.and hK1)); (try replace haz := Lib.hid (haz.out.and hK1)); (try replace haF := Lib.hid (haF.out.and hK1)); (try replace har := Lib.hid (har.out.and hK1)); (try replace hal := Lib.hid (hal.out.and hK1)); (try replace k1 := Lib.hid (k1.out.and hK1)); clear hK1)
    | (go_at_call 11; (with_reducible refine (HER.out _ Al cl Ar cr hal.out har.out).mono ?_); rintro e w1 ⟨rfl, hK1⟩; (try replace ha1 := Lib.hid (ha1.out.and hK1)); (try replace ha2 := Lib.hid (ha2.out.and hK1)); (try replace haz := Lib.hid (haz.out.and hK1)); (try replace haF := Lib.hid (haF.out.and hK1)); (try replace har := Lib.hid (har.out.and hK1)); (try replace hal := Lib.hid (hal.out.and hK1)); (try replace k1 := Lib.hid (k1.out.and hK1)); clear hK1))
  go_ret
  exact ⟨rfl, k1.out⟩

theorem njoins_row (add : Bool) (A : Option Addr) (n ca : Nat) (xs : List RtI) (B : Option Addr) (m cb : Nat) (ys : List RtI) (w : World) (h : InRts w A n ca xs) (k : InRts w B m cb ys) :
    Calls Try.prog 7 #[.bool add, .slice A n ca, .slice B m cb] w (Stay (.bool true) w) := by
  obtain ⟨rfl, hn, hc, hx⟩ := h
  obtain ⟨rfl, hm, hd, hy⟩ := k
  by_cases h1 : xs.length ≤ 200
  · by_cases h2 : ys.length ≤ 200
    · by_cases hva : validL 1 add xs = true
      · by_cases hvb : validL 1 add ys = true
        · exact njoins_good add A B ca cb xs ys w hx hy h1 h2 hva hvb ⟨hn, hc⟩ ⟨hm, hd⟩
        · exact njoins_bad add A B ca cb xs ys w hx hy h1 h2 (.inr (by simpa using hvb))
      · exact njoins_bad add A B ca cb xs ys w hx hy h1 h2 (.inl (by simpa using hva))
    · exact njoins_big2 add A B _ _ ca cb w h1 (by omega)
  · exact njoins_big1 add A B _ _ ca cb w (by omega)

end Go.Proofs.Ytkkfigdfgagimaa
