/- The law NlriReads, walked. -/
import Derived.Test.YtkkfigdfgagimaaNlI
import Derived.Test.YtkkfigdfgagimaaNlEq
import Derived.Test.YtkkfigdfgagimaaRNlD
import Derived.Test.YtkkfigdfgagimaaOpen
namespace Go.Proofs.Ytkkfigdfgagimaa
open Go.RowKit
set_option linter.unusedVariables false
set_option linter.unusedSimpArgs false

theorem mask_twice : ∀ y : Nat, y < 256 → ∀ k : Nat, k < 9 → maskB (k : Int) (maskB (k : Int) (y : Int)) = maskB (k : Int) (y : Int) := by decide +kernel
theorem maskB_idem (k y : Int) (h0 : 0 ≤ y) (h1 : y < 256) : maskB k (maskB k y) = maskB k y := by
  obtain ⟨n, rfl⟩ := Int.eq_ofNat_of_zero_le h0
  rcases Int.lt_or_le k 0 with hk | hk
  · rw [maskB_low k _ (by omega), maskB_low k _ (by omega)]
    exact mask_twice n (by omega) 0 (by decide)
  · rcases Int.lt_or_le k 8 with h8 | h8
    · obtain ⟨m, rfl⟩ := Int.eq_ofNat_of_zero_le hk
      exact mask_twice n (by omega) m (by omega)
    · rw [maskB_high k _ h8, maskB_high k _ h8]
      exact mask_twice n (by omega) 8 (by decide)
theorem maskL_idem (len : Int) (a : List Int) (hB : IsB a) : maskL len (maskL len a) = maskL len a := by
  refine ext16 (mkTo_length _ _ _) (mkTo_length _ _ _) (fun j hj => ?_)
  rw [maskL_get _ _ j hj, maskL_get _ _ j hj]
  have := hB.getD j
  exact maskB_idem _ _ this.1 this.2
theorem readP_valid {fam : Int} {ys : List Int} {p : PreI} {k : Nat} (hp : readP fam ys = some (p, k)) (hB : IsB ys) : validP p = true ∧ p.fam = fam := by
  cases ys with
  | nil => simp [readP] at hp
  | cons l zs =>
    simp only [readP] at hp
    split at hp
    · rename_i hc
      injection hp with hp
      injection hp with h1 h2
      subst h1 h2
      refine ⟨?_, rfl⟩
      unfold validP makeP
      simp only [hc.1, Bool.true_and, decide_eq_true_eq]
      exact maskL_idem _ _ (padL_isB (IsB.take (fun x hx => hB x (by simp [hx])) _))
    · cases hp
theorem readR_valid {fam : Int} {add : Bool} {ys : List Int} {x : RtI} {k : Nat} (hp : readR fam add ys = some (x, k)) (hB : IsB ys) : okR fam add x = true := by
  unfold readR at hp
  unfold okR
  cases add with
  | false =>
    simp only [Bool.false_eq_true, if_false] at hp
    rcases h : readP fam ys with _ | ⟨p, k'⟩
    · simp [h] at hp
    · simp [h] at hp
      obtain ⟨rfl, rfl⟩ := hp
      have := readP_valid h hB
      simp [this.1, this.2]
  | true =>
    simp only [if_true] at hp
    split at hp
    · cases hp
    · rcases h : readP fam (ys.drop 4) with _ | ⟨p, k'⟩
      · simp [h] at hp
      · simp [h] at hp
        obtain ⟨rfl, rfl⟩ := hp
        have := readP_valid h (hB.drop 4)
        simp [this.1, this.2]
/-- What reading says: valid routes, or an offset. -/
def ReadOk (fam : Int) (add : Bool) (n : Nat) (o : Option (List RtI) × Int) : Prop := match o with
  | (some xs, e) => e = -1 ∧ validL fam add xs = true ∧ (∀ x ∈ xs, x.B) ∧ xs.length ≤ n
  | (none, e) => 0 ≤ e
theorem readN_ok (fam : Int) (add : Bool) (hf : -9223372036854775808 ≤ fam ∧ fam ≤ 9223372036854775807) : ∀ (f : Nat) (ys : List Int) (t : Nat), IsB ys → ReadOk fam add f (readN fam add f ys t)
  | 0, ys, t, _ => by simp [readN, ReadOk, validL]
  | f + 1, ys, t, hB => by
    rw [readN]
    by_cases hy : ys = []
    · rw [if_pos hy]
      simp [ReadOk, validL]
    · rw [if_neg hy]
      rcases h : readR fam add ys with _ | ⟨x, k⟩
      · simp [ReadOk]
      · have ih := readN_ok fam add hf f (ys.drop k) (t + k) (hB.drop k)
        rcases h2 : readN fam add f (ys.drop k) (t + k) with ⟨_ | l, e⟩
        · rw [h2] at ih
          simp only [h2]
          exact ih
        · rw [h2] at ih
          simp only [h2]
          obtain ⟨i1, i2, i3, i4⟩ := ih
          refine ⟨i1, ?_, ?_, ?_⟩
          · unfold validL at i2 ⊢
            rw [List.all_cons, readR_valid h hB, i2]
            rfl
          · intro y hy
            rcases List.mem_cons.1 hy with rfl | hy
            · exact (readR_good h hB hf).1
            · exact i3 y hy
          · simp only [List.length_cons]; omega

theorem nreads_big (fam : Int) (add : Bool) (A : Option Addr) (n c : Nat) (w : World) (hn : 1000 < n) : Calls Try.prog 6 #[.int .i64 fam, .bool add, .slice A n c] w (Stay (.bool true) w) := by
  have HA := Lib.hid alive_any
  have hn' : (1000 : Int) < (n : Int) := by omega
  go_enter Try.func6, Try.ntmps6
  go_wp2_with (go_at_call 9; refine (HA.out _).mono ?_; rintro e w7 ⟨rfl, hK3⟩)
  go_ret
  exact ⟨rfl, hK3⟩

set_option maxRecDepth 100000 in
set_option maxHeartbeats 8000000 in
theorem nreads_row (fam : Int) (add : Bool) (A : Option Addr) (n c : Nat) (ys : List Int) (w : World) (hfb : -9223372036854775808 ≤ fam ∧ fam ≤ 9223372036854775807) (h : InBytes w A n c ys) :
    Calls Try.prog 6 #[.int .i64 fam, .bool add, .slice A n c] w (Stay (.bool true) w) := by
  obtain ⟨rfl, hn, hc, ha, hb⟩ := h
  by_cases h3 : ys.length ≤ 1000
  · have H1 := Lib.hid (fun w' (k : Kp NoB w w') => nread_any fam add A c ys w' (by omega) (ha.and k) hb hfb)
    have H2 := Lib.hid (fun w' (k : Kp NoB w w') => rnread_any fam add A c ys w' (by omega) hn hc (ha.and k) hb hfb)
    have hok := readN_ok fam add hfb ys.length ys 0 hb
    change ReadOk fam add ys.length (readL fam add ys) at hok
    have HA := Lib.hid alive_any
    obtain ⟨n, hnn⟩ : ∃ n, ys.length = n := ⟨_, rfl⟩
    rw [hnn] at hok h3
    simp only [hnn] at H1 H2 ⊢
    rcases hR : readL fam add ys with ⟨_ | xs, t⟩
    · rw [hR] at H1 H2 hok
      have ht : 0 ≤ t := hok
      have H5 := Lib.hid (fun w' => equalR_any none none 0 0 [] [] w' ⟨Sl.nil _ _ _ _, by simp⟩ ⟨Sl.nil _ _ _ _, by simp⟩ (by decide))
      simp only [decide_true] at H5
      unfold NReadAny at H1 H2
      clear hR hok hnn ha hb hn hc hfb
      go_enter Try.func6, Try.ntmps6
      go_wp2_with (first
        | (go_at_call 20; refine (H1.out _ (Kp.refl _ _)).mono ?_; rintro e w1 ⟨rfl, hK1⟩; have k1 := Lib.hid hK1; clear hK1)
        | (go_at_call 21; refine (H2.out _ k1.out).mono ?_; rintro e w2 ⟨rfl, hK2⟩; replace k1 := Lib.hid (k1.out.and hK2); clear hK2)
        | (go_at_call 9; refine (HA.out _).mono ?_; rintro e w7 ⟨rfl, hK3⟩; replace k1 := Lib.hid (k1.out.and hK3); clear hK3)
        | (go_at_call 11; refine (H5.out _).mono ?_; rintro e w8 ⟨rfl, hK3⟩; replace k1 := Lib.hid (k1.out.and hK3); clear hK3))
      go_ret
      exact ⟨rfl, k1.out⟩
    · rw [hR] at H1 H2 hok
      obtain ⟨rfl, hv, hxB, hxn⟩ := hok
      have H5 := Lib.hid (fun w' A' c' B d (h : RtL w' A' xs) (k : RtL w' B xs) => equalR_any A' B c' d xs xs w' h k (by omega))
      simp only [decide_true] at H5
      have H6 := Lib.hid (fun w' A' c' (h : RtL w' A' xs) => nvalid_any fam add A' c' xs w' h (by omega))
      rw [hv] at H6
      have HRL := Lib.hid (fun (w' : World) (base : Nat) (A' : Option Addr) (c' : Nat) (h : w'.ownsRow base 31 19 (.slice A' xs.length c') xs.length (flatE rtC xs)) => rtL_of_own h hxB)
      unfold NReadAny NReadYes at H1 H2
      obtain ⟨m, hm⟩ : ∃ m, xs.length = m := ⟨_, rfl⟩
      simp only [hm] at H1 H2 H5 H6 HRL
      rw [hm] at hxn
      clear hR hnn ha hb hn hc hfb hm hv hxB
      go_enter Try.func6, Try.ntmps6
      go_wp2_with (first
        | (go_at_call 20; refine (H1.out _ (Kp.refl _ _)).mono ?_; rintro e w1 ⟨A1, c1, rfl, hown1, hK1⟩; have ha1 := Lib.hid (HRL.out _ _ A1 c1 hown1); have k1 := Lib.hid hK1; clear hK1 hown1)
        | (go_at_call 21; refine (H2.out _ k1.out).mono ?_; rintro e w2 ⟨A2, c2, rfl, hown2, hK2⟩; have ha2 := Lib.hid (HRL.out _ _ A2 c2 hown2); replace ha1 := Lib.hid (ha1.out.and hK2); replace k1 := Lib.hid (k1.out.and hK2); clear hK2 hown2)
        | (go_at_call 9; refine (HA.out _).mono ?_; rintro e w7 ⟨rfl, hK3⟩; replace ha1 := Lib.hid (ha1.out.and hK3); replace ha2 := Lib.hid (ha2.out.and hK3); replace k1 := Lib.hid (k1.out.and hK3); clear hK3)
        | (go_at_call 11; refine (H5.out _ A1 c1 A2 c2 ha1.out ha2.out).mono ?_; rintro e w8 ⟨rfl, hK3⟩; replace ha1 := Lib.hid (ha1.out.and hK3); replace k1 := Lib.hid (k1.out.and hK3); clear hK3)
        | (go_at_call 22; refine (H6.out _ A1 c1 ha1.out).mono ?_; rintro e w9 ⟨rfl, hK3⟩; replace k1 := Lib.hid (k1.out.and hK3); clear hK3))
      go_ret
      exact ⟨rfl, k1.out⟩
  · exact nreads_big fam add A _ c w (by omega)

end Go.Proofs.Ytkkfigdfgagimaa
