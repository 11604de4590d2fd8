/- capability.Read: its contracts by walking the Go text. -/
import Derived.Test.YtilfheociidloaaDoorCapE
import Derived.Test.YtilfheociidloaaDoorRow2
import Derived.Test.YtilfheociidloaaDoorNewO
import Derived.Test.YtilfheociidloaaDoorTakeO
import Derived.Test.YtilfheociidloaaDoorLeftO
namespace Go.Proofs.YtilfheociidloaaDoor
open Go.RowKit
set_option linter.unusedVariables false
set_option linter.unusedSimpArgs false

/-- A capability whose bytes lie in a row of the call's own. -/
def CapO (base : Nat) (w : World) (x : CapI) (a b : Value) : Prop :=
  a = .int .i64 x.code ∧ (-9223372036854775808 ≤ x.code ∧ x.code ≤ 9223372036854775807) ∧ ∃ A c, b = .slice A x.data.length c ∧ w.ownsRow base 5 1 (.slice A x.data.length c) x.data.length (bs x.data) ∧ IsB x.data
def CapOL (base : Nat) (w : World) (xs : List CapI) (cs : List Value) : Prop :=
  cs.length = 2 * xs.length ∧ ∀ j x, xs[j]? = some x → ∃ a b, cs[2 * j]? = some a ∧ cs[2 * j + 1]? = some b ∧ CapO base w x a b
theorem CapO.at {base : Nat} {w : World} {x : CapI} {a b : Value} (h : CapO base w x a b) : CapAt w x a b := by
  obtain ⟨h1, h2, A, c, rfl, h3, h4⟩ := h
  obtain ⟨A', c', e, h5, h6, h7⟩ := own_form h3
  injection e with e1 e2 e3
  subst e1 e3
  exact ⟨h1, h2, A, c, rfl, h5, h6, h7, h4⟩
theorem CapOL.to {base : Nat} {w : World} {xs : List CapI} {cs : List Value} (h : CapOL base w xs cs) : CapL w xs cs :=
  ⟨h.1, fun j x hx => by obtain ⟨a, b, h1, h2, h3⟩ := h.2 j x hx; exact ⟨a, b, h1, h2, h3.at⟩⟩
theorem CapOL.nil (base : Nat) (w : World) : CapOL base w [] [] := ⟨rfl, fun j x hx => by simp at hx⟩
theorem CapO.keep {S : Nat → Prop} {base : Nat} {w w' : World} {x : CapI} {a b : Value} (h : CapO base w x a b) (k : Kp S w w') (hs : ∀ u n ys, w.ownsRow base 5 1 u n ys → ∀ g, u.ownBlock = some g → ¬ S g) : CapO base w' x a b := by
  obtain ⟨h1, h2, A, c, h3, h4, h5⟩ := h
  exact ⟨h1, h2, A, c, h3, k.own h4 (hs _ _ _ h4), h5⟩
theorem CapOL.keep {S : Nat → Prop} {base : Nat} {w w' : World} {xs : List CapI} {cs : List Value} (h : CapOL base w xs cs) (k : Kp S w w') (hs : ∀ u n ys, w.ownsRow base 5 1 u n ys → ∀ g, u.ownBlock = some g → ¬ S g) : CapOL base w' xs cs :=
  ⟨h.1, fun j x hx => by obtain ⟨a, b, h1, h2, h3⟩ := h.2 j x hx; exact ⟨a, b, h1, h2, h3.keep k hs⟩⟩
theorem CapOL.and {base : Nat} {w w' : World} {xs : List CapI} {cs : List Value} (h : CapOL base w xs cs) (k : Kp NoB w w') : CapOL base w' xs cs := h.keep k (fun _ _ _ _ _ _ q => q)
theorem CapOL.snoc {base : Nat} {w : World} {xs : List CapI} {cs : List Value} (h : CapOL base w xs cs) {x : CapI} {a b : Value} (hx : CapO base w x a b) : CapOL base w (xs ++ [x]) (cs ++ [a, b]) := by
  refine ⟨by have := h.1; simp only [List.length_append, List.length_cons, List.length_nil]; omega, fun j y hy => ?_⟩
  rcases Nat.lt_trichotomy j xs.length with hj | hj | hj
  · rw [List.getElem?_append_left hj] at hy
    obtain ⟨a', b', h1, h2, h3⟩ := h.2 j y hy
    exact ⟨a', b', by rw [List.getElem?_append_left (by rw [h.1]; omega)]; exact h1, by rw [List.getElem?_append_left (by rw [h.1]; omega)]; exact h2, h3⟩
  · subst hj
    simp at hy
    subst hy
    exact ⟨a, b, by rw [List.getElem?_append_right (by rw [h.1]; omega), h.1]; simp, by rw [List.getElem?_append_right (by rw [h.1]; omega), h.1]; simp, hx⟩
  · rw [List.getElem?_eq_none (by simp; omega)] at hy
    simp at hy
theorem CapOL.le {base base' : Nat} {w : World} {xs : List CapI} {cs : List Value} (h : CapOL base w xs cs) (hb : base' ≤ base) : CapOL base' w xs cs :=
  ⟨h.1, fun j x hx => by obtain ⟨a, b, h1, h2, h3, h4, A, c, h5, h6, h7⟩ := h.2 j x hx; exact ⟨a, b, h1, h2, h3, h4, A, c, h5, own_le h6 hb, h7⟩⟩

/-- What Read leaves where it succeeds. -/
def ReadYes (T : TypeId) (xs : List CapI) (w : World) (e : Ending) (w' : World) : Prop :=
  ∃ A c cs, e = .returned (.tuple #[.slice A xs.length c, .bool true]) ∧ w'.ownsRow w.heap.size T 2 (.slice A xs.length c) xs.length cs ∧ CapOL w.heap.size w' xs cs ∧ Kp NoB w w'

theorem form_drop (xs : List CapI) (j : Nat) (x : CapI) (h : xs[j]? = some x) : formC (xs.drop j) = x.code :: (x.data.length : Int) :: (x.data ++ formC (xs.drop (j + 1))) := by
  obtain ⟨h1, h2⟩ := List.getElem?_eq_some_iff.1 h
  rw [List.drop_eq_getElem_cons h1, h2]
  simp [formC]

theorem left_len (w : World) (q r : Nat) (ys : List Int) (t : Nat) (h : Rd w q r ys t) (L : Int) (hL : (ys.length : Int) = L) :
    Calls Tryd.prog 60 #[.pointer (some ⟨r, 0, none⟩)] w fun e w' => e = .returned (.int .i64 L) ∧ w' = w := by
  subst hL; exact left_q w q r ys t h
/-- Take of the bytes that are known. -/
def TakeD (w : World) (q r m : Nat) (d Z : List Int) (t : Nat) (e : Ending) (w' : World) : Prop :=
  ∃ A c, e = .returned (.tuple #[.slice A m c, .bool true]) ∧ w'.ownsRow w.heap.size 5 1 (.slice A m c) m (bs d) ∧ Rd w' q r Z (t + m) ∧ Kp (OnB r) w w'
theorem take_d (w : World) (q r m : Nat) (d Z : List Int) (t : Nat) (h : Rd w q r (d ++ Z) t) (hm : d.length = m) :
    Calls Tryd.prog 76 #[.pointer (some ⟨r, 0, none⟩), .int .i64 m] w (TakeD w q r m d Z t) := by
  subst hm
  refine (take_yes w q r (d ++ Z) t d.length h (by simp)).mono fun e w' ⟨A, c, h1, h2, h3, h4⟩ => ⟨A, c, h1, ?_, ?_, h4⟩
  · simpa using h2
  · simpa using h3

set_option maxHeartbeats 4000000 in
theorem read_yes (A : Option Addr) (c : Nat) (zs : List Int) (xs : List CapI) (w : World) (hn : zs.length ≤ 100000) (ha : Arr w A (bs zs)) (hb : IsB zs) (hv : validB xs = true) (hz : formC xs = zs) :
    Calls Tryd.prog 77 #[.slice A zs.length c] w (ReadYes 77 xs w) := by
  obtain ⟨i0, hi, hz0, hz1, hz2⟩ := info_parts infoCap
  have HN := Lib.hid (new_any A c zs w (by omega) ha hb)
  have HV : Hid (∀ x ∈ xs, okC x = true) := Lib.hid (by simpa [validB] using hv)
  have hnx : xs.length ≤ 100000 := by
    have : xs.length ≤ (formC xs).length := by
      clear hz hv HV
      induction xs with
      | nil => exact Nat.zero_le _
      | cons x xs ih => simp only [formC, List.flatMap_cons, List.length_append, List.length_cons] at ih ⊢; omega
    rw [hz] at this
    omega
  have HZ := Lib.hid hz
  clear ha hb hv hz
  obtain ⟨n, hnn⟩ : ∃ n, xs.length = n := ⟨_, rfl⟩
  have HNN := Lib.hid hnn
  rw [hnn] at hnx
  clear hnn
  obtain ⟨zl, hzl⟩ : ∃ n, zs.length = n := ⟨_, rfl⟩
  rw [hzl] at hn HN ⊢
  clear hzl
  go_enter Tryd.func77, Tryd.ntmps77
  go_wp2_with (go_at_call 33; refine HN.out.mono ?_; rintro e w1 ⟨q0, r, rfl, hr0, -, -, hR0, hK0⟩)
  obtain ⟨q, hq, hR0⟩ := hR0.old
  have hr := hR0.lt
  have HK0 := Lib.hid hK0
  have HR0 : Hid (w.heap.size ≤ r ∧ r < w1.heap.size ∧ q < w1.heap.size) := Lib.hid ⟨hr0, hr, hq⟩
  clear hK0 hr0 hr hq HN
  rw [← HZ.out] at hR0
  go_loopw [4] (fun v wr => ∃ (j : Nat) (A' : Option Addr) (c' t : Nat) (cs : List Value), j ≤ n ∧ v = .slice A' j c' ∧ Hid (wr.ownsRow w1.heap.size 77 2 (.slice A' j c') j cs ∧ CapOL w1.heap.size wr (xs.take j) cs ∧ Rd wr q r (formC (xs.drop j)) t ∧ Kp (OnB r) w1 wr)) (fun v _ => match v with | .slice _ k _ => n - k | _ => 0)
  case atStart => exact ⟨0, none, 0, 0, [], Nat.zero_le _, rfl, Lib.hid ⟨World.ownsRow_nil _ _ _ _, CapOL.nil _ _, hR0, Kp.refl _ _⟩⟩
  case round =>
    obtain ⟨j, A', c', t, cs, hj, rfl, HO⟩ := hrel
    obtain ⟨hown, hcs, hR, hK⟩ := HO.out
    clear HO
    have HL := Lib.hid hown
    have HC := Lib.hid hcs
    have HK := Lib.hid hK
    clear hown hcs hK
    by_cases hlt : j < n
    · obtain ⟨x, hx⟩ : ∃ x, xs[j]? = some x := ⟨_, List.getElem?_eq_getElem (by rw [HNN.out]; exact hlt)⟩
      have hok := HV.out x (List.mem_of_getElem? hx)
      simp only [okC, decide_eq_true_eq] at hok
      rw [form_drop xs j x hx] at hR
      have hX := Lib.hid hx
      have hT := Lib.hid (take_snocC xs j x hx)
      clear hx
      obtain ⟨Z, hZ⟩ : ∃ Z, formC (xs.drop (j + 1)) = Z := ⟨_, rfl⟩
      rw [hZ] at hR
      have HZZ := Lib.hid hZ
      clear hZ
      obtain ⟨xk, xd⟩ := x
      simp only at hok hR
      obtain ⟨m, hmm⟩ : ∃ m, xd.length = m := ⟨_, rfl⟩
      rw [hmm] at hR hok
      have HM := Lib.hid hmm
      clear hmm
      obtain ⟨L, hL⟩ : ∃ L : Int, ((xk :: (m : Int) :: (xd ++ Z)).length : Int) = L := ⟨_, rfl⟩
      have hL0 : 0 < L := by rw [← hL]; simp only [List.length_cons]; omega
      have HLL := Lib.hid hL
      clear hL
      obtain ⟨hk0, hk1, hm1⟩ := hok
      have e1 : IntKind.i64.wrap xk = xk := IntWalk.i64_in _ (by omega)
      have e2 : IntKind.i64.wrap (m : Int) = m := IntWalk.i64_in _ (by omega)
      have hR := Lib.hid hR
      go_wp2_with (go_at_call 60; refine (left_len _ q r _ t hR.out L HLL.out).mono ?_; rintro e w2 ⟨rfl, rfl⟩)
      refine (num1_yes _ q r _ _ t hR.out).mono ?_
      rintro e w3 ⟨rfl, hR3, hK3⟩
      replace hR3 := Lib.hid hR3
      go_wp2_with fail
      refine (num1_yes _ q r _ _ _ hR3.out).mono ?_
      rintro e w4 ⟨rfl, hR4, hK4⟩
      replace hR4 := Lib.hid hR4
      go_wp2_with fail
      refine (take_d _ q r m xd Z _ hR4.out HM.out).mono ?_
      rintro e w5 ⟨A5, c5, rfl, hown5, hR5, hK5⟩
      have hK25 := (hK3.same hK4).same hK5
      have hK15 := Lib.hid (HK.out.same hK25)
      have hL5 := Lib.hid (hK25.own HL.out (fun b hb => fun hq => by have := own_base HL.out b hb; have := HR0.out.2.1; unfold OnB at hq; omega))
      have hC5 := Lib.hid (HC.out.keep hK25 (fun u n ys h g hg => fun hq => by have := own_base h g hg; have := HR0.out.2.1; unfold OnB at hq; omega))
      have hD5 := Lib.hid (own_le hown5 ((HK.out.same hK3).same hK4).size)
      replace hR5 := Lib.hid hR5
      clear hK25 hK3 hK4 hK5 hown5
      go_wp2_with (at_builtin; refine wpList_app (hK15.out.alloc _) rfl (.tmp 40) (.tmp 45) 31 rfl 77 i0 (.agg #[.int .i64 0, .slice none 0 0]) 2 32 Tryd.underlying31 hi hz0 hz1 hz2 rfl (by decide) _ j cs rfl (hL5.out.alloc _) _ 1 1 [.int .i64 xk, .slice A5 m c5] rfl rfl (Arr.of_bk (Bk.fresh w5 77 #[.int .i64 xk, .slice A5 m c5]) 2) (by simp [Value.oneCell']) (by omega) (by decide) (j + 1) rfl ?_; intro A6 c6 w6 hown6 hK6 hG _)
      go_roundw
      case rel =>
        have hka : Kp NoB w5 (w5.alloc (.cells #[.int .i64 xk, .slice A5 m c5] 77)) := (Kp.refl _ _).alloc _
        have hG' := Kp.of_grown hG
        have hLa := hL5.out.alloc (.cells #[.int .i64 xk, .slice A5 m c5] 77)
        have hX : CapO w1.heap.size w5 ⟨xk, xd⟩ (.int .i64 xk) (.slice A5 m c5) := ⟨rfl, ⟨show (-9223372036854775808 : Int) ≤ xk by omega, show xk ≤ (9223372036854775807 : Int) by omega⟩, A5, c5, by rw [HM.out], by rw [HM.out]; exact hD5.out, fun z hz => by
          have h1 := hR.out.isB
          exact h1 z (by simp [hz])⟩
        have hC6 := ((hC5.out.snoc hX).and hka).keep hG' (fun u n ys h g hg => own_two h hLa (by decide) g hg)
        rw [← hT.out] at hC6
        refine ⟨j + 1, A6, c6, t + 1 + 1 + m, _, by omega, rfl, Lib.hid ⟨hown6, hC6, ?_, hK6⟩⟩
        rw [HZZ.out]
        exact (hR5.out.and hka).keep hG' (own_ge hLa HR0.out.2.1) (fun _ => own_ge hLa HR0.out.2.2)
      case measure => simp; omega
    · have hj : j = n := by omega
      subst hj
      have hd : formC (xs.drop j) = [] := by rw [List.drop_eq_nil_of_le (by rw [HNN.out]; omega)]; rfl
      rw [hd] at hR
      have hR := Lib.hid hR
      clear hd
      go_wp2_with (go_at_call 60; refine (left_len _ q r _ t hR.out 0 rfl).mono ?_; rintro e w2 ⟨rfl, rfl⟩)
      go_ret2
      have hxt : xs.take j = xs := List.take_of_length_le (by rw [HNN.out]; omega)
      have h1 := HC.out
      rw [hxt] at h1
      refine ⟨A', c', cs, by rw [HNN.out]; rfl, ?_, h1.le HK0.out.size, HK0.out.new HK.out HR0.out.1⟩
      rw [HNN.out]
      exact own_le HL.out HK0.out.size

theorem valid_snoc (xs : List CapI) (x : CapI) (h : validB xs = true) (hx : okC x = true) : validB (xs ++ [x]) = true := by
  simp only [validB, List.all_append, List.all_cons, List.all_nil, Bool.and_true, Bool.and_eq_true] at h ⊢
  exact ⟨h, hx⟩

set_option maxHeartbeats 4000000 in
theorem read_no (A : Option Addr) (c : Nat) (zs : List Int) (w : World) (hn : zs.length ≤ 100000) (ha : Arr w A (bs zs)) (hb : IsB zs) (hno : ∀ xs, validB xs = true → formC xs ≠ zs) :
    Calls Tryd.prog 77 #[.slice A zs.length c] w (Stay (.tuple #[.slice none 0 0, .bool false]) w) := by
  obtain ⟨i0, hi, hz0, hz1, hz2⟩ := info_parts infoCap
  have HN := Lib.hid (new_any A c zs w (by omega) ha hb)
  have HNO := Lib.hid hno
  clear ha hb hno
  obtain ⟨zl, hzl⟩ : ∃ n, zs.length = n := ⟨_, rfl⟩
  have HZL := Lib.hid hzl
  rw [hzl] at hn HN ⊢
  clear hzl
  go_enter Tryd.func77, Tryd.ntmps77
  go_wp2_with (go_at_call 33; refine HN.out.mono ?_; rintro e w1 ⟨q0, r, rfl, hr0, -, -, hR0, hK0⟩)
  obtain ⟨q, hq, hR0⟩ := hR0.old
  have hr := hR0.lt
  have HK0 := Lib.hid hK0
  have HR0 : Hid (w.heap.size ≤ r ∧ r < w1.heap.size ∧ q < w1.heap.size) := Lib.hid ⟨hr0, hr, hq⟩
  clear hK0 hr0 hr hq HN
  go_loopw [4] (fun v wr => ∃ (j : Nat) (A' : Option Addr) (c' t : Nat) (cs : List Value), j ≤ zl ∧ v = .slice A' j c' ∧ Hid (∃ (xs : List CapI) (ys : List Int), wr.ownsRow w1.heap.size 77 2 (.slice A' j c') j cs ∧ validB xs = true ∧ formC xs ++ ys = zs ∧ 2 * j + ys.length ≤ zl ∧ Rd wr q r ys t ∧ Kp (OnB r) w1 wr)) (fun v _ => match v with | .slice _ k _ => zl - k | _ => 0)
  case atStart => exact ⟨0, none, 0, 0, [], Nat.zero_le _, rfl, Lib.hid ⟨[], zs, World.ownsRow_nil _ _ _ _, rfl, rfl, by rw [HZL.out]; omega, hR0, Kp.refl _ _⟩⟩
  case round =>
    obtain ⟨j, A', c', t, cs, hj, rfl, HO⟩ := hrel
    obtain ⟨xs, ys, hown, hvx, hzs, hjl, hR, hK⟩ := HO.out
    clear HO
    have HL := Lib.hid hown
    have HK := Lib.hid hK
    have HV := Lib.hid (And.intro hvx hzs)
    clear hown hK hvx hzs
    match ys, hR, hjl, HV with
    | [], hR, hjl, HV =>
      have := HV.out.2
      rw [List.append_nil] at this
      exact absurd this (HNO.out xs HV.out.1)
    | [k], hR, hjl, HV =>
      have hB := hR.isB
      have hk : 0 ≤ k ∧ k ≤ 255 := by have := hB k (by simp); omega
      clear hB
      have hR := Lib.hid hR
      have HT := Lib.hid (fun w t h => take_d w q r 0 [] [] t h rfl)
      go_wp2_with (go_at_call 60; refine (left_len _ q r _ t hR.out 1 rfl).mono ?_; rintro e w2 ⟨rfl, rfl⟩)
      refine (num1_yes _ q r _ _ t hR.out).mono ?_
      rintro e w3 ⟨rfl, hR3, hK3⟩
      replace hR3 := Lib.hid hR3
      go_wp2_with fail
      refine (num1_no _ q r _ hR3.out).mono ?_
      rintro e w4 ⟨rfl, hK4⟩
      have hR4 := Lib.hid (hR3.out.and hK4)
      go_wp2_with (go_at_call 76; refine (HT.out _ _ hR4.out).mono ?_; rintro e w5 ⟨A5, c5, rfl, hown5, hR5, hK5⟩)
      go_ret2
      exact ⟨rfl, HK0.out.new (((HK.out.same hK3).and hK4).same hK5) HR0.out.1⟩
    | k :: m :: ys, hR, hjl, HV =>
      have hB := hR.isB
      have hk : 0 ≤ k ∧ k ≤ 255 := by have := hB k (by simp); omega
      have hm : 0 ≤ m ∧ m ≤ 255 := by have := hB m (by simp); omega
      obtain ⟨m, rfl⟩ := Int.eq_ofNat_of_zero_le hm.1
      have hbb : IsB ys := fun z hz => hB z (by simp [hz])
      clear hB
      obtain ⟨L, hL⟩ : ∃ L : Int, ((k :: (m : Int) :: ys).length : Int) = L := ⟨_, rfl⟩
      have hL0 : 0 < L := by rw [← hL]; simp only [List.length_cons]; omega
      have HLL := Lib.hid hL
      clear hL
      obtain ⟨hk0, hk1⟩ := hk
      have e1 : IntKind.i64.wrap k = k := IntWalk.i64_in _ (by omega)
      have e2 : IntKind.i64.wrap (m : Int) = m := IntWalk.i64_in _ (by omega)
      have hR := Lib.hid hR
      have HBB := Lib.hid hbb
      clear hbb
      simp only [List.length_cons] at hjl
      go_wp2_with (go_at_call 60; refine (left_len _ q r _ t hR.out L HLL.out).mono ?_; rintro e w2 ⟨rfl, rfl⟩)
      refine (num1_yes _ q r _ _ t hR.out).mono ?_
      rintro e w3 ⟨rfl, hR3, hK3⟩
      replace hR3 := Lib.hid hR3
      go_wp2_with fail
      refine (num1_yes _ q r _ _ _ hR3.out).mono ?_
      rintro e w4 ⟨rfl, hR4, hK4⟩
      replace hR4 := Lib.hid hR4
      go_wp2_with fail
      by_cases hs : ys.length < m
      · refine (take_no _ q r _ _ m hR4.out (.inr (by omega))).mono ?_
        rintro e w5 ⟨rfl, hK5⟩
        go_wp2_with fail
        go_ret2
        exact ⟨rfl, HK0.out.new (((HK.out.same hK3).same hK4).and hK5) HR0.out.1⟩
      · have hld : (ys.take m).length = m := by simp; omega
        have hsp : Rd w4 q r (ys.take m ++ ys.drop m) (t + 1 + 1) := by rw [List.take_append_drop]; exact hR4.out
        refine (take_d _ q r m (ys.take m) (ys.drop m) _ hsp hld).mono ?_
        rintro e w5 ⟨A5, c5, rfl, hown5, hR5, hK5⟩
        have hK25 := (hK3.same hK4).same hK5
        have hK15 := Lib.hid (HK.out.same hK25)
        have hL5 := Lib.hid (hK25.own HL.out (fun b hb => fun hq => by have := own_base HL.out b hb; have := HR0.out.2.1; unfold OnB at hq; omega))
        replace hR5 := Lib.hid hR5
        have HM := Lib.hid hld
        have HS := Lib.hid hs
        clear hK25 hK3 hK4 hK5 hown5 hsp hld hs
        go_wp2_with (at_builtin; refine wpList_app (hK15.out.alloc _) rfl (.tmp 40) (.tmp 45) 31 rfl 77 i0 (.agg #[.int .i64 0, .slice none 0 0]) 2 32 Tryd.underlying31 hi hz0 hz1 hz2 rfl (by decide) _ j cs rfl (hL5.out.alloc _) _ 1 1 [.int .i64 k, .slice A5 m c5] rfl rfl (Arr.of_bk (Bk.fresh w5 77 #[.int .i64 k, .slice A5 m c5]) 2) (by simp [Value.oneCell']) (by omega) (by decide) (j + 1) rfl ?_; intro A6 c6 w6 hown6 hK6 hG _)
        go_roundw
        case rel =>
          have hka : Kp NoB w5 (w5.alloc (.cells #[.int .i64 k, .slice A5 m c5] 77)) := (Kp.refl _ _).alloc _
          have hLa := hL5.out.alloc (.cells #[.int .i64 k, .slice A5 m c5] 77)
          refine ⟨j + 1, A6, c6, t + 1 + 1 + m, _, by omega, rfl, Lib.hid ⟨xs ++ [⟨k, ys.take m⟩], ys.drop m, hown6, valid_snoc _ _ HV.out.1 ?_, ?_, ?_, (hR5.out.and hka).keep (Kp.of_grown hG) (own_ge hLa HR0.out.2.1) (fun _ => own_ge hLa HR0.out.2.2), hK6⟩⟩
          · simp only [okC, HM.out, decide_eq_true_eq]
            omega
          · rw [← HV.out.2]
            simp only [formC, List.flatMap_append, List.flatMap_cons, List.flatMap_nil, List.append_nil, HM.out, List.append_assoc, List.cons_append, List.take_append_drop]
          · rw [List.length_drop]
            have := HS.out
            omega
        case measure => simp; omega

end Go.Proofs.YtilfheociidloaaDoor
