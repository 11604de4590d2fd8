/- The plain law behind OpenForms: the form of a valid OPEN is parsed to it. No program. No condition.  Both Bytes of an OPEN, valid or not. No condition but the bounds that arguments have. -/
import Derived.Test.YtilfheociidloaaDoorParE
import Derived.Test.YtilfheociidloaaDoorOFoA
import Derived.Test.YtilfheociidloaaDoorOpC
import Derived.Test.YtilfheociidloaaDoorOFoB
namespace Go.Proofs.YtilfheociidloaaDoor
open Go.RowKit
set_option linter.unusedVariables false
set_option linter.unusedSimpArgs false

theorem stAt_more {b : List Int} {k : Nat} {v : Int × Int × List Int} (h : (stAt b k).bad = some v) : ∀ j, stAt b (k + j) = stAt b k
  | 0 => rfl
  | j + 1 => by
    show nx (stepF (k + j)) (stAt b (k + j)) = _
    rw [stAt_more h j]
    exact nx_some h
theorem stAt_stop {b : List Int} {k : Nat} {v : Int × Int × List Int} (h : (stAt b k).bad = some v) (hk : k ≤ 7) : stAt b 7 = stAt b k := by
  have := stAt_more h (7 - k)
  rwa [show k + (7 - k) = 7 by omega] at this

section
variable {b : List Int}
theorem at0 (h : 10 ≤ b.length) : (stAt b 0).bad = none := by
  show (stBegin b).bad = none
  unfold stBegin
  exact if_neg (by omega)
theorem at1 (h : 10 ≤ b.length) : (stAt b 1).bad = (if big (b.take 1) = 4 then none else some (1, 0, [0, 4])) ∧ (stAt b 1).o = ⟨0, 0, 0, []⟩ := by
  have e : stAt b 1 = stStart (stAt b 0) := nx_none (at0 h)
  rw [e]
  unfold stStart
  rw [at0 h]
  exact ⟨rfl, rfl⟩
theorem at2 (h : (stAt b 1).bad = none) : (stAt b 2).bad = (if big ((b.drop 1).take 2) = 0 then some (2, 1, []) else none) ∧ (stAt b 2).o = { (stAt b 1).o with sys := big ((b.drop 1).take 2) } := by
  have e : stAt b 2 = stSys (stAt b 1) := nx_none h
  obtain ⟨s1, s2, s3, s4⟩ := shape1 b h
  rw [e]
  unfold stSys
  rw [h, s2]
  exact ⟨rfl, rfl⟩
theorem at3 (h : (stAt b 2).bad = none) : (stAt b 3).bad = (if timedB (big ((b.drop 3).take 2)) = true then none else some (6, 3, [])) ∧ (stAt b 3).o = { (stAt b 2).o with hold := big ((b.drop 3).take 2) } := by
  have e : stAt b 3 = stHold (stAt b 2) := nx_none h
  obtain ⟨s1, s2, s3, s4⟩ := shape2 b h
  rw [e]
  unfold stHold
  rw [h, s2]
  exact ⟨rfl, rfl⟩
theorem at4 (h : (stAt b 3).bad = none) : (stAt b 4).bad = (if big ((b.drop 5).take 4) = 0 then some (3, 5, []) else none) ∧ (stAt b 4).o = { (stAt b 3).o with id := big ((b.drop 5).take 4) } := by
  have e : stAt b 4 = stId (stAt b 3) := nx_none h
  obtain ⟨s1, s2, s3, s4⟩ := shape3 b h
  rw [e]
  unfold stId
  rw [h, s2]
  exact ⟨rfl, rfl⟩
theorem at5 (h : (stAt b 4).bad = none) : (stAt b 5).bad = (if big ((b.drop 9).take 1) = ((b.length : Int) - 10) then none else some (0, 9, [])) ∧ (stAt b 5).o = (stAt b 4).o := by
  have e : stAt b 5 = stLen (stAt b 4) := nx_none h
  obtain ⟨s1, s2, s3, s4⟩ := shape4 b h
  rw [e]
  unfold stLen
  rw [h, s2]
  rw [List.drop_drop, List.length_drop, show ((b.length - (9 + 1) : Nat) : Int) = (b.length : Int) - 10 by omega]
  exact ⟨rfl, rfl⟩
end

theorem form_inj : ∀ (xs ys : List CapI), formC xs = formC ys → xs = ys := by
  intro xs
  induction xs with
  | nil =>
    intro ys h
    cases ys with
    | nil => rfl
    | cons y ys => simp [formC] at h
  | cons x xs ih =>
    intro ys h
    cases ys with
    | nil => simp [formC] at h
    | cons y ys =>
      simp only [formC, List.flatMap_cons, List.cons_append, List.cons.injEq] at h
      obtain ⟨h1, h2, h3⟩ := h
      have hl : x.data.length = y.data.length := by omega
      obtain ⟨h4, h5⟩ := List.append_inj h3 hl
      have h6 := ih ys h5
      obtain ⟨k, d⟩ := x
      obtain ⟨k', d'⟩ := y
      simp only at h1 h4
      rw [h1, h4, h6]
theorem asL_length (s : Int) : (asL s).length = 2 := by unfold asL; split <;> exact putL_length _ _
theorem valid_form (o : OpenI) (h : validO o = true) : (formC o.caps).length ≤ 253 := by
  simp only [validO, Bool.and_eq_true, decide_eq_true_eq] at h
  exact h.1.1.1.1.2

theorem none_le {b : List Int} (h : (stAt b 7).bad = none) {k : Nat} (hk : k ≤ 7) : (stAt b k).bad = none := by
  cases h' : (stAt b k).bad with
  | none => rfl
  | some v =>
    rw [stAt_stop h' hk, h'] at h
    cases h
theorem ite_none_neg {c : Prop} [Decidable c] {v : Int × Int × List Int} (h : (if c then some v else none) = none) : ¬ c := fun hc => by rw [if_pos hc] at h; cases h
theorem ite_none_pos {c : Prop} [Decidable c] {v : Int × Int × List Int} (h : (if c then none else some v) = none) : c := by
  by_cases hc : c
  · exact hc
  · rw [if_neg hc] at h; cases h

theorem validB_append {xs ys : List CapI} (h : validB xs = true) (k : validB ys = true) : validB (xs ++ ys) = true := by
  unfold validB at *
  rw [List.all_append, h, k]
  rfl
theorem formC_append (xs ys : List CapI) : formC (xs ++ ys) = formC xs ++ formC ys := by simp [formC]

/-- What the parameters read have to do with the capabilities. -/
def ParOk (o : OpenI) (N : Nat) (st : PSt) : Prop :=
  st.bad = none → validB st.o.caps = true ∧ (formC st.o.caps = [] ∨ (formC st.o.caps).length + 12 ≤ st.t) ∧ 10 ≤ st.t ∧ st.t + st.ys.length = N ∧ st.o = { o with caps := st.o.caps }
theorem ParOk.param {o : OpenI} {N : Nat} {st : PSt} (h : ParOk o N st) (hb : st.bad = none) (hy : st.ys ≠ []) : ParOk o N (stParam st) := by
  intro hb'
  obtain ⟨h1, h2, h3, h4, h5⟩ := h hb
  match hys : st.ys with
  | [] => exact absurd hys hy
  | [k] =>
    unfold stParam at hb'
    rw [hys] at hb'
    cases hb'
  | k :: n :: rest =>
    have e : stParam st = if rest.length < n.toNat then ⟨{ st.o with caps := st.o.caps ++ [] }, rest, st.t + 1 + 1, some (0, st.t, [])⟩
      else ⟨{ st.o with caps := st.o.caps ++ (readC (rest.take n.toNat)).getD [] }, rest.drop n.toNat, st.t + 1 + 1 + n.toNat, if k ≠ 2 then some (4, st.t, []) else if readC (rest.take n.toNat) = none then some (0, st.t, []) else st.bad⟩ := by unfold stParam; rw [hys]
    by_cases hs : rest.length < n.toNat
    · rw [e, if_pos hs] at hb'
      cases hb'
    · rw [if_neg hs] at e
      rw [e] at hb'
      simp only at hb'
      have hk : k = 2 := by
        by_cases hk : k = 2
        · exact hk
        · rw [if_pos hk] at hb'; cases hb'
      rw [if_neg (by simp [hk])] at hb'
      cases hr : readC (rest.take n.toNat) with
      | none => rw [hr, if_pos rfl] at hb'; cases hb'
      | some ls =>
        obtain ⟨r1, r2⟩ := readC_some hr
        have hl : (formC ls).length = n.toNat := by rw [r2, List.length_take]; omega
        rw [hys] at h4
        simp only [List.length_cons] at h4
        rw [e, hr]
        refine ⟨validB_append h1 r1, ?_, by show 10 ≤ st.t + 1 + 1 + n.toNat; omega, by show st.t + 1 + 1 + n.toNat + (rest.drop n.toNat).length = N; rw [List.length_drop]; omega, by simp only; rw [h5]⟩
        show formC (st.o.caps ++ ls) = [] ∨ (formC (st.o.caps ++ ls)).length + 12 ≤ st.t + 1 + 1 + n.toNat
        rw [formC_append, List.length_append, hl]
        rcases h2 with h2 | h2
        · rw [h2]
          by_cases hn0 : formC ls = []
          · exact .inl (by rw [hn0]; rfl)
          · refine .inr ?_
            simp only [List.length_nil]
            omega
        · exact .inr (by omega)
theorem ParOk.iter {o : OpenI} {N : Nat} : ∀ (f : Nat) (st : PSt), ParOk o N st → ParOk o N (iterP f st) := by
  intro f
  induction f with
  | zero => exact fun st h => h
  | succ f ih =>
    intro st h
    by_cases hc : st.ys = [] ∨ st.bad.isSome = true
    · rw [iterP_end _ _ hc]; exact h
    · have e : iterP (f + 1) st = iterP f (stParam st) := if_neg hc
      rw [e]
      refine ih _ (h.param ?_ (fun hy => hc (.inl hy)))
      cases hb : st.bad with
      | none => rfl
      | some v => exact absurd (.inr (by rw [hb]; rfl)) hc
theorem iter_done : ∀ (f : Nat) (st : PSt), st.ys.length ≤ f → (iterP f st).bad = none → (iterP f st).ys = [] := by
  intro f
  induction f with
  | zero => exact fun st h _ => List.eq_nil_of_length_eq_zero (by show st.ys.length = 0; omega)
  | succ f ih =>
    intro st h hb
    by_cases hc : st.ys = [] ∨ st.bad.isSome = true
    · rw [iterP_end _ _ hc] at hb ⊢
      rcases hc with hc | hc
      · exact hc
      · rw [hb] at hc; cases hc
    · have e : iterP (f + 1) st = iterP f (stParam st) := if_neg hc
      rw [e] at hb ⊢
      have hy : st.ys ≠ [] := fun hy => hc (.inl hy)
      exact ih _ (by have := (param_less st hy).1; omega) hb

theorem readC_form {xs : List CapI} (h : validB xs = true) : readC (formC xs) = some xs := by
  cases hr : readC (formC xs) with
  | none => exact absurd rfl (readC_none hr xs h)
  | some ys =>
    obtain ⟨_, h2⟩ := readC_some hr
    rw [form_inj _ _ h2]

/-- What was read are bytes. -/
def ParIs (st : PSt) : Prop := IsB st.ys ∧ ∀ x ∈ st.o.caps, IsB x.data
theorem form_data {xs : List CapI} (h : IsB (formC xs)) : ∀ x ∈ xs, IsB x.data := fun x hx z hz => h z (List.mem_flatMap.2 ⟨x, hx, by simp [hz]⟩)
theorem ParIs.param {st : PSt} (h : ParIs st) : ParIs (stParam st) := by
  obtain ⟨h1, h2⟩ := h
  match hys : st.ys with
  | [] =>
    have e : stParam st = st := by unfold stParam; rw [hys]
    rw [e]; exact ⟨h1, h2⟩
  | [k] =>
    unfold stParam
    rw [hys]
    exact ⟨IsB.nil, by simp only [List.append_nil]; exact h2⟩
  | k :: n :: rest =>
    rw [hys] at h1
    have hr : IsB rest := fun z hz => h1 z (by simp [hz])
    have e : stParam st = if rest.length < n.toNat then ⟨{ st.o with caps := st.o.caps ++ [] }, rest, st.t + 1 + 1, some (0, st.t, [])⟩
      else ⟨{ st.o with caps := st.o.caps ++ (readC (rest.take n.toNat)).getD [] }, rest.drop n.toNat, st.t + 1 + 1 + n.toNat, if k ≠ 2 then some (4, st.t, []) else if readC (rest.take n.toNat) = none then some (0, st.t, []) else st.bad⟩ := by unfold stParam; rw [hys]
    rw [e]
    split
    · exact ⟨hr, by simp only [List.append_nil]; exact h2⟩
    · refine ⟨hr.drop _, fun x hx => ?_⟩
      rcases List.mem_append.1 hx with hx | hx
      · exact h2 x hx
      · cases hrd : readC (rest.take n.toNat) with
        | none => rw [hrd] at hx; cases hx
        | some ls =>
          rw [hrd] at hx
          exact form_data (xs := ls) (by rw [(readC_some hrd).2]; exact hr.take _) x hx
theorem ParIs.iter : ∀ (f : Nat) (st : PSt), ParIs st → ParIs (iterP f st) := by
  intro f
  induction f with
  | zero => exact fun st h => h
  | succ f ih =>
    intro st h
    by_cases hc : st.ys = [] ∨ st.bad.isSome = true
    · rw [iterP_end _ _ hc]; exact h
    · have e : iterP (f + 1) st = iterP f (stParam st) := if_neg hc
      rw [e]
      exact ih _ h.param
theorem sysV_bound {xs : List CapI} (h : ∀ x ∈ xs, IsB x.data) : 0 ≤ sysV xs ∧ sysV xs ≤ 4294967295 := by
  unfold sysV
  cases hs : sysC xs with
  | none => exact ⟨by decide, by decide⟩
  | some d =>
    rw [sysC_eq] at hs
    cases hf : xs.find? namesC with
    | none => rw [hf] at hs; cases hs
    | some x =>
      rw [hf] at hs
      injection hs with hs
      subst hs
      have hx := List.find?_some hf
      have hm := List.mem_of_find?_eq_some hf
      simp only [namesC, Bool.and_eq_true, beq_iff_eq] at hx
      have := big_bound x.data (h x hm)
      rw [hx.2] at this
      simp only
      omega

/-- An OPEN that was parsed. -/
theorem parsed_ok (b : List Int) (hB : IsB b) (hn : b.length ≤ 600) (h : (stAt b 7).bad = none) : validO (stAt b 7).o = true ∧ (stAt b 7).o.B ∧ (openL (stAt b 7).o).length ≤ b.length ∧ ∀ x ∈ (stAt b 7).o.caps, IsB x.data := by
  have h0 := none_le h (show 0 ≤ 7 by decide)
  have h1 := none_le h (show 1 ≤ 7 by decide)
  have h2 := none_le h (show 2 ≤ 7 by decide)
  have h3 := none_le h (show 3 ≤ 7 by decide)
  have h4 := none_le h (show 4 ≤ 7 by decide)
  have h5 := none_le h (show 5 ≤ 7 by decide)
  have h6 := none_le h (show 6 ≤ 7 by decide)
  obtain ⟨s1, s2, s3, s4⟩ := shape5 b h5
  obtain ⟨c1, o1⟩ := at1 (b := b) (by omega)
  obtain ⟨c2, o2⟩ := at2 h1
  obtain ⟨c3, o3⟩ := at3 h2
  obtain ⟨c4, o4⟩ := at4 h3
  obtain ⟨c5, o5⟩ := at5 h4
  rw [h2] at c2
  rw [h3] at c3
  rw [h4] at c4
  rw [h5] at c5
  have k2 := ite_none_neg c2.symm
  have k3 := ite_none_pos c3.symm
  have k4 := ite_none_neg c4.symm
  have k5 := ite_none_pos c5.symm
  have hO5 : (stAt b 5).o = ⟨big ((b.drop 1).take 2), big ((b.drop 3).take 2), big ((b.drop 5).take 4), []⟩ := by rw [o5, o4, o3, o2, o1]
  have b2 := big1_lt (b.drop 1) 2 (hB.drop 1) (by decide)
  have b2' : big ((b.drop 1).take 2) ≤ 65535 := by
    have := (big_bound ((b.drop 1).take 2) ((hB.drop 1).take 2)).2
    rw [show ((b.drop 1).take 2).length = 2 by rw [List.length_take, List.length_drop]; omega] at this
    omega
  have b3 := big1_lt (b.drop 3) 2 (hB.drop 3) (by decide)
  have b4 := big1_lt (b.drop 5) 4 (hB.drop 5) (by decide)
  have b9 : big ((b.drop 9).take 1) ≤ 255 := by
    have := (big_bound ((b.drop 9).take 1) ((hB.drop 9).take 1)).2
    rw [show ((b.drop 9).take 1).length = 1 by rw [List.length_take, List.length_drop]; omega] at this
    omega
  have hP5 : ParOk (stAt b 5).o b.length (stAt b 5) := fun _ => by
    refine ⟨by rw [s4]; rfl, .inl (by rw [s4]; rfl), by omega, by rw [s2, s3, List.length_drop]; omega, ?_⟩
    rw [s4, hO5]
  have e6 : stAt b 6 = iterP (stAt b 5).ys.length (stAt b 5) := nx_none h5
  have hP6 := ParOk.iter (stAt b 5).ys.length (stAt b 5) hP5
  rw [← e6] at hP6
  obtain ⟨p1, p2, p3, p4, p5⟩ := hP6 h6
  have hy6 : (stAt b 6).ys = [] := by rw [e6]; exact iter_done _ _ (Nat.le_refl _) (by rw [← e6]; exact h6)
  rw [hy6] at p4
  simp only [List.length_nil, Nat.add_zero] at p4
  have e7 : stAt b 7 = stNamed (stAt b 6) := nx_none h6
  have h7 := h
  rw [e7] at h7 ⊢
  unfold stNamed at h7 ⊢
  rw [h6] at h7
  have k7 := ite_none_neg h7
  rw [p4] at p2
  have hfl : (formC (stAt b 6).o.caps).length ≤ 253 := by
    rcases p2 with p2 | p2
    · rw [p2]; exact Nat.zero_le _
    · omega
  have hsy : (stAt b 6).o.sys = big ((b.drop 1).take 2) := by rw [p5, hO5]
  have hho : (stAt b 6).o.hold = big ((b.drop 3).take 2) := by rw [p5, hO5]
  have hid : (stAt b 6).o.id = big ((b.drop 5).take 4) := by rw [p5, hO5]
  have hI6 : ParIs (stAt b 6) := by
    rw [e6]
    exact ParIs.iter _ _ ⟨by rw [s2]; exact hB.drop _, by rw [s4]; intro x hx; cases hx⟩
  have hsv := sysV_bound hI6.2
  refine ⟨?_, ?_, ?_, hI6.2⟩
  · simp only [validO, p1, hfl, decide_true, Bool.true_and, Bool.and_eq_true, decide_eq_true_eq]
    refine ⟨⟨⟨k7, by rw [hid]; exact k4⟩, by rw [hho]; exact k3⟩, ?_⟩
    cases hsb : sysB (stAt b 6).o.caps with
    | true => simp
    | false => simp only [Bool.false_eq_true, if_false]; rw [hsy]; simpa using b2'
  · refine ⟨?_, ?_, ?_⟩
    · show 0 ≤ (if sysB (stAt b 6).o.caps = true then sysV (stAt b 6).o.caps else (stAt b 6).o.sys) ∧ (if sysB (stAt b 6).o.caps = true then sysV (stAt b 6).o.caps else (stAt b 6).o.sys) ≤ 4294967295
      split
      · exact hsv
      · rw [hsy]; omega
    · show -9223372036854775808 ≤ (stAt b 6).o.hold ∧ (stAt b 6).o.hold ≤ 9223372036854775807
      rw [hho]; omega
    · show 0 ≤ (stAt b 6).o.id ∧ (stAt b 6).o.id ≤ 4294967295
      rw [hid]; omega
  · show (4 :: (asL _ ++ (putL 2 _ ++ (putL 4 _ ++ (((paramL (formC (stAt b 6).o.caps)).length : Int) :: paramL (formC (stAt b 6).o.caps)))))).length ≤ b.length
    simp only [List.length_cons, List.length_append, asL_length, putL_length]
    unfold paramL
    rcases p2 with p2 | p2
    · rw [if_pos p2]; simp only [List.length_nil]; omega
    · split
      · simp only [List.length_nil]; omega
      · simp only [List.length_cons]; omega

/-- The form of an OPEN is bytes. -/
theorem openL_isB {o : OpenI} (hv : validO o = true) (hd : ∀ x ∈ o.caps, IsB x.data) : IsB (openL o) := by
  have hv' := hv
  simp only [validO, Bool.and_eq_true, decide_eq_true_eq] at hv'
  obtain ⟨⟨⟨⟨⟨v1, v2⟩, v3⟩, v4⟩, v5⟩, v6⟩ := hv'
  have hp := param_isB (form_isB v1 hd) v2
  have hl := param_len _ v2
  intro z hz
  simp only [openL, List.mem_cons, List.mem_append] at hz
  rcases hz with rfl | hz | hz | hz | rfl | hz
  · omega
  · unfold asL at hz
    split at hz
    · exact putL_isB _ _ z hz
    · exact putL_isB _ _ z hz
  · exact putL_isB _ _ z hz
  · exact putL_isB _ _ z hz
  · omega
  · exact hp z hz

/-- The form of a valid OPEN is parsed to it. -/
theorem parse_back (o : OpenI) (hv : validO o = true) (hB : o.B) : (stAt (openL o) 7).bad = none ∧ (stAt (openL o) 7).o = o := by
  have hv' := hv
  simp only [validO, Bool.and_eq_true, decide_eq_true_eq] at hv'
  obtain ⟨⟨⟨⟨⟨v1, v2⟩, v3⟩, v4⟩, v5⟩, v6⟩ := hv'
  obtain ⟨⟨b1, b2⟩, ⟨b3, b4⟩, ⟨b5, b6⟩⟩ := hB
  obtain ⟨s, h, i, cs⟩ := o
  simp only at *
  have v5' := v5
  simp only [timedB, decide_eq_true_eq] at v5'
  obtain ⟨x, hx⟩ : ∃ x, asL s = putL 2 x ∧ 0 ≤ x ∧ x ≤ 65535 ∧ x ≠ 0 ∧ (s ≤ 65535 → x = s) := by
    unfold asL
    by_cases hs : s ≤ 65535
    · exact ⟨s, by rw [if_pos hs], b1, hs, v3, fun _ => rfl⟩
    · exact ⟨23456, by rw [if_neg hs], by decide, by decide, by decide, fun h => absurd h hs⟩
  obtain ⟨x1, x2, x3, x4, x5⟩ := hx
  obtain ⟨P, hP⟩ : ∃ P, paramL (formC cs) = P := ⟨_, rfl⟩
  have hPl := param_len _ v2
  rw [hP] at hPl
  have eL : openL ⟨s, h, i, cs⟩ = 4 :: (x / 256 % 256) :: (x % 256) :: (h / 256 % 256) :: (h % 256) :: (i / 16777216 % 256) :: (i / 65536 % 256) :: (i / 256 % 256) :: (i % 256) :: (P.length : Int) :: P := by
    unfold openL
    simp only
    rw [x1, hP, putL_2, putL_2, putL_4]
    rfl
  rw [eL]
  obtain ⟨B, hBe⟩ : ∃ B, 4 :: (x / 256 % 256) :: (x % 256) :: (h / 256 % 256) :: (h % 256) :: (i / 16777216 % 256) :: (i / 65536 % 256) :: (i / 256 % 256) :: (i % 256) :: (P.length : Int) :: P = B := ⟨_, rfl⟩
  have hlen : B.length = 10 + P.length := by rw [← hBe]; simp only [List.length_cons]; omega
  have t0 : big (B.take 1) = 4 := by rw [← hBe]; rfl
  have t1 : big ((B.drop 1).take 2) = x := by
    have : (B.drop 1).take 2 = putL 2 x := by rw [← hBe, putL_2]; rfl
    rw [this]; exact big_putL 2 x x2 (by omega)
  have t3 : big ((B.drop 3).take 2) = h := by
    have : (B.drop 3).take 2 = putL 2 h := by rw [← hBe, putL_2]; rfl
    rw [this]; exact big_putL 2 h (by omega) (by omega)
  have t5 : big ((B.drop 5).take 4) = i := by
    have : (B.drop 5).take 4 = putL 4 i := by rw [← hBe, putL_4]; rfl
    rw [this]; exact big_putL 4 i b5 (by omega)
  have t9 : big ((B.drop 9).take 1) = (B.length : Int) - 10 := by
    have : (B.drop 9).take 1 = [(P.length : Int)] := by rw [← hBe]; rfl
    rw [this, hlen]
    simp only [big, List.foldl_cons, List.foldl_nil]
    omega
  have hd10 : B.drop 10 = P := by rw [← hBe]; rfl
  rw [hBe]
  obtain ⟨c1, o1⟩ := at1 (b := B) (by omega)
  rw [if_pos t0] at c1
  obtain ⟨c2, o2⟩ := at2 c1
  rw [t1, if_neg x4] at c2
  obtain ⟨c3, o3⟩ := at3 c2
  rw [t3, if_pos v5] at c3
  obtain ⟨c4, o4⟩ := at4 c3
  rw [t5, if_neg v4] at c4
  obtain ⟨c5, o5⟩ := at5 c4
  rw [if_pos t9] at c5
  obtain ⟨s1, s2, s3, s4⟩ := shape5 B c5
  have hO5 : (stAt B 5).o = ⟨x, h, i, []⟩ := by rw [o5, o4, o3, o2, o1, t1, t3, t5]
  have e6 : stAt B 6 = iterP (stAt B 5).ys.length (stAt B 5) := nx_none c5
  have h6 : (stAt B 6).bad = none ∧ (stAt B 6).o = ⟨x, h, i, cs⟩ := by
    by_cases hF : formC cs = []
    · have hP0 : P = [] := by rw [← hP]; unfold paramL; rw [if_pos hF]
      have hcs : cs = [] := form_inj cs [] (by rw [hF]; rfl)
      rw [e6, iterP_end _ _ (.inl (by rw [s2, hd10, hP0])), hcs]
      exact ⟨c5, hO5⟩
    · have hP1 : P = 2 :: ((formC cs).length : Int) :: formC cs := by rw [← hP]; unfold paramL; rw [if_neg hF]
      have hy5 : (stAt B 5).ys = 2 :: ((formC cs).length : Int) :: formC cs := by rw [s2, hd10, hP1]
      obtain ⟨f', hf', hgo⟩ := iterP_go (stAt B 5).ys.length (stAt B 5) (by rw [hy5]; simp) c5 (Nat.le_refl _)
      have hpar : stParam (stAt B 5) = ⟨{ (stAt B 5).o with caps := (stAt B 5).o.caps ++ cs }, [], (stAt B 5).t + 1 + 1 + (formC cs).length, none⟩ := by
        unfold stParam
        rw [hy5]
        simp only [Int.toNat_natCast, Nat.lt_irrefl, if_false, List.take_length, List.drop_length]
        rw [readC_form v1, c5]
        simp
      rw [e6, hgo, hpar, iterP_end _ _ (.inl rfl)]
      refine ⟨rfl, ?_⟩
      simp only
      rw [s4, hO5]
      rfl
  obtain ⟨g1, g2⟩ := h6
  have e7 : stAt B 7 = stNamed (stAt B 6) := nx_none g1
  have hs : (if sysB cs = true then sysV cs else x) = s := by
    by_cases hsb : sysB cs = true
    · rw [if_pos hsb] at v6 ⊢
      simpa using v6
    · rw [if_neg hsb] at v6 ⊢
      exact x5 (by simpa using v6)
  rw [e7]
  unfold stNamed
  rw [g1, g2]
  simp only
  rw [hs, if_neg v3]
  exact ⟨rfl, rfl⟩

end Go.Proofs.YtilfheociidloaaDoor

namespace Go.Proofs.YtilfheociidloaaDoor
open Go.RowKit
set_option linter.unusedVariables false
set_option linter.unusedSimpArgs false

/-- The form, or none. -/
def openF (o : OpenI) : List Int := if validO o then openL o else []
/-- What Bytes leaves, valid or not. -/
def BytesO (o : OpenI) (w : World) (e : Ending) (w' : World) : Prop := ∃ A c, e = .returned (.tuple #[.slice A (openF o).length c, .bool (validO o)]) ∧ Arr w' A (bs (openF o)) ∧ (openF o).length ≤ c ∧ c ≤ maxLen ∧ Kp NoB w w'
theorem obytes_any (o : OpenI) (A : Option Addr) (c : Nat) (cs : List Value) (w : World) (hb : o.B) (hx : CapL w o.caps cs) (ha : Arr w A cs) (hl : o.caps.length ≤ 1000000) (hf : (formC o.caps).length ≤ 100000) :
    Calls Tryd.prog 6 #[o.val A c] w (BytesO o w) := by
  by_cases hv : validO o = true
  · refine (obytes_yes o A c cs w hb hx ha hl hv).mono fun e w' ⟨A2, c2, h1, h2, h3⟩ => ?_
    obtain ⟨A', c', he, h4, h5, h6⟩ := own_form h2
    injection he with e1 _ e3
    subst e1 e3
    unfold BytesO openF
    rw [if_pos hv, hv]
    exact ⟨A2, c2, h1, h6, h4, h5, h3⟩
  · have hv' : validO o = false := by simpa using hv
    refine (obytes_no o A c cs w hb hx ha hl hf hv').mono fun e w' ⟨h1, h2⟩ => ?_
    unfold BytesO openF
    rw [if_neg hv, hv']
    exact ⟨none, 0, h1, Arr.nil _ _, Nat.le_refl _, by decide, h2⟩
theorem rbytes17_any (o : OpenI) (A : Option Addr) (c : Nat) (cs : List Value) (w : World) (hb : o.B) (hx : CapL w o.caps cs) (ha : Arr w A cs) (hl : o.caps.length ≤ 1000000) (hf : (formC o.caps).length ≤ 100000) :
    Calls Tryd.prog 8 #[o.val A c] w (BytesO o w) := by
  by_cases hv : validO o = true
  · refine (rbytes17_yes o A c cs w hb hx ha hl hv).mono fun e w' ⟨A2, c2, h1, h2, h3⟩ => ?_
    obtain ⟨A', c', he, h4, h5, h6⟩ := own_form h2
    injection he with e1 _ e3
    subst e1 e3
    unfold BytesO openF
    rw [if_pos hv, hv]
    exact ⟨A2, c2, h1, h6, h4, h5, h3⟩
  · have hv' : validO o = false := by simpa using hv
    refine (rbytes17_no o A c cs w hb hx ha hl hf hv').mono fun e w' ⟨h1, h2⟩ => ?_
    unfold BytesO openF
    rw [if_neg hv, hv']
    exact ⟨none, 0, h1, Arr.nil _ _, Nat.le_refl _, by decide, h2⟩
theorem openF_len (o : OpenI) (h : validO o = true → (formC o.caps).length ≤ 253) : (openF o).length ≤ 1000 := by
  unfold openF
  split
  · rename_i hv
    have h1 := param_len _ (h hv)
    simp only [openL, List.length_cons, List.length_append, asL_length, putL_length]
    omega
  · exact Nat.zero_le _

end Go.Proofs.YtilfheociidloaaDoor
