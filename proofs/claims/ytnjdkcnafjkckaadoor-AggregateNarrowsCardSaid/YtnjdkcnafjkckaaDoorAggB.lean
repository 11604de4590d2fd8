/- Chapter 8: Valid of the reference; Bytes of both sides. No condition but the bounds that arguments have. -/
import Derived.Test.YtnjdkcnafjkckaaDoorAggA
import Derived.Test.YtnjdkcnafjkckaaDoorCat0
import Derived.Test.YtnjdkcnafjkckaaDoorApp
namespace Go.Proofs.YtnjdkcnafjkckaaDoor
open Go.RowKit
set_option linter.unusedVariables false
set_option linter.unusedSimpArgs false

theorem validG_eq (width : Int) (z : AtI) (h0 : 0 ≤ z.n ∧ z.n < 4294967296) : validG width z = ((width == 2 || width == 4) && hasG z.t && z.bare && (sizeG width z.t == 4 || decide (z.n ≤ 65535))) := by
  unfold validG
  rw [fit_w _ _ h0.1 h0.2 (ofG_cases _ _)]
  unfold ofG hasG sizeG
  cases z.bare
  · simp
  · by_cases hw : width = 2 ∨ width = 4
    · by_cases h18 : z.t = 18
      · rcases hw with rfl | rfl <;> simp [h18]
      · by_cases h7 : z.t = 7
        · rcases hw with rfl | rfl <;> simp [h7]
        · simp [h7, h18]
    · have h2 : ¬ width = 2 := fun h => hw (.inl h)
      have h4 : ¬ width = 4 := fun h => hw (.inr h)
      simp [h2, h4]

set_option maxRecDepth 100000 in
set_option maxHeartbeats 1600000 in
theorem grvalid_any (width : Int) (z : AtI) (h0 : 0 ≤ z.n ∧ z.n < 4294967296) (w : World) : Calls Tryd.prog 17 #[.int .i64 width, z.val] w (Stay (.bool (validG width z)) w) := by
  have e := validG_eq width z h0
  have HB := Lib.hid (fun W => bare_any z W)
  have HH := Lib.hid (fun W => grhas_any z.t W)
  have HS := Lib.hid (fun W => gsize_any width z.t W)
  obtain ⟨B, hB⟩ : ∃ B, z.bare = B := ⟨_, rfl⟩
  obtain ⟨H, hH⟩ : ∃ B, hasG z.t = B := ⟨_, rfl⟩
  obtain ⟨K, hK⟩ : ∃ B, sizeG width z.t = B := ⟨_, rfl⟩
  rw [hB] at HB e
  rw [hH] at HH e
  rw [hK] at HS e
  rw [e]
  clear e hB hH hK
  unfold AtI.val AtI.cs at *
  by_cases h2 : width = 2
  · subst h2
    cases H
    · go_enter Tryd.func17, Tryd.ntmps17
      go_wp2_with (first
      | (go_at_call 24; refine Calls.mono (HH.out _) ?_; rintro e w1 ⟨rfl, hK⟩; obtain ⟨hk1', hZ'⟩ := fin_at (z := z) hK; have hk1 := Lib.hid hk1'; have hZ := Lib.hid hZ'; obtain ⟨x0, x1, x2, x3, x4, x5, x6, x7, x8⟩ := hZ'.attr; clear hK hk1' hZ')
      | (go_at_call 33; refine Calls.mono (HB.out _) ?_; rintro e w2 ⟨rfl, hK⟩; have hk2 := Lib.hid (hk1.out.and hK); have hZ2 := Lib.hid (hZ.out.and hK); clear x0 x1 x2 x3 x4 x5 x6 x7 x8; obtain ⟨x0, x1, x2, x3, x4, x5, x6, x7, x8⟩ := hZ2.out.attr; clear hK)
      | (go_at_call 37; refine Calls.mono (HS.out _) ?_; rintro e w3 ⟨rfl, hK⟩; have hk3 := Lib.hid (hk2.out.and hK); have hZ3 := Lib.hid (hZ2.out.and hK); clear x0 x1 x2 x3 x4 x5 x6 x7 x8; obtain ⟨x0, x1, x2, x3, x4, x5, x6, x7, x8⟩ := hZ3.out.attr; clear hK))
      go_ret
      exact ⟨rfl, hk1.out⟩
    · cases B
      · go_enter Tryd.func17, Tryd.ntmps17
        go_wp2_with (first
      | (go_at_call 24; refine Calls.mono (HH.out _) ?_; rintro e w1 ⟨rfl, hK⟩; obtain ⟨hk1', hZ'⟩ := fin_at (z := z) hK; have hk1 := Lib.hid hk1'; have hZ := Lib.hid hZ'; obtain ⟨x0, x1, x2, x3, x4, x5, x6, x7, x8⟩ := hZ'.attr; clear hK hk1' hZ')
      | (go_at_call 33; refine Calls.mono (HB.out _) ?_; rintro e w2 ⟨rfl, hK⟩; have hk2 := Lib.hid (hk1.out.and hK); have hZ2 := Lib.hid (hZ.out.and hK); clear x0 x1 x2 x3 x4 x5 x6 x7 x8; obtain ⟨x0, x1, x2, x3, x4, x5, x6, x7, x8⟩ := hZ2.out.attr; clear hK)
      | (go_at_call 37; refine Calls.mono (HS.out _) ?_; rintro e w3 ⟨rfl, hK⟩; have hk3 := Lib.hid (hk2.out.and hK); have hZ3 := Lib.hid (hZ2.out.and hK); clear x0 x1 x2 x3 x4 x5 x6 x7 x8; obtain ⟨x0, x1, x2, x3, x4, x5, x6, x7, x8⟩ := hZ3.out.attr; clear hK))
        go_ret
        exact ⟨rfl, hk2.out⟩
      · go_enter Tryd.func17, Tryd.ntmps17
        go_wp2_with (first
      | (go_at_call 24; refine Calls.mono (HH.out _) ?_; rintro e w1 ⟨rfl, hK⟩; obtain ⟨hk1', hZ'⟩ := fin_at (z := z) hK; have hk1 := Lib.hid hk1'; have hZ := Lib.hid hZ'; obtain ⟨x0, x1, x2, x3, x4, x5, x6, x7, x8⟩ := hZ'.attr; clear hK hk1' hZ')
      | (go_at_call 33; refine Calls.mono (HB.out _) ?_; rintro e w2 ⟨rfl, hK⟩; have hk2 := Lib.hid (hk1.out.and hK); have hZ2 := Lib.hid (hZ.out.and hK); clear x0 x1 x2 x3 x4 x5 x6 x7 x8; obtain ⟨x0, x1, x2, x3, x4, x5, x6, x7, x8⟩ := hZ2.out.attr; clear hK)
      | (go_at_call 37; refine Calls.mono (HS.out _) ?_; rintro e w3 ⟨rfl, hK⟩; have hk3 := Lib.hid (hk2.out.and hK); have hZ3 := Lib.hid (hZ2.out.and hK); clear x0 x1 x2 x3 x4 x5 x6 x7 x8; obtain ⟨x0, x1, x2, x3, x4, x5, x6, x7, x8⟩ := hZ3.out.attr; clear hK))
        all_goals go_ret
        all_goals refine ⟨congrArg Ending.returned (show Value.bool _ = Value.bool _ from congrArg Value.bool ?_), hk3.out⟩
        all_goals clear HB HH HS x0 x1 x2 x3 x4 x5 x6 x7 x8
        all_goals first | rfl | (simp_all; done) | (rw [Bool.eq_iff_iff]; simp_all; done)
  by_cases h4 : width = 4
  · subst h4
    cases H
    · go_enter Tryd.func17, Tryd.ntmps17
      go_wp2_with (first
      | (go_at_call 24; refine Calls.mono (HH.out _) ?_; rintro e w1 ⟨rfl, hK⟩; obtain ⟨hk1', hZ'⟩ := fin_at (z := z) hK; have hk1 := Lib.hid hk1'; have hZ := Lib.hid hZ'; obtain ⟨x0, x1, x2, x3, x4, x5, x6, x7, x8⟩ := hZ'.attr; clear hK hk1' hZ')
      | (go_at_call 33; refine Calls.mono (HB.out _) ?_; rintro e w2 ⟨rfl, hK⟩; have hk2 := Lib.hid (hk1.out.and hK); have hZ2 := Lib.hid (hZ.out.and hK); clear x0 x1 x2 x3 x4 x5 x6 x7 x8; obtain ⟨x0, x1, x2, x3, x4, x5, x6, x7, x8⟩ := hZ2.out.attr; clear hK)
      | (go_at_call 37; refine Calls.mono (HS.out _) ?_; rintro e w3 ⟨rfl, hK⟩; have hk3 := Lib.hid (hk2.out.and hK); have hZ3 := Lib.hid (hZ2.out.and hK); clear x0 x1 x2 x3 x4 x5 x6 x7 x8; obtain ⟨x0, x1, x2, x3, x4, x5, x6, x7, x8⟩ := hZ3.out.attr; clear hK))
      go_ret
      exact ⟨rfl, hk1.out⟩
    · cases B
      · go_enter Tryd.func17, Tryd.ntmps17
        go_wp2_with (first
      | (go_at_call 24; refine Calls.mono (HH.out _) ?_; rintro e w1 ⟨rfl, hK⟩; obtain ⟨hk1', hZ'⟩ := fin_at (z := z) hK; have hk1 := Lib.hid hk1'; have hZ := Lib.hid hZ'; obtain ⟨x0, x1, x2, x3, x4, x5, x6, x7, x8⟩ := hZ'.attr; clear hK hk1' hZ')
      | (go_at_call 33; refine Calls.mono (HB.out _) ?_; rintro e w2 ⟨rfl, hK⟩; have hk2 := Lib.hid (hk1.out.and hK); have hZ2 := Lib.hid (hZ.out.and hK); clear x0 x1 x2 x3 x4 x5 x6 x7 x8; obtain ⟨x0, x1, x2, x3, x4, x5, x6, x7, x8⟩ := hZ2.out.attr; clear hK)
      | (go_at_call 37; refine Calls.mono (HS.out _) ?_; rintro e w3 ⟨rfl, hK⟩; have hk3 := Lib.hid (hk2.out.and hK); have hZ3 := Lib.hid (hZ2.out.and hK); clear x0 x1 x2 x3 x4 x5 x6 x7 x8; obtain ⟨x0, x1, x2, x3, x4, x5, x6, x7, x8⟩ := hZ3.out.attr; clear hK))
        go_ret
        exact ⟨rfl, hk2.out⟩
      · go_enter Tryd.func17, Tryd.ntmps17
        go_wp2_with (first
      | (go_at_call 24; refine Calls.mono (HH.out _) ?_; rintro e w1 ⟨rfl, hK⟩; obtain ⟨hk1', hZ'⟩ := fin_at (z := z) hK; have hk1 := Lib.hid hk1'; have hZ := Lib.hid hZ'; obtain ⟨x0, x1, x2, x3, x4, x5, x6, x7, x8⟩ := hZ'.attr; clear hK hk1' hZ')
      | (go_at_call 33; refine Calls.mono (HB.out _) ?_; rintro e w2 ⟨rfl, hK⟩; have hk2 := Lib.hid (hk1.out.and hK); have hZ2 := Lib.hid (hZ.out.and hK); clear x0 x1 x2 x3 x4 x5 x6 x7 x8; obtain ⟨x0, x1, x2, x3, x4, x5, x6, x7, x8⟩ := hZ2.out.attr; clear hK)
      | (go_at_call 37; refine Calls.mono (HS.out _) ?_; rintro e w3 ⟨rfl, hK⟩; have hk3 := Lib.hid (hk2.out.and hK); have hZ3 := Lib.hid (hZ2.out.and hK); clear x0 x1 x2 x3 x4 x5 x6 x7 x8; obtain ⟨x0, x1, x2, x3, x4, x5, x6, x7, x8⟩ := hZ3.out.attr; clear hK))
        all_goals go_ret
        all_goals refine ⟨congrArg Ending.returned (show Value.bool _ = Value.bool _ from congrArg Value.bool ?_), hk3.out⟩
        all_goals clear HB HH HS x0 x1 x2 x3 x4 x5 x6 x7 x8
        all_goals first | rfl | (simp_all; done) | (rw [Bool.eq_iff_iff]; simp_all; done)
  rw [show ((width == 2 || width == 4) && H && B && (K == 4 || decide (z.n ≤ 65535))) = false by simp [h2, h4]]
  go_enter Tryd.func17, Tryd.ntmps17
  go_wp2
  go_ret
  exact ⟨rfl, (Kp.refl _ _).alloc _⟩

/-- A literal of two byte strings. -/
theorem two_strings (w : World) (T : TypeId) (v1 v2 : Value) (xs ys : List Int) (h1 : ByE (w.alloc (.cells #[v1, v2] T)) xs [v1]) (h2 : ByE (w.alloc (.cells #[v1, v2] T)) ys [v2]) :
    Sl ByE 1 (w.alloc (.cells #[v1, v2] T)) (some ⟨w.heap.size, 0, none⟩) [xs, ys] := fun _ =>
  ⟨_, rfl, fun j x hx => by
    have hj : j < 2 := by have := (List.getElem?_eq_some_iff.1 hx).1; simpa using this
    match j, hj with
    | 0, _ =>
      simp at hx; subst hx
      exact ⟨[v1], rfl, h1, fun i u hu => by
        have hi : i = 0 := by have := (List.getElem?_eq_some_iff.1 hu).1; simp at this; omega
        subst hi; simp at hu; subst hu; rw [add_none]; simp⟩
    | 1, _ =>
      simp at hx; subst hx
      exact ⟨[v2], rfl, h2, fun i u hu => by
        have hi : i = 0 := by have := (List.getElem?_eq_some_iff.1 hu).1; simp at this; omega
        subst hi; simp at hu; subst hu; rw [add_none]; simp⟩⟩

/-- The bytes of an attribute. -/
def bytesG (width : Int) (z : AtI) : List Int := if validG width z then putL (ofG width z.t).toNat z.n ++ putL 4 z.m else []
/-- What Bytes leaves. -/
def GBytesM (w : World) (width : Int) (z : AtI) (e : Ending) (w' : World) : Prop :=
  ∃ A c, e = .returned (.tuple #[.slice A (bytesG width z).length c, .bool (validG width z)]) ∧ Arr w' A (bs (bytesG width z)) ∧ (bytesG width z).length ≤ c ∧ c ≤ maxLen ∧ Kp NoB w w'

theorem gbytes_bad (width : Int) (z : AtI) (ok : z.Ok) (hv : validG width z = false) (w : World) : Calls Tryd.prog 18 #[.int .i64 width, z.val] w (Stay (.tuple #[.slice none 0 0, .bool false]) w) := by
  have HV := Lib.hid (fun W => gvalid_any width z ok W)
  simp only [hv] at HV
  unfold AtI.val AtI.cs at *
  go_enter Tryd.func18, Tryd.ntmps18
  go_wp2_with (go_at_call 16; refine Calls.mono (HV.out _) ?_; rintro e w1 ⟨rfl, hK⟩; have hk1 := Lib.hid (((Kp.refl NoB w).alloc _).and hK); clear hK)
  go_ret2
  exact ⟨rfl, hk1.out⟩

/-- A valid attribute: its width, and that its number fits. -/
theorem validG_k {width : Int} {z : AtI} (hn : 0 ≤ z.n ∧ z.n < 4294967296) (hv : validG width z = true) : ∃ K : Nat, ofG width z.t = K ∧ (K = 2 ∧ z.n ≤ 65535 ∨ K = 4) ∧ z.bare = true ∧ (width = 2 ∨ width = 4) ∧ (z.t = 7 ∨ z.t = 18) := by
  unfold validG at hv
  simp only [Bool.and_eq_true, decide_eq_true_eq] at hv
  obtain ⟨⟨h1, h2⟩, h3⟩ := hv
  have hc := ofG_cases width z.t
  have hw : (width = 2 ∨ width = 4) ∧ (z.t = 7 ∨ z.t = 18) := by
    unfold ofG at h1
    split at h1
    · assumption
    · omega
  rcases hc with h | h | h
  · omega
  · refine ⟨2, h, .inl ⟨rfl, ?_⟩, h3, hw⟩
    rw [h] at h2
    simp [fits] at h2
    omega
  · exact ⟨4, h, .inr rfl, h3, hw⟩

theorem put_k {K : Nat} {x : Int} (hk : K = 2 ∧ x ≤ 65535 ∨ K = 4) (h0 : 0 ≤ x) (h1 : x < 4294967296) (w : World) :
    Calls Tryd.prog 35 #[.int .i64 K, .int .u32 x] w (PutYes w K x) := by
  rcases hk with ⟨rfl, h⟩ | rfl
  · exact put_yes2 x w h0 (by omega)
  · exact put_yes4 x w h0 h1

theorem byE_own {w : World} {base : Nat} {A : Option Addr} {c K : Nat} {x : Int} (h : w.ownsRow base 5 1 (.slice A K c) K (bs (putL K x))) : ByE w (putL K x) [.slice A K c] := by
  obtain ⟨A', c', he, h1, h2, h3⟩ := own_form h
  injection he with e1 _ e3
  subst e1 e3
  exact ⟨A, c, by rw [putL_length], by rw [putL_length]; exact h1, h2, h3, putL_isB _ _⟩

set_option maxRecDepth 100000 in
set_option maxHeartbeats 1600000 in
theorem gbytes_good (width : Int) (z : AtI) (ok : z.Ok) (hv : validG width z = true) (w : World) : Calls Tryd.prog 18 #[.int .i64 width, z.val] w (GBytesM w width z) := by
  have HV := Lib.hid (fun W => gvalid_any width z ok W)
  obtain ⟨K, hK, hk, -, -⟩ := validG_k ok.n hv
  have hB : bytesG width z = catL [putL K z.n, putL 4 z.m] := by unfold bytesG; rw [if_pos hv, hK]; simp [catL]
  have hK4 : K ≤ 4 := by omega
  have hl : (catL [putL K z.n, putL 4 z.m]).length ≤ 8 := by simp [catL, putL_length]; omega
  have HO := Lib.hid (fun W => gof_any width z.t W)
  have HP := Lib.hid (fun W => put_k hk ok.n.1 ok.n.2 W)
  have HQ := Lib.hid (fun W => put_yes4 z.m W ok.m.1 ok.m.2)
  have HC := Lib.hid (fun W A (h : Sl ByE 1 W A [putL K z.n, putL 4 z.m]) => cat_any A 2 [putL K z.n, putL 4 z.m] W h (by simp) (by omega))
  have HF := Lib.hid (fun (A : Option Addr) (c : Nat) (w' : World) (h1 : (catL [putL K z.n, putL 4 z.m]).length ≤ c) (h2 : c ≤ maxLen) (h : Arr w' A (bs (catL [putL K z.n, putL 4 z.m]))) (hK : Kp NoB w w') => (show GBytesM w width z (.returned (.tuple #[.slice A (catL [putL K z.n, putL 4 z.m]).length c, .bool true])) w' from ⟨A, c, by rw [hB, hv], by rw [hB]; exact h, by rw [hB]; exact h1, h2, hK⟩))
  rw [hK] at HO
  simp only [hv] at HV
  unfold PutYes at HP HQ
  unfold Joined at HC
  clear hB hl hK hk hK4 hv ok
  unfold AtI.val AtI.cs at *
  go_enter Tryd.func18, Tryd.ntmps18
  go_wp2_with (go_at_call 16; refine Calls.mono (HV.out _) ?_; rintro e w1 ⟨rfl, hK⟩; obtain ⟨hk1', hZ'⟩ := fin_at (z := z) hK; have hk1 := Lib.hid hk1'; have hZ := Lib.hid hZ'; obtain ⟨x0, x1, x2, x3, x4, x5, x6, x7, x8⟩ := hZ'.attr; clear hK hk1' hZ')
  go_region_held3 (fun w' => w'.cell? ⟨w.heap.size, 0, none⟩ = some (.int .i64 z.t) ∧ w'.cell? ⟨w.heap.size, 2, none⟩ = some (.int .u32 z.n)) (go_keep)
    (first
      | (go_at_call 34; refine Calls.mono (HO.out _) ?_; rintro e w2 ⟨rfl, hK⟩; have hk2 := Lib.hid (hk1.out.drew.and hK); have hZ2 := Lib.hid ((bk_drew hZ.out).and hK); clear x0 x1 x2 x3 x4 x5 x6 x7 x8; obtain ⟨x0, x1, x2, x3, x4, x5, x6, x7, x8⟩ := hZ2.out.attr; clear hK)
      | (go_at_call 35; refine Calls.mono (HP.out _) ?_; rintro e w3 ⟨A3, c3, rfl, hown3, hK⟩; have hk3 := Lib.hid (hk2.out.and hK); have hZ3 := Lib.hid (hZ2.out.and hK); have hb3 := Lib.hid (byE_own hown3); clear x0 x1 x2 x3 x4 x5 x6 x7 x8 hown3; obtain ⟨x0, x1, x2, x3, x4, x5, x6, x7, x8⟩ := hZ3.out.attr; clear hK))
  go_wp2_with (first
    | (go_at_call 35; refine Calls.mono (HQ.out _) ?_; rintro e w4 ⟨A4, c4, rfl, hown4, hK⟩; have hk4 := Lib.hid (hk3.out.and hK); have hb4 := Lib.hid (byE_own hown4); have hb34 := Lib.hid (ByE.and hK _ _ hb3.out); clear hK hown4)
    | (go_at_call 38; refine Calls.mono (HC.out _ _ (two_strings w4 27 _ _ _ _ (ByE.and ((Kp.refl NoB w4).alloc _) _ _ hb34.out) (ByE.and ((Kp.refl NoB w4).alloc _) _ _ hb4.out))) ?_; rintro e w5 ⟨A5, c5, rfl, hown5, hK⟩; have hk5 := Lib.hid ((hk4.out.alloc _).and hK); clear hK))
  go_ret2
  obtain ⟨A', c', he, h1, h2, h3⟩ := own_form hown5
  injection he with e1 _ e3
  subst e1 e3
  exact HF.out _ _ _ h1 h2 h3 hk5.out

theorem gbytes_any (width : Int) (z : AtI) (ok : z.Ok) (w : World) : Calls Tryd.prog 18 #[.int .i64 width, z.val] w (GBytesM w width z) := by
  cases hv : validG width z with
  | false => exact (gbytes_bad width z ok hv w).mono fun e w' ⟨he, hK⟩ => ⟨none, 0, by unfold bytesG; rw [he, hv]; rfl, by unfold bytesG; rw [hv]; exact Arr.nil _ _, by unfold bytesG; rw [hv]; exact Nat.le_refl _, by simp [maxLen], hK⟩
  | true => exact gbytes_good width z ok hv w

end Go.Proofs.YtnjdkcnafjkckaaDoor
