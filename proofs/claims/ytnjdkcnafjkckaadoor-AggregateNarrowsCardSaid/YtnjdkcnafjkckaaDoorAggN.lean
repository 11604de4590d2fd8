/- Chapter 8: Narrow of both sides. No condition but the bounds that arguments have. -/
import Derived.Test.YtnjdkcnafjkckaaDoorAggMer
import Derived.Test.YtnjdkcnafjkckaaDoorAggWid
import Derived.RegionTactic
namespace Go.Proofs.YtnjdkcnafjkckaaDoor
open Go.RowKit
set_option linter.unusedVariables false
set_option linter.unusedSimpArgs false

/-- What Narrow returns. -/
def narL (z : AtI) : List AtI := if z.t = 7 ∧ validG 4 z = true then (if validG 2 z then [z] else [{ z with n := 23456 }, { z with t := 18 }]) else []
/-- What it leaves. -/
def NarM (w : World) (l : List AtI) (e : Ending) (w' : World) : Prop := ∃ A c, e = .returned (.slice A l.length c) ∧ AtsL w' A l ∧ Kp NoB w w'

theorem ats_one {w : World} {b : Nat} {t : TypeId} {z : AtI} (h : Bk w b t z.cs) : AtsL w (some ⟨b, 0, none⟩) [z] := fun _ =>
  ⟨_, rfl, fun j x hx => by
    have hj : j = 0 := by have := (List.getElem?_eq_some_iff.1 hx).1; simp at this; omega
    subst hj
    simp at hx
    subst hx
    exact ⟨AtF z, rfl, rfl, fun i u hu => by rw [add_none, h.cell]; simpa [AtF] using hu⟩⟩
theorem ats_two {w : World} {b : Nat} {t : TypeId} {z y : AtI} {cs : List Value} (h : Bk w b t cs.toArray) (hc : cs = AtF z ++ AtF y) : AtsL w (some ⟨b, 0, none⟩) [z, y] := fun _ =>
  ⟨_, rfl, fun j x hx => by
    subst hc
    have hj : j < 2 := by have := (List.getElem?_eq_some_iff.1 hx).1; simpa using this
    match j, hj with
    | 0, _ =>
      simp at hx; subst hx
      refine ⟨AtF z, rfl, rfl, fun i u hu => ?_⟩
      have hi : i < 9 := (List.getElem?_eq_some_iff.1 hu).1
      rw [add_none, h.cell, List.getElem?_toArray, Nat.zero_mul, Nat.zero_add, Nat.zero_add, List.getElem?_append_left (by show i < 9; omega)]
      exact hu
    | 1, _ =>
      simp at hx; subst hx
      refine ⟨AtF y, rfl, rfl, fun i u hu => ?_⟩
      have hi : i < 9 := (List.getElem?_eq_some_iff.1 hu).1
      rw [add_none, h.cell, List.getElem?_toArray, List.getElem?_append_right (by show 9 ≤ 0 + (1 * 9 + i); omega)]
      rw [show 0 + (1 * 9 + i) - (AtF z).length = i by show 0 + (1 * 9 + i) - 9 = i; omega]
      exact hu⟩

theorem narrow_none (z : AtI) (ok : z.Ok) (hv : ¬ (z.t = 7 ∧ validG 4 z = true)) (w : World) : Calls Tryd.prog 13 #[z.val] w (Stay (.slice none 0 0) w) := by
  have HV := Lib.hid (fun W => gvalid_any 4 z ok W)
  by_cases h7 : z.t = 7
  · have h4 : validG 4 z = false := by
      cases h : validG 4 z with
      | false => rfl
      | true => exact absurd ⟨h7, h⟩ hv
    rw [h4] at HV
    clear hv h4 ok
    obtain ⟨t, p, n, m, S, sn, sc, L, ln, lc, B, bn, bc, f, R, rn, rc⟩ := z
    simp only at h7
    subst h7
    unfold AtI.val AtI.cs at *
    go_enter Tryd.func13, Tryd.ntmps13
    go_wp2_with (go_at_call 16; refine Calls.mono (HV.out _) ?_; rintro e w1 ⟨rfl, hK⟩; have hk1 := Lib.hid (((Kp.refl NoB w).alloc _).and hK); clear hK)
    go_ret
    exact ⟨rfl, hk1.out⟩
  · clear hv ok HV
    unfold AtI.val AtI.cs at *
    go_enter Tryd.func13, Tryd.ntmps13
    go_wp2
    go_ret
    exact ⟨rfl, (Kp.refl _ _).alloc _⟩

set_option maxRecDepth 100000 in
set_option maxHeartbeats 1600000 in
theorem narrow_two (p : Bool) (n m : Int) (S : Option Addr) (sn sc : Nat) (L : Option Addr) (ln lc : Nat) (B : Option Addr) (bn bc : Nat) (f : Int) (R : Option Addr) (rn rc : Nat) (ok : (AtI.mk 7 p n m S sn sc L ln lc B bn bc f R rn rc).Ok)
    (h4 : validG 4 (AtI.mk 7 p n m S sn sc L ln lc B bn bc f R rn rc) = true) (h2 : validG 2 (AtI.mk 7 p n m S sn sc L ln lc B bn bc f R rn rc) = false) (w : World) :
    Calls Tryd.prog 13 #[(AtI.mk 7 p n m S sn sc L ln lc B bn bc f R rn rc).val] w (NarM w [AtI.mk 7 p 23456 m S sn sc L ln lc B bn bc f R rn rc, AtI.mk 18 p n m S sn sc L ln lc B bn bc f R rn rc]) := by
  have HV := Lib.hid (fun W => gvalid_any 4 _ ok W)
  have HW := Lib.hid (fun W => gvalid_any 2 _ ok W)
  rw [h4] at HV
  rw [h2] at HW
  clear h4 h2 ok
  unfold AtI.val AtI.cs at *
  go_enter Tryd.func13, Tryd.ntmps13
  go_wp2_with (first
    | (go_at_call 16; (with_reducible refine Calls.mono (HV.out _) ?_); rintro e w1 ⟨rfl, hK⟩; obtain ⟨hk1', hZ'⟩ := fin_at (z := ⟨7, p, n, m, S, sn, sc, L, ln, lc, B, bn, bc, f, R, rn, rc⟩) hK; have hk1 := Lib.hid hk1'; have hZ := Lib.hid hZ'; obtain ⟨x0, x1, x2, x3, x4, x5, x6, x7, x8⟩ := hZ'.attr; clear hK hk1' hZ')
    | (go_at_call 16; (with_reducible refine Calls.mono (HW.out _) ?_); rintro e w2 ⟨rfl, hK⟩; have hk2 := Lib.hid (hk1.out.and hK); have hZ2 := Lib.hid (hZ.out.and hK); clear x0 x1 x2 x3 x4 x5 x6 x7 x8; obtain ⟨x0, x1, x2, x3, x4, x5, x6, x7, x8⟩ := hZ2.out.attr; have hlt2 : w.heap.size < w2.heap.size := hZ2.out.lt; have hne2 := Nat.ne_of_lt hlt2; clear hK))
  go_region
  all_goals
    go_wp2
    go_ret
    exact ⟨some ⟨w2.heap.size + 1 + 1, 0, none⟩, 2, rfl, ats_two (bk_drew (Bk.third w2 _ _ 30 _)) rfl, (((hk2.out.alloc _).alloc _).alloc _).drew⟩

set_option maxRecDepth 100000 in
set_option maxHeartbeats 1600000 in
theorem narrow_one (p : Bool) (n m : Int) (S : Option Addr) (sn sc : Nat) (L : Option Addr) (ln lc : Nat) (B : Option Addr) (bn bc : Nat) (f : Int) (R : Option Addr) (rn rc : Nat) (ok : (AtI.mk 7 p n m S sn sc L ln lc B bn bc f R rn rc).Ok)
    (h4 : validG 4 (AtI.mk 7 p n m S sn sc L ln lc B bn bc f R rn rc) = true) (h2 : validG 2 (AtI.mk 7 p n m S sn sc L ln lc B bn bc f R rn rc) = true) (w : World) :
    Calls Tryd.prog 13 #[(AtI.mk 7 p n m S sn sc L ln lc B bn bc f R rn rc).val] w (NarM w [AtI.mk 7 p n m S sn sc L ln lc B bn bc f R rn rc]) := by
  have HV := Lib.hid (fun W => gvalid_any 4 _ ok W)
  have HW := Lib.hid (fun W => gvalid_any 2 _ ok W)
  rw [h4] at HV
  rw [h2] at HW
  clear h4 h2 ok
  unfold AtI.val AtI.cs at *
  go_enter Tryd.func13, Tryd.ntmps13
  go_wp2_with (first
    | (go_at_call 16; (with_reducible refine Calls.mono (HV.out _) ?_); rintro e w1 ⟨rfl, hK⟩; obtain ⟨hk1', hZ'⟩ := fin_at (z := ⟨7, p, n, m, S, sn, sc, L, ln, lc, B, bn, bc, f, R, rn, rc⟩) hK; have hk1 := Lib.hid hk1'; have hZ := Lib.hid hZ'; obtain ⟨x0, x1, x2, x3, x4, x5, x6, x7, x8⟩ := hZ'.attr; clear hK hk1' hZ')
    | (go_at_call 16; (with_reducible refine Calls.mono (HW.out _) ?_); rintro e w2 ⟨rfl, hK⟩; have hk2 := Lib.hid (hk1.out.and hK); have hZ2 := Lib.hid (hZ.out.and hK); clear x0 x1 x2 x3 x4 x5 x6 x7 x8; obtain ⟨x0, x1, x2, x3, x4, x5, x6, x7, x8⟩ := hZ2.out.attr; clear hK))
  go_ret
  exact ⟨some ⟨w2.heap.size, 0, none⟩, 1, rfl, ats_one (Bk.fresh w2 30 _), hk2.out.alloc _⟩

theorem narrow_any (z : AtI) (ok : z.Ok) (w : World) : Calls Tryd.prog 13 #[z.val] w (NarM w (narL z)) := by
  unfold narL
  by_cases h : z.t = 7 ∧ validG 4 z = true
  · rw [if_pos h]
    obtain ⟨t, p, n, m, S, sn, sc, L, ln, lc, B, bn, bc, f, R, rn, rc⟩ := z
    obtain ⟨h7, h4⟩ := h
    simp only at h7
    subst h7
    cases h2 : validG 2 (AtI.mk 7 p n m S sn sc L ln lc B bn bc f R rn rc) with
    | true => exact narrow_one _ _ _ _ _ _ _ _ _ _ _ _ _ _ _ _ ok h4 h2 w
    | false => exact narrow_two _ _ _ _ _ _ _ _ _ _ _ _ _ _ _ _ ok h4 h2 w
  · rw [if_neg h]
    exact (narrow_none z ok h w).mono fun e w' ⟨he, hK⟩ => ⟨none, 0, he, Sl.nil _ _ _ _, hK⟩

/-! ### the reference -/
/-- What the reference's Narrow returns. -/
def narR (z : AtI) : List AtI := if z.t = 7 ∧ validG 4 z = true then (if z.n ≤ 65535 then [z] else [{ mkG 7 23456 z.m with p := z.p }, { mkG 18 z.n z.m with p := z.p }]) else []

theorem rnarrow_none (z : AtI) (hn : 0 ≤ z.n ∧ z.n < 4294967296) (hv : ¬ (z.t = 7 ∧ validG 4 z = true)) (w : World) : Calls Tryd.prog 15 #[z.val] w (Stay (.slice none 0 0) w) := by
  have HV := Lib.hid (fun W => grvalid_any 4 z hn W)
  obtain ⟨V, hV⟩ : ∃ V, validG 4 z = V := ⟨_, rfl⟩
  rw [hV] at HV hv
  clear hV
  cases V
  · clear hv
    unfold AtI.val AtI.cs at *
    go_enter Tryd.func15, Tryd.ntmps15
    go_wp2_with (go_at_call 17; refine Calls.mono (HV.out _) ?_; rintro e w1 ⟨rfl, hK⟩; have hk1 := Lib.hid (((Kp.refl NoB w).alloc _).and hK); clear hK)
    go_ret
    exact ⟨rfl, hk1.out⟩
  · have h7 : ¬ z.t = 7 := fun h => hv ⟨h, rfl⟩
    clear hv
    unfold AtI.val AtI.cs at *
    go_enter Tryd.func15, Tryd.ntmps15
    go_wp2_with (go_at_call 17; refine Calls.mono (HV.out _) ?_; rintro e w1 ⟨rfl, hK⟩; obtain ⟨hk1', hZ'⟩ := fin_at (z := z) hK; have hk1 := Lib.hid hk1'; obtain ⟨x0, x1, x2, x3, x4, x5, x6, x7, x8⟩ := hZ'.attr; clear hK hk1' hZ')
    go_ret
    exact ⟨rfl, hk1.out⟩

set_option maxRecDepth 100000 in
set_option maxHeartbeats 1600000 in
theorem rnarrow_yes (p : Bool) (n m : Int) (S : Option Addr) (sn sc : Nat) (L : Option Addr) (ln lc : Nat) (B : Option Addr) (bn bc : Nat) (f : Int) (R : Option Addr) (rn rc : Nat) (hn : 0 ≤ n ∧ n < 4294967296)
    (h4 : validG 4 (AtI.mk 7 p n m S sn sc L ln lc B bn bc f R rn rc) = true) (w : World) :
    Calls Tryd.prog 15 #[(AtI.mk 7 p n m S sn sc L ln lc B bn bc f R rn rc).val] w (NarM w (if n ≤ 65535 then [AtI.mk 7 p n m S sn sc L ln lc B bn bc f R rn rc] else [{ mkG 7 23456 m with p := p }, { mkG 18 n m with p := p }])) := by
  have HV := Lib.hid (fun W => grvalid_any 4 (AtI.mk 7 p n m S sn sc L ln lc B bn bc f R rn rc) hn W)
  rw [h4] at HV
  clear h4
  by_cases h5 : n ≤ 65535
  · rw [if_pos h5]
    unfold AtI.val AtI.cs at *
    go_enter Tryd.func15, Tryd.ntmps15
    go_wp2_with (go_at_call 17; (with_reducible refine Calls.mono (HV.out _) ?_); rintro e w1 ⟨rfl, hK⟩; obtain ⟨hk1', hZ'⟩ := fin_at (z := ⟨7, p, n, m, S, sn, sc, L, ln, lc, B, bn, bc, f, R, rn, rc⟩) hK; have hk1 := Lib.hid hk1'; obtain ⟨x0, x1, x2, x3, x4, x5, x6, x7, x8⟩ := hZ'.attr; clear hK hk1' hZ')
    go_ret
    exact ⟨some ⟨w1.heap.size, 0, none⟩, 1, rfl, ats_one (Bk.fresh w1 30 _), hk1.out.alloc _⟩
  · rw [if_neg h5]
    unfold AtI.val AtI.cs at *
    go_enter Tryd.func15, Tryd.ntmps15
    go_wp2_with (go_at_call 17; (with_reducible refine Calls.mono (HV.out _) ?_); rintro e w1 ⟨rfl, hK⟩; obtain ⟨hk1', hZ'⟩ := fin_at (z := ⟨7, p, n, m, S, sn, sc, L, ln, lc, B, bn, bc, f, R, rn, rc⟩) hK; have hk1 := Lib.hid hk1'; obtain ⟨x0, x1, x2, x3, x4, x5, x6, x7, x8⟩ := hZ'.attr; clear hK hk1' hZ')
    go_ret
    exact ⟨some ⟨w1.heap.size, 0, none⟩, 2, rfl, ats_two (Bk.fresh w1 30 _) rfl, hk1.out.alloc _⟩

theorem rnarrow_any (z : AtI) (hn : 0 ≤ z.n ∧ z.n < 4294967296) (w : World) : Calls Tryd.prog 15 #[z.val] w (NarM w (narR z)) := by
  unfold narR
  by_cases h : z.t = 7 ∧ validG 4 z = true
  · rw [if_pos h]
    obtain ⟨t, p, n, m, S, sn, sc, L, ln, lc, B, bn, bc, f, R, rn, rc⟩ := z
    obtain ⟨h7, h4⟩ := h
    simp only at h7
    subst h7
    exact rnarrow_yes _ _ _ _ _ _ _ _ _ _ _ _ _ _ _ _ hn h4 w
  · rw [if_neg h]
    exact (rnarrow_none z hn h w).mono fun e w' ⟨he, hK⟩ => ⟨none, 0, he, Sl.nil _ _ _ _, hK⟩

/-! ### slices.EqualFunc with the reference's Same -/
/-- The same numbers, no other fields. -/
def alikeG (a b : AtI) : Prop := b.t = a.t ∧ b.p = a.p ∧ b.n = a.n ∧ b.m = a.m ∧ a.bare = true ∧ b.bare = true

set_option maxRecDepth 100000 in
set_option maxHeartbeats 2000000 in
theorem efunc_eq (A B : Option Addr) (c d : Nat) (zs ys : List AtI) (w : World) (ha : AtsL w A zs) (hb : AtsL w B ys) (hn : zs.length ≤ 1000) (he : ys.length = zs.length) (hs : ∀ (j : Nat) (h : j < zs.length), alikeG zs[j] (ys[j]'(by omega))) :
    Calls Tryd.prog 14 #[.slice A zs.length c, .slice B ys.length d, .func (.func 12) #[] #[]] w (Stay (.bool true) w) := by
  have HA := Lib.hid ha
  have HB := Lib.hid hb
  have HS := Lib.hid (fun (j : Nat) (h : j < zs.length) W => (fun (q : alikeG zs[j] (ys[j]'(by omega))) => gsame_any zs[j] (ys[j]'(by omega)) q.1 q.2.1 q.2.2.1 q.2.2.2.1 q.2.2.2.2.1 q.2.2.2.2.2 W) (hs j h))
  clear ha hb hs
  obtain ⟨n, hnn⟩ : ∃ n, zs.length = n := ⟨_, rfl⟩
  have HN := Lib.hid hnn
  have HY := Lib.hid (he.trans hnn)
  rw [he, hnn]
  rw [hnn] at hn
  clear hnn
  replace he := Lib.hid he
  go_enter Tryd.func14, Tryd.ntmps14
  go_wp2
  go_loopw [17] (fun i wr => ∃ j : Nat, j ≤ n ∧ i = .int .i64 j ∧ Hid (Kp NoB w wr)) (fun i _ => n - (intOf i).toNat)
  case atStart => exact ⟨0, Nat.zero_le _, rfl, Lib.hid (Kp.refl _ _)⟩
  case round =>
    obtain ⟨j, hj, rfl, HK⟩ := hrel
    by_cases hlt : j < n
    · have hjl : j < zs.length := by rw [HN.out]; exact hlt
      have hjy : j < ys.length := by rw [HY.out]; exact hlt
      obtain ⟨ad, rfl, x0, x1, x2, x3, x4, x5, x6, x7, x8⟩ := ats_at (HA.out.and HK.out) hjl
      obtain ⟨bd, rfl, y0, y1, y2, y3, y4, y5, y6, y7, y8⟩ := ats_at (HB.out.and HK.out) hjy
      have hs := HS.out j hjl
      obtain ⟨z, hz⟩ : ∃ z, zs[j] = z := ⟨_, rfl⟩
      obtain ⟨y, hy⟩ : ∃ y, ys[j] = y := ⟨_, rfl⟩
      rw [hz] at x0 x1 x2 x3 x4 x5 x6 x7 x8 hs
      rw [hy] at y0 y1 y2 y3 y4 y5 y6 y7 y8 hs
      have HSz := Lib.hid hs
      have hk1 := Lib.hid (HK.out.alloc (.cells z.cs 30))
      have ly : (bd.add (j * 9)).block < wr.heap.size := World.block_lt_of_cell? wr _ y0
      have ny := Nat.ne_of_lt ly
      clear hz hs hy
      unfold AtI.val AtI.cs at HSz
      go_wp2_with (go_at_call 12; (with_reducible refine Calls.mono (HSz.out _) ?_); rintro e w2 ⟨rfl, hK2⟩; have hk2 := Lib.hid (((HK.out.alloc _).alloc _).and hK2); clear hK2)
      go_roundw
      case rel => exact ⟨j + 1, by omega, by go_num, hk2⟩
      case measure => simp [intOf]; omega
    · have hj' : j = n := by omega
      go_wp2
      go_ret
      exact ⟨rfl, HK.out⟩

/-! ### plain words -/
theorem nar_alike (z : AtI) (hn : 0 ≤ z.n ∧ z.n < 4294967296) : (narR z).length = (narL z).length ∧ ∀ (j : Nat) (h : j < (narL z).length) (h' : j < (narR z).length), alikeG (narL z)[j] (narR z)[j] := by
  by_cases h : z.t = 7 ∧ validG 4 z = true
  · obtain ⟨K, -, -, hb, -, -⟩ := validG_k hn h.2
    have h2 : validG 2 z = decide (z.n ≤ 65535) := by
      rw [validG_eq _ _ hn, hb, h.1]
      rfl
    have eL : narL z = (if validG 2 z then [z] else [{ z with n := 23456 }, { z with t := 18 }]) := by unfold narL; rw [if_pos h]
    have eR : narR z = (if z.n ≤ 65535 then [z] else [{ mkG 7 23456 z.m with p := z.p }, { mkG 18 z.n z.m with p := z.p }]) := by unfold narR; rw [if_pos h]
    by_cases h5 : z.n ≤ 65535
    · have eL' : narL z = [z] := by rw [eL, h2]; simp [h5]
      have eR' : narR z = [z] := by rw [eR, if_pos h5]
      rw [eL', eR']
      refine ⟨rfl, fun j hj hj' => ?_⟩
      have : j = 0 := by simp at hj; omega
      subst this
      exact ⟨rfl, rfl, rfl, rfl, hb, hb⟩
    · have eL' : narL z = [{ z with n := 23456 }, { z with t := 18 }] := by rw [eL, h2]; simp [h5]
      have eR' : narR z = [{ mkG 7 23456 z.m with p := z.p }, { mkG 18 z.n z.m with p := z.p }] := by rw [eR, if_neg h5]
      rw [eL', eR']
      refine ⟨rfl, fun j hj hj' => ?_⟩
      have hj2 : j = 0 ∨ j = 1 := by simp at hj; omega
      rcases hj2 with rfl | rfl
      · exact ⟨h.1.symm, rfl, rfl, rfl, hb, rfl⟩
      · exact ⟨rfl, rfl, rfl, rfl, hb, rfl⟩
  · have eL : narL z = [] := by unfold narL; rw [if_neg h]
    have eR : narR z = [] := by unfold narR; rw [if_neg h]
    rw [eL, eR]
    exact ⟨rfl, fun j hj => by cases hj⟩

theorem nar_valid (z : AtI) (hn : 0 ≤ z.n ∧ z.n < 4294967296) : ∀ x ∈ narL z, validG 2 x = true := by
  intro x hx
  unfold narL at hx
  split at hx
  · rename_i h
    obtain ⟨K, -, -, hb, -, -⟩ := validG_k hn h.2
    split at hx
    · simp at hx; subst hx; assumption
    · simp at hx
      rcases hx with rfl | rfl
      · rw [validG_eq _ _ (by simp only; decide)]
        show ((2 == 2 || _) && hasG z.t && z.bare && _) = true
        rw [hb, h.1]
        rfl
      · rw [validG_eq _ _ (by simp only; exact hn)]
        show ((2 == 2 || _) && hasG 18 && z.bare && _) = true
        rw [hb]
        rfl
  · cases hx

theorem nar_ok (z : AtI) (ok : z.Ok) : ∀ x ∈ narL z, x.Ok := by
  intro x hx
  unfold narL at hx
  split at hx
  · split at hx
    · simp at hx; subst hx; exact ok
    · simp at hx
      rcases hx with rfl | rfl
      · exact ⟨ok.t, by simp only; decide, ok.m, ok.f, ok.l⟩
      · exact ⟨by simp only; decide, ok.n, ok.m, ok.f, ok.l⟩
  · cases hx

theorem nar_len (z : AtI) : (narL z).length ≤ 2 ∧ ((narL z).length = 0 ↔ ¬ (z.t = 7 ∧ validG 4 z = true)) := by
  unfold narL
  split
  · rename_i h
    split <;> simp [h]
  · rename_i h
    simp [h]

theorem nar_merge (z : AtI) (hn : 0 ≤ z.n ∧ z.n < 4294967296) (h : z.t = 7 ∧ validG 4 z = true) : mergeA (narL z) = z ∧ mergeB (narL z) = true := by
  obtain ⟨K, -, -, hb, -, -⟩ := validG_k hn h.2
  have hbad : badL (narL z) = false := by
    unfold badL
    have : (narL z).find? (fun z => !validG 4 z) = none := by
      rw [List.find?_eq_none]
      intro x hx
      have h2 := nar_valid z hn x hx
      have hx4 : validG 4 x = true := by
        refine (valid_two ?_ h2).1
        unfold narL at hx
        rw [if_pos h] at hx
        split at hx
        · simp at hx; subst hx; exact hn
        · simp at hx
          rcases hx with rfl | rfl
          · simp only; decide
          · exact hn
      simp [hx4]
    rw [this]
    rfl
  by_cases h2 : validG 2 z = true
  · have eL : narL z = [z] := by unfold narL; rw [if_pos h, if_pos h2]
    rw [eL] at hbad ⊢
    have e1 : has [z] 7 = true := by simp [has, h.1]
    have e2 : has [z] 18 = false := by simp [has, h.1]
    have e3 : pick [z] 7 = z := by simp [pick, h.1]
    unfold mergeA mergeB
    rw [hbad, e1, e2, e3]
    exact ⟨rfl, rfl⟩
  · have eL : narL z = [{ z with n := 23456 }, { z with t := 18 }] := by unfold narL; rw [if_pos h, if_neg h2]
    rw [eL] at hbad ⊢
    have e1 : has [{ z with n := 23456 }, { z with t := 18 }] 7 = true := by simp [has, h.1]
    have e2 : has [{ z with n := 23456 }, { z with t := 18 }] 18 = true := by simp [has, h.1]
    have e3 : pick [{ z with n := 23456 }, { z with t := 18 }] 7 = { z with n := 23456 } := by simp [pick, h.1]
    have e4 : pick [{ z with n := 23456 }, { z with t := 18 }] 18 = { z with t := 18 } := by simp [pick, h.1]
    unfold mergeA mergeB
    rw [hbad, e1, e2, e3, e4]
    exact ⟨rfl, rfl⟩

end Go.Proofs.YtnjdkcnafjkckaaDoor
