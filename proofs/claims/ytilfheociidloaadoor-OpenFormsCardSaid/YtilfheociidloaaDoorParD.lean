/- The parser's param: its contract by walking the Go text. Printed by tools/parc.py.  The parser's params and named: contracts by walking the Go text. -/
import Derived.Test.YtilfheociidloaaDoorParB
namespace Go.Proofs.YtilfheociidloaaDoor
open Go.RowKit
set_option linter.unusedVariables false
set_option linter.unusedSimpArgs false

theorem CapOL.append {base : Nat} {w : World} {xs ys : List CapI} {cs ds : List Value} (h : CapOL base w xs cs) (k : CapOL base w ys ds) : CapOL base w (xs ++ ys) (cs ++ ds) := by
  refine ⟨by have h1 := h.1; have h2 := k.1; simp only [List.length_append]; omega, fun j x hx => ?_⟩
  by_cases hj : j < xs.length
  · rw [List.getElem?_append_left hj] at hx
    obtain ⟨a, b, h1, h2, h3⟩ := h.2 j x hx
    exact ⟨a, b, by rw [List.getElem?_append_left (by rw [h.1]; omega)]; exact h1, by rw [List.getElem?_append_left (by rw [h.1]; omega)]; exact h2, h3⟩
  · rw [List.getElem?_append_right (by omega)] at hx
    obtain ⟨a, b, h1, h2, h3⟩ := k.2 _ x hx
    exact ⟨a, b, by rw [List.getElem?_append_right (by rw [h.1]; omega), h.1, show 2 * j - 2 * xs.length = 2 * (j - xs.length) by omega]; exact h1, by rw [List.getElem?_append_right (by rw [h.1]; omega), h.1, show 2 * j + 1 - 2 * xs.length = 2 * (j - xs.length) + 1 by omega]; exact h2, h3⟩

/-- The capabilities that some bytes are, or none. -/
noncomputable def readC (zs : List Int) : Option (List CapI) := @dite _ (∃ xs, validB xs = true ∧ formC xs = zs) (Classical.propDecidable _) (fun h => some h.choose) (fun _ => none)
theorem readC_some {zs : List Int} {xs : List CapI} (h : readC zs = some xs) : validB xs = true ∧ formC xs = zs := by
  unfold readC at h
  split at h
  · rename_i hx
    injection h with h
    rw [← h]
    exact hx.choose_spec
  · cases h
theorem readC_none {zs : List Int} (h : readC zs = none) : ∀ xs, validB xs = true → formC xs ≠ zs := by
  unfold readC at h
  split at h
  · cases h
  · rename_i hx
    exact fun xs h1 h2 => hx ⟨xs, h1, h2⟩

/-- One parameter is read. -/
noncomputable def stParam (st : PSt) : PSt :=
  match st.ys with
  | [] => st
  | [_] => ⟨{ st.o with caps := st.o.caps ++ [] }, [], st.t + 1, some (0, st.t, [])⟩
  | k :: n :: rest =>
    if rest.length < n.toNat then ⟨{ st.o with caps := st.o.caps ++ [] }, rest, st.t + 1 + 1, some (0, st.t, [])⟩
    else ⟨{ st.o with caps := st.o.caps ++ (readC (rest.take n.toNat)).getD [] }, rest.drop n.toNat, st.t + 1 + 1 + n.toNat, if k ≠ 2 then some (4, st.t, []) else if readC (rest.take n.toNat) = none then some (0, st.t, []) else st.bad⟩

/-- Capabilities appended to the parser's own. -/
theorem PS.appended {w0 wB w w6 : World} {q r p : Nat} {st : PSt} {A A' : Option Addr} {c c' m dA_c : Nat} {cs es : List Value} {dA : Option Addr} {ls : List CapI}
    (g1 : Kp NoB w0 wB ∧ w0.heap.size ≤ r ∧ r < p ∧ q < p ∧ wB.heap.size = p + 1) (g3 : Rd w q r st.ys st.t)
    (hB : Bk w p 71 (pcells r st A c dA dA_c)) (hrow : w.ownsRow (p + 1) 77 2 (.slice A st.o.caps.length c) st.o.caps.length cs) (hcap : CapOL (p + 1) w st.o.caps cs)
    (hdat : w.ownsRow (p + 1) 5 1 (.slice dA (vOf st.bad).data.length dA_c) (vOf st.bad).data.length (bs (vOf st.bad).data)) (hls : CapOL (p + 1) w ls es) (hm : ls.length = m)
    (hown6 : w6.ownsRow (p + 1) 77 2 (.slice A' (st.o.caps.length + m) c') (st.o.caps.length + m) (cs ++ es)) (hK6 : Kp (fun b => b = p ∨ b = r) wB w6) (hG : w.grownBy w6 (Value.slice A st.o.caps.length c).ownBlock) :
    PS w0 wB q r p ⟨{ st.o with caps := st.o.caps ++ ls }, st.ys, st.t, st.bad⟩ (w6.setCell ⟨p, 4, none⟩ (.slice A' (st.o.caps.length + m) c')) := by
  have hG' := Kp.of_grown hG
  have hlr := g1.2.2.1
  have hlq := g1.2.2.2.1
  have k : Kp (OnB p) w6 (w6.setCell ⟨p, 4, none⟩ (.slice A' (st.o.caps.length + m) c')) := (Kp.refl (OnB p) w6).set_on _
  have hlen : (st.o.caps ++ ls).length = st.o.caps.length + m := by rw [List.length_append, hm]
  have hB6 := (hB.keep hG' (own_ge hrow (by omega))).set 4 (.slice A' (st.o.caps.length + m) c')
  have hR6 : Rd w6 q r st.ys st.t := g3.keep hG' (own_ge hrow (by omega)) (fun _ => own_ge hrow (by omega))
  have hall : CapOL (p + 1) w6 (st.o.caps ++ ls) (cs ++ es) := (hcap.append hls).keep hG' (fun u n ys hu g hg => own_two hu hrow (by decide) g hg)
  have hd6 := hG'.own hdat (fun g hg => own_two hdat hrow (by decide) g hg)
  refine ⟨g1, hK6.same (k.mono (fun b hb hq => .inl hq)), hR6.keep k (fun hq => by unfold OnB at hq; omega) (fun _ hq => by unfold OnB at hq; omega), A', c', cs ++ es, dA, dA_c, ?_, ?_, ?_, ?_⟩
  · have e : (pcells r st A c dA dA_c).setIfInBounds 4 (.slice A' (st.o.caps.length + m) c') = pcells r ⟨{ st.o with caps := st.o.caps ++ ls }, st.ys, st.t, st.bad⟩ A' c' dA dA_c := by
      unfold pcells
      simp only [hlen]
      rfl
    rw [← e]
    exact hB6
  · show World.ownsRow _ (p + 1) _ 2 (.slice A' (st.o.caps ++ ls).length c') (st.o.caps ++ ls).length (cs ++ es)
    rw [hlen]
    exact k.own hown6 (fun b hb hq => by have := own_base hown6 b hb; unfold OnB at hq; omega)
  · exact hall.keep k (fun u n ys hu b hb hq => by have := own_base hu b hb; unfold OnB at hq; omega)
  · exact k.own hd6 (fun b hb hq => by have := own_base hd6 b hb; unfold OnB at hq; omega)

theorem PS.x0 {w0 wB w : World} {q r p : Nat} {st : PSt} (h : PS w0 wB q r p st w) : w.cell? ⟨p, 0, none⟩ = some (.pointer (some ⟨r, 0, none⟩)) := by
  obtain ⟨_, _, _, A, c, cs, dA, dc, hB, _⟩ := h; exact hB.cell 0
theorem num1_nos (w : World) (q r t : Nat) (h : Rd w q r [] t) : Calls Tryd.prog 51 #[.pointer (some ⟨r, 0, none⟩), .int .i64 1] w (Stay (.tuple #[.int .u32 0, .bool false]) w) := num1_no w q r t h

set_option maxRecDepth 100000 in
set_option maxHeartbeats 8000000 in
theorem param_one {w0 wB w : World} {q r p : Nat} {st : PSt} (h : PS w0 wB q r p st w) (hcl : st.o.caps.length ≤ 100000) (k : Int) (hy : st.ys = [k]) :
    Calls Tryd.prog 61 #[.pointer (some ⟨p, 0, none⟩)] w (Step w0 wB q r p ⟨{ st.o with caps := st.o.caps ++ [] }, [], st.t + 1, some (0, st.t, [])⟩) := by
  obtain ⟨i0, hi, hz0, hz1, hz2⟩ := info_parts infoCap
  have hR0 := h.rd
  rw [hy] at hR0
  have hbB := hR0.isB k (by simp)
  have HN1 := Lib.hid (num1_yes w q r k [] st.t hR0)
  have HM := Lib.hid (fun w1 (hR : Rd w1 q r [] (st.t + 1)) hK => h.move hR hK)
  have x0 := h.x0
  have HAt := Lib.hid (at_q w q r st.ys st.t h.rd)
  have H := Lib.hid h
  clear h
  go_enter Tryd.func61, Tryd.ntmps61
  go_wp2_with fail
  refine HAt.out.mono ?_
  rintro e w1 ⟨rfl, rfl⟩
  go_wp2_with fail
  refine HN1.out.mono ?_
  rintro e w2 ⟨rfl, hR2, hK2⟩
  have h2 := HM.out _ hR2 hK2
  have x2 := h2.x0
  have HR2 := Lib.hid hR2
  replace h2 := Lib.hid h2
  clear x0 hR2 hK2
  go_wp2_with fail
  refine (num1_nos _ q r _ HR2.out).mono ?_
  rintro e w3 ⟨rfl, hK3⟩
  have h3 := h2.out.and hK3
  have x3 := h3.x0
  have HT := Lib.hid (take_d w3 q r 0 [] [] (st.t + 1) h3.rd rfl)
  replace h3 := Lib.hid h3
  clear x2 hK3
  go_wp2_with fail
  refine HT.out.mono ?_
  rintro e w4 ⟨A4, c4, rfl, hown4, hR4, hK4⟩
  have h4 := h3.out.move hR4 hK4
  have HRD := Lib.hid (read_yes A4 c4 [] [] w4 (by decide) (Arr.nil _ _) IsB.nil rfl rfl)
  replace h4 := Lib.hid h4
  clear x3 hown4 hR4 hK4
  go_wp2_with fail
  refine HRD.out.mono ?_
  rintro e w5 ⟨A5, c5, es, rfl, hown5, hcap5, hK5⟩
  have h5 := h4.out.and hK5
  have HFL := Lib.hid (fail_ps h5 0 st.t [] none 0 (World.ownsRow_nil _ _ _ _) 0 rfl)
  have hes : es = [] := List.eq_nil_of_length_eq_zero (by rw [hcap5.1]; rfl)
  subst hes
  clear hown5 hcap5 hK5 h5
  go_wp2_with fail
  refine HFL.out.mono ?_
  rintro e w6 ⟨⟨v, rfl⟩, h6⟩
  clear HFL
  obtain ⟨g1, g2, g3, A, c, cs, dA, dc, hB, hrow, hcap, hdat⟩ := h6
  obtain ⟨⟨z0, z1, z2, z3, z4, z5, z6, z7, z8, z9⟩, ⟨f0, f1, f2, f3, f4, f5, f6, f7, f8, f9⟩, hlt⟩ := Bk.ten hB
  have HRW := Lib.hid hrow
  have hwb := g1.2.2.2.2
  have hrow' := hrow
  rw [← hwb] at hrow'
  have HRW' := Lib.hid hrow'
  have HFIN := Lib.hid (fun A' c' w6 hown6 hK6 hG => PS.appended (A' := A') (c' := c') (w6 := w6) g1 g3 hB hrow hcap hdat (CapOL.nil _ _) rfl hown6 hK6 hG)
  have HBK := Lib.hid hB
  have HG2 := Lib.hid g2
  have HWB := Lib.hid hwb
  clear z1 z2 z3 z5 z6 z7 z8 z9 f0 f1 f2 f3 f5 f6 f7 f8 f9 g1 g2 g3 hB hrow hcap hdat hrow' hwb
  go_wp2_with (at_builtin; refine wpList_app HG2.out rfl (.tmp 74) (.tmp 75) 31 rfl 77 i0 (.agg #[.int .i64 0, .slice none 0 0]) 2 32 Tryd.underlying31 hi hz0 hz1 hz2 rfl (by decide) _ _ cs rfl HRW'.out A5 0 c5 [] rfl rfl (Arr.nil _ _) (by intro u hu; cases hu) (by show (st.o.caps.length + _) * _ ≤ _; omega) (by decide) _ rfl ?_; intro A' c' w6 hown6 hK6 hG _; rw [HWB.out] at hown6; have b6 := HBK.out.keep (Kp.of_grown hG) (own_ge HRW.out (by omega)); have u0 := b6.cell 0; have u4 := b6.cell 4; have v4 := b6.frozen 4; have ul := b6.lt; have HH := Lib.hid (HFIN.out A' c' w6 hown6 hK6 hG); clear hown6 hK6 hG b6 z0 z4 f4 hlt)
  go_end0
  exact ⟨⟨_, rfl⟩, HH.out⟩

set_option maxRecDepth 100000 in
set_option maxHeartbeats 8000000 in
theorem param_short {w0 wB w : World} {q r p : Nat} {st : PSt} (h : PS w0 wB q r p st w) (hcl : st.o.caps.length ≤ 100000) (k : Int) (n : Nat) (rest : List Int) (hy : st.ys = k :: (n : Int) :: rest) (hs : rest.length < n) :
    Calls Tryd.prog 61 #[.pointer (some ⟨p, 0, none⟩)] w (Step w0 wB q r p ⟨{ st.o with caps := st.o.caps ++ [] }, rest, st.t + 1 + 1, some (0, st.t, [])⟩) := by
  obtain ⟨i0, hi, hz0, hz1, hz2⟩ := info_parts infoCap
  have hR0 := h.rd
  rw [hy] at hR0
  have hkb := hR0.isB k (by simp)
  have HN1 := Lib.hid (num1_yes w q r k ((n : Int) :: rest) st.t hR0)
  have HM := Lib.hid (fun w1 (hR : Rd w1 q r ((n : Int) :: rest) (st.t + 1)) hK => h.move hR hK)
  have e1 : IntKind.i64.wrap (n : Int) = n := IntWalk.i64_in _ (by have := hR0.isB n (by simp); omega)
  have hn255 : n ≤ 255 := by have := hR0.isB n (by simp); omega
  have hisb : IsB rest := fun z hz => hR0.isB z (by simp [hz])
  have x0 := h.x0
  have HAt := Lib.hid (at_q w q r st.ys st.t h.rd)
  have H := Lib.hid h
  clear h
  go_enter Tryd.func61, Tryd.ntmps61
  go_wp2_with fail
  refine HAt.out.mono ?_
  rintro e w1 ⟨rfl, rfl⟩
  go_wp2_with fail
  refine HN1.out.mono ?_
  rintro e w2 ⟨rfl, hR2, hK2⟩
  have h2 := HM.out _ hR2 hK2
  have x2 := h2.x0
  have HR2 := Lib.hid hR2
  replace h2 := Lib.hid h2
  clear x0 hR2 hK2
  go_wp2_with fail
  refine (num1_yes _ q r _ _ _ HR2.out).mono ?_
  rintro e w3 ⟨rfl, hR3, hK3⟩
  have h3 := h2.out.move hR3 hK3
  have x3 := h3.x0
  have HR3 := Lib.hid hR3
  replace h3 := Lib.hid h3
  clear x2 hR3 hK3
  go_wp2_with fail
  refine (take_no _ q r _ _ n HR3.out (.inr (by omega))).mono ?_
  rintro e w4 ⟨rfl, hK4⟩
  have h4 := h3.out.and hK4
  have HRD := Lib.hid (read_yes none 0 [] [] w4 (by decide) (Arr.nil _ _) IsB.nil rfl rfl)
  replace h4 := Lib.hid h4
  clear x3 hK4 hs
  go_wp2_with fail
  refine HRD.out.mono ?_
  rintro e w5 ⟨A5, c5, es, rfl, hown5, hcap5, hK5⟩
  have h5 := h4.out.and hK5
  have HFL := Lib.hid (fail_ps h5 0 st.t [] none 0 (World.ownsRow_nil _ _ _ _) 0 rfl)
  have hes : es = [] := List.eq_nil_of_length_eq_zero (by rw [hcap5.1]; rfl)
  subst hes
  clear hown5 hcap5 hK5 h5
  go_wp2_with fail
  refine HFL.out.mono ?_
  rintro e w6 ⟨⟨v, rfl⟩, h6⟩
  clear HFL
  obtain ⟨g1, g2, g3, A, c, cs, dA, dc, hB, hrow, hcap, hdat⟩ := h6
  obtain ⟨⟨z0, z1, z2, z3, z4, z5, z6, z7, z8, z9⟩, ⟨f0, f1, f2, f3, f4, f5, f6, f7, f8, f9⟩, hlt⟩ := Bk.ten hB
  have HRW := Lib.hid hrow
  have hwb := g1.2.2.2.2
  have hrow' := hrow
  rw [← hwb] at hrow'
  have HRW' := Lib.hid hrow'
  have HFIN := Lib.hid (fun A' c' w6 hown6 hK6 hG => PS.appended (A' := A') (c' := c') (w6 := w6) g1 g3 hB hrow hcap hdat (CapOL.nil _ _) rfl hown6 hK6 hG)
  have HBK := Lib.hid hB
  have HG2 := Lib.hid g2
  have HWB := Lib.hid hwb
  clear z1 z2 z3 z5 z6 z7 z8 z9 f0 f1 f2 f3 f5 f6 f7 f8 f9 g1 g2 g3 hB hrow hcap hdat hrow' hwb
  go_wp2_with (at_builtin; refine wpList_app HG2.out rfl (.tmp 74) (.tmp 75) 31 rfl 77 i0 (.agg #[.int .i64 0, .slice none 0 0]) 2 32 Tryd.underlying31 hi hz0 hz1 hz2 rfl (by decide) _ _ cs rfl HRW'.out A5 0 c5 [] rfl rfl (Arr.nil _ _) (by intro u hu; cases hu) (by show (st.o.caps.length + _) * _ ≤ _; omega) (by decide) _ rfl ?_; intro A' c' w6 hown6 hK6 hG _; rw [HWB.out] at hown6; have b6 := HBK.out.keep (Kp.of_grown hG) (own_ge HRW.out (by omega)); have u0 := b6.cell 0; have u4 := b6.cell 4; have v4 := b6.frozen 4; have ul := b6.lt; have HH := Lib.hid (HFIN.out A' c' w6 hown6 hK6 hG); clear hown6 hK6 hG b6 z0 z4 f4 hlt)
  go_end0
  exact ⟨⟨_, rfl⟩, HH.out⟩

theorem caps_le2 (xs : List CapI) : xs.length ≤ (formC xs).length := by
  induction xs with
  | nil => exact Nat.zero_le _
  | cons x xs ih => simp only [formC, List.flatMap_cons, List.length_append, List.length_cons] at ih ⊢; omega
/-- fail, with what it keeps. -/
theorem failk_ps {w0 wB w : World} {q r p : Nat} {st : PSt} (h : PS w0 wB q r p st w) (s a : Int) (d : List Int) (dA : Option Addr) (dc : Nat) (hd : w.ownsRow (p + 1) 5 1 (.slice dA d.length dc) d.length (bs d)) (n : Nat) (hn : d.length = n) :
    Calls Tryd.prog 34 #[.pointer (some ⟨p, 0, none⟩), .int .i64 s, .int .i64 a, .slice dA n dc] w fun e w' => (∃ v, e = .returned v) ∧ PS w0 wB q r p ⟨st.o, st.ys, st.t, some (s, a, d)⟩ w' ∧ Kp (OnB p) w w' := by
  subst hn
  obtain ⟨h1, h2, h3, A, c, cs, eA, ec, h4, h5, h6, h7⟩ := h
  refine (failc_any p s a dA d.length dc _ _ _ _ _ _ _ _ _ _ w h4).mono fun e w' ⟨he, hw⟩ => ?_
  subst hw
  have k := (((((Kp.refl (OnB p) w).set_on (i := 5) (.int .i64 4)).set_on (i := 6) (.int .i64 2)).set_on (i := 7) (.int .i64 s)).set_on (i := 8) (.slice dA d.length dc)).set_on (i := 9) (.int .i64 a)
  exact ⟨he, PS.fail ⟨h1, h2, h3, A, c, cs, eA, ec, h4, h5, h6, h7⟩ s a d dA dc hd k (fun A c eA ec hb => ((((hb.set 5 _).set 6 _).set 7 _).set 8 _).set 9 _), k⟩

set_option maxRecDepth 100000 in
set_option maxHeartbeats 8000000 in
theorem param_good {w0 wB w : World} {q r p : Nat} {st : PSt} (h : PS w0 wB q r p st w) (hcl : st.o.caps.length ≤ 100000) (k : Int) (n : Nat) (d Z : List Int) (ls : List CapI) (hy : st.ys = k :: (n : Int) :: (d ++ Z)) (hd : d.length = n) (hv : validB ls = true) (hz : formC ls = d) (hk : k = 2) :
    Calls Tryd.prog 61 #[.pointer (some ⟨p, 0, none⟩)] w (Step w0 wB q r p ⟨{ st.o with caps := st.o.caps ++ ls }, Z, st.t + 1 + 1 + n, st.bad⟩) := by
  obtain ⟨i0, hi, hz0, hz1, hz2⟩ := info_parts infoCap
  have hR0 := h.rd
  rw [hy] at hR0
  have hkb := hR0.isB k (by simp)
  have HN1 := Lib.hid (num1_yes w q r k ((n : Int) :: (d ++ Z)) st.t hR0)
  have HM := Lib.hid (fun w1 (hR : Rd w1 q r ((n : Int) :: (d ++ Z)) (st.t + 1)) hK => h.move hR hK)
  have e1 : IntKind.i64.wrap (n : Int) = n := IntWalk.i64_in _ (by have := hR0.isB n (by simp); omega)
  have hn255 : n ≤ 255 := by have := hR0.isB n (by simp); omega
  have hisb : IsB d := fun z hz' => hR0.isB z (by simp [hz'])
  have hdl : d.length ≤ 255 := by omega
  have hll : ls.length ≤ 255 := by have := caps_le2 ls; rw [hz] at this; omega
  have HRD := Lib.hid (fun w A c ha => read_yes A c d ls w (by omega) ha hisb hv hz)
  unfold ReadYes at HRD
  obtain ⟨m, hm⟩ : ∃ m, ls.length = m := ⟨_, rfl⟩
  have HM5 := Lib.hid hm
  rw [hm] at hll
  simp only [hm] at HRD
  clear hm hv hz
  simp only [hd] at HRD
  have HD := Lib.hid hd
  clear hd hdl hisb
  subst hk
  have x0 := h.x0
  have HAt := Lib.hid (at_q w q r st.ys st.t h.rd)
  have H := Lib.hid h
  clear h
  go_enter Tryd.func61, Tryd.ntmps61
  go_wp2_with fail
  refine HAt.out.mono ?_
  rintro e w1 ⟨rfl, rfl⟩
  go_wp2_with fail
  refine HN1.out.mono ?_
  rintro e w2 ⟨rfl, hR2, hK2⟩
  have h2 := HM.out _ hR2 hK2
  have x2 := h2.x0
  have HR2 := Lib.hid hR2
  replace h2 := Lib.hid h2
  clear x0 hR2 hK2
  go_wp2_with fail
  refine (num1_yes _ q r _ _ _ HR2.out).mono ?_
  rintro e w3 ⟨rfl, hR3, hK3⟩
  have h3 := h2.out.move hR3 hK3
  have x3 := h3.x0
  have HR3 := Lib.hid hR3
  replace h3 := Lib.hid h3
  clear x2 hR3 hK3
  go_wp2_with fail
  refine (take_d _ q r n d Z _ HR3.out HD.out).mono ?_
  rintro e w4 ⟨A4, c4, rfl, hown4, hR4, hK4⟩
  have h4 := h3.out.move hR4 hK4
  have HRD4 := Lib.hid (HRD.out w4 A4 c4 (Arr.of_own hown4))
  replace h4 := Lib.hid h4
  clear x3 hown4 hR4 hK4
  go_wp2_with fail
  refine HRD4.out.mono ?_
  rintro e w5 ⟨A5, c5, es, rfl, hown5, hcap5, hK5⟩
  have h5 := h4.out.and hK5
  have hw4 : p + 1 ≤ w4.heap.size := by obtain ⟨_, _, _, A, c, cs, dA, dc, hB, _⟩ := h4.out; exact hB.lt
  have HO5 := Lib.hid (own_le hown5 hw4)
  have HC5 := Lib.hid (hcap5.le hw4)
  clear hown5 hcap5 hK5 hw4
  obtain ⟨g1, g2, g3, A, c, cs, dA, dc, hB, hrow, hcap, hdat⟩ := h5
  obtain ⟨⟨z0, z1, z2, z3, z4, z5, z6, z7, z8, z9⟩, ⟨f0, f1, f2, f3, f4, f5, f6, f7, f8, f9⟩, hlt⟩ := Bk.ten hB
  have HRW := Lib.hid hrow
  have hwb := g1.2.2.2.2
  have hrow' := hrow
  rw [← hwb] at hrow'
  have HRW' := Lib.hid hrow'
  have HFIN := Lib.hid (fun A' c' w6 hown6 hK6 hG => PS.appended (A' := A') (c' := c') (w6 := w6) g1 g3 hB hrow hcap hdat HC5.out HM5.out hown6 hK6 hG)
  have HBK := Lib.hid hB
  have HG2 := Lib.hid g2
  have HWB := Lib.hid hwb
  clear z1 z2 z3 z5 z6 z7 z8 z9 f0 f1 f2 f3 f5 f6 f7 f8 f9 g1 g2 g3 hB hrow hcap hdat hrow' hwb
  go_wp2_with (at_builtin; refine wpList_app HG2.out rfl (.tmp 74) (.tmp 75) 31 rfl 77 i0 (.agg #[.int .i64 0, .slice none 0 0]) 2 32 Tryd.underlying31 hi hz0 hz1 hz2 rfl (by decide) _ _ cs rfl HRW'.out A5 m c5 es rfl (by have := HC5.out.1; rw [HM5.out] at this; omega) (Arr.of_own HO5.out) (CapL.one HC5.out.to) (by show (st.o.caps.length + _) * _ ≤ _; omega) (by decide) _ rfl ?_; intro A' c' w6 hown6 hK6 hG _; rw [HWB.out] at hown6; have b6 := HBK.out.keep (Kp.of_grown hG) (own_ge HRW.out (by omega)); have u0 := b6.cell 0; have u4 := b6.cell 4; have v4 := b6.frozen 4; have ul := b6.lt; have HH := Lib.hid (HFIN.out A' c' w6 hown6 hK6 hG); clear hown6 hK6 hG b6 z0 z4 f4 hlt)
  go_end0
  exact ⟨⟨_, rfl⟩, HH.out⟩

set_option maxRecDepth 100000 in
set_option maxHeartbeats 8000000 in
theorem param_none {w0 wB w : World} {q r p : Nat} {st : PSt} (h : PS w0 wB q r p st w) (hcl : st.o.caps.length ≤ 100000) (k : Int) (n : Nat) (d Z : List Int) (hy : st.ys = k :: (n : Int) :: (d ++ Z)) (hd : d.length = n) (hno : ∀ xs, validB xs = true → formC xs ≠ d) (hk : k = 2) :
    Calls Tryd.prog 61 #[.pointer (some ⟨p, 0, none⟩)] w (Step w0 wB q r p ⟨{ st.o with caps := st.o.caps ++ [] }, Z, st.t + 1 + 1 + n, some (0, st.t, [])⟩) := by
  obtain ⟨i0, hi, hz0, hz1, hz2⟩ := info_parts infoCap
  have hR0 := h.rd
  rw [hy] at hR0
  have hkb := hR0.isB k (by simp)
  have HN1 := Lib.hid (num1_yes w q r k ((n : Int) :: (d ++ Z)) st.t hR0)
  have HM := Lib.hid (fun w1 (hR : Rd w1 q r ((n : Int) :: (d ++ Z)) (st.t + 1)) hK => h.move hR hK)
  have e1 : IntKind.i64.wrap (n : Int) = n := IntWalk.i64_in _ (by have := hR0.isB n (by simp); omega)
  have hn255 : n ≤ 255 := by have := hR0.isB n (by simp); omega
  have hisb : IsB d := fun z hz => hR0.isB z (by simp [hz])
  have hdl : d.length ≤ 255 := by omega
  have HRD := Lib.hid (fun w A c ha => read_no A c d w (by omega) ha hisb hno)
  clear hno
  simp only [hd] at HRD
  have HD := Lib.hid hd
  clear hd hdl hisb
  subst hk
  have x0 := h.x0
  have HAt := Lib.hid (at_q w q r st.ys st.t h.rd)
  have H := Lib.hid h
  clear h
  go_enter Tryd.func61, Tryd.ntmps61
  go_wp2_with fail
  refine HAt.out.mono ?_
  rintro e w1 ⟨rfl, rfl⟩
  go_wp2_with fail
  refine HN1.out.mono ?_
  rintro e w2 ⟨rfl, hR2, hK2⟩
  have h2 := HM.out _ hR2 hK2
  have x2 := h2.x0
  have HR2 := Lib.hid hR2
  replace h2 := Lib.hid h2
  clear x0 hR2 hK2
  go_wp2_with fail
  refine (num1_yes _ q r _ _ _ HR2.out).mono ?_
  rintro e w3 ⟨rfl, hR3, hK3⟩
  have h3 := h2.out.move hR3 hK3
  have x3 := h3.x0
  have HR3 := Lib.hid hR3
  replace h3 := Lib.hid h3
  clear x2 hR3 hK3
  go_wp2_with fail
  refine (take_d _ q r n d Z _ HR3.out HD.out).mono ?_
  rintro e w4 ⟨A4, c4, rfl, hown4, hR4, hK4⟩
  have h4 := h3.out.move hR4 hK4
  have HRD4 := Lib.hid (HRD.out w4 A4 c4 (Arr.of_own hown4))
  replace h4 := Lib.hid h4
  clear x3 hown4 hR4 hK4
  go_wp2_with fail
  refine HRD4.out.mono ?_
  rintro e w5 ⟨rfl, hK5⟩
  have h5 := h4.out.and hK5
  clear hK5
  have HFL := Lib.hid (fail_ps h5 0 st.t [] none 0 (World.ownsRow_nil _ _ _ _) 0 rfl)
  clear h5
  go_wp2_with fail
  refine HFL.out.mono ?_
  rintro e w6 ⟨⟨v, rfl⟩, h6⟩
  clear HFL
  obtain ⟨g1, g2, g3, A, c, cs, dA, dc, hB, hrow, hcap, hdat⟩ := h6
  obtain ⟨⟨z0, z1, z2, z3, z4, z5, z6, z7, z8, z9⟩, ⟨f0, f1, f2, f3, f4, f5, f6, f7, f8, f9⟩, hlt⟩ := Bk.ten hB
  have HRW := Lib.hid hrow
  have hwb := g1.2.2.2.2
  have hrow' := hrow
  rw [← hwb] at hrow'
  have HRW' := Lib.hid hrow'
  have HFIN := Lib.hid (fun A' c' w6 hown6 hK6 hG => PS.appended (A' := A') (c' := c') (w6 := w6) g1 g3 hB hrow hcap hdat (CapOL.nil _ _) rfl hown6 hK6 hG)
  have HBK := Lib.hid hB
  have HG2 := Lib.hid g2
  have HWB := Lib.hid hwb
  clear z1 z2 z3 z5 z6 z7 z8 z9 f0 f1 f2 f3 f5 f6 f7 f8 f9 g1 g2 g3 hB hrow hcap hdat hrow' hwb
  go_wp2_with (at_builtin; refine wpList_app HG2.out rfl (.tmp 74) (.tmp 75) 31 rfl 77 i0 (.agg #[.int .i64 0, .slice none 0 0]) 2 32 Tryd.underlying31 hi hz0 hz1 hz2 rfl (by decide) _ _ cs rfl HRW'.out none 0 0 [] rfl rfl (Arr.nil _ _) (by intro u hu; cases hu) (by show (st.o.caps.length + _) * _ ≤ _; omega) (by decide) _ rfl ?_; intro A' c' w6 hown6 hK6 hG _; rw [HWB.out] at hown6; have b6 := HBK.out.keep (Kp.of_grown hG) (own_ge HRW.out (by omega)); have u0 := b6.cell 0; have u4 := b6.cell 4; have v4 := b6.frozen 4; have ul := b6.lt; have HH := Lib.hid (HFIN.out A' c' w6 hown6 hK6 hG); clear hown6 hK6 hG b6 z0 z4 f4 hlt)
  go_end0
  exact ⟨⟨_, rfl⟩, HH.out⟩

set_option maxRecDepth 100000 in
set_option maxHeartbeats 8000000 in
theorem param_kind_yes {w0 wB w : World} {q r p : Nat} {st : PSt} (h : PS w0 wB q r p st w) (hcl : st.o.caps.length ≤ 100000) (k : Int) (n : Nat) (d Z : List Int) (ls : List CapI) (hy : st.ys = k :: (n : Int) :: (d ++ Z)) (hd : d.length = n) (hv : validB ls = true) (hz : formC ls = d) (hk : k ≠ 2) :
    Calls Tryd.prog 61 #[.pointer (some ⟨p, 0, none⟩)] w (Step w0 wB q r p ⟨{ st.o with caps := st.o.caps ++ ls }, Z, st.t + 1 + 1 + n, some (4, st.t, [])⟩) := by
  obtain ⟨i0, hi, hz0, hz1, hz2⟩ := info_parts infoCap
  have hR0 := h.rd
  rw [hy] at hR0
  have hkb := hR0.isB k (by simp)
  have HN1 := Lib.hid (num1_yes w q r k ((n : Int) :: (d ++ Z)) st.t hR0)
  have HM := Lib.hid (fun w1 (hR : Rd w1 q r ((n : Int) :: (d ++ Z)) (st.t + 1)) hK => h.move hR hK)
  have e1 : IntKind.i64.wrap (n : Int) = n := IntWalk.i64_in _ (by have := hR0.isB n (by simp); omega)
  have hn255 : n ≤ 255 := by have := hR0.isB n (by simp); omega
  have hisb : IsB d := fun z hz' => hR0.isB z (by simp [hz'])
  have hdl : d.length ≤ 255 := by omega
  have hll : ls.length ≤ 255 := by have := caps_le2 ls; rw [hz] at this; omega
  have HRD := Lib.hid (fun w A c ha => read_yes A c d ls w (by omega) ha hisb hv hz)
  unfold ReadYes at HRD
  obtain ⟨m, hm⟩ : ∃ m, ls.length = m := ⟨_, rfl⟩
  have HM5 := Lib.hid hm
  rw [hm] at hll
  simp only [hm] at HRD
  clear hm hv hz
  simp only [hd] at HRD
  have HD := Lib.hid hd
  clear hd hdl hisb
  have hne : (k != 2) = true := by simp [hk]
  clear hk
  have x0 := h.x0
  have HAt := Lib.hid (at_q w q r st.ys st.t h.rd)
  have H := Lib.hid h
  clear h
  go_enter Tryd.func61, Tryd.ntmps61
  go_wp2_with fail
  refine HAt.out.mono ?_
  rintro e w1 ⟨rfl, rfl⟩
  go_wp2_with fail
  refine HN1.out.mono ?_
  rintro e w2 ⟨rfl, hR2, hK2⟩
  have h2 := HM.out _ hR2 hK2
  have x2 := h2.x0
  have HR2 := Lib.hid hR2
  replace h2 := Lib.hid h2
  clear x0 hR2 hK2
  go_wp2_with fail
  refine (num1_yes _ q r _ _ _ HR2.out).mono ?_
  rintro e w3 ⟨rfl, hR3, hK3⟩
  have h3 := h2.out.move hR3 hK3
  have x3 := h3.x0
  have HR3 := Lib.hid hR3
  replace h3 := Lib.hid h3
  clear x2 hR3 hK3
  go_wp2_with fail
  refine (take_d _ q r n d Z _ HR3.out HD.out).mono ?_
  rintro e w4 ⟨A4, c4, rfl, hown4, hR4, hK4⟩
  have h4 := h3.out.move hR4 hK4
  have HRD4 := Lib.hid (HRD.out w4 A4 c4 (Arr.of_own hown4))
  replace h4 := Lib.hid h4
  clear x3 hown4 hR4 hK4
  go_wp2_with fail
  refine HRD4.out.mono ?_
  rintro e w5 ⟨A5, c5, es, rfl, hown5, hcap5, hK5⟩
  have h5 := h4.out.and hK5
  have hw4 : p + 1 ≤ w4.heap.size := by obtain ⟨_, _, _, A, c, cs, dA, dc, hB, _⟩ := h4.out; exact hB.lt
  have HO5 := Lib.hid (own_le hown5 hw4)
  have HC5 := Lib.hid (hcap5.le hw4)
  clear hown5 hcap5 hK5 hw4
  have HFL := Lib.hid (failk_ps h5 4 st.t [] none 0 (World.ownsRow_nil _ _ _ _) 0 rfl)
  clear h5
  go_wp2_with fail
  refine HFL.out.mono ?_
  rintro e w6 ⟨⟨v, rfl⟩, h6, hK6⟩
  have HO6 := Lib.hid (hK6.own HO5.out (fun b hb hq => by have := own_base HO5.out b hb; unfold OnB at hq; omega))
  have HC6 := Lib.hid (HC5.out.keep hK6 (fun u n ys hu b hb hq => by have := own_base hu b hb; unfold OnB at hq; omega))
  clear hK6
  clear HFL
  obtain ⟨g1, g2, g3, A, c, cs, dA, dc, hB, hrow, hcap, hdat⟩ := h6
  obtain ⟨⟨z0, z1, z2, z3, z4, z5, z6, z7, z8, z9⟩, ⟨f0, f1, f2, f3, f4, f5, f6, f7, f8, f9⟩, hlt⟩ := Bk.ten hB
  have HRW := Lib.hid hrow
  have hwb := g1.2.2.2.2
  have hrow' := hrow
  rw [← hwb] at hrow'
  have HRW' := Lib.hid hrow'
  have HFIN := Lib.hid (fun A' c' w6 hown6 hK6 hG => PS.appended (A' := A') (c' := c') (w6 := w6) g1 g3 hB hrow hcap hdat HC6.out HM5.out hown6 hK6 hG)
  have HBK := Lib.hid hB
  have HG2 := Lib.hid g2
  have HWB := Lib.hid hwb
  clear z1 z2 z3 z5 z6 z7 z8 z9 f0 f1 f2 f3 f5 f6 f7 f8 f9 g1 g2 g3 hB hrow hcap hdat hrow' hwb
  go_wp2_with (at_builtin; refine wpList_app HG2.out rfl (.tmp 74) (.tmp 75) 31 rfl 77 i0 (.agg #[.int .i64 0, .slice none 0 0]) 2 32 Tryd.underlying31 hi hz0 hz1 hz2 rfl (by decide) _ _ cs rfl HRW'.out A5 m c5 es rfl (by have := HC6.out.1; rw [HM5.out] at this; omega) (Arr.of_own HO6.out) (CapL.one HC6.out.to) (by show (st.o.caps.length + _) * _ ≤ _; omega) (by decide) _ rfl ?_; intro A' c' w6 hown6 hK6 hG _; rw [HWB.out] at hown6; have b6 := HBK.out.keep (Kp.of_grown hG) (own_ge HRW.out (by omega)); have u0 := b6.cell 0; have u4 := b6.cell 4; have v4 := b6.frozen 4; have ul := b6.lt; have HH := Lib.hid (HFIN.out A' c' w6 hown6 hK6 hG); clear hown6 hK6 hG b6 z0 z4 f4 hlt)
  go_end0
  exact ⟨⟨_, rfl⟩, HH.out⟩

set_option maxRecDepth 100000 in
set_option maxHeartbeats 8000000 in
theorem param_kind_no {w0 wB w : World} {q r p : Nat} {st : PSt} (h : PS w0 wB q r p st w) (hcl : st.o.caps.length ≤ 100000) (k : Int) (n : Nat) (d Z : List Int) (hy : st.ys = k :: (n : Int) :: (d ++ Z)) (hd : d.length = n) (hno : ∀ xs, validB xs = true → formC xs ≠ d) (hk : k ≠ 2) :
    Calls Tryd.prog 61 #[.pointer (some ⟨p, 0, none⟩)] w (Step w0 wB q r p ⟨{ st.o with caps := st.o.caps ++ [] }, Z, st.t + 1 + 1 + n, some (4, st.t, [])⟩) := by
  obtain ⟨i0, hi, hz0, hz1, hz2⟩ := info_parts infoCap
  have hR0 := h.rd
  rw [hy] at hR0
  have hkb := hR0.isB k (by simp)
  have HN1 := Lib.hid (num1_yes w q r k ((n : Int) :: (d ++ Z)) st.t hR0)
  have HM := Lib.hid (fun w1 (hR : Rd w1 q r ((n : Int) :: (d ++ Z)) (st.t + 1)) hK => h.move hR hK)
  have e1 : IntKind.i64.wrap (n : Int) = n := IntWalk.i64_in _ (by have := hR0.isB n (by simp); omega)
  have hn255 : n ≤ 255 := by have := hR0.isB n (by simp); omega
  have hisb : IsB d := fun z hz => hR0.isB z (by simp [hz])
  have hdl : d.length ≤ 255 := by omega
  have HRD := Lib.hid (fun w A c ha => read_no A c d w (by omega) ha hisb hno)
  clear hno
  simp only [hd] at HRD
  have HD := Lib.hid hd
  clear hd hdl hisb
  have hne : (k != 2) = true := by simp [hk]
  clear hk
  have x0 := h.x0
  have HAt := Lib.hid (at_q w q r st.ys st.t h.rd)
  have H := Lib.hid h
  clear h
  go_enter Tryd.func61, Tryd.ntmps61
  go_wp2_with fail
  refine HAt.out.mono ?_
  rintro e w1 ⟨rfl, rfl⟩
  go_wp2_with fail
  refine HN1.out.mono ?_
  rintro e w2 ⟨rfl, hR2, hK2⟩
  have h2 := HM.out _ hR2 hK2
  have x2 := h2.x0
  have HR2 := Lib.hid hR2
  replace h2 := Lib.hid h2
  clear x0 hR2 hK2
  go_wp2_with fail
  refine (num1_yes _ q r _ _ _ HR2.out).mono ?_
  rintro e w3 ⟨rfl, hR3, hK3⟩
  have h3 := h2.out.move hR3 hK3
  have x3 := h3.x0
  have HR3 := Lib.hid hR3
  replace h3 := Lib.hid h3
  clear x2 hR3 hK3
  go_wp2_with fail
  refine (take_d _ q r n d Z _ HR3.out HD.out).mono ?_
  rintro e w4 ⟨A4, c4, rfl, hown4, hR4, hK4⟩
  have h4 := h3.out.move hR4 hK4
  have HRD4 := Lib.hid (HRD.out w4 A4 c4 (Arr.of_own hown4))
  replace h4 := Lib.hid h4
  clear x3 hown4 hR4 hK4
  go_wp2_with fail
  refine HRD4.out.mono ?_
  rintro e w5 ⟨rfl, hK5⟩
  have h5 := h4.out.and hK5
  clear hK5
  have HFL := Lib.hid (fail_ps h5 4 st.t [] none 0 (World.ownsRow_nil _ _ _ _) 0 rfl)
  clear h5
  go_wp2_with fail
  refine HFL.out.mono ?_
  rintro e w6 ⟨⟨v, rfl⟩, h6⟩
  clear HFL
  obtain ⟨g1, g2, g3, A, c, cs, dA, dc, hB, hrow, hcap, hdat⟩ := h6
  obtain ⟨⟨z0, z1, z2, z3, z4, z5, z6, z7, z8, z9⟩, ⟨f0, f1, f2, f3, f4, f5, f6, f7, f8, f9⟩, hlt⟩ := Bk.ten hB
  have HRW := Lib.hid hrow
  have hwb := g1.2.2.2.2
  have hrow' := hrow
  rw [← hwb] at hrow'
  have HRW' := Lib.hid hrow'
  have HFIN := Lib.hid (fun A' c' w6 hown6 hK6 hG => PS.appended (A' := A') (c' := c') (w6 := w6) g1 g3 hB hrow hcap hdat (CapOL.nil _ _) rfl hown6 hK6 hG)
  have HBK := Lib.hid hB
  have HG2 := Lib.hid g2
  have HWB := Lib.hid hwb
  clear z1 z2 z3 z5 z6 z7 z8 z9 f0 f1 f2 f3 f5 f6 f7 f8 f9 g1 g2 g3 hB hrow hcap hdat hrow' hwb
  go_wp2_with (at_builtin; refine wpList_app HG2.out rfl (.tmp 74) (.tmp 75) 31 rfl 77 i0 (.agg #[.int .i64 0, .slice none 0 0]) 2 32 Tryd.underlying31 hi hz0 hz1 hz2 rfl (by decide) _ _ cs rfl HRW'.out none 0 0 [] rfl rfl (Arr.nil _ _) (by intro u hu; cases hu) (by show (st.o.caps.length + _) * _ ≤ _; omega) (by decide) _ rfl ?_; intro A' c' w6 hown6 hK6 hG _; rw [HWB.out] at hown6; have b6 := HBK.out.keep (Kp.of_grown hG) (own_ge HRW.out (by omega)); have u0 := b6.cell 0; have u4 := b6.cell 4; have v4 := b6.frozen 4; have ul := b6.lt; have HH := Lib.hid (HFIN.out A' c' w6 hown6 hK6 hG); clear hown6 hK6 hG b6 z0 z4 f4 hlt)
  go_end0
  exact ⟨⟨_, rfl⟩, HH.out⟩

theorem param_ps {w0 wB w : World} {q r p : Nat} {st : PSt} (h : PS w0 wB q r p st w) (hcl : st.o.caps.length ≤ 100000) (hne : st.ys ≠ []) :
    Calls Tryd.prog 61 #[.pointer (some ⟨p, 0, none⟩)] w (Step w0 wB q r p (stParam st)) := by
  have hB := h.rd.isB
  match hy : st.ys with
  | [] => exact absurd hy hne
  | [k] =>
    have e : stParam st = ⟨{ st.o with caps := st.o.caps ++ [] }, [], st.t + 1, some (0, st.t, [])⟩ := by unfold stParam; rw [hy]
    rw [e]
    exact param_one h hcl k hy
  | k :: ni :: rest =>
    obtain ⟨n, rfl⟩ := Int.eq_ofNat_of_zero_le (show 0 ≤ ni by have := hB ni (by rw [hy]; simp); omega)
    by_cases hs : rest.length < n
    · have e : stParam st = ⟨{ st.o with caps := st.o.caps ++ [] }, rest, st.t + 1 + 1, some (0, st.t, [])⟩ := by unfold stParam; rw [hy]; simp only [Int.toNat_natCast]; rw [if_pos hs]
      rw [e]
      exact param_short h hcl k n rest hy hs
    · have hdl : (rest.take n).length = n := by rw [List.length_take]; omega
      have hy' : st.ys = k :: (n : Int) :: (rest.take n ++ rest.drop n) := by rw [List.take_append_drop]; exact hy
      have e : stParam st = ⟨{ st.o with caps := st.o.caps ++ (readC (rest.take n)).getD [] }, rest.drop n, st.t + 1 + 1 + n, if k ≠ 2 then some (4, st.t, []) else if readC (rest.take n) = none then some (0, st.t, []) else st.bad⟩ := by unfold stParam; rw [hy]; simp only [Int.toNat_natCast]; rw [if_neg hs]
      rw [e]
      match hr : readC (rest.take n) with
      | some ls =>
        obtain ⟨h1, h2⟩ := readC_some hr
        by_cases hk : k = 2
        · rw [if_neg (by simp [hk]), if_neg (by simp)]
          exact param_good h hcl k n _ _ ls hy' hdl h1 h2 hk
        · rw [if_pos hk]
          exact param_kind_yes h hcl k n _ _ ls hy' hdl h1 h2 hk
      | none =>
        have h1 := readC_none hr
        by_cases hk : k = 2
        · rw [if_neg (by simp [hk]), if_pos rfl]
          exact param_none h hcl k n _ _ hy' hdl h1 hk
        · rw [if_pos hk]
          exact param_kind_no h hcl k n _ _ hy' hdl h1 hk

end Go.Proofs.YtilfheociidloaaDoor

namespace Go.Proofs.YtilfheociidloaaDoor
open Go.RowKit
set_option linter.unusedVariables false
set_option linter.unusedSimpArgs false

/-- Parameters are read till there are none, or a verdict. -/
noncomputable def iterP : Nat → PSt → PSt
  | 0, st => st
  | f + 1, st => if st.ys = [] ∨ st.bad.isSome = true then st else iterP f (stParam st)
noncomputable def stParams (st : PSt) : PSt := iterP st.ys.length st
theorem iterP_end (f : Nat) (st : PSt) (h : st.ys = [] ∨ st.bad.isSome = true) : iterP f st = st := by
  cases f with
  | zero => rfl
  | succ f => exact if_pos h
theorem iterP_go (f : Nat) (st : PSt) (h1 : st.ys ≠ []) (h2 : st.bad = none) (hf : st.ys.length ≤ f) : ∃ f', f = f' + 1 ∧ iterP f st = iterP f' (stParam st) := by
  cases f with
  | zero => exact absurd (List.eq_nil_of_length_eq_zero (by omega)) h1
  | succ f => exact ⟨f, rfl, if_neg (by simp [h1, h2])⟩
theorem caps_read {d : List Int} : ((readC d).getD []).length ≤ d.length := by
  cases h : readC d with
  | none => exact Nat.zero_le _
  | some ls =>
    obtain ⟨_, h2⟩ := readC_some h
    have := caps_le2 ls
    rw [h2] at this
    exact this
theorem param_less (st : PSt) (h : st.ys ≠ []) : (stParam st).ys.length < st.ys.length ∧ (st.o.caps.length ≤ st.t → (stParam st).o.caps.length ≤ (stParam st).t) ∧ (stParam st).t + (stParam st).ys.length ≤ st.t + st.ys.length := by
  match hy : st.ys with
  | [] => exact absurd hy h
  | [k] =>
    unfold stParam
    rw [hy]
    simp only [List.length_cons, List.length_nil, List.append_nil]
    exact ⟨by omega, fun h => by omega, by omega⟩
  | k :: n :: rest =>
    unfold stParam
    rw [hy]
    simp only
    by_cases hs : rest.length < n.toNat
    · rw [if_pos hs]
      simp only [List.length_cons, List.append_nil]
      exact ⟨by omega, fun h => by omega, by omega⟩
    · rw [if_neg hs]
      have h1 := caps_read (d := rest.take n.toNat)
      rw [List.length_take] at h1
      simp only [List.length_cons, List.length_append, List.length_drop]
      exact ⟨by omega, fun h => by omega, by omega⟩

theorem PS.x5 {w0 wB w : World} {q r p : Nat} {st : PSt} (h : PS w0 wB q r p st w) : w.cell? ⟨p, 5, none⟩ = some (.int .i64 (vOf st.bad).kind) := by
  obtain ⟨_, _, _, A, c, cs, dA, dc, hB, _⟩ := h; exact hB.cell 5
theorem PS.len {w0 wB w : World} {q r p : Nat} {st : PSt} (h : PS w0 wB q r p st w) : (match w.cell? ⟨r, 0, none⟩ with | some (.slice _ n _) => n | _ => 0) = st.ys.length := by
  obtain ⟨A, c, hB, _⟩ := h.rd
  rw [hB.cell 0]
  rfl

set_option maxRecDepth 100000 in
set_option maxHeartbeats 4000000 in
theorem params_ps {w0 wB w : World} {q r p : Nat} {st : PSt} (h : PS w0 wB q r p st w) (hcl : st.o.caps.length ≤ st.t) (hbd : st.t + st.ys.length ≤ 100000) :
    Calls Tryd.prog 40 #[.pointer (some ⟨p, 0, none⟩)] w (Step w0 wB q r p (stParams st)) := by
  obtain ⟨T, hT⟩ : ∃ T, stParams st = T := ⟨_, rfl⟩
  rw [hT]
  have H := Lib.hid h
  clear h
  go_enter Tryd.func40, Tryd.ntmps40
  go_wp2
  go_loopw [2] (fun x wr => Hid (∃ f st', st'.ys.length ≤ f ∧ iterP f st' = T ∧ st'.o.caps.length ≤ st'.t ∧ st'.t + st'.ys.length ≤ 100000 ∧ PS w0 wB q r p st' wr)) (fun _ wr => match wr.cell? ⟨r, 0, none⟩ with | some (.slice _ n _) => n | _ => 0)
  case atStart => exact Lib.hid ⟨st.ys.length, st, Nat.le_refl _, hT, hcl, hbd, H.out⟩
  case round =>
    have HX := hrel
    obtain ⟨f, st', hf, hit, hc, hb, hP⟩ := HX.out
    clear HX hrel
    have x0 := hP.x0
    have x5 := hP.x5
    obtain ⟨L, hL⟩ : ∃ L : Int, (st'.ys.length : Int) = L := ⟨_, rfl⟩
    have HLf := Lib.hid (left_len wr q r _ _ hP.rd L hL)
    by_cases hy : st'.ys = []
    · have hL0 : L = 0 := by rw [← hL, hy]; rfl
      subst hL0
      rw [iterP_end f st' (.inl hy)] at hit
      subst hit
      have HP := Lib.hid hP
      clear hP hf hc hb hL hT
      go_wp2_with (go_at_call 60; refine HLf.out.mono ?_; rintro e w3 ⟨rfl, rfl⟩)
      go_end0
      exact ⟨⟨_, rfl⟩, HP.out⟩
    · have hL0 : 0 < L := by
        have := List.length_pos_iff.2 hy
        omega
      match hbad : st'.bad with
      | some v =>
        rw [hbad] at x5
        rw [show (vOf (some v)).kind = 4 from rfl] at x5
        rw [iterP_end f st' (.inr (by rw [hbad]; rfl))] at hit
        subst hit
        have HP := Lib.hid hP
        clear hP hf hc hb hL hT
        go_wp2_with (go_at_call 60; refine HLf.out.mono ?_; rintro e w3 ⟨rfl, rfl⟩)
        go_end0
        exact ⟨⟨_, rfl⟩, HP.out⟩
      | none =>
        rw [hbad] at x5
        rw [show (vOf none).kind = 0 from rfl] at x5
        obtain ⟨f', hf', hgo⟩ := iterP_go f st' hy hbad hf
        obtain ⟨l1, l2, l3⟩ := param_less st' hy
        have HPa := Lib.hid (param_ps hP (by omega) hy)
        have HM := Lib.hid hP.len
        have HFIN : Hid (∀ w1, PS w0 wB q r p (stParam st') w1 → ∃ f st', st'.ys.length ≤ f ∧ iterP f st' = T ∧ st'.o.caps.length ≤ st'.t ∧ st'.t + st'.ys.length ≤ 100000 ∧ PS w0 wB q r p st' w1) := Lib.hid (fun w1 h1 => ⟨f', stParam st', by omega, by rw [← hgo]; exact hit, l2 hc, by omega, h1⟩)
        have HL1 := Lib.hid l1
        clear hP hf hc hb hL hT hf' hgo l1 l2 l3 hit
        go_wp2_with (go_at_call 60; refine HLf.out.mono ?_; rintro e w3 ⟨rfl, rfl⟩)
        refine HPa.out.mono ?_
        rintro e w4 ⟨⟨v, rfl⟩, h4⟩
        have HM4 := Lib.hid h4.len
        replace h4 := Lib.hid (HFIN.out _ h4)
        go_wp2_with fail
        go_roundw
        case rel => exact h4
        case measure =>
          rw [HM4.out, HM.out]
          exact HL1.out

/-- The system that the capabilities name. -/
def stNamed (st : PSt) : PSt :=
  ⟨{ st.o with sys := if sysB st.o.caps then sysV st.o.caps else st.o.sys }, st.ys, st.t, if (if sysB st.o.caps then sysV st.o.caps else st.o.sys) = 0 then some (2, 1, []) else st.bad⟩

set_option maxRecDepth 100000 in
set_option maxHeartbeats 8000000 in
theorem named_ps {w0 wB w : World} {q r p : Nat} {st : PSt} (h : PS w0 wB q r p st w) (hcl : st.o.caps.length ≤ 1000000) :
    Calls Tryd.prog 41 #[.pointer (some ⟨p, 0, none⟩)] w (Step w0 wB q r p (stNamed st)) := by
  obtain ⟨g1, g2, g3, A, c, cs, dA, dc, hB, hrow, hcap, hdat⟩ := id h
  have HS := Lib.hid (system_any A c st.o.caps cs w hcap.to (Arr.of_own hrow) hcl)
  have x4 : w.cell? ⟨p, 4, none⟩ = some (.slice A st.o.caps.length c) := hB.cell 4
  have x1 : w.cell? ⟨p, 1, none⟩ = some (.int .u32 st.o.sys) := hB.cell 1
  have f1 : w.frozen? ⟨p, 1, none⟩ = false := hB.frozen 1
  have hlt := hB.lt
  have HH := Lib.hid (fun w1 (k : Kp NoB w w1) => h.and k)
  have HK := Lib.hid (fun w1 (k : Kp NoB w w1) => (⟨k.cell x1 (fun q => q), (k.frozen hlt (fun q => q)).trans f1, Nat.lt_of_lt_of_le hlt k.size⟩ : w1.cell? ⟨p, 1, none⟩ = some (.int .u32 st.o.sys) ∧ w1.frozen? ⟨p, 1, none⟩ = false ∧ p < w1.heap.size))
  unfold stNamed
  obtain ⟨sb, hsb⟩ : ∃ b, sysB st.o.caps = b := ⟨_, rfl⟩
  obtain ⟨sv, hsv⟩ : ∃ b, sysV st.o.caps = b := ⟨_, rfl⟩
  obtain ⟨n, hn⟩ : ∃ n, st.o.caps.length = n := ⟨_, rfl⟩
  obtain ⟨s, hs⟩ : ∃ n, st.o.sys = n := ⟨_, rfl⟩
  rw [hsb, hsv] at HS ⊢
  rw [hn] at HS x4
  rw [hs] at HK x1
  rw [hs]
  have HSE := Lib.hid hs
  clear g1 g2 g3 hB hrow hcap hdat h hcl hsb hsv hn hs
  cases sb
  · rw [if_neg (by decide)]
    by_cases hc : s = 0
    · rw [if_pos hc]
      have hne : (s == 0) = true := by simp [hc]
      clear hc
      go_enter Tryd.func41, Tryd.ntmps41
      go_wp2_with fail
      refine HS.out.mono ?_
      rintro e w1 ⟨rfl, hK1⟩
      obtain ⟨y1, y2, y3⟩ := HK.out _ hK1
      have h1 := HH.out _ hK1
      have h3 := Lib.hid (fail_ps h1 2 1 [] none 0 (World.ownsRow_nil _ _ _ _) 0 rfl)
      clear h1 hK1
      go_wp2_with fail
      refine h3.out.mono ?_
      rintro e w2 ⟨⟨v, rfl⟩, h4⟩
      replace h4 := Lib.hid h4
      go_wp2_with fail
      go_end0
      exact ⟨⟨_, rfl⟩, by have := h4.out; rw [← HSE.out]; exact this⟩
    · rw [if_neg hc]
      have hne : (s == 0) = false := by simp [hc]
      clear hc
      go_enter Tryd.func41, Tryd.ntmps41
      go_wp2_with fail
      refine HS.out.mono ?_
      rintro e w1 ⟨rfl, hK1⟩
      obtain ⟨y1, y2, y3⟩ := HK.out _ hK1
      have h1 := Lib.hid (HH.out _ hK1)
      clear hK1
      go_wp2_with fail
      go_end0
      exact ⟨⟨_, rfl⟩, by have := h1.out; rw [← HSE.out]; exact this⟩
  · rw [if_pos rfl]
    by_cases hc : sv = 0
    · rw [if_pos hc]
      have hne : (sv == 0) = true := by simp [hc]
      clear hc
      go_enter Tryd.func41, Tryd.ntmps41
      go_wp2_with fail
      refine HS.out.mono ?_
      rintro e w1 ⟨rfl, hK1⟩
      obtain ⟨y1, y2, y3⟩ := HK.out _ hK1
      have h1 := HH.out _ hK1
      have h2 := h1.store 1 (.int .u32 sv) { st.o with sys := sv } rfl (fun _ _ _ _ => rfl)
      have h3 := Lib.hid (fail_ps h2 2 1 [] none 0 (World.ownsRow_nil _ _ _ _) 0 rfl)
      clear h1 hK1 h2
      go_wp2_with fail
      refine h3.out.mono ?_
      rintro e w2 ⟨⟨v, rfl⟩, h4⟩
      replace h4 := Lib.hid h4
      go_wp2_with fail
      go_end0
      exact ⟨⟨_, rfl⟩, h4.out⟩
    · rw [if_neg hc]
      have hne : (sv == 0) = false := by simp [hc]
      clear hc
      go_enter Tryd.func41, Tryd.ntmps41
      go_wp2_with fail
      refine HS.out.mono ?_
      rintro e w1 ⟨rfl, hK1⟩
      obtain ⟨y1, y2, y3⟩ := HK.out _ hK1
      have h1 := HH.out _ hK1
      have h2 := Lib.hid (h1.store 1 (.int .u32 sv) { st.o with sys := sv } rfl (fun _ _ _ _ => rfl))
      clear h1 hK1
      go_wp2_with fail
      go_end0
      exact ⟨⟨_, rfl⟩, h2.out⟩

end Go.Proofs.YtilfheociidloaaDoor
