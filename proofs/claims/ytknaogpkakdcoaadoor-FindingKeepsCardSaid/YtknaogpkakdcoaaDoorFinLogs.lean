/- FindingLogs' walk; the argument [][]api.Verdict. No condition but the listed tables' content. -/
import Derived.Test.YtknaogpkakdcoaaDoorFinO
namespace Go.Proofs.YtknaogpkakdcoaaDoor
open Go.ChangeShapes Go.WideShapes Go.ChangeAt Go.RowKit
set_option linter.unusedVariables false
set_option linter.unusedSimpArgs false

/-! ### the argument -/
/-- Lists of verdicts that came in. -/
def InVss (w : World) (A : Option Addr) (n c : Nat) (xss : List (List ArgV)) : Prop := xss.length = n ∧ n ≤ c ∧ c ≤ maxLen ∧ Sl VsE 1 w A xss ∧ ∀ xs ∈ xss, ∀ z ∈ xs, InV w z
theorem open_vs_cs {H : Type} {enc : TypeId × Value → H} {W : World} {fuel : Nat} {cs : List Value} {x : DataW H × List MemPlace}
    (hf : DataW.trod enc Tryd.prog W 0 (fun _ => true) true fuel 29 cs = some x) : ∃ xs : List ArgV, VsE W xs cs ∧ ∀ z ∈ xs, InV W z := by
  obtain ⟨A', n', c', hcs, h1, h2, xs, h3, h4⟩ := open_sl (α := ArgV) Tryd.underlying29 5 (by kernel_rfl) (fun W z cs => cs = z.cs ∧ InV W z) (fun fuel cs x hx => open_ver_cs hx) hf
  subst h3
  refine ⟨xs, ⟨A', c', hcs, h1, h2, fun hn => ?_⟩, fun x hx => ?_⟩
  · obtain ⟨ad, e, hc⟩ := h4 hn
    refine ⟨ad, e, fun j x hx => ?_⟩
    obtain ⟨cs, q1, q2, q3⟩ := hc j x hx
    exact ⟨cs, q1, q2.1, q3⟩
  · obtain ⟨i, hi, e⟩ := List.getElem_of_mem hx
    obtain ⟨ad, cs, _, _, q2, _⟩ := h4.at (List.getElem?_eq_getElem hi)
    rw [e] at q2
    exact q2.2
theorem open_arg36 {H : Type} {enc : TypeId × Value → H} {W : World} {A : Option Addr} {n c : Nat} {d : DataW H} {p : List MemPlace}
    (h : DataW.Trod enc Tryd.prog W 0 (fun _ => true) true 36 (.slice A n c) d p) : ∃ xss, InVss W A n c xss := by
  obtain ⟨fuel, hf⟩ := h
  obtain ⟨A', n', c', hcs, h1, h2, xs, h3, h4⟩ := open_sl (α := List ArgV) Tryd.underlying36 1 (by kernel_rfl) (fun W xs cs => VsE W xs cs ∧ ∀ z ∈ xs, InV W z) (fun fuel cs x hx => open_vs_cs hx) hf
  simp [Value.cells] at hcs
  obtain ⟨rfl, rfl, rfl⟩ := hcs
  refine ⟨xs, h3, h1, h2, fun hn => ?_, fun x hx => ?_⟩
  · obtain ⟨ad, e, hc⟩ := h4 hn
    refine ⟨ad, e, fun j x hx => ?_⟩
    obtain ⟨cs, q1, q2, q3⟩ := hc j x hx
    exact ⟨cs, q1, q2.1, q3⟩
  · obtain ⟨i, hi, e⟩ := List.getElem_of_mem hx
    obtain ⟨ad, cs, _, _, q2, _⟩ := h4.at (List.getElem?_eq_getElem hi)
    rw [e] at q2
    exact q2.2
theorem vsE_at2 {w : World} {A : Option Addr} {xss : List (List ArgV)} (h : Sl VsE 1 w A xss) (j : Nat) (hj : j < xss.length) :
    ∃ ad B c, A = some ad ∧ w.cell? (ad.add j) = some (.slice B xss[j].length c) ∧ xss[j].length ≤ maxLen ∧ VsL w B xss[j] := by
  obtain ⟨ad, cs, e, _, ⟨B, c, rfl, h2, h3, h4⟩, hc⟩ := h.at (List.getElem?_eq_getElem hj)
  have := hc 0 _ rfl
  rw [Nat.mul_one, Nat.add_zero] at this
  exact ⟨ad, B, c, e, this, Nat.le_trans h2 h3, h4⟩
theorem vs_lt {w : World} {A : Option Addr} {xs : List ArgV} (h : VsL w A xs) (hn : xs ≠ []) : ∀ ad, A = some ad → ad.block < w.heap.size := by
  intro ad e
  obtain ⟨ad', e', h0, _⟩ := vs_at h (List.length_pos_iff.2 hn)
  rw [e] at e'
  injection e' with e'
  subst e'
  have := World.block_lt_of_cell? w _ h0
  rwa [block_add] at this

/-! ### what the loop keeps: the row at hand (ys), the log (zs, like qs), apart from each other -/
structure LgI (w wr : World) (L : Nat) (ys qs : List ArgV) (A : Option Addr) (r c : Nat) (v : Value) (zs : List ArgV) : Prop where
  len : ys.length = r
  row : wr.ownsRow w.heap.size 24 5 (.slice A r c) r (flatZ ys)
  log : LogS w.heap.size wr L v zs
  lk : zs.map key = qs.map key
  sep : ∀ b, some b = (Value.slice A r c).ownBlock → ¬ FL L v zs b
  kp : Kp NoB w wr
section
variable {w wr w2 : World} {L r c : Nat} {ys qs zs : List ArgV} {A : Option Addr} {v : Value}
theorem LgI.and (h : LgI w wr L ys qs A r c v zs) (k : Kp NoB wr w2) : LgI w w2 L ys qs A r c v zs :=
  ⟨h.len, k.own h.row (fun _ _ q => q), h.log.and k, h.lk, h.sep, h.kp.and k⟩
theorem LgI.new (w : World) : LgI w (w.alloc (.cells #[.slice none 0 0] 60)) w.heap.size [] [] none 0 0 (.slice none 0 0) [] :=
  ⟨rfl, World.ownsRow_nil _ _ _ _, logS_new w, rfl, (fun b e => nomatch e), (Kp.refl _ _).alloc _⟩
theorem LgI.app {A2 : Option Addr} {c2 e : Nat} {es : List ArgV} (h : LgI w wr L ys qs A r c v zs) (he : es.length = e) (hg : wr.grownBy w2 (Value.slice A r c).ownBlock)
    (ho : w2.ownsRow w.heap.size 24 5 (.slice A2 (r + e) c2) (r + e) (flatZ ys ++ flatZ es)) (hor : (Value.slice A2 (r + e) c2).ownBlock = (Value.slice A r c).ownBlock ∨ (Value.slice A2 (r + e) c2).ownBlock = some wr.heap.size) (hk : Kp NoB w w2) :
    LgI w w2 L (ys ++ es) qs A2 (r + e) c2 v zs := by
  refine ⟨by rw [List.length_append, h.len, he], by rw [show flatZ (ys ++ es) = flatZ ys ++ flatZ es by simp [flatZ]]; exact ho, h.log.keep (Kp.of_grown hg) (fun b hb => h.sep b hb), h.lk, fun b hb => ?_, hk⟩
  rcases hor with q | q
  · rw [q] at hb
    exact h.sep b hb
  · rw [q] at hb
    injection hb with hb
    intro q2
    have := (h.log.lt b q2).2
    omega
theorem LgI.add {A' : Option Addr} {n' c' : Nat} {zs' es : List ArgV} (h : LgI w wr L ys qs A r c v zs) (ha : AddM w.heap.size wr L v zs es w2 A' n' c' zs') (hy : ys.map key = (qs ++ es).map key) : LgI w w2 L ys ys A r c (.slice A' n' c') zs' := by
  obtain ⟨h1, h2, h3⟩ := ha
  refine ⟨h.len, h3.2.1.own h.row (fun b hb => h.sep b hb.symm), h3.1, ?_, fun b hb q => ?_, h.kp.trans h3.2.1 (fun b hb q => absurd hb (Nat.not_lt.2 (h.log.lt b q).1))⟩
  · rw [h2, hy, List.map_append, List.map_append, h.lk]
  · rcases h3.2.2 b q with q2 | q2
    · exact h.sep b hb q2
    · have := (h.row.lt b hb.symm).2
      omega
end
def errsOf (xss : List (List ArgV)) : List ArgV := xss.flatten.filter errZ
theorem errsOf_step (xss : List (List ArgV)) (j : Nat) (hj : j < xss.length) : errsOf (xss.take (j + 1)) = errsOf (xss.take j) ++ xss[j].filter errZ := by
  unfold errsOf
  rw [flatV_snoc xss j hj, List.filter_append]

set_option maxRecDepth 100000 in
set_option maxHeartbeats 8000000 in
theorem flogs_row (A : Option Addr) (n c : Nat) (xss : List (List ArgV)) (kind : Int) (w : World) (hx : InVss w A n c xss) (hkd : -9223372036854775808 ≤ kind ∧ kind ≤ 9223372036854775807) (ld : Ld w) :
    Calls Tryd.prog 6 #[.slice A n c, .int .i64 kind] w fun e w' => e = .returned (.bool true) ∧ Kp NoB w w' := by
  obtain ⟨hn, -, -, hA, hI⟩ := hx
  have HAL := Lib.hid (fun W (k : Kp NoB w W) => alive_any W (ld.and k))
  have HNW := Lib.hid (new_any w)
  by_cases h20 : n ≤ 20
  · have HA := Lib.hid hA
    have HI := Lib.hid hI
    have HN := Lib.hid hn
    obtain ⟨i0, hi, hz0, hz1, hz2⟩ := info_parts infoV5
    have h20' : ¬ (20 : Int) < n := by omega
    clear hA hI hn ld
    go_enter Tryd.func6, Tryd.ntmps6
    go_wp2_with (go_at_call 21; (with_reducible refine Calls.mono HNW.out ?_); rintro e w0 ⟨rfl, rfl⟩)
    go_loopw [6, 27] (fun v i wr => ∃ (j r : Nat) (A' : Option Addr) (c' : Nat), j ≤ n ∧ r ≤ 50 * j ∧ i = .int .i64 j ∧ v = .slice A' r c' ∧ Hid (∃ Al cl zs, zs.length = r ∧ LgI w wr w.heap.size (errsOf (xss.take j)) (errsOf (xss.take j)) A' r c' (.slice Al r cl) zs)) (fun _ i _ => n - (intOf i).toNat)
    case atStart => exact ⟨0, 0, none, 0, Nat.zero_le _, Nat.le_refl _, rfl, rfl, Lib.hid ⟨none, 0, [], rfl, LgI.new w⟩⟩
    case round =>
      obtain ⟨j, r, A', c', hj, hr, rfl, rfl, HL⟩ := hrel
      obtain ⟨Al, cl, zs, hzl, hlg⟩ := HL.out
      by_cases hlt : j < n
      · have hjl : j < xss.length := by rw [HN.out]; exact hlt
        have hst := errsOf_step xss j hjl
        obtain ⟨ad, B, cB, rfl, hc0, hmx, hv0⟩ := vsE_at2 HA.out j hjl
        have hcell := hlg.kp.cell hc0 (fun q => q)
        have hin := HI.out _ (List.getElem_mem hjl)
        obtain ⟨P, hP⟩ : ∃ q, xss[j] = q := ⟨_, rfl⟩
        rw [hP] at hst hcell hmx hv0 hin
        obtain ⟨b, hb⟩ : ∃ b, fewB P = b := ⟨_, rfl⟩
        have HFW := Lib.hid (fun W (k : Kp NoB w W) => (show Calls Tryd.prog 13 #[.slice B P.length cB] W (Stay (.bool b) W) by rw [← hb]; exact few_any B cB P W (hv0.and k) hmx))
        have HG := Lib.hid hlg
        obtain ⟨m, hmm⟩ : ∃ m, P.length = m := ⟨_, rfl⟩
        cases b
        · rw [hmm] at hcell HFW
          clear hst hc0 hmx hv0 hin hP hb hmm hlg HL
          go_wp2_with (first
            | (go_at_call 13; (with_reducible refine Calls.mono (HFW.out _ HG.out.kp) ?_); rintro e w1 ⟨rfl, hK⟩; have k1 := Lib.hid (HG.out.kp.and hK); clear hK)
            | (go_at_call 8; (with_reducible refine Calls.mono (HAL.out _ k1.out) ?_); rintro e w2 ⟨rfl, hK⟩; have k2 := Lib.hid (k1.out.and hK); clear hK))
          go_ret
          exact ⟨rfl, k2.out⟩
        · have g1 := hb
          unfold fewB at g1
          simp only [Bool.and_eq_true, decide_eq_true_eq, List.all_eq_true] at g1
          have hq : ∀ x ∈ P, Arr w x.A (bs x.d) ∧ x.d.length ≤ 1000 ∧ IsB x.d := fun z hz => ⟨(hin z hz).1.2.2.2.1, by have := g1.1 z hz; omega, (hin z hz).1.2.2.2.2⟩
          have hm50 : m ≤ 50 := by have := g1.2; omega
          have hfl := List.length_filter_le errZ P
          obtain ⟨e, hel⟩ : ∃ e, (P.filter errZ).length = e := ⟨_, rfl⟩
          have he50 : e ≤ 50 := by omega
          have hrr : r + e ≤ 50 * (j + 1) := by omega
          have hr1 : r ≤ 1000 := by omega
          have HER := Lib.hid (fun W (k : Kp NoB w W) => (show Calls Tryd.prog 22 #[.slice B P.length cB] W (fun e' w' => ∃ A1 c1, e' = .returned (.slice A1 e c1) ∧ VsL w' A1 (P.filter errZ) ∧ Kp NoB W w') by rw [← hel]; exact errors_any B cB P W (hv0.and k) (by omega)))
          have HAD := Lib.hid (fun W A2 c2 (h : LgI w W w.heap.size (errsOf (xss.take j) ++ P.filter errZ) (errsOf (xss.take j)) A2 (r + e) c2 (.slice Al r cl) zs) => add_any w.heap.size w.heap.size Al r cl zs B cB P W h.log hzl (hv0.and h.kp) (fun x hx => ⟨(hq x hx).1.and h.kp, (hq x hx).2⟩) (fun hne ad e q => absurd (vs_lt hv0 hne ad e) (Nat.not_lt.2 (h.log.lt _ q).1)) (fun x hx hd ad e q => absurd (arr_lt (hq x hx).1 hd ad e) (Nat.not_lt.2 (h.log.lt _ q).1)) (by omega) h.kp.size)
          rw [hmm] at hcell HFW HER HAD
          have HST := Lib.hid hst
          have HEL := Lib.hid hel
          have HZL := Lib.hid hzl
          clear hst hc0 hmx hv0 hin hP hb hmm hlg HL g1 hq hfl hel hzl
          go_wp2_with (first
            | (go_at_call 13; (with_reducible refine Calls.mono (HFW.out _ HG.out.kp) ?_); rintro e w1 ⟨rfl, hK⟩; have G1 := Lib.hid (HG.out.and hK); clear hK)
            | (go_at_call 22; (with_reducible refine Calls.mono (HER.out _ G1.out.kp) ?_); rintro e w2 ⟨A1, c1, rfl, hv, hK⟩; have G2 := Lib.hid (G1.out.and hK); have V2 := Lib.hid hv; clear hK hv)
            | (at_builtin; refine wpList_app G2.out.kp rfl (.tmp 35) (.tmp 37) 29 rfl 24 i0 (.agg zeroZ.cs.toArray) 5 56 Tryd.underlying29 hi hz0 hz1 hz2 rfl (by decide) _ r (flatZ (errsOf (xss.take j))) rfl G2.out.row A1 e c1 (flatZ (P.filter errZ)) rfl (by rw [flatZ_length, HEL.out]) (arr_of_vsL V2.out) flatZ_one (by omega) (by decide) (r + e) rfl ?_; intro A2 c2 w3 hown hK2 hg hor; have G3 := Lib.hid (G2.out.app HEL.out hg hown hor hK2); clear hown hK2 hg hor)
            | (go_at_call 23; (with_reducible refine Calls.mono (HAD.out _ A2 c2 G3.out) ?_); rintro e' w4 ⟨A3, n3, c3, zs3, rfl, hadd⟩; have HN3 := Lib.hid (show n3 = r + e by rw [hadd.len, HZL.out, HEL.out]); have G4 := Lib.hid (G3.out.add hadd rfl); have Z4 := Lib.hid hadd.1; clear hadd; obtain rfl := HN3.out; clear HN3))
          go_roundw
          case rel => exact ⟨j + 1, r + e, A2, c2, by omega, by omega, by go_num, rfl, Lib.hid ⟨A3, c3, zs3, Z4.out, by rw [HST.out]; exact G4.out⟩⟩
          case measure => simp [intOf]; omega
      · have ht : xss.take j = xss := List.take_of_length_le (by rw [HN.out]; omega)
        rw [ht] at hlg
        have hmem : ∀ z ∈ errsOf xss, Arr w z.A (bs z.d) ∧ IsB z.d := by
          intro z hz
          unfold errsOf at hz
          have hz2 := (List.mem_filter.1 hz).1
          obtain ⟨ys, hy, hz3⟩ := List.mem_flatten.1 hz2
          exact ⟨(HI.out ys hy z hz3).1.2.2.2.1, (HI.out ys hy z hz3).1.2.2.2.2⟩
        obtain ⟨Y, hY⟩ : ∃ y, errsOf xss = y := ⟨_, rfl⟩
        rw [hY] at hlg hmem
        have hr1 : r ≤ 1000 := by omega
        have hvs : VsL wr A' Y := by
          have := hlg.row
          have hl := hlg.len
          exact vsL_of_arr (Arr.of_own this)
        have hfz := foldZ_ok (fun z => Arr w z.A (bs z.d) ∧ IsB z.d) ⟨Arr.nil _ _, IsB.nil⟩ Y hmem
        have hkz := foldZ_key _ _ hlg.lk
        have hcn := countZ_key kind _ _ hlg.lk
        obtain ⟨F, hF⟩ : ∃ f, foldZ Y = f := ⟨_, rfl⟩
        rw [hF] at hfz hkz
        obtain ⟨fk, fc, fs, fd, fA, fm, fa⟩ := F
        simp only at hfz
        obtain ⟨fn, hfn⟩ : ∃ q, fd.length = q := ⟨_, rfl⟩
        obtain ⟨R, hR⟩ : ∃ q, countZ kind Y = q := ⟨_, rfl⟩
        have hRle : R ≤ 1000 := by
          have h1 := List.length_filter_le (fun z : ArgV => decide (z.k = kind)) Y
          have h2 := hlg.len
          unfold countZ at hR
          omega
        rw [hR] at hcn
        have hsv : sameV fk fc fs fd fa fk fc fs fd fa = true := by unfold sameV; simp
        have HALL := Lib.hid (fun W (k : Kp NoB wr W) => all_log w.heap.size w.heap.size Al r cl zs W (hlg.log.and k) hzl (by omega))
        have HCN := Lib.hid (fun W (k : Kp NoB wr W) => (show Calls Tryd.prog 26 _ W (Stay (.int .i64 (R : Nat)) W) by rw [← hcn]; exact count_log w.heap.size w.heap.size Al r cl zs kind W (hlg.log.and k) hzl (by omega)))
        have HWO := Lib.hid (fun W (k : Kp NoB wr W) => worst_log w.heap.size w.heap.size Al r cl zs W (hlg.log.and k) hzl hr1 fk fc fs fd fn fa hkz hfn)
        have HFO := Lib.hid (fun W (k : Kp NoB wr W) => (show Calls Tryd.prog 20 #[.slice A' r c'] W (Stay (.agg #[.int .i64 fk, .int .i64 fc, .int .i64 fs, .slice fA fn fm, .int .i64 fa]) W) by
          have := rfold_any A' c' Y W (hvs.and k) (by rw [hlg.len]; exact hr1)
          rw [rfold_eq, hF, hlg.len] at this
          rw [← hfn]
          exact this))
        have HSM := Lib.hid (fun W A1 m1 (k : Kp NoB wr W) (h : Arr W A1 (bs fd)) => (show Calls Tryd.prog 17 #[.agg #[.int .i64 fk, .int .i64 fc, .int .i64 fs, .slice A1 fn m1, .int .i64 fa], .agg #[.int .i64 fk, .int .i64 fc, .int .i64 fs, .slice fA fn fm, .int .i64 fa]] W (Stay (.bool true) W) by
          have := vsame_any fk fc fs fd A1 m1 fa fk fc fs fd fA fm fa W h (hfz.1.and (hlg.kp.and k)) hfz.2 hfz.2
          rw [hsv, hfn] at this
          exact this))
        have HEQ := Lib.hid (fun W W0 A2 c2 zs2 (k : Kp NoB wr W) (h : AllM W0 zs r W A2 c2 zs2) => equal_any A2 A' c2 c' r zs2 Y W (h.2.2.1.vs h.1) (hvs.and k) (h.2.1.trans hlg.lk) hlg.len (by omega) (fun x hx => ⟨(h.2.2.1.dat x hx).1, (h.2.2.1.dat x hx).2.2⟩) (fun x hx => (hmem x hx).1.and (hlg.kp.and k)))
        have HV := Lib.hid hvs
        have HLEN := Lib.hid hlg.len
        have HKW := Lib.hid hlg.kp
        have HRR := Lib.hid hR
        clear ht hlg hmem hvs hfz hkz hcn hF hfn hR hsv HL hY hzl
        go_wp2
        go_loopw [9, 48] (fun v i wq => ∃ q : Nat, q ≤ r ∧ i = .int .i64 q ∧ v = .int .i64 (countZ kind (Y.take q) : Nat) ∧ Hid (Kp NoB wr wq)) (fun _ i _ => r - (intOf i).toNat)
        case atStart => exact ⟨0, Nat.zero_le _, rfl, rfl, Lib.hid (Kp.refl _ _)⟩
        case round =>
          obtain ⟨q, hq, rfl, rfl, KQ⟩ := hrel
          by_cases hlt2 : q < r
          · have hql : q < Y.length := by rw [HLEN.out]; exact hlt2
            have hst := countZ_step kind Y q hql
            have hle : countZ kind (Y.take q) ≤ 100000 := by
              unfold countZ
              have h1 := List.length_filter_le (fun z : ArgV => decide (z.k = kind)) (Y.take q)
              rw [List.length_take] at h1
              omega
            obtain ⟨ad, rfl, x0, x1, x2, x3, x4⟩ := vs_at (HV.out.and KQ.out) hql
            obtain ⟨z, hz⟩ : ∃ z, Y[q] = z := ⟨_, rfl⟩
            rw [hz] at x0 x1 x2 x3 x4 hst
            obtain ⟨p, hp⟩ : ∃ p, countZ kind (Y.take q) = p := ⟨_, rfl⟩
            rw [hp] at hst hle
            simp only [hp]
            have HST := Lib.hid hst
            clear hz hst hp
            by_cases hk : z.k = kind
            · go_wp2
              go_roundw
              case rel => exact ⟨q + 1, by omega, by go_num, by rw [HST.out, if_pos hk]; go_num, Lib.hid (KQ.out.alloc _)⟩
              case measure => simp [intOf]; omega
            · go_wp2
              go_roundw
              case rel => exact ⟨q + 1, by omega, by go_num, by rw [HST.out, if_neg hk]; rfl, Lib.hid (KQ.out.alloc _)⟩
              case measure => simp [intOf]; omega
          · have ht2 : countZ kind (Y.take q) = R := by
              rw [List.take_of_length_le (by rw [HLEN.out]; omega)]
              exact HRR.out
            rw [ht2]
            clear ht2
            go_wp2_with (first
              | (go_at_call 8; (with_reducible refine Calls.mono (HAL.out _ (HKW.out.and KQ.out)) ?_); rintro e w5 ⟨rfl, hK⟩; have k5 := Lib.hid (KQ.out.and hK); clear hK)
              | (go_at_call 25; (with_reducible refine Calls.mono (HALL.out _ k5.out) ?_); rintro e w6 ⟨A2, c2, zs2, rfl, hall⟩; have HL6 := Lib.hid hall; have k6 := Lib.hid (k5.out.and hall.2.2.2); clear hall)
              | (go_at_call 24; (with_reducible refine Calls.mono (HEQ.out _ _ A2 c2 zs2 k6.out HL6.out) ?_); rintro e w7 ⟨rfl, hK⟩; have k7 := Lib.hid (k6.out.and hK); clear hK)
              | (go_at_call 26; (with_reducible refine Calls.mono (HCN.out _ k7.out) ?_); rintro e w8 ⟨rfl, hK⟩; have k8 := Lib.hid (k7.out.and hK); clear hK)
              | (go_at_call 27; (with_reducible refine Calls.mono (HWO.out _ k8.out) ?_); rintro e w9 ⟨A4, m4, rfl, ha, hK⟩; have k9 := Lib.hid (k8.out.and hK); have a9 := Lib.hid ha; clear hK ha)
              | (go_at_call 20; (with_reducible refine Calls.mono (HFO.out _ k9.out) ?_); rintro e w10 ⟨rfl, hK⟩; have k10 := Lib.hid (k9.out.and hK); have a10 := Lib.hid (a9.out.and hK); clear hK)
              | (go_at_call 17; (with_reducible refine Calls.mono (HSM.out _ A4 m4 k10.out a10.out) ?_); rintro e w11 ⟨rfl, hK⟩; have k11 := Lib.hid (k10.out.and hK); clear hK))
            go_ret
            exact ⟨by simp, HKW.out.and k11.out⟩
  · have h20' : (20 : Int) < n := by omega
    clear hA hI hn h20
    go_enter Tryd.func6, Tryd.ntmps6
    go_wp2_with (first
      | (go_at_call 21; (with_reducible refine Calls.mono HNW.out ?_); rintro e w0 ⟨rfl, rfl⟩)
      | (go_at_call 8; (with_reducible refine Calls.mono (HAL.out _ ((Kp.refl _ _).alloc _)) ?_); rintro e w1 ⟨rfl, hK⟩; have k1 := Lib.hid (((Kp.refl NoB w).alloc _).and hK); clear hK))
    go_ret
    exact ⟨rfl, k1.out⟩

end Go.Proofs.YtknaogpkakdcoaaDoor
