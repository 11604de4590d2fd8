/- Read of the reference: its contracts by walking the Go text. -/
import Derived.Test.YtomkomkenfacpaaCapF
namespace Go.Proofs.Ytomkomkenfacpaa
open Go.RowKit
set_option linter.unusedVariables false
set_option linter.unusedSimpArgs false

/-- The cells from a later address on. -/
theorem arr_at2 {w : World} {ad : Addr} {vs us : List Value} {n : Nat} (h : Arr w (some ad) vs) (hu : ∀ i u, us[i]? = some u → vs[n + i]? = some u) : Arr w (some (ad.add n)) us := fun hn => by
  refine ⟨_, rfl, fun i u hi => ?_⟩
  obtain ⟨ad', e, hc⟩ := h.at (hu i u hi)
  injection e with e
  subst e
  rw [add_add]
  exact hc

set_option maxHeartbeats 4000000 in
theorem rread_yes (A : Option Addr) (c : Nat) (zs : List Int) (xs : List CapI) (w : World) (hn : zs.length ≤ 100000) (hc : zs.length ≤ c) (hcm : c ≤ maxLen) (ha : Arr w A (bs zs)) (hb : IsB zs) (hv : validB xs = true) (hz : formC xs = zs) :
    Calls Try.prog 36 #[.slice A zs.length c] w (ReadYes 48 xs w) := by
  obtain ⟨i0, hi, hz0, hz1, hz2⟩ := info_parts infoRCap
  obtain ⟨i1, hi1, hy0, hy1, hy2⟩ := info_parts infoU8
  have HV : Hid (∀ x ∈ xs, okC x = true) := Lib.hid (by simpa [validB] using hv)
  have hnx : xs.length ≤ 100000 := by
    have : xs.length ≤ (formC xs).length := by
      clear hz hv HV
      induction xs with
      | nil => exact Nat.zero_le _
      | cons x xs ih => simp only [formC, List.flatMap_cons, List.length_append, List.length_cons] at ih ⊢; omega
    rw [hz] at this
    omega
  subst hz
  have HA := Lib.hid ha
  have HB := Lib.hid hb
  clear ha hb hv
  obtain ⟨n, hnn⟩ : ∃ n, xs.length = n := ⟨_, rfl⟩
  have HNN := Lib.hid hnn
  rw [hnn] at hnx
  clear hnn
  obtain ⟨zl, hzl⟩ : ∃ n, (formC xs).length = n := ⟨_, rfl⟩
  rw [hzl] at hn hc ⊢
  have HZL := Lib.hid hzl
  clear hzl
  go_enter Try.func36, Try.ntmps36
  go_wp2
  go_loopw [0, 4] (fun b v wr => ∃ (j : Nat) (A' : Option Addr) (c' : Nat) (B : Option Addr) (l d : Nat) (cs : List Value), j ≤ n ∧ v = .slice A' j c' ∧ b = .slice B l d ∧ l ≤ d ∧ d ≤ maxLen ∧ Hid ((formC (xs.drop j)).length = l ∧ Arr w B (bs (formC (xs.drop j))) ∧ wr.ownsRow w.heap.size 48 2 (.slice A' j c') j cs ∧ CapOL w.heap.size wr (xs.take j) cs ∧ Kp NoB w wr)) (fun _ v _ => match v with | .slice _ k _ => n - k | _ => 0)
  case atStart => exact ⟨0, none, 0, A, zl, c, [], Nat.zero_le _, rfl, rfl, hc, hcm, Lib.hid ⟨HZL.out, HA.out, World.ownsRow_nil _ _ _ _, CapOL.nil _ _, Kp.refl _ _⟩⟩
  case round =>
    obtain ⟨j, A', c', B, l, e, cs, hj, rfl, rfl, hle, hem, HO⟩ := hrel
    obtain ⟨hl, hB, hown, hcs, hK⟩ := HO.out
    clear HO
    have HL := Lib.hid hown
    have HC := Lib.hid hcs
    have HK := Lib.hid hK
    clear hown hcs
    by_cases hlt : j < n
    · obtain ⟨x, hx⟩ : ∃ x, xs[j]? = some x := ⟨_, List.getElem?_eq_getElem (by rw [HNN.out]; exact hlt)⟩
      have hok := HV.out x (List.mem_of_getElem? hx)
      simp only [okC, decide_eq_true_eq] at hok
      have hisb : IsB x.data := by
        intro z hz
        refine HB.out z ?_
        rw [← List.take_append_drop j xs]
        simp only [formC, List.flatMap_append]
        have := form_drop xs j x hx
        simp only [formC] at this
        rw [this]
        simp [hz]
      rw [form_drop xs j x hx] at hl hB
      have hX := Lib.hid hx
      have hT := Lib.hid (take_snocC xs j x hx)
      clear hx
      obtain ⟨Z, hZ⟩ : ∃ Z, formC (xs.drop (j + 1)) = Z := ⟨_, rfl⟩
      rw [hZ] at hl hB
      have HZZ := Lib.hid hZ
      clear hZ
      obtain ⟨xk, xd⟩ := x
      simp only at hok hl hB hisb
      obtain ⟨m, hmm⟩ : ∃ m, xd.length = m := ⟨_, rfl⟩
      rw [hmm] at hok hB
      simp only [List.length_cons, List.length_append, hmm] at hl
      have HM := Lib.hid hmm
      have HI := Lib.hid hisb
      clear hmm hisb
      obtain ⟨hk0, hk1, hm1⟩ := hok
      obtain ⟨ad, rfl, q0⟩ := hB.at (j := 0) (u := .int .u8 xk) rfl
      obtain ⟨ad', e2, q1⟩ := hB.at (j := 1) (u := .int .u8 m) rfl
      obtain rfl : ad = ad' := by injection e2
      clear e2
      have HQ0 := Lib.hid q0
      replace q0 := hK.cell q0 (fun q => q)
      replace q1 := hK.cell q1 (fun q => q)
      rw [add_zero] at q0 HQ0
      rw [show ad.add 1 = ⟨ad.block, ad.off + 1, none⟩ from add_field ad 0 1 (by decide)] at q1
      have HBD := Lib.hid (arr_at2 (us := bs xd) hB (fun i u hu => by
        have : (bs (xk :: (m : Int) :: (xd ++ Z)))[2 + i]? = (bs (xd ++ Z))[i]? := by rw [show 2 + i = i + 1 + 1 by omega]; rfl
        rw [this, bs_append, List.getElem?_append_left (List.getElem?_eq_some_iff.1 hu).1]
        exact hu))
      have HBZ := Lib.hid (arr_at2 (n := 2 + m) (us := bs Z) hB (fun i u hu => by
        have : (bs (xk :: (m : Int) :: (xd ++ Z)))[2 + m + i]? = (bs (xd ++ Z))[m + i]? := by rw [show 2 + m + i = m + i + 1 + 1 by omega]; rfl
        rw [this, bs_append, List.getElem?_append_right (by rw [bs_length, HM.out]; omega), bs_length, HM.out, show m + i - m = i by omega]
        exact hu))
      have HLL := Lib.hid hl
      have hl2 : 2 + m ≤ l := by omega
      have hl3 : ¬ (l : Int) < 2 := by omega
      have hl4 : ¬ (l : Int) < 2 + m := by omega
      have hl5 : 0 < l := by omega
      clear hB hl hK
      have g1 : (0 : Int) ≤ 2 + (m : Int) := by omega
      have g2 : 2 + (m : Int) ≤ (e : Int) := by omega
      have g3 : (2 : Int) ≤ 2 + (m : Int) := by omega
      have g4 : (2 + (m : Int)).toNat = 2 + m := by omega
      have g5 : 2 + m - 2 = m := by omega
      have g6 : IntKind.i64.wrap xk = xk := IntWalk.i64_in _ (by omega)
      have HE : Hid ((wr.alloc (.cells #[] 5)).drew.ownsRow w.heap.size 5 1 (.slice (some ⟨wr.heap.size, 0, none⟩) 0 0) 0 []) :=
        Lib.hid (Kp.own (Kp.refl NoB _).drew (World.ownsRow_made wr #[] 0 HK.out.size (by decide) rfl) (fun _ _ q => q))
      by_cases he : e = 2
      · subst he
        obtain rfl : l = 2 := by omega
        obtain rfl : m = 0 := by omega
        clear g1 g2 g3 g4 g5
        have HBN : Hid (Arr w (some ad) (bs xd)) := Lib.hid (by rw [show xd = [] from List.eq_nil_of_length_eq_zero HM.out]; exact Arr.nil _ _)
        go_wp2_with fail
        go_region_held3 (fun w' => w'.cell? ad = some (.int .u8 xk)) (go_keep)
          (first
            | (rw [if_pos (by rfl)]; refine wp_app (w0 := w) (S := NoB) ((HK.out.alloc (.cells #[] 5)).drew) (.tmp 32) (.tmp 35) 34 rfl 5 i1 (.int .u8 0) 1 1 Try.underlying34 hi1 hy0 hy1 hy2 rfl (by decide) _ 0 [] rfl HE.out _ 0 0 (bs xd) rfl (by rw [bs_length, HM.out, Nat.mul_one]) (HBN.out.and ((HK.out.alloc _).drew)) (bs_one xd) (by omega) (by decide) 0 (by omega) ?_; intro A5 c5 w5 hown5 hK5 hG _; have z1 := hK5.cell HQ0.out (fun q => q); have hKr := Lib.hid ((((Kp.refl NoB wr).alloc _).drew).grown hG (fun b hb => .inl (Nat.le_of_eq (Option.some.inj hb)))); clear hG; replace hown5 := Lib.hid hown5; replace hK5 := Lib.hid hK5)
            | (rw [if_pos (by rfl)]; refine wp_app (w0 := w) (S := NoB) (hK5.out.alloc (.cells #[.int .i64 xk, .slice A5 0 c5] 48)) (.tmp 27) (.tmp 38) 23 rfl 48 i0 (.agg #[.int .i64 0, .slice none 0 0]) 2 32 Try.underlying23 hi hz0 hz1 hz2 rfl (by decide) _ j cs rfl ((hKr.out.own HL.out (fun _ _ q => q)).alloc _) _ 1 1 [.int .i64 xk, .slice A5 0 c5] rfl rfl (Arr.of_bk (Bk.fresh w5 48 #[.int .i64 xk, .slice A5 0 c5]) 2) (by simp [Value.oneCell']) (by omega) (by decide) (j + 1) rfl ?_; intro A6 c6 w6 hown6 hK6 hG6 _; have z2 := hK6.cell HQ0.out (fun q => q); replace hown6 := Lib.hid hown6; replace hK6 := Lib.hid hK6; replace hG6 := Lib.hid hG6))
        go_wp2_with fail
        go_roundw
        case rel =>
          have hka : Kp NoB w5 (w5.alloc (.cells #[.int .i64 xk, .slice A5 0 c5] 48)) := (Kp.refl _ _).alloc _
          have hG' := Kp.of_grown hG6.out
          have hLa := (hKr.out.own HL.out (fun _ _ q => q)).alloc (.cells #[.int .i64 xk, .slice A5 0 c5] 48)
          have hX : CapO w.heap.size w5 ⟨xk, xd⟩ (.int .i64 xk) (.slice A5 0 c5) := ⟨rfl, ⟨show (-9223372036854775808 : Int) ≤ xk by omega, show xk ≤ (9223372036854775807 : Int) by omega⟩, A5, c5, by rw [HM.out], by rw [HM.out]; exact hown5.out, HI.out⟩
          have hC6 := (((HC.out.and hKr.out).snoc hX).and hka).keep hG' (fun u n ys h g hg => own_two h hLa (by decide) g hg)
          rw [← hT.out] at hC6
          refine ⟨j + 1, A6, c6, some ad, 0, 0, _, by omega, rfl, rfl, Nat.le_refl _, Nat.zero_le _, Lib.hid ⟨?_, ?_, hown6.out, hC6, hK6.out⟩⟩
          · rw [HZZ.out]; have := HLL.out; omega
          · rw [HZZ.out, show Z = [] from List.eq_nil_of_length_eq_zero (by have := HLL.out; omega)]
            exact Arr.nil _ _
        case measure => simp; omega
      · go_wp2_with fail
        go_region_held3 (fun w' => w'.cell? ad = some (.int .u8 xk)) (go_keep)
          (first
            | (rw [if_pos (by rfl)]; refine wp_app (w0 := w) (S := NoB) ((HK.out.alloc (.cells #[] 5)).drew) (.tmp 32) (.tmp 35) 34 rfl 5 i1 (.int .u8 0) 1 1 Try.underlying34 hi1 hy0 hy1 hy2 rfl (by decide) _ 0 [] rfl HE.out _ m (e - 2) (bs xd) rfl (by rw [bs_length, HM.out, Nat.mul_one]) (HBD.out.and ((HK.out.alloc _).drew)) (bs_one xd) (by omega) (by decide) m (by omega) ?_; intro A5 c5 w5 hown5 hK5 hG _; have z1 := hK5.cell HQ0.out (fun q => q); have hKr := Lib.hid ((((Kp.refl NoB wr).alloc _).drew).grown hG (fun b hb => .inl (Nat.le_of_eq (Option.some.inj hb)))); clear hG; replace hown5 := Lib.hid hown5; replace hK5 := Lib.hid hK5)
            | (rw [if_pos (by rfl)]; refine wp_app (w0 := w) (S := NoB) (hK5.out.alloc (.cells #[.int .i64 xk, .slice A5 m c5] 48)) (.tmp 27) (.tmp 38) 23 rfl 48 i0 (.agg #[.int .i64 0, .slice none 0 0]) 2 32 Try.underlying23 hi hz0 hz1 hz2 rfl (by decide) _ j cs rfl ((hKr.out.own HL.out (fun _ _ q => q)).alloc _) _ 1 1 [.int .i64 xk, .slice A5 m c5] rfl rfl (Arr.of_bk (Bk.fresh w5 48 #[.int .i64 xk, .slice A5 m c5]) 2) (by simp [Value.oneCell']) (by omega) (by decide) (j + 1) rfl ?_; intro A6 c6 w6 hown6 hK6 hG6 _; have z2 := hK6.cell HQ0.out (fun q => q); replace hown6 := Lib.hid hown6; replace hK6 := Lib.hid hK6; replace hG6 := Lib.hid hG6))
        go_wp2_with fail
        go_roundw
        case rel =>
          have hka : Kp NoB w5 (w5.alloc (.cells #[.int .i64 xk, .slice A5 m c5] 48)) := (Kp.refl _ _).alloc _
          have hG' := Kp.of_grown hG6.out
          have hLa := (hKr.out.own HL.out (fun _ _ q => q)).alloc (.cells #[.int .i64 xk, .slice A5 m c5] 48)
          have hX : CapO w.heap.size w5 ⟨xk, xd⟩ (.int .i64 xk) (.slice A5 m c5) := ⟨rfl, ⟨show (-9223372036854775808 : Int) ≤ xk by omega, show xk ≤ (9223372036854775807 : Int) by omega⟩, A5, c5, by rw [HM.out], by rw [HM.out]; exact hown5.out, HI.out⟩
          have hC6 := (((HC.out.and hKr.out).snoc hX).and hka).keep hG' (fun u n ys h g hg => own_two h hLa (by decide) g hg)
          rw [← hT.out] at hC6
          refine ⟨j + 1, A6, c6, _, l - (2 + m), e - (2 + m), _, by omega, rfl, rfl, by omega, by omega, Lib.hid ⟨?_, ?_, hown6.out, hC6, hK6.out⟩⟩
          · rw [HZZ.out]; have := HLL.out; omega
          · rw [HZZ.out]
            by_cases hem2 : e = 2 + m
            · rw [show Z = [] from List.eq_nil_of_length_eq_zero (by have := HLL.out; omega)]
              exact Arr.nil _ _
            · rw [if_neg hem2]
              exact HBZ.out
        case measure => simp; omega
    · have hj : j = n := by omega
      subst hj
      have hd : formC (xs.drop j) = [] := by rw [List.drop_eq_nil_of_le (by rw [HNN.out]; omega)]; rfl
      rw [hd] at hl
      obtain rfl : l = 0 := by simpa using hl.symm
      clear hd hB hl hK
      go_wp2
      go_ret2
      have hxt : xs.take j = xs := List.take_of_length_le (by rw [HNN.out]; omega)
      have h1 := HC.out
      rw [hxt] at h1
      refine ⟨A', c', cs, by rw [HNN.out]; rfl, ?_, h1, HK.out⟩
      rw [HNN.out]
      exact HL.out

set_option maxHeartbeats 8000000 in
theorem rread_no (A : Option Addr) (c : Nat) (zs : List Int) (w : World) (hn : zs.length ≤ 100000) (hc : zs.length ≤ c) (hcm : c ≤ maxLen) (ha : Arr w A (bs zs)) (hb : IsB zs) (hno : ∀ xs, validB xs = true → formC xs ≠ zs) :
    Calls Try.prog 36 #[.slice A zs.length c] w (Stay (.tuple #[.slice none 0 0, .bool false]) w) := by
  obtain ⟨i0, hi, hz0, hz1, hz2⟩ := info_parts infoRCap
  obtain ⟨i1, hi1, hy0, hy1, hy2⟩ := info_parts infoU8
  have HNO := Lib.hid hno
  have HA := Lib.hid ha
  have HB := Lib.hid hb
  clear ha hb hno
  obtain ⟨zl, hzl⟩ : ∃ n, zs.length = n := ⟨_, rfl⟩
  rw [hzl] at hn hc ⊢
  have HZL := Lib.hid hzl
  clear hzl
  go_enter Try.func36, Try.ntmps36
  go_wp2
  go_loopw [0, 4] (fun b v wr => ∃ (j : Nat) (A' : Option Addr) (c' : Nat) (B : Option Addr) (l d : Nat) (cs : List Value), j ≤ zl ∧ v = .slice A' j c' ∧ b = .slice B l d ∧ l ≤ d ∧ d ≤ maxLen ∧ Hid (∃ (xs : List CapI) (ys : List Int), ys.length = l ∧ Arr w B (bs ys) ∧ validB xs = true ∧ formC xs ++ ys = zs ∧ 2 * j + l ≤ zl ∧ wr.ownsRow w.heap.size 48 2 (.slice A' j c') j cs ∧ Kp NoB w wr)) (fun _ v _ => match v with | .slice _ k _ => zl - k | _ => 0)
  case atStart => exact ⟨0, none, 0, A, zl, c, [], Nat.zero_le _, rfl, rfl, hc, hcm, Lib.hid ⟨[], zs, HZL.out, HA.out, rfl, rfl, by omega, World.ownsRow_nil _ _ _ _, Kp.refl _ _⟩⟩
  case round =>
    obtain ⟨j, A', c', B, l, e, cs, hj, rfl, rfl, hle, hem, HO⟩ := hrel
    obtain ⟨xs, ys, hl, hB, hvx, hzs, hjl, hown, hK⟩ := HO.out
    clear HO
    have HL := Lib.hid hown
    have HK := Lib.hid hK
    have HV := Lib.hid (And.intro hvx hzs)
    clear hown hvx hzs
    have hisb : IsB ys := by
      intro z hz
      refine HB.out z ?_
      rw [← HV.out.2]
      simp [hz]
    match ys, hl, hB, HV, hisb with
    | [], hl, hB, HV, hisb =>
      have := HV.out.2
      rw [List.append_nil] at this
      exact absurd this (HNO.out xs HV.out.1)
    | [k], hl, hB, HV, hisb =>
      obtain rfl : l = 1 := by simpa using hl.symm
      clear hB hl hK
      go_wp2
      go_ret2
      exact ⟨rfl, HK.out⟩
    | xk :: mi :: ys, hl, hB, HV, hisb =>
      have hk : 0 ≤ xk ∧ xk ≤ 255 := by have := hisb xk (by simp); omega
      have hmi : 0 ≤ mi ∧ mi ≤ 255 := by have := hisb mi (by simp); omega
      obtain ⟨m, rfl⟩ := Int.eq_ofNat_of_zero_le hmi.1
      obtain ⟨hk0, hk1⟩ := hk
      have hm1 : m ≤ 255 := by omega
      clear hmi
      obtain ⟨ad, rfl, q0⟩ := hB.at (j := 0) (u := .int .u8 xk) rfl
      obtain ⟨ad', e2, q1⟩ := hB.at (j := 1) (u := .int .u8 m) rfl
      obtain rfl : ad = ad' := by injection e2
      clear e2
      have HQ0 := Lib.hid q0
      replace q0 := hK.cell q0 (fun q => q)
      replace q1 := hK.cell q1 (fun q => q)
      rw [add_zero] at q0 HQ0
      rw [show ad.add 1 = ⟨ad.block, ad.off + 1, none⟩ from add_field ad 0 1 (by decide)] at q1
      simp only [List.length_cons] at hl
      have hl3 : ¬ (l : Int) < 2 := by omega
      have hl5 : 0 < l := by omega
      by_cases hs : ys.length < m
      · have hl4 : (l : Int) < 2 + m := by omega
        clear hB hl hK hs
        go_wp2
        go_ret2
        exact ⟨rfl, HK.out⟩
      · have hl4 : ¬ (l : Int) < 2 + m := by omega
        have hl2 : 2 + m ≤ l := by omega
        obtain ⟨xd, hxd⟩ : ∃ d, ys.take m = d := ⟨_, rfl⟩
        obtain ⟨Z, hZ⟩ : ∃ d, ys.drop m = d := ⟨_, rfl⟩
        have hys : ys = xd ++ Z := by rw [← hxd, ← hZ, List.take_append_drop]
        have hmm : xd.length = m := by rw [← hxd, List.length_take]; omega
        have HM := Lib.hid hmm
        have HZ0 := Lib.hid hjl
        have HI : Hid (IsB xd) := Lib.hid (fun z hz => hisb z (by rw [hys]; simp [hz]))
        have HNX : Hid (validB (xs ++ [⟨xk, xd⟩]) = true ∧ formC (xs ++ [⟨xk, xd⟩]) ++ Z = zs) := Lib.hid ⟨valid_snoc _ _ HV.out.1 (by simp only [okC, decide_eq_true_eq]; omega), by
          rw [← HV.out.2, hys]
          simp only [formC, List.flatMap_append, List.flatMap_cons, List.flatMap_nil, List.append_nil, hmm, List.append_assoc, List.cons_append]⟩
        rw [hys] at hB hl
        rw [List.length_append, hmm] at hl
        have HLL := Lib.hid hl
        have HBD := Lib.hid (arr_at2 (us := bs xd) hB (fun i u hu => by
          have : (bs (xk :: (m : Int) :: (xd ++ Z)))[2 + i]? = (bs (xd ++ Z))[i]? := by rw [show 2 + i = i + 1 + 1 by omega]; rfl
          rw [this, bs_append, List.getElem?_append_left (List.getElem?_eq_some_iff.1 hu).1]
          exact hu))
        have HBZ := Lib.hid (arr_at2 (n := 2 + m) (us := bs Z) hB (fun i u hu => by
          have : (bs (xk :: (m : Int) :: (xd ++ Z)))[2 + m + i]? = (bs (xd ++ Z))[m + i]? := by rw [show 2 + m + i = m + i + 1 + 1 by omega]; rfl
          rw [this, bs_append, List.getElem?_append_right (by rw [bs_length, HM.out]; omega), bs_length, HM.out, show m + i - m = i by omega]
          exact hu))
        clear hB hl hK hs hys hxd hZ hmm hisb
        have g1 : (0 : Int) ≤ 2 + (m : Int) := by omega
        have g2 : 2 + (m : Int) ≤ (e : Int) := by omega
        have g3 : (2 : Int) ≤ 2 + (m : Int) := by omega
        have g4 : (2 + (m : Int)).toNat = 2 + m := by omega
        have g5 : 2 + m - 2 = m := by omega
        have g6 : IntKind.i64.wrap xk = xk := IntWalk.i64_in _ (by omega)
        have HE : Hid ((wr.alloc (.cells #[] 5)).drew.ownsRow w.heap.size 5 1 (.slice (some ⟨wr.heap.size, 0, none⟩) 0 0) 0 []) :=
          Lib.hid (Kp.own (Kp.refl NoB _).drew (World.ownsRow_made wr #[] 0 HK.out.size (by decide) rfl) (fun _ _ q => q))
        by_cases he : e = 2
        · subst he
          obtain rfl : l = 2 := by omega
          obtain rfl : m = 0 := by omega
          clear g1 g2 g3 g4 g5
          have HBN : Hid (Arr w (some ad) (bs xd)) := Lib.hid (by rw [show xd = [] from List.eq_nil_of_length_eq_zero HM.out]; exact Arr.nil _ _)
          go_wp2_with fail
          go_region_held3 (fun w' => w'.cell? ad = some (.int .u8 xk)) (go_keep)
            (first
              | (rw [if_pos (by rfl)]; refine wp_app (w0 := w) (S := NoB) ((HK.out.alloc (.cells #[] 5)).drew) (.tmp 32) (.tmp 35) 34 rfl 5 i1 (.int .u8 0) 1 1 Try.underlying34 hi1 hy0 hy1 hy2 rfl (by decide) _ 0 [] rfl HE.out _ 0 0 (bs xd) rfl (by rw [bs_length, HM.out, Nat.mul_one]) (HBN.out.and ((HK.out.alloc _).drew)) (bs_one xd) (by omega) (by decide) 0 (by omega) ?_; intro A5 c5 w5 hown5 hK5 hG _; have z1 := hK5.cell HQ0.out (fun q => q); have hKr := Lib.hid ((((Kp.refl NoB wr).alloc _).drew).grown hG (fun b hb => .inl (Nat.le_of_eq (Option.some.inj hb)))); clear hG; replace hown5 := Lib.hid hown5; replace hK5 := Lib.hid hK5)
              | (rw [if_pos (by rfl)]; refine wp_app (w0 := w) (S := NoB) (hK5.out.alloc (.cells #[.int .i64 xk, .slice A5 0 c5] 48)) (.tmp 27) (.tmp 38) 23 rfl 48 i0 (.agg #[.int .i64 0, .slice none 0 0]) 2 32 Try.underlying23 hi hz0 hz1 hz2 rfl (by decide) _ j cs rfl ((hKr.out.own HL.out (fun _ _ q => q)).alloc _) _ 1 1 [.int .i64 xk, .slice A5 0 c5] rfl rfl (Arr.of_bk (Bk.fresh w5 48 #[.int .i64 xk, .slice A5 0 c5]) 2) (by simp [Value.oneCell']) (by omega) (by decide) (j + 1) rfl ?_; intro A6 c6 w6 hown6 hK6 hG6 _; have z2 := hK6.cell HQ0.out (fun q => q); replace hown6 := Lib.hid hown6; replace hK6 := Lib.hid hK6; replace hG6 := Lib.hid hG6))
          go_wp2_with fail
          go_roundw
          case rel =>
            refine ⟨j + 1, A6, c6, some ad, 0, 0, _, by omega, rfl, rfl, Nat.le_refl _, Nat.zero_le _, Lib.hid ⟨xs ++ [⟨xk, xd⟩], Z, ?_, ?_, HNX.out.1, HNX.out.2, by have := HLL.out; have := HZ0.out; omega, hown6.out, hK6.out⟩⟩
            · have := HLL.out; omega
            · rw [show Z = [] from List.eq_nil_of_length_eq_zero (by have := HLL.out; omega)]
              exact Arr.nil _ _
          case measure => simp; omega
        · go_wp2_with fail
          go_region_held3 (fun w' => w'.cell? ad = some (.int .u8 xk)) (go_keep)
            (first
              | (rw [if_pos (by rfl)]; refine wp_app (w0 := w) (S := NoB) ((HK.out.alloc (.cells #[] 5)).drew) (.tmp 32) (.tmp 35) 34 rfl 5 i1 (.int .u8 0) 1 1 Try.underlying34 hi1 hy0 hy1 hy2 rfl (by decide) _ 0 [] rfl HE.out _ m (e - 2) (bs xd) rfl (by rw [bs_length, HM.out, Nat.mul_one]) (HBD.out.and ((HK.out.alloc _).drew)) (bs_one xd) (by omega) (by decide) m (by omega) ?_; intro A5 c5 w5 hown5 hK5 hG _; have z1 := hK5.cell HQ0.out (fun q => q); have hKr := Lib.hid ((((Kp.refl NoB wr).alloc _).drew).grown hG (fun b hb => .inl (Nat.le_of_eq (Option.some.inj hb)))); clear hG; replace hown5 := Lib.hid hown5; replace hK5 := Lib.hid hK5)
              | (rw [if_pos (by rfl)]; refine wp_app (w0 := w) (S := NoB) (hK5.out.alloc (.cells #[.int .i64 xk, .slice A5 m c5] 48)) (.tmp 27) (.tmp 38) 23 rfl 48 i0 (.agg #[.int .i64 0, .slice none 0 0]) 2 32 Try.underlying23 hi hz0 hz1 hz2 rfl (by decide) _ j cs rfl ((hKr.out.own HL.out (fun _ _ q => q)).alloc _) _ 1 1 [.int .i64 xk, .slice A5 m c5] rfl rfl (Arr.of_bk (Bk.fresh w5 48 #[.int .i64 xk, .slice A5 m c5]) 2) (by simp [Value.oneCell']) (by omega) (by decide) (j + 1) rfl ?_; intro A6 c6 w6 hown6 hK6 hG6 _; have z2 := hK6.cell HQ0.out (fun q => q); replace hown6 := Lib.hid hown6; replace hK6 := Lib.hid hK6; replace hG6 := Lib.hid hG6))
          go_wp2_with fail
          go_roundw
          case rel =>
            refine ⟨j + 1, A6, c6, _, l - (2 + m), e - (2 + m), _, by omega, rfl, rfl, by omega, by omega, Lib.hid ⟨xs ++ [⟨xk, xd⟩], Z, ?_, ?_, HNX.out.1, HNX.out.2, by have := HLL.out; have := HZ0.out; omega, hown6.out, hK6.out⟩⟩
            · have := HLL.out; omega
            · by_cases hem2 : e = 2 + m
              · rw [show Z = [] from List.eq_nil_of_length_eq_zero (by have := HLL.out; omega)]
                exact Arr.nil _ _
              · rw [if_neg hem2]
                exact HBZ.out
          case measure => simp; omega

end Go.Proofs.Ytomkomkenfacpaa
