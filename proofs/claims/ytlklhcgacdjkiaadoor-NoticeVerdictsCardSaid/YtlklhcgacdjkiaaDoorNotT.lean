/- The text of a NOTIFICATION: package notice's Text: its contract. No condition but the listed tables' content. -/
import Derived.Test.YtlklhcgacdjkiaaDoorNotA
import Derived.Test.YtlklhcgacdjkiaaDoorNames
import Derived.Test.YtlklhcgacdjkiaaDoorFu16
import Derived.Test.YtlklhcgacdjkiaaDoorTab
import Derived.Deep.RegionHeld3
import Derived.LoopN
namespace Go.Proofs.YtlklhcgacdjkiaaDoor
open Go.RowKit
set_option linter.unusedVariables false
set_option linter.unusedSimpArgs false

/-- What stands in front of the data. -/
def headN (c s : Int) : List UInt8 := nm c s ++ [32] ++ Lib.itoa c ++ [47] ++ Lib.itoa s
/-- The text behind j bytes of the data. -/
def tailN (h : List UInt8) (d : List Int) (j : Nat) : List UInt8 := if j = 0 then h else h ++ [32] ++ hexL (d.take j)
/-- The text. -/
def textN (c s : Int) (d : List Int) : List UInt8 := if validN c s d.length then tailN (headN c s) d d.length else []

theorem itoa_short (n : Int) (h0 : 0 ≤ n) (h1 : n ≤ 9223372036854775807) : (Lib.itoa n).length ≤ 20 := by
  rw [itoa_dec n h0]
  exact dec_short _ (by omega)
theorem itoa_ba (n : Int) (h0 : 0 ≤ n) (h1 : n ≤ 9223372036854775807) (w : World) (ht : Tb w) : Calls Tryd.prog 36 #[.int .i64 n] w (Stay (.string (ba (Lib.itoa n))) w) := itoa_any n (by omega) h1 w ht
theorem name_ba (c s : Int) (w : World) (ht : NmT w) : Calls Tryd.prog 8 #[.int .i64 c, .int .i64 s] w (Stay (.string (ba (nm c s))) w) := name_any c s w ht

theorem tailN_step (h : List UInt8) (d : List Int) (j : Nat) (hj : j < d.length) : tailN h d (j + 1) = (if j = 0 then h ++ [32] else tailN h d j) ++ [hx (d.getD j 0 / 16), hx (d.getD j 0 % 16)] := by
  unfold tailN
  rw [if_neg (by omega), hexL_take d j hj]
  by_cases h0 : j = 0
  · subst h0
    simp [hexL]
  · rw [if_neg h0, if_neg h0, List.append_assoc (h ++ [32])]
theorem tailN_length (h : List UInt8) (d : List Int) (j : Nat) (hj : j ≤ d.length) : (tailN h d j).length ≤ h.length + 1 + 2 * j := by
  unfold tailN
  split
  · omega
  · rw [List.length_append, List.length_append, hexL_length, List.length_take]
    simp only [List.length_cons, List.length_nil]
    omega

theorem run_hex_tail (P : Program) (t : TypeId) (ht : P.underlying t = some .string) (y : Int) (w : World) :
    (Instr.slice t (.string (ba (hex3 y))) (some (.int .i64 1)) none none).run P w = .ok (.string (ba [hx (y / 16), hx (y % 16)])) w := by
  have e : ba [hx (y / 16), hx (y % 16)] = (ba (hex3 y)).extract 1 3 := by rw [ba_extract]; rfl
  rw [e]
  rw [run_slice_string_from_if w t (ba (hex3 y)) .i64 1 ht, if_pos ⟨by omega, by rw [ba_size]; show (1 : Int) ≤ ((3 : Nat) : Int); omega⟩]
  rfl

set_option maxRecDepth 100000 in
set_option maxHeartbeats 4000000 in
theorem ntext_bad (c s : Int) (A : Option Addr) (n m : Nat) (w : World) (hv : validN c s n = false) :
    Calls Tryd.prog 22 #[.agg #[.int .i64 c, .int .i64 s, .slice A n m]] w (Stay (.string ⟨#[]⟩) w) := by
  have HV := Lib.hid (nvalid_any c s A n m)
  rw [hv] at HV
  clear hv
  go_enter Tryd.func22, Tryd.ntmps22
  go_wp2_with (go_at_call 16; refine (HV.out _).mono ?_; rintro e w1 ⟨rfl, hK1⟩)
  go_ret
  exact ⟨rfl, ((Kp.refl _ _).alloc _).and hK1⟩

set_option maxRecDepth 100000 in
set_option maxHeartbeats 8000000 in
theorem ntext_good (c s : Int) (A : Option Addr) (d : List Int) (m : Nat) (w : World) (hv : validN c s d.length = true) (ht : Tb w) (h64 : T64 w) (hnm : NmT w) (ha : Arr w A (bs d)) (hb : IsB d) :
    Calls Tryd.prog 22 #[.agg #[.int .i64 c, .int .i64 s, .slice A d.length m]] w (Stay (.string (ba (tailN (headN c s) d d.length))) w) := by
  have HV := Lib.hid (nvalid_any c s A d.length m)
  rw [hv] at HV
  simp only [validN, decide_eq_true_eq] at hv
  obtain ⟨c0, c1, s0, s1, hn⟩ := hv
  have H1 := Lib.hid (fun w' (k : Kp NoB w w') => name_ba c s w' (hnm.and k))
  have H2 := Lib.hid (fun w' (k : Kp NoB w w') => itoa_ba c c0 (by omega) w' (ht.and k))
  have H3 := Lib.hid (fun w' (k : Kp NoB w w') => itoa_ba s s0 (by omega) w' (ht.and k))
  have H4 := Lib.hid (fun y (hy : 0 ≤ y ∧ y < 256) w' (k : Kp NoB w w') => fu16_any y hy.1 hy.2 w' (h64.and k))
  have l1 := nm_length c s
  have l2 := itoa_short c c0 (by omega)
  have l3 := itoa_short s s0 (by omega)
  have hhd : headN c s = nm c s ++ [32] ++ Lib.itoa c ++ [47] ++ Lib.itoa s := rfl
  obtain ⟨N, hN⟩ : ∃ N, nm c s = N := ⟨_, rfl⟩
  obtain ⟨I, hI⟩ : ∃ I, Lib.itoa c = I := ⟨_, rfl⟩
  obtain ⟨J, hJ⟩ : ∃ J, Lib.itoa s = J := ⟨_, rfl⟩
  obtain ⟨hd, hhe⟩ : ∃ hd, headN c s = hd := ⟨_, rfl⟩
  rw [hN, hI, hJ, hhe] at hhd
  rw [hN] at H1 l1
  rw [hI] at H2 l2
  rw [hJ] at H3 l3
  rw [hhe]
  have hdl : hd.length ≤ 100 := by rw [hhd]; simp only [List.length_append, List.length_cons, List.length_nil]; omega
  have HC : ∃ S1 S2 S3 : List UInt8, (∀ w, (Op.stringOp .add (ba N) { data := #[32] }).run Tryd.prog w = .ok (.string (ba S1)) w) ∧ (∀ w, (Op.stringOp .add (ba S1) (ba I)).run Tryd.prog w = .ok (.string (ba S2)) w) ∧
      (∀ w, (Op.stringOp .add (ba S2) { data := #[47] }).run Tryd.prog w = .ok (.string (ba S3)) w) ∧ (∀ w, (Op.stringOp .add (ba S3) (ba J)).run Tryd.prog w = .ok (.string (ba hd)) w) := by
    rw [hhd]
    exact ⟨N ++ [32], N ++ [32] ++ I, N ++ [32] ++ I ++ [47], run_cat Tryd.prog N [32] (by simp only [List.length_cons, List.length_nil]; omega), run_cat Tryd.prog (N ++ [32]) I (by simp only [List.length_append, List.length_cons, List.length_nil]; omega),
      run_cat Tryd.prog (N ++ [32] ++ I) [47] (by simp only [List.length_append, List.length_cons, List.length_nil]; omega), run_cat Tryd.prog (N ++ [32] ++ I ++ [47]) J (by simp only [List.length_append, List.length_cons, List.length_nil]; omega)⟩
  obtain ⟨S1, S2, S3, hc1, hc2, hc3, hc4⟩ := HC
  have hb0 := Lib.hid (Bk.fresh w 32 #[.int .i64 c, .int .i64 s, .slice A d.length m])
  have hk0 := Lib.hid ((Kp.refl NoB w).alloc (.cells #[.int .i64 c, .int .i64 s, .slice A d.length m] 32))
  clear hN hI hJ hhe hhd l1 l2 l3 ht h64 hnm c0 c1 s0 s1
  go_enter Tryd.func22, Tryd.ntmps22
  go_wp2_with fail
  refine (HV.out _).mono ?_
  rintro e w1 ⟨rfl, hK1⟩
  have k1 := Lib.hid (hk0.out.and hK1)
  have b1 := Lib.hid (hb0.out.and hK1)
  clear hK1
  obtain ⟨x1, x2, x3, x4, x5, x6, x7⟩ := b1.out.three
  go_wp2_with fail
  go_region_held3 (fun w' => w'.cell? ⟨w.heap.size, 0, none⟩ = some (.int .i64 c) ∧ w'.cell? ⟨w.heap.size, 1, none⟩ = some (.int .i64 s)) (go_keep)
    (first
      | (go_at_call 36; refine (H3.out _ k3.out).mono ?_; rintro e w4 ⟨rfl, hK4⟩; have k4 := Lib.hid (k3.out.and hK4); have b4 := Lib.hid (b3.out.and hK4); clear x1 x2 x3 x4 x5 x6 x7 hK4; obtain ⟨x1, x2, x3, x4, x5, x6, x7⟩ := b4.out.three)
      | (go_at_call 36; refine (H2.out _ k2.out).mono ?_; rintro e w3 ⟨rfl, hK3⟩; have k3 := Lib.hid (k2.out.and hK3); have b3 := Lib.hid (b2.out.and hK3); clear x1 x2 x3 x4 x5 x6 x7 hK3; obtain ⟨x1, x2, x3, x4, x5, x6, x7⟩ := b3.out.three)
      | (go_at_call 8; refine (H1.out _ k1.out.drew).mono ?_; rintro e w2 ⟨rfl, hK2⟩; have k2 := Lib.hid (k1.out.drew.and hK2); have b2 := Lib.hid ((b1.out.drewN 1).and hK2); clear x1 x2 x3 x4 x5 x6 x7 hK2; obtain ⟨x1, x2, x3, x4, x5, x6, x7⟩ := b2.out.three))
  go_wp2_with fail
  clear x1 x2 x3 x4 x5 x6 x7 hc1 hc2 hc3 hc4
  go_loopw [3, 27] (fun vs vi wr => ∃ j : Nat, j ≤ d.length ∧ vi = .int .i64 j ∧ vs = .string (ba (tailN hd d j)) ∧ Hid (Kp NoB w wr)) (fun _ vi _ => d.length - (intOf vi).toNat)
  case atStart => exact ⟨0, Nat.zero_le _, rfl, rfl, k4⟩
  case round =>
    obtain ⟨j, hj, rfl, rfl, kr⟩ := hrel
    by_cases hlt : j < d.length
    · obtain ⟨ad, rfl, hc⟩ := (ha.and kr.out).at (bs_get d j hlt)
      have hy := hb.getD j
      have hst := tailN_step hd d j hlt
      have hl := tailN_length hd d j hj
      obtain ⟨y, hyy⟩ : ∃ y, d.getD j 0 = y := ⟨_, rfl⟩
      rw [hyy] at hc hy hst
      have H5 := Lib.hid (fun w' (k : Kp NoB w w') => H4.out y hy w' k)
      have hsl := run_hex_tail Tryd.prog 9 Tryd.underlying9 y
      obtain ⟨y0, y1⟩ := hy
      by_cases h0 : j = 0
      · subst h0
        rw [if_pos rfl] at hst
        have e0 : tailN hd d 0 = hd := rfl
        rw [add_zero] at hc
        have hc1 : ∀ w, (Op.stringOp .add (ba hd) { data := #[32] }).run Tryd.prog w = .ok (.string (ba (hd ++ [32]))) w := run_cat Tryd.prog hd [32] (by simp only [List.length_cons, List.length_nil]; omega)
        have hc2 := run_cat Tryd.prog (hd ++ [32]) [hx (y / 16), hx (y % 16)] (by simp only [List.length_append, List.length_cons, List.length_nil]; omega)
        rw [← hst] at hc2
        simp only [e0]
        clear hst hyy e0 hl
        go_wp2_with (go_at_call 37; refine (H5.out _ kr.out).mono ?_; rintro e w5 ⟨rfl, hK5⟩; replace hK5 := Lib.hid hK5)
        go_roundw
        case rel => exact ⟨0 + 1, by omega, by go_num, rfl, Lib.hid (kr.out.and hK5.out)⟩
        case measure => simp [intOf]; omega
      · rw [if_neg h0] at hst
        have hc2 := run_cat Tryd.prog (tailN hd d j) [hx (y / 16), hx (y % 16)] (by simp only [List.length_append, List.length_cons, List.length_nil]; omega)
        rw [← hst] at hc2
        have hj0 : ((j : Int) == 0) = false := by simp; omega
        clear hst hyy hl h0
        go_wp2_with (go_at_call 37; refine (H5.out _ kr.out).mono ?_; rintro e w5 ⟨rfl, hK5⟩; replace hK5 := Lib.hid hK5)
        go_roundw
        case rel => exact ⟨j + 1, by omega, by go_num, rfl, Lib.hid (kr.out.and hK5.out)⟩
        case measure => simp [intOf]; omega
    · obtain rfl : d.length = j := by omega
      go_wp2
      go_ret
      exact ⟨rfl, kr.out⟩

end Go.Proofs.YtlklhcgacdjkiaaDoor
