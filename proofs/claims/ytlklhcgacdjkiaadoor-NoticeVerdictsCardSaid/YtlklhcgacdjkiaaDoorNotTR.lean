/- The text of a NOTIFICATION: the reference's Text: its contract. No condition. -/
import Derived.Test.YtlklhcgacdjkiaaDoorNotT
import Derived.Test.YtlklhcgacdjkiaaDoorNameR
import Derived.Test.YtlklhcgacdjkiaaDoorHexR
namespace Go.Proofs.YtlklhcgacdjkiaaDoor
open Go.RowKit
set_option linter.unusedVariables false
set_option linter.unusedSimpArgs false

theorem rdec_ba (n : Int) (h0 : 0 ≤ n) (h1 : n ≤ 9223372036854775807) (w : World) : Calls Tryd.prog 38 #[.int .i64 n] w (Stay (.string (ba (Lib.itoa n))) w) := by
  obtain ⟨u, rfl⟩ : ∃ u : Nat, n = u := ⟨n.toNat, by omega⟩
  rw [itoa_dec _ h0]
  exact rdec_stay u (by omega) w
theorem rname_ba (c s : Int) (w : World) : Calls Tryd.prog 10 #[.int .i64 c, .int .i64 s] w (Stay (.string (ba (nm c s))) w) := rname_any c s w

set_option maxRecDepth 100000 in
set_option maxHeartbeats 4000000 in
theorem rtext_bad (c s : Int) (A : Option Addr) (n m : Nat) (w : World) (hv : validN c s n = false) :
    Calls Tryd.prog 23 #[.agg #[.int .i64 c, .int .i64 s, .slice A n m]] w (Stay (.string ⟨#[]⟩) w) := by
  have HV := Lib.hid (rnvalid_any c s A n m)
  rw [hv] at HV
  clear hv
  go_enter Tryd.func23, Tryd.ntmps23
  go_wp2_with (go_at_call 29; refine (HV.out _).mono ?_; rintro e w1 ⟨rfl, hK1⟩)
  go_ret
  exact ⟨rfl, ((Kp.refl _ _).alloc _).and hK1⟩

set_option maxRecDepth 100000 in
set_option maxHeartbeats 8000000 in
theorem rtext_good (c s : Int) (A : Option Addr) (d : List Int) (m : Nat) (w : World) (hv : validN c s d.length = true) (ha : Arr w A (bs d)) (hb : IsB d) :
    Calls Tryd.prog 23 #[.agg #[.int .i64 c, .int .i64 s, .slice A d.length m]] w (Stay (.string (ba (tailN (headN c s) d d.length))) w) := by
  have HV := Lib.hid (rnvalid_any c s A d.length m)
  rw [hv] at HV
  simp only [validN, decide_eq_true_eq] at hv
  obtain ⟨c0, c1, s0, s1, hn⟩ := hv
  have H1 := Lib.hid (fun w' => rname_ba c s w')
  have H2 := Lib.hid (fun w' => rdec_ba c c0 (by omega) w')
  have H3 := Lib.hid (fun w' => rdec_ba s s0 (by omega) w')
  have H4 := Lib.hid (fun A' w' (h : Arr w' A' (bs d)) => rhex_stay A' m d w' h hb (by omega))
  have l1 := nm_length c s
  have l2 := itoa_short c c0 (by omega)
  have l3 := itoa_short s s0 (by omega)
  have hhd : headN c s = nm c s ++ [32] ++ Lib.itoa c ++ [47] ++ Lib.itoa s := rfl
  obtain ⟨N, hN⟩ : ∃ N, nm c s = N := ⟨_, rfl⟩
  obtain ⟨I, hI⟩ : ∃ I, Lib.itoa c = I := ⟨_, rfl⟩
  obtain ⟨J, hJ⟩ : ∃ J, Lib.itoa s = J := ⟨_, rfl⟩
  obtain ⟨hd, hhe⟩ : ∃ hd, headN c s = hd := ⟨_, rfl⟩
  rw [hN, hI, hJ, hhe] at hhd
  rw [hN] at H1 l1
  rw [hI] at H2 l2
  rw [hJ] at H3 l3
  rw [hhe]
  have hdl : hd.length ≤ 100 := by rw [hhd]; simp only [List.length_append, List.length_cons, List.length_nil]; omega
  have HC : ∃ S1 S2 S3 : List UInt8, (∀ w, (Op.stringOp .add (ba N) { data := #[32] }).run Tryd.prog w = .ok (.string (ba S1)) w) ∧ (∀ w, (Op.stringOp .add (ba S1) (ba I)).run Tryd.prog w = .ok (.string (ba S2)) w) ∧
      (∀ w, (Op.stringOp .add (ba S2) { data := #[47] }).run Tryd.prog w = .ok (.string (ba S3)) w) ∧ (∀ w, (Op.stringOp .add (ba S3) (ba J)).run Tryd.prog w = .ok (.string (ba hd)) w) := by
    rw [hhd]
    exact ⟨N ++ [32], N ++ [32] ++ I, N ++ [32] ++ I ++ [47], run_cat Tryd.prog N [32] (by simp only [List.length_cons, List.length_nil]; omega), run_cat Tryd.prog (N ++ [32]) I (by simp only [List.length_append, List.length_cons, List.length_nil]; omega),
      run_cat Tryd.prog (N ++ [32] ++ I) [47] (by simp only [List.length_append, List.length_cons, List.length_nil]; omega), run_cat Tryd.prog (N ++ [32] ++ I ++ [47]) J (by simp only [List.length_append, List.length_cons, List.length_nil]; omega)⟩
  obtain ⟨S1, S2, S3, hc1, hc2, hc3, hc4⟩ := HC
  have hb0 := Lib.hid (Bk.fresh w 35 #[.int .i64 c, .int .i64 s, .slice A d.length m])
  have hk0 := Lib.hid ((Kp.refl NoB w).alloc (.cells #[.int .i64 c, .int .i64 s, .slice A d.length m] 35))
  clear hN hI hJ hhe hhd l1 l2 l3 c0 c1 s0 s1
  go_enter Tryd.func23, Tryd.ntmps23
  go_wp2_with fail
  refine (HV.out _).mono ?_
  rintro e w1 ⟨rfl, hK1⟩
  have k1 := Lib.hid (hk0.out.and hK1)
  have b1 := Lib.hid (hb0.out.and hK1)
  clear hK1
  obtain ⟨x1, x2, x3, x4, x5, x6, x7⟩ := b1.out.three
  go_wp2_with fail
  go_region_held3 (fun w' => w'.cell? ⟨w.heap.size, 0, none⟩ = some (.int .i64 c) ∧ w'.cell? ⟨w.heap.size, 1, none⟩ = some (.int .i64 s)) (go_keep)
    (first
      | (go_at_call 38; refine (H3.out _).mono ?_; rintro e w4 ⟨rfl, hK4⟩; have k4 := Lib.hid (k3.out.and hK4); have b4 := Lib.hid (b3.out.and hK4); clear x1 x2 x3 x4 x5 x6 x7 hK4; obtain ⟨x1, x2, x3, x4, x5, x6, x7⟩ := b4.out.three)
      | (go_at_call 38; refine (H2.out _).mono ?_; rintro e w3 ⟨rfl, hK3⟩; have k3 := Lib.hid (k2.out.and hK3); have b3 := Lib.hid (b2.out.and hK3); clear x1 x2 x3 x4 x5 x6 x7 hK3; obtain ⟨x1, x2, x3, x4, x5, x6, x7⟩ := b3.out.three)
      | (go_at_call 10; refine (H1.out _).mono ?_; rintro e w2 ⟨rfl, hK2⟩; have k2 := Lib.hid (k1.out.drew.and hK2); have b2 := Lib.hid ((b1.out.drewN 1).and hK2); clear x1 x2 x3 x4 x5 x6 x7 hK2; obtain ⟨x1, x2, x3, x4, x5, x6, x7⟩ := b2.out.three))
  clear x1 x2 x3 x4 x5 x6 x7
  obtain ⟨x1, x2, x3, x4, x5, x6, x7⟩ := b4.out.three
  by_cases h0 : d.length = 0
  · have hd0 : tailN hd d d.length = hd := by rw [h0]; rfl
    have HD := Lib.hid hd0
    have hlt : decide (0 < d.length) = false := by simp [h0]
    have hlt2 : ¬ 0 < d.length := by omega
    clear hd0 h0
    go_wp2_with fail
    go_ret
    exact ⟨by rw [HD.out]; rfl, k4.out⟩
  · have hd1 : tailN hd d d.length = hd ++ [32] ++ hexL d := by unfold tailN; rw [if_neg h0, List.take_length]
    have hl := hexL_length d
    have hc1 : ∀ w, (Op.stringOp .add (ba hd) { data := #[32] }).run Tryd.prog w = .ok (.string (ba (hd ++ [32]))) w := run_cat Tryd.prog hd [32] (by simp only [List.length_cons, List.length_nil]; omega)
    have hc2 := run_cat Tryd.prog (hd ++ [32]) (hexL d) (by simp only [List.length_append, List.length_cons, List.length_nil]; omega)
    rw [← hd1] at hc2
    have hlt : 0 < d.length := by omega
    clear hd1 h0 hl hc3 hc4
    go_wp2_with (go_at_call 39; refine (H4.out _ _ (ha.and k4.out)).mono ?_; rintro e w5 ⟨rfl, hK5⟩)
    go_ret
    exact ⟨rfl, k4.out.and hK5⟩

end Go.Proofs.YtlklhcgacdjkiaaDoor
