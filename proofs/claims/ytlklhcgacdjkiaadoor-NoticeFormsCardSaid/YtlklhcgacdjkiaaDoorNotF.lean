/- The walk of the law NoticeForms: it returns true and makes only new blocks, for all NOTIFICATIONs. No condition but the listed tables' content. -/
import Derived.Test.YtlklhcgacdjkiaaDoorNotQ
import Derived.Test.YtlklhcgacdjkiaaDoorOpenN
namespace Go.Proofs.YtlklhcgacdjkiaaDoor
open Go.RowKit
set_option linter.unusedVariables false
set_option linter.unusedSimpArgs false

set_option maxHeartbeats 1000000 in
theorem nforms_long (c s : Int) (A : Option Addr) (n m : Nat) (w : World) (hn : 600 < n) (ld : Ld w) : Calls Tryd.prog 6 #[.agg #[.int .i64 c, .int .i64 s, .slice A n m]] w (Stay (.bool true) w) := by
  have HA := Lib.hid (fun w' (k : Kp NoB w w') => alive_any w' (ld.and k))
  clear ld
  go_enter Tryd.func6, Tryd.ntmps6
  go_wp2_with (go_at_call 9; refine (HA.out _ ((Kp.refl _ _).alloc _)).mono ?_; rintro e w1 ⟨rfl, hK1⟩)
  go_ret
  exact ⟨rfl, ((Kp.refl _ _).alloc _).and hK1⟩

set_option maxRecDepth 100000 in
set_option maxHeartbeats 8000000 in
theorem nforms_good (c s : Int) (A : Option Addr) (d : List Int) (m : Nat) (w : World) (hn : d.length ≤ 600) (hv : validN c s d.length = true) (hd : InD w A d m) (ld : Ld w) :
    Calls Tryd.prog 6 #[.agg #[.int .i64 c, .int .i64 s, .slice A d.length m]] w (Stay (.bool true) w) := by
  have HA := Lib.hid (fun w' (k : Kp NoB w w') => alive_any w' (ld.and k))
  have H1 := Lib.hid (fun w' (k : Kp NoB w w') => nbytes_good c s A d m w' hv (hd.and k))
  have H2 := Lib.hid (fun w' (k : Kp NoB w w') => rnbytes_good c s A d m w' hv (hd.and k))
  have H3 := Lib.hid (nvalid_any c s A d.length m)
  rw [hv] at H3
  have hFb := formN_isB hv hd.2.1
  have hFl : (formN c s d).length = d.length + 2 := rfl
  have H4 := Lib.hid (fun w' A' B p q (h : Arr w' A' (bs (formN c s d))) (k : Arr w' B (bs (formN c s d))) => equal_stay A' B p q (formN c s d) (formN c s d) w' h k (by rw [hFl]; omega))
  simp only [decide_true] at H4
  have H5 := Lib.hid (fun w' (k : Kp NoB w w') => ntext_good c s A d m w' hv (ld.tb.and k) (ld.t64.and k) (ld.nm.and k) (hd.1.and k) hd.2.1)
  have H6 := Lib.hid (fun w' (k : Kp NoB w w') => rtext_good c s A d m w' hv (hd.1.and k) hd.2.1)
  have H7 := Lib.hid (fun w' A' p (h : Arr w' A' (bs (formN c s d))) => nparse_good c s d A' p w' h hFb (by omega))
  have H8 := Lib.hid (fun w' A' p (h : Arr w' A' (bs d)) (k : Kp NoB w w') => rnsame_any c s d A' p c s d A m w' h hd.2.1 (hd.1.and k) hd.2.1)
  rw [eqN_refl] at H8
  unfold NForm at H1 H2
  unfold NParse at H7
  simp only [hFl] at H1 H2 H4
  obtain ⟨F, hF⟩ : ∃ F, formN c s d = F := ⟨_, rfl⟩
  simp only [hF] at H1 H2 H4 H7
  obtain ⟨T, hT⟩ : ∃ T, tailN (headN c s) d d.length = T := ⟨_, rfl⟩
  rw [hT] at H5 H6
  obtain ⟨n, hnn⟩ : ∃ n, d.length = n := ⟨_, rfl⟩
  simp only [hnn] at H1 H2 H3 H4 H5 H6 H7 H8 hn ⊢
  have hn600 : ¬ 600 < n := by omega
  have hb0 := Lib.hid (Bk.fresh w 35 #[.int .i64 c, .int .i64 s, .slice A n m])
  have hk0 := Lib.hid ((Kp.refl NoB w).alloc (.cells #[.int .i64 c, .int .i64 s, .slice A n m] 35))
  clear ld hd hv hFb hFl hF hT hnn
  go_enter Tryd.func6, Tryd.ntmps6
  go_wp2_with fail
  refine (H1.out _ hk0.out).mono ?_
  rintro e w1 ⟨A1, c1, rfl, hown1, hK1⟩
  have b1 := Lib.hid (hb0.out.and hK1)
  have k1 := Lib.hid (hk0.out.and hK1)
  have f1 := Lib.hid (Arr.of_own hown1)
  clear hown1 hK1
  obtain ⟨x1, x2, x3, x4, x5, x6, x7⟩ := b1.out.three
  go_wp2_with fail
  refine (H2.out _ k1.out).mono ?_
  rintro e w2 ⟨A2, c2, rfl, hown2, hK2⟩
  have b2 := Lib.hid (b1.out.and hK2)
  have k2 := Lib.hid (k1.out.and hK2)
  have f2 := Lib.hid (f1.out.and hK2)
  have g2 := Lib.hid (Arr.of_own hown2)
  clear hown2 hK2 x1 x2 x3 x4 x5 x6 x7
  obtain ⟨x1, x2, x3, x4, x5, x6, x7⟩ := b2.out.three
  go_wp2_with fail
  go_region_held3 (fun w' => w'.cell? ⟨w.heap.size, 0, none⟩ = some (.int .i64 c) ∧ w'.cell? ⟨w.heap.size, 1, none⟩ = some (.int .i64 s) ∧ w'.cell? ⟨w.heap.size, 2, none⟩ = some (.slice A n m)) (go_keep)
    (first
      | (go_at_call 23; refine (H6.out _ k5.out).mono ?_; rintro e w6 ⟨rfl, hK6⟩; have k6 := Lib.hid (k5.out.and hK6); have b6 := Lib.hid (b5.out.and hK6); have f6 := Lib.hid (f5.out.and hK6); clear x1 x2 x3 x4 x5 x6 x7 hK6; obtain ⟨x1, x2, x3, x4, x5, x6, x7⟩ := b6.out.three)
      | (go_at_call 22; refine (H5.out _ k4.out).mono ?_; rintro e w5 ⟨rfl, hK5⟩; have k5 := Lib.hid (k4.out.and hK5); have b5 := Lib.hid (b4.out.and hK5); have f5 := Lib.hid (f4.out.and hK5); clear x1 x2 x3 x4 x5 x6 x7 hK5; obtain ⟨x1, x2, x3, x4, x5, x6, x7⟩ := b5.out.three)
      | (go_at_call 20; refine (H4.out _ _ _ _ _ f3.out g3.out).mono ?_; rintro e w4 ⟨rfl, hK4⟩; have k4 := Lib.hid (k3.out.and hK4); have b4 := Lib.hid (b3.out.and hK4); have f4 := Lib.hid (f3.out.and hK4); clear x1 x2 x3 x4 x5 x6 x7 hK4; obtain ⟨x1, x2, x3, x4, x5, x6, x7⟩ := b4.out.three)
      | (go_at_call 16; refine (H3.out _).mono ?_; rintro e w3 ⟨rfl, hK3⟩; have k3 := Lib.hid (k2.out.drew.and hK3); have b3 := Lib.hid ((b2.out.drewN 1).and hK3); have f3 := Lib.hid ((f2.out.drewN 1).and hK3); have g3 := Lib.hid ((g2.out.drewN 1).and hK3); clear x1 x2 x3 x4 x5 x6 x7 hK3; obtain ⟨x1, x2, x3, x4, x5, x6, x7⟩ := b3.out.three))
  go_wp2_with fail
  refine (H7.out _ _ _ f6.out).mono ?_
  rintro e w7 ⟨A7, c7, rfl, hown7, hK7⟩
  have b7 := Lib.hid (b6.out.and hK7)
  have k7 := Lib.hid (k6.out.and hK7)
  have d7 := Lib.hid (Arr.of_own hown7)
  clear hown7 hK7 x1 x2 x3 x4 x5 x6 x7
  obtain ⟨x1, x2, x3, x4, x5, x6, x7⟩ := b7.out.three
  go_wp2_with fail
  refine (HA.out _ (k7.out.alloc _)).mono ?_
  rintro e w8 ⟨rfl, hK8⟩
  have kk := ((Kp.refl NoB w7).alloc (.cells #[.int .i64 c, .int .i64 s, .slice A7 n c7] 32)).and hK8
  have b8 := Lib.hid (b7.out.and kk)
  have r8 := Lib.hid ((Bk.fresh w7 32 #[.int .i64 c, .int .i64 s, .slice A7 n c7]).and hK8)
  have k8 := Lib.hid (k7.out.and kk)
  have d8 := Lib.hid (d7.out.and kk)
  clear hK8 kk x1 x2 x3 x4 x5 x6 x7
  obtain ⟨x1, x2, x3, x4, x5, x6, x7⟩ := b8.out.three
  obtain ⟨y1, y2, y3, y4, y5, y6, y7⟩ := r8.out.three
  go_wp2_with fail
  refine (H8.out _ _ _ d8.out k8.out).mono ?_
  rintro e w9 ⟨rfl, hK9⟩
  go_wp2_with fail
  go_ret
  exact ⟨rfl, k8.out.and hK9⟩

set_option maxRecDepth 100000 in
set_option maxHeartbeats 8000000 in
theorem nforms_bad (c s : Int) (A : Option Addr) (n m : Nat) (w : World) (hn : n ≤ 600) (hv : validN c s n = false) (ld : Ld w) :
    Calls Tryd.prog 6 #[.agg #[.int .i64 c, .int .i64 s, .slice A n m]] w (Stay (.bool true) w) := by
  have HA := Lib.hid (fun w' (k : Kp NoB w w') => alive_any w' (ld.and k))
  have H1 := Lib.hid (fun w' => nbytes_bad c s A n m w' hv)
  have H2 := Lib.hid (fun w' => rnbytes_bad c s A n m w' hv)
  have H3 := Lib.hid (nvalid_any c s A n m)
  rw [hv] at H3
  have H4 := Lib.hid (fun w' => equal_stay none none 0 0 [] [] w' (Arr.nil _ _) (Arr.nil _ _) (by simp))
  simp only [decide_true, List.length_nil] at H4
  have H5 := Lib.hid (fun w' => ntext_bad c s A n m w' hv)
  have H6 := Lib.hid (fun w' => rtext_bad c s A n m w' hv)
  have H7 := Lib.hid (fun w' => nparse_nil none 0 w' (Arr.nil _ _) IsB.nil)
  unfold nparseNone at H7
  have hn600 : ¬ 600 < n := by omega
  have hb0 := Lib.hid (Bk.fresh w 35 #[.int .i64 c, .int .i64 s, .slice A n m])
  have hk0 := Lib.hid ((Kp.refl NoB w).alloc (.cells #[.int .i64 c, .int .i64 s, .slice A n m] 35))
  clear ld hv
  go_enter Tryd.func6, Tryd.ntmps6
  go_wp2_with fail
  refine (H1.out _).mono ?_
  rintro e w1 ⟨rfl, hK1⟩
  have b1 := Lib.hid (hb0.out.and hK1)
  have k1 := Lib.hid (hk0.out.and hK1)
  clear hK1
  obtain ⟨x1, x2, x3, x4, x5, x6, x7⟩ := b1.out.three
  go_wp2_with fail
  refine (H2.out _).mono ?_
  rintro e w2 ⟨rfl, hK2⟩
  have b2 := Lib.hid (b1.out.and hK2)
  have k2 := Lib.hid (k1.out.and hK2)
  clear hK2 x1 x2 x3 x4 x5 x6 x7
  obtain ⟨x1, x2, x3, x4, x5, x6, x7⟩ := b2.out.three
  go_wp2_with fail
  go_region_held3 (fun w' => w'.cell? ⟨w.heap.size, 0, none⟩ = some (.int .i64 c) ∧ w'.cell? ⟨w.heap.size, 1, none⟩ = some (.int .i64 s) ∧ w'.cell? ⟨w.heap.size, 2, none⟩ = some (.slice A n m)) (go_keep)
    (first
      | (go_at_call 23; refine (H6.out _).mono ?_; rintro e w6 ⟨rfl, hK6⟩; have k6 := Lib.hid (k5.out.and hK6); have b6 := Lib.hid (b5.out.and hK6); clear x1 x2 x3 x4 x5 x6 x7 hK6; obtain ⟨x1, x2, x3, x4, x5, x6, x7⟩ := b6.out.three)
      | (go_at_call 22; refine (H5.out _).mono ?_; rintro e w5 ⟨rfl, hK5⟩; have k5 := Lib.hid (k4.out.and hK5); have b5 := Lib.hid (b4.out.and hK5); clear x1 x2 x3 x4 x5 x6 x7 hK5; obtain ⟨x1, x2, x3, x4, x5, x6, x7⟩ := b5.out.three)
      | (go_at_call 20; refine (H4.out _).mono ?_; rintro e w4 ⟨rfl, hK4⟩; have k4 := Lib.hid (k3.out.and hK4); have b4 := Lib.hid (b3.out.and hK4); clear x1 x2 x3 x4 x5 x6 x7 hK4; obtain ⟨x1, x2, x3, x4, x5, x6, x7⟩ := b4.out.three)
      | (go_at_call 16; refine (H3.out _).mono ?_; rintro e w3 ⟨rfl, hK3⟩; have k3 := Lib.hid (k2.out.drew.and hK3); have b3 := Lib.hid ((b2.out.drewN 1).and hK3); clear x1 x2 x3 x4 x5 x6 x7 hK3; obtain ⟨x1, x2, x3, x4, x5, x6, x7⟩ := b3.out.three))
  go_wp2_with fail
  refine (H7.out _).mono ?_
  rintro e w7 ⟨rfl, hK7⟩
  have k7 := Lib.hid (k6.out.and hK7)
  clear hK7 x1 x2 x3 x4 x5 x6 x7
  go_wp2_with fail
  refine (HA.out _ (k7.out.alloc _)).mono ?_
  rintro e w8 ⟨rfl, hK8⟩
  go_wp2_with fail
  go_ret
  exact ⟨rfl, (k7.out.alloc _).and hK8⟩

theorem nforms_row (z : ArgN) (w : World) (hz : InN w z) (ld : Ld w) : Calls Tryd.prog 6 #[z.val] w (Stay (.bool true) w) := by
  obtain ⟨c, s, d, A, m⟩ := z
  obtain ⟨⟨-, hm, hM, ha, hb⟩, _⟩ := hz
  by_cases h6 : 600 < d.length
  · exact nforms_long c s A _ m w h6 ld
  · by_cases hv : validN c s d.length = true
    · exact nforms_good c s A d m w (Nat.le_of_not_lt h6) hv ⟨ha, hb, hm, hM⟩ ld
    · exact nforms_bad c s A _ m w (Nat.le_of_not_lt h6) (Bool.not_eq_true _ |>.mp hv) ld

end Go.Proofs.YtlklhcgacdjkiaaDoor
