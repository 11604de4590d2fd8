/- The walk of the law NoticeSame: it returns true and makes only new blocks, for all NOTIFICATIONs. No condition but the listed tables' content. -/
import Derived.Test.YtlklhcgacdjkiaaDoorNotQ
import Derived.Test.YtlklhcgacdjkiaaDoorOpenN
namespace Go.Proofs.YtlklhcgacdjkiaaDoor
open Go.RowKit
set_option linter.unusedVariables false
set_option linter.unusedSimpArgs false

set_option maxHeartbeats 1000000 in
theorem nsames_long (c s : Int) (A : Option Addr) (n m : Nat) (c' s' : Int) (B : Option Addr) (n' m' : Nat) (w : World) (hn : 600 < n ∨ 600 < n') (ld : Ld w) :
    Calls Tryd.prog 5 #[.agg #[.int .i64 c, .int .i64 s, .slice A n m], .agg #[.int .i64 c', .int .i64 s', .slice B n' m']] w (Stay (.bool true) w) := by
  have HA := Lib.hid (fun w' (k : Kp NoB w w') => alive_any w' (ld.and k))
  clear ld
  by_cases h1 : 600 < n
  all_goals
    go_enter Tryd.func5, Tryd.ntmps5
    go_wp2_with (go_at_call 9; refine (HA.out _ (((Kp.refl _ _).alloc _).alloc _)).mono ?_; rintro e w1 ⟨rfl, hK1⟩)
    go_ret
    exact ⟨rfl, (((Kp.refl _ _).alloc _).alloc _).and hK1⟩

/-- Bytes of whatever value, in a row of the call's own. -/
def ByRow (w : World) (base : Nat) (A : Option Addr) (n m : Nat) : Prop := ∃ zs : List Value, w.ownsRow base 5 1 (.slice A n m) n zs ∧ ∀ z ∈ zs, ∃ x, z = .int .u8 x

set_option maxRecDepth 100000 in
set_option maxHeartbeats 8000000 in
theorem nsames_good (c s : Int) (A : Option Addr) (d : List Int) (m : Nat) (c' s' : Int) (B : Option Addr) (d' : List Int) (m' : Nat) (w : World) (hn : d.length ≤ 600) (hn' : d'.length ≤ 600) (hv : validN c s d.length = true) (hd : InD w A d m) (hd' : InD w B d' m') (ld : Ld w) :
    Calls Tryd.prog 5 #[.agg #[.int .i64 c, .int .i64 s, .slice A d.length m], .agg #[.int .i64 c', .int .i64 s', .slice B d'.length m']] w (Stay (.bool true) w) := by
  have HA := Lib.hid (fun w' (k : Kp NoB w w') => alive_any w' (ld.and k))
  have H1 := Lib.hid (fun w' (k : Kp NoB w w') => rnbytes_good c s A d m w' hv (hd.and k))
  have hFb := formN_isB hv hd.2.1
  have hFl : (formN c s d).length = d.length + 2 := rfl
  have H2 := Lib.hid (fun w' A' p (h : Arr w' A' (bs (formN c s d))) => clone_any A' p (formN c s d) w' (by rw [hFl]; omega) h)
  have H3 := Lib.hid (fun w' A' p (h : Arr w' A' (bs (formN c s d))) => nparse_good c s d A' p w' h hFb (by omega))
  have H4 := Lib.hid (fun w' (k : Kp NoB w w') => nsame_any c s d A m c' s' d' B m' w' (hd.1.and k) hd.2.1 (hd'.1.and k) hd'.2.1)
  have H5 := Lib.hid (fun w' (k : Kp NoB w w') => rnsame_any c s d A m c' s' d' B m' w' (hd.1.and k) hd.2.1 (hd'.1.and k) hd'.2.1)
  have H6 := Lib.hid (fun w' (k : Kp NoB w w') => nsame_any c s d A m c s d A m w' (hd.1.and k) hd.2.1 (hd.1.and k) hd.2.1)
  rw [eqN_refl] at H6
  have H7 := Lib.hid (fun w' A' B' p q (h : Arr w' A' (bs (formN c s d))) (k : Arr w' B' (bs (formN c s d))) => equal_stay A' B' p q (formN c s d) (formN c s d) w' h k (by rw [hFl]; omega))
  simp only [decide_true] at H7
  unfold NForm at H1
  unfold Cloned at H2
  unfold NParse at H3
  simp only [hFl] at H1 H2 H7
  obtain ⟨F, hF⟩ : ∃ F, formN c s d = F := ⟨_, rfl⟩
  simp only [hF] at H1 H2 H3 H7
  obtain ⟨E, hE⟩ : ∃ E, eqN c s d c' s' d' = E := ⟨_, rfl⟩
  rw [hE] at H4 H5
  have HD : Hid (∀ z ∈ bs d, ∃ x, z = Value.int .u8 x) := Lib.hid (fun z hz => by simp only [bs, List.mem_map] at hz; obtain ⟨x, _, rfl⟩ := hz; exact ⟨x, rfl⟩)
  obtain ⟨L, hL⟩ : ∃ L, bs d = L := ⟨_, rfl⟩
  simp only [hL] at H3 HD
  obtain ⟨n, hnn⟩ : ∃ n, d.length = n := ⟨_, rfl⟩
  obtain ⟨n', hnn'⟩ : ∃ n, d'.length = n := ⟨_, rfl⟩
  simp only [hnn, hnn'] at H1 H2 H3 H4 H5 H6 H7 hn hn' ⊢
  have h600 : ¬ 600 < n := by omega
  have h600' : ¬ 600 < n' := by omega
  have ha0 := Lib.hid ((Bk.fresh w 35 #[.int .i64 c, .int .i64 s, .slice A n m]).alloc (.cells #[.int .i64 c', .int .i64 s', .slice B n' m'] 35))
  have hb0 := Lib.hid (Bk.second w (.cells #[.int .i64 c, .int .i64 s, .slice A n m] 35) 35 #[.int .i64 c', .int .i64 s', .slice B n' m'])
  have hk0 := Lib.hid (((Kp.refl NoB w).alloc (.cells #[.int .i64 c, .int .i64 s, .slice A n m] 35)).alloc (.cells #[.int .i64 c', .int .i64 s', .slice B n' m'] 35))
  clear ld hd hd' hv hFb hFl hF hE hnn hnn' hL
  go_enter Tryd.func5, Tryd.ntmps5
  go_wp2_with fail
  refine (H1.out _ hk0.out).mono ?_
  rintro e w1 ⟨A1, c1, rfl, hown1, hK1⟩
  have a1 := Lib.hid (ha0.out.and hK1)
  have b1 := Lib.hid (hb0.out.and hK1)
  have k1 := Lib.hid (hk0.out.and hK1)
  have f1 := Lib.hid (Arr.of_own hown1)
  clear hown1 hK1
  go_wp2_with fail
  refine (H2.out _ _ _ f1.out).mono ?_
  rintro e w2 ⟨A2, c2, rfl, hown2, hK2⟩
  have a2 := Lib.hid (a1.out.and hK2)
  have b2 := Lib.hid (b1.out.and hK2)
  have k2 := Lib.hid (k1.out.and hK2)
  have f2 := Lib.hid (f1.out.and hK2)
  have g2 := Lib.hid (Arr.of_own hown2)
  clear hown2 hK2
  go_wp2_with fail
  refine (H3.out _ _ _ g2.out).mono ?_
  rintro e w3 ⟨A3, c3, rfl, hown3, hK3⟩
  have kk := Lib.hid (hK3.alloc (.cells #[.int .i64 c, .int .i64 s, .slice A3 n c3] 32))
  have n3 := Lib.hid (Bk.fresh w3 32 #[.int .i64 c, .int .i64 s, .slice A3 n c3])
  have o3 : Hid (ByRow (w3.alloc (.cells #[.int .i64 c, .int .i64 s, .slice A3 n c3] 32)) w2.heap.size A3 n c3) := Lib.hid ⟨L, ((Kp.refl NoB w3).alloc _).own hown3 (fun _ _ q => q), HD.out⟩
  have hlt3 : Hid (∀ g, A3 = some ⟨g, 0, none⟩ → g < w3.heap.size) := Lib.hid (fun g e => (hown3.lt g (by rw [e]; rfl)).2)
  clear hown3
  go_wp2_with fail
  go_loopw [37] (fun i wr => ∃ j : Nat, j ≤ n ∧ i = .int .i64 j ∧ Hid (ByRow wr w2.heap.size A3 n c3) ∧ Hid (Kp NoB w2 wr) ∧ Hid (Bk wr w3.heap.size 32 #[.int .i64 c, .int .i64 s, .slice A3 n c3])) (fun i _ => n - (intOf i).toNat)
  case atStart => exact ⟨0, Nat.zero_le _, rfl, o3, kk, n3⟩
  case round =>
    obtain ⟨j, hj, rfl, ho, kr, hn3⟩ := hrel
    obtain ⟨y1, y2, y3, y4, y5, y6, y7⟩ := hn3.out.three
    by_cases hlt : j < n
    · obtain ⟨zs, hown, hz⟩ := ho.out
      obtain ⟨g, rfl, hg, hgs, hcell, hfz⟩ := own_at hown (by omega)
      obtain ⟨z, hzj⟩ : ∃ z, zs[j]? = some z := ⟨_, List.getElem?_eq_getElem (by rw [hown.1]; omega)⟩
      obtain ⟨x, rfl⟩ := hz z (List.mem_of_getElem? hzj)
      have h1 := hcell j _ hzj
      have h2 := hfz j
      have HS : Hid (∀ u, ByRow (wr.setCell ⟨g, j, none⟩ (.int .u8 u)) w2.heap.size (some ⟨g, 0, none⟩) n c3) := Lib.hid (fun u => ⟨_, own_set hown j _, fun z' hz' => by rcases List.mem_or_eq_of_mem_set hz' with h | h; exact hz _ h; exact ⟨_, h⟩⟩)
      have hg3 : g < w3.heap.size := hlt3.out g rfl
      have HK : Hid (∀ u, Kp NoB w2 (wr.setCell ⟨g, j, none⟩ u)) := Lib.hid (fun u => kr.out.setCell (p := ⟨g, j, none⟩) (fun hq => absurd hg (Nat.not_le.2 hq)) u)
      have HN : Hid (∀ u, Bk (wr.setCell ⟨g, j, none⟩ u) w3.heap.size 32 #[.int .i64 c, .int .i64 s, .slice (some ⟨g, 0, none⟩) n c3]) := Lib.hid (fun u => hn3.out.far (show w3.heap.size ≠ g by omega) u)
      clear hcell hfz hzj hown hz ho
      go_wp2
      go_roundw
      case rel => exact ⟨j + 1, by omega, by go_num, Lib.hid (HS.out _), Lib.hid (HK.out _), Lib.hid (HN.out _)⟩
      case measure => simp [intOf]; omega
    · have a4 := Lib.hid (a2.out.and kr.out)
      have b4 := Lib.hid (b2.out.and kr.out)
      have k4 := Lib.hid (k2.out.and kr.out)
      have f4 := Lib.hid (f2.out.and kr.out)
      have g4 := Lib.hid (g2.out.and kr.out)
      clear y1 y2 y3 y4 y5 y6 y7 ho hn3 kr
      obtain ⟨x1, x2, x3, x4, x5, x6, x7⟩ := a4.out.three
      obtain ⟨y1, y2, y3, y4, y5, y6, y7⟩ := b4.out.three
      go_wp2_with fail
      go_region_held3 (fun w' => w'.cell? ⟨w.heap.size, 0, none⟩ = some (.int .i64 c) ∧ w'.cell? ⟨w.heap.size, 1, none⟩ = some (.int .i64 s) ∧ w'.cell? ⟨w.heap.size, 2, none⟩ = some (.slice A n m) ∧
          w'.cell? ⟨w.heap.size + 1, 0, none⟩ = some (.int .i64 c') ∧ w'.cell? ⟨w.heap.size + 1, 1, none⟩ = some (.int .i64 s') ∧ w'.cell? ⟨w.heap.size + 1, 2, none⟩ = some (.slice B n' m')) (go_keep)
        (first
          | (go_at_call 20; refine (H7.out _ _ _ _ _ g8.out f8.out).mono ?_; rintro e w9 ⟨rfl, hK9⟩; have k9 := Lib.hid (k8.out.and hK9); have a9 := Lib.hid (a8.out.and hK9); have b9 := Lib.hid (b8.out.and hK9); clear x1 x2 x3 x4 x5 x6 x7 y1 y2 y3 y4 y5 y6 y7 hK9; obtain ⟨x1, x2, x3, x4, x5, x6, x7⟩ := a9.out.three; obtain ⟨y1, y2, y3, y4, y5, y6, y7⟩ := b9.out.three)
          | (go_at_call 19; (with_reducible refine (H6.out _ k7.out).mono ?_); rintro e w8 ⟨rfl, hK8⟩; have k8 := Lib.hid (k7.out.and hK8); have a8 := Lib.hid (a7.out.and hK8); have b8 := Lib.hid (b7.out.and hK8); have f8 := Lib.hid (f7.out.and hK8); have g8 := Lib.hid (g7.out.and hK8); clear x1 x2 x3 x4 x5 x6 x7 y1 y2 y3 y4 y5 y6 y7 hK8; obtain ⟨x1, x2, x3, x4, x5, x6, x7⟩ := a8.out.three; obtain ⟨y1, y2, y3, y4, y5, y6, y7⟩ := b8.out.three)
          | (go_at_call 14; refine (H5.out _ k6.out).mono ?_; rintro e w7 ⟨rfl, hK7⟩; have k7 := Lib.hid (k6.out.and hK7); have a7 := Lib.hid (a6.out.and hK7); have b7 := Lib.hid (b6.out.and hK7); have f7 := Lib.hid (f6.out.and hK7); have g7 := Lib.hid (g6.out.and hK7); clear x1 x2 x3 x4 x5 x6 x7 y1 y2 y3 y4 y5 y6 y7 hK7; obtain ⟨x1, x2, x3, x4, x5, x6, x7⟩ := a7.out.three; obtain ⟨y1, y2, y3, y4, y5, y6, y7⟩ := b7.out.three)
          | (go_at_call 19; (with_reducible refine (H4.out _ k5.out).mono ?_); rintro e w6 ⟨rfl, hK6⟩; have k6 := Lib.hid (k5.out.and hK6); have a6 := Lib.hid (a5.out.and hK6); have b6 := Lib.hid (b5.out.and hK6); have f6 := Lib.hid (f5.out.and hK6); have g6 := Lib.hid (g5.out.and hK6); clear x1 x2 x3 x4 x5 x6 x7 y1 y2 y3 y4 y5 y6 y7 hK6; obtain ⟨x1, x2, x3, x4, x5, x6, x7⟩ := a6.out.three; obtain ⟨y1, y2, y3, y4, y5, y6, y7⟩ := b6.out.three)
          | (go_at_call 9; refine (HA.out _ k4.out.drew).mono ?_; rintro e w5 ⟨rfl, hK5⟩; have k5 := Lib.hid (k4.out.drew.and hK5); have a5 := Lib.hid ((a4.out.drewN 1).and hK5); have b5 := Lib.hid ((b4.out.drewN 1).and hK5); have f5 := Lib.hid ((f4.out.drewN 1).and hK5); have g5 := Lib.hid ((g4.out.drewN 1).and hK5); clear x1 x2 x3 x4 x5 x6 x7 y1 y2 y3 y4 y5 y6 y7 hK5; obtain ⟨x1, x2, x3, x4, x5, x6, x7⟩ := a5.out.three; obtain ⟨y1, y2, y3, y4, y5, y6, y7⟩ := b5.out.three))
      go_wp2_with fail
      go_ret
      exact ⟨rfl, k9.out⟩

set_option maxRecDepth 100000 in
set_option maxHeartbeats 8000000 in
theorem nsames_bad (c s : Int) (A : Option Addr) (d : List Int) (m : Nat) (c' s' : Int) (B : Option Addr) (d' : List Int) (m' : Nat) (w : World) (hn : d.length ≤ 600) (hn' : d'.length ≤ 600) (hv : validN c s d.length = false) (hd : InD w A d m) (hd' : InD w B d' m') (ld : Ld w) :
    Calls Tryd.prog 5 #[.agg #[.int .i64 c, .int .i64 s, .slice A d.length m], .agg #[.int .i64 c', .int .i64 s', .slice B d'.length m']] w (Stay (.bool true) w) := by
  have HA := Lib.hid (fun w' (k : Kp NoB w w') => alive_any w' (ld.and k))
  have H1 := Lib.hid (fun w' => rnbytes_bad c s A d.length m w' hv)
  have H2 := Lib.hid (fun w' => clone_nil 0 0 w')
  have H3 := Lib.hid (fun w' => nparse_nil none 0 w' (Arr.nil _ _) IsB.nil)
  unfold nparseNone at H3
  have H4 := Lib.hid (fun w' (k : Kp NoB w w') => nsame_any c s d A m c' s' d' B m' w' (hd.1.and k) hd.2.1 (hd'.1.and k) hd'.2.1)
  have H5 := Lib.hid (fun w' (k : Kp NoB w w') => rnsame_any c s d A m c' s' d' B m' w' (hd.1.and k) hd.2.1 (hd'.1.and k) hd'.2.1)
  have H6 := Lib.hid (fun w' (k : Kp NoB w w') => nsame_any c s d A m c s d A m w' (hd.1.and k) hd.2.1 (hd.1.and k) hd.2.1)
  rw [eqN_refl] at H6
  obtain ⟨E, hE⟩ : ∃ E, eqN c s d c' s' d' = E := ⟨_, rfl⟩
  rw [hE] at H4 H5
  obtain ⟨n, hnn⟩ : ∃ n, d.length = n := ⟨_, rfl⟩
  obtain ⟨n', hnn'⟩ : ∃ n, d'.length = n := ⟨_, rfl⟩
  simp only [hnn, hnn'] at H1 H4 H5 H6 hn hn' ⊢
  have h600 : ¬ 600 < n := by omega
  have h600' : ¬ 600 < n' := by omega
  have ha0 := Lib.hid ((Bk.fresh w 35 #[.int .i64 c, .int .i64 s, .slice A n m]).alloc (.cells #[.int .i64 c', .int .i64 s', .slice B n' m'] 35))
  have hb0 := Lib.hid (Bk.second w (.cells #[.int .i64 c, .int .i64 s, .slice A n m] 35) 35 #[.int .i64 c', .int .i64 s', .slice B n' m'])
  have hk0 := Lib.hid (((Kp.refl NoB w).alloc (.cells #[.int .i64 c, .int .i64 s, .slice A n m] 35)).alloc (.cells #[.int .i64 c', .int .i64 s', .slice B n' m'] 35))
  clear ld hd hd' hv hE hnn hnn'
  go_enter Tryd.func5, Tryd.ntmps5
  go_wp2_with fail
  refine (H1.out _).mono ?_
  rintro e w1 ⟨rfl, hK1⟩
  have a1 := Lib.hid (ha0.out.and hK1)
  have b1 := Lib.hid (hb0.out.and hK1)
  have k1 := Lib.hid (hk0.out.and hK1)
  clear hK1
  go_wp2_with fail
  refine (H2.out _).mono ?_
  rintro e w2 ⟨rfl, hK2⟩
  have a2 := Lib.hid (a1.out.and hK2)
  have b2 := Lib.hid (b1.out.and hK2)
  have k2 := Lib.hid (k1.out.and hK2)
  clear hK2
  go_wp2_with fail
  refine (H3.out _).mono ?_
  rintro e w3 ⟨rfl, hK3⟩
  have a4 := Lib.hid ((a2.out.and hK3).alloc (.cells #[.int .i64 0, .int .i64 0, .slice none 0 0] 32))
  have b4 := Lib.hid ((b2.out.and hK3).alloc (.cells #[.int .i64 0, .int .i64 0, .slice none 0 0] 32))
  have k4 := Lib.hid ((k2.out.and hK3).alloc (.cells #[.int .i64 0, .int .i64 0, .slice none 0 0] 32))
  clear hK3
  obtain ⟨x1, x2, x3, x4, x5, x6, x7⟩ := a4.out.three
  obtain ⟨y1, y2, y3, y4, y5, y6, y7⟩ := b4.out.three
  go_wp2_with fail
  refine wp_loop_rounds 1 ?_
  rw [rounds_succ]
  go_wp2_with fail
  refine wp_region_noPanic ?_
  refine wp_region_held_drew (S := (fun w' => w'.cell? ⟨w.heap.size, 0, none⟩ = some (.int .i64 c) ∧ w'.cell? ⟨w.heap.size, 1, none⟩ = some (.int .i64 s) ∧ w'.cell? ⟨w.heap.size, 2, none⟩ = some (.slice A n m) ∧ w'.cell? ⟨w.heap.size + 1, 0, none⟩ = some (.int .i64 c') ∧ w'.cell? ⟨w.heap.size + 1, 1, none⟩ = some (.int .i64 s') ∧ w'.cell? ⟨w.heap.size + 1, 2, none⟩ = some (.slice B n' m'))) (by kernel_rfl) ?_ (fun hHeld => ?_)
  · go_keep
  refine wpAnyH_ready (rs := [0]) (by kernel_rfl) (by simp) ?_
  refine AllReadyH.cons (o := ⟨some 48, _, _, _, _, _⟩) rfl (fun K hK => ?_) AllReadyH.nil
  go_simp
  refine (HA.out _ k4.out.drew).mono ?_
  rintro e w5 ⟨rfl, hK5⟩
  have k5 := Lib.hid (k4.out.drew.and hK5)
  have a5 := Lib.hid ((a4.out.drewN 1).and hK5)
  have b5 := Lib.hid ((b4.out.drewN 1).and hK5)
  clear x1 x2 x3 x4 x5 x6 x7 y1 y2 y3 y4 y5 y6 y7 hK5
  obtain ⟨x1, x2, x3, x4, x5, x6, x7⟩ := a5.out.three
  obtain ⟨y1, y2, y3, y4, y5, y6, y7⟩ := b5.out.three
  refine hK.out _ _ ?_ (fun hHeld => ?_)
  · (try dsimp only)
    go_keep
  clear hK K
  try simp only [Act.put, List.setIfInBounds_toArray, List.set_cons_zero, List.set_cons_succ]
  refine wpAnyH_take (i := 1) (oi := ⟨some 49, _, _, _, _, _⟩) (v := ?_) rfl (by kernel_rfl) (by kernel_rfl) (by kernel_rfl) (fun _ _ _ h => h) (Or.inl ⟨by rfl, fun w hSw => ?_⟩) (by assumption) ?_
  rotate_left
  · (try dsimp only at hSw)
    go_simp
    try with_reducible rfl
  try simp only [Act.put, List.setIfInBounds_toArray, List.set_cons_zero, List.set_cons_succ]
  refine wpAnyH_take (i := 2) (oi := ⟨some 50, _, _, _, _, _⟩) (v := ?_) rfl (by kernel_rfl) (by kernel_rfl) (by kernel_rfl) (fun _ _ _ h => h) (Or.inl ⟨by rfl, fun w hSw => ?_⟩) (by assumption) ?_
  rotate_left
  · (try dsimp only at hSw)
    go_simp
    try with_reducible rfl
  try simp only [Act.put, List.setIfInBounds_toArray, List.set_cons_zero, List.set_cons_succ]
  refine wpAnyH_take (i := 3) (oi := ⟨some 51, _, _, _, _, _⟩) (v := ?_) rfl (by kernel_rfl) (by kernel_rfl) (by kernel_rfl) (fun _ _ _ h => h) (Or.inl ⟨by rfl, fun w hSw => ?_⟩) (by assumption) ?_
  rotate_left
  · (try dsimp only at hSw)
    go_simp
    try with_reducible rfl
  try simp only [Act.put, List.setIfInBounds_toArray, List.set_cons_zero, List.set_cons_succ]
  refine wpAnyH_take (i := 5) (oi := ⟨some 53, _, _, _, _, _⟩) (v := ?_) rfl (by kernel_rfl) (by kernel_rfl) (by kernel_rfl) (fun _ _ _ h => h) (Or.inl ⟨by rfl, fun w hSw => ?_⟩) (by assumption) ?_
  rotate_left
  · (try dsimp only at hSw)
    go_simp
    try with_reducible rfl
  try simp only [Act.put, List.setIfInBounds_toArray, List.set_cons_zero, List.set_cons_succ]
  refine wpAnyH_take (i := 6) (oi := ⟨some 54, _, _, _, _, _⟩) (v := ?_) rfl (by kernel_rfl) (by kernel_rfl) (by kernel_rfl) (fun _ _ _ h => h) (Or.inl ⟨by rfl, fun w hSw => ?_⟩) (by assumption) ?_
  rotate_left
  · (try dsimp only at hSw)
    go_simp
    try with_reducible rfl
  try simp only [Act.put, List.setIfInBounds_toArray, List.set_cons_zero, List.set_cons_succ]
  refine wpAnyH_ready (rs := [4]) (by kernel_rfl) (by simp) ?_
  refine AllReadyH.cons (o := ⟨some 52, _, _, _, _, _⟩) rfl (fun K hK => ?_) AllReadyH.nil
  go_simp
  refine (H4.out _ k5.out).mono ?_
  rintro e w6 ⟨rfl, hK6⟩
  have k6 := Lib.hid (k5.out.and hK6)
  have a6 := Lib.hid (a5.out.and hK6)
  have b6 := Lib.hid (b5.out.and hK6)
  clear x1 x2 x3 x4 x5 x6 x7 y1 y2 y3 y4 y5 y6 y7 hK6
  obtain ⟨x1, x2, x3, x4, x5, x6, x7⟩ := a6.out.three
  obtain ⟨y1, y2, y3, y4, y5, y6, y7⟩ := b6.out.three
  refine hK.out _ _ ?_ (fun hHeld => ?_)
  · (try dsimp only)
    go_keep
  clear hK K
  try simp only [Act.put, List.setIfInBounds_toArray, List.set_cons_zero, List.set_cons_succ]
  refine wpAnyH_ready (rs := [7]) (by kernel_rfl) (by simp) ?_
  refine AllReadyH.cons (o := ⟨some 55, _, _, _, _, _⟩) rfl (fun K hK => ?_) AllReadyH.nil
  go_simp
  refine (H5.out _ k6.out).mono ?_
  rintro e w7 ⟨rfl, hK7⟩
  have k7 := Lib.hid (k6.out.and hK7)
  have a7 := Lib.hid (a6.out.and hK7)
  have b7 := Lib.hid (b6.out.and hK7)
  clear x1 x2 x3 x4 x5 x6 x7 y1 y2 y3 y4 y5 y6 y7 hK7
  obtain ⟨x1, x2, x3, x4, x5, x6, x7⟩ := a7.out.three
  obtain ⟨y1, y2, y3, y4, y5, y6, y7⟩ := b7.out.three
  refine hK.out _ _ ?_ (fun hHeld => ?_)
  · (try dsimp only)
    go_keep
  clear hK K
  try simp only [Act.put, List.setIfInBounds_toArray, List.set_cons_zero, List.set_cons_succ]
  refine wpAnyH_take (i := 8) (oi := ⟨some 56, _, _, _, _, _⟩) (v := ?_) rfl (by kernel_rfl) (by kernel_rfl) (by kernel_rfl) (fun _ _ _ h => h) (Or.inl ⟨by rfl, fun w hSw => ?_⟩) (by assumption) ?_
  rotate_left
  · (try dsimp only at hSw)
    go_simp
    try with_reducible rfl
  try simp only [Act.put, List.setIfInBounds_toArray, List.set_cons_zero, List.set_cons_succ]
  refine wpAnyH_take (i := 9) (oi := ⟨some 57, _, _, _, _, _⟩) (v := ?_) rfl (by kernel_rfl) (by kernel_rfl) (by kernel_rfl) (fun _ _ _ h => h) (Or.inl ⟨by rfl, fun w hSw => ?_⟩) (by assumption) ?_
  rotate_left
  · (try dsimp only at hSw)
    go_simp
    try with_reducible rfl
  try simp only [Act.put, List.setIfInBounds_toArray, List.set_cons_zero, List.set_cons_succ]
  refine wpAnyH_take (i := 10) (oi := ⟨some 58, _, _, _, _, _⟩) (v := ?_) rfl (by kernel_rfl) (by kernel_rfl) (by kernel_rfl) (fun _ _ _ h => h) (Or.inl ⟨by rfl, fun w hSw => ?_⟩) (by assumption) ?_
  rotate_left
  · (try dsimp only at hSw)
    go_simp
    try with_reducible rfl
  try simp only [Act.put, List.setIfInBounds_toArray, List.set_cons_zero, List.set_cons_succ]
  refine wpAnyH_take (i := 11) (oi := ⟨some 59, _, _, _, _, _⟩) (v := ?_) rfl (by kernel_rfl) (by kernel_rfl) (by kernel_rfl) (fun _ _ _ h => h) (Or.inl ⟨by rfl, fun w hSw => ?_⟩) (by assumption) ?_
  rotate_left
  · (try dsimp only at hSw)
    go_simp
    try with_reducible rfl
  try simp only [Act.put, List.setIfInBounds_toArray, List.set_cons_zero, List.set_cons_succ]
  refine wpAnyH_take (i := 12) (oi := ⟨some 60, _, _, _, _, _⟩) (v := ?_) rfl (by kernel_rfl) (by kernel_rfl) (by kernel_rfl) (fun _ _ _ h => h) (Or.inl ⟨by rfl, fun w hSw => ?_⟩) (by assumption) ?_
  rotate_left
  · (try dsimp only at hSw)
    go_simp
    try with_reducible rfl
  try simp only [Act.put, List.setIfInBounds_toArray, List.set_cons_zero, List.set_cons_succ]
  refine wpAnyH_ready (rs := [13]) (by kernel_rfl) (by simp) ?_
  refine AllReadyH.cons (o := ⟨some 61, _, _, _, _, _⟩) rfl (fun K hK => ?_) AllReadyH.nil
  go_simp
  refine (H6.out _ k7.out).mono ?_
  rintro e w8 ⟨rfl, hK8⟩
  have k8 := Lib.hid (k7.out.and hK8)
  have a8 := Lib.hid (a7.out.and hK8)
  have b8 := Lib.hid (b7.out.and hK8)
  clear x1 x2 x3 x4 x5 x6 x7 y1 y2 y3 y4 y5 y6 y7 hK8
  obtain ⟨x1, x2, x3, x4, x5, x6, x7⟩ := a8.out.three
  obtain ⟨y1, y2, y3, y4, y5, y6, y7⟩ := b8.out.three
  refine hK.out _ _ ?_ (fun hHeld => ?_)
  · (try dsimp only)
    go_keep
  clear hK K
  try simp only [Act.put, List.setIfInBounds_toArray, List.set_cons_zero, List.set_cons_succ]
  refine wpAnyH_take (i := 14) (oi := ⟨some 62, _, _, _, _, _⟩) (v := ?_) rfl (by kernel_rfl) (by kernel_rfl) (by kernel_rfl) (fun _ _ _ h => h) (Or.inl ⟨by rfl, fun w hSw => ?_⟩) (by assumption) ?_
  rotate_left
  · (try dsimp only at hSw)
    go_simp
    try with_reducible rfl
  try simp only [Act.put, List.setIfInBounds_toArray, List.set_cons_zero, List.set_cons_succ]
  refine wpAnyH_take (i := 15) (oi := ⟨some 63, _, _, _, _, _⟩) (v := ?_) rfl (by kernel_rfl) (by kernel_rfl) (by kernel_rfl) (fun _ _ _ h => h) (Or.inl ⟨by rfl, fun w hSw => ?_⟩) (by assumption) ?_
  rotate_left
  · (try dsimp only at hSw)
    go_simp
    try with_reducible rfl
  try simp only [Act.put, List.setIfInBounds_toArray, List.set_cons_zero, List.set_cons_succ]
  refine wpAnyH_take (i := 16) (oi := ⟨some 64, _, _, _, _, _⟩) (v := ?_) rfl (by kernel_rfl) (by kernel_rfl) (by kernel_rfl) (fun _ _ _ h => h) (Or.inl ⟨by rfl, fun w hSw => ?_⟩) (by assumption) ?_
  rotate_left
  · (try dsimp only at hSw)
    go_simp
    try with_reducible rfl
  try simp only [Act.put, List.setIfInBounds_toArray, List.set_cons_zero, List.set_cons_succ]
  refine wpAnyH_take (i := 17) (oi := ⟨some 65, _, _, _, _, _⟩) (v := ?_) rfl (by kernel_rfl) (by kernel_rfl) (by kernel_rfl) (fun _ _ _ h => h) (Or.inl ⟨by rfl, fun w hSw => ?_⟩) (by assumption) ?_
  rotate_left
  · (try dsimp only at hSw)
    go_simp
    try with_reducible rfl
  try simp only [Act.put, List.setIfInBounds_toArray, List.set_cons_zero, List.set_cons_succ]
  refine wpAnyH_take (i := 18) (oi := ⟨some 66, _, _, _, _, _⟩) (v := ?_) rfl (by kernel_rfl) (by kernel_rfl) (by kernel_rfl) (fun _ _ _ h => h) (Or.inl ⟨by rfl, fun w hSw => ?_⟩) (by assumption) ?_
  rotate_left
  · (try dsimp only at hSw)
    go_simp
    try with_reducible rfl
  try simp only [Act.put, List.setIfInBounds_toArray, List.set_cons_zero, List.set_cons_succ]
  refine wpAnyH_take (i := 19) (oi := ⟨some 67, _, _, _, _, _⟩) (v := undef) rfl (by kernel_rfl) (by kernel_rfl) (by kernel_rfl) (fun _ _ _ h => h) (Or.inr ⟨rfl, rfl⟩) (by assumption) ?_
  try simp only [Act.put, List.setIfInBounds_toArray, List.set_cons_zero, List.set_cons_succ]
  refine wpAnyH_take (i := 20) (oi := ⟨some 68, _, _, _, _, _⟩) (v := undef) rfl (by kernel_rfl) (by kernel_rfl) (by kernel_rfl) (fun _ _ _ h => h) (Or.inr ⟨rfl, rfl⟩) (by assumption) ?_
  try simp only [Act.put, List.setIfInBounds_toArray, List.set_cons_zero, List.set_cons_succ]
  refine wpAnyH_take (i := 21) (oi := ⟨some 69, _, _, _, _, _⟩) (v := undef) rfl (by kernel_rfl) (by kernel_rfl) (by kernel_rfl) (fun _ _ _ h => h) (Or.inr ⟨rfl, rfl⟩) (by assumption) ?_
  try simp only [Act.put, List.setIfInBounds_toArray, List.set_cons_zero, List.set_cons_succ]
  refine wpAnyH_take (i := 22) (oi := ⟨some 70, _, _, _, _, _⟩) (v := ?_) rfl (by kernel_rfl) (by kernel_rfl) (by kernel_rfl) (fun _ _ _ h => h) (Or.inl ⟨by rfl, fun w hSw => ?_⟩) (by assumption) ?_
  rotate_left
  · (try dsimp only at hSw)
    go_simp
    try with_reducible rfl
  try simp only [Act.put, List.setIfInBounds_toArray, List.set_cons_zero, List.set_cons_succ]
  refine wpAnyH_take (i := 23) (oi := ⟨some 71, _, _, _, _, _⟩) (v := ?_) rfl (by kernel_rfl) (by kernel_rfl) (by kernel_rfl) (fun _ _ _ h => h) (Or.inl ⟨by rfl, fun w hSw => ?_⟩) (by assumption) ?_
  rotate_left
  · (try dsimp only at hSw)
    go_simp
    try with_reducible rfl
  try simp only [Act.put, List.setIfInBounds_toArray, List.set_cons_zero, List.set_cons_succ]
  refine wpAnyH_ready (rs := [24]) (by kernel_rfl) (by simp) ?_
  refine AllReadyH.cons (o := ⟨some 4, _, _, _, _, _⟩) rfl (fun K hK => ?_) AllReadyH.nil
  go_simp
  refine hK.out _ _ ?_ (fun hHeld => ?_)
  · (try dsimp only)
    go_keep
  clear hK K
  try simp only [Act.put, List.setIfInBounds_toArray, List.set_cons_zero, List.set_cons_succ]
  refine wpAnyH_done (by kernel_rfl) ?_ _
  refine NoPanic.normal ?_
  go_wp2_with fail
  go_ret
  exact ⟨rfl, k8.out⟩

theorem nsames_row (z y : ArgN) (w : World) (hz : InN w z) (hy : InN w y) (ld : Ld w) : Calls Tryd.prog 5 #[z.val, y.val] w (Stay (.bool true) w) := by
  obtain ⟨c, s, d, A, m⟩ := z
  obtain ⟨c', s', d', B, m'⟩ := y
  obtain ⟨⟨-, hm, hM, ha, hb⟩, _⟩ := hz
  obtain ⟨⟨-, hm', hM', ha', hb'⟩, _⟩ := hy
  by_cases h6 : 600 < d.length ∨ 600 < d'.length
  · exact nsames_long c s A _ m c' s' B _ m' w h6 ld
  · have h1 : d.length ≤ 600 := Nat.le_of_not_lt (fun h => h6 (.inl h))
    have h2 : d'.length ≤ 600 := Nat.le_of_not_lt (fun h => h6 (.inr h))
    by_cases hv : validN c s d.length = true
    · exact nsames_good c s A d m c' s' B d' m' w h1 h2 hv ⟨ha, hb, hm, hM⟩ ⟨ha', hb', hm', hM'⟩ ld
    · exact nsames_bad c s A d m c' s' B d' m' w h1 h2 (Bool.not_eq_true _ |>.mp hv) ⟨ha, hb, hm, hM⟩ ⟨ha', hb', hm', hM'⟩ ld

end Go.Proofs.YtlklhcgacdjkiaaDoor
