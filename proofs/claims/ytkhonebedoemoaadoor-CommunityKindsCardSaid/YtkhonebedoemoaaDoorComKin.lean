/- CommunityKinds' walk. No condition but the table of powers of ten. -/
import Derived.Test.YtkhonebedoemoaaDoorComY
import Derived.Deep.RegionHeld3
namespace Go.Proofs.YtkhonebedoemoaaDoor
open Go.RowKit
set_option linter.unusedVariables false
set_option linter.unusedSimpArgs false

/-- What Read leaves, its fields written out. -/
def ReadE (w : World) (k : Int) (l : List Int) (n : Nat) (v : Int) (e : Ending) (w' : World) : Prop :=
  ∃ A c, e = .returned (.tuple #[.agg #[.int .i64 k, .bool false, .int .u32 0, .int .u32 0, .slice none 0 0, .slice A n c, .slice none 0 0, .int .i64 0, .slice none 0 0], .int .i64 v]) ∧ w'.ownsRow w.heap.size 22 1 (.slice A n c) n (us l) ∧ Kp NoB w w'

set_option maxRecDepth 100000 in
set_option maxHeartbeats 16000000 in
theorem ckin_at (k : Int) (r : Nat) (hkr : k = 8 ∧ r = 0 ∨ k = 10 ∧ r = 1 ∨ k = 16 ∧ r = 2 ∨ k = 32 ∧ r = 3) (z : AtI) (a : Int) (w : World) (hz : InAt9 w z) (ha : 0 ≤ a ∧ a < 256) (hm : a % 4 = r) (ld : Ld w) :
    Calls Tryd.prog 7 #[z.val, .int .u8 a] w fun e w' => e = .returned (.bool true) ∧ Kp NoB w w' := by
  obtain ⟨hin, xs, hx⟩ := hz
  have HSM := Lib.hid (fun W (k : Kp NoB w W) => small_any z W (hin.and k))
  have HAL := Lib.hid (fun W (k : Kp NoB w W) => alive_any W (ld.tb.and k))
  have HRV := Lib.hid (fun (s : z.small) W => rvalid_any z (hin.1.ok s) W)
  have hgk : 0 < grp k := by rcases hkr with ⟨rfl, _⟩ | ⟨rfl, _⟩ | ⟨rfl, _⟩ | ⟨rfl, _⟩ <;> decide
  have hkb : -9223372036854775808 ≤ k ∧ k ≤ 9223372036854775807 := by rcases hkr with ⟨rfl, _⟩ | ⟨rfl, _⟩ | ⟨rfl, _⟩ | ⟨rfl, _⟩ <;> decide
  have HBY := Lib.hid (fun (s : z.small) (hv : validC z = true) W (kk : Kp NoB w W) => cbytes_good z (hin.1.ok s) xs W (hx.and kk) (by unfold AtI.small at s; omega) hv)
  have HRD := Lib.hid (fun (s : z.small) (hv : validC z = true) A c W (h : Arr W A (bs (bytesU xs))) => (show Calls Tryd.prog 26 #[.int .i64 k, .slice A (bytesU xs).length c] W (ReadE W (if wholeU k z.ln = true then k else 0) (if wholeU k z.ln = true then xs else []) (if wholeU k z.ln = true then z.ln else 0) (if wholeU k z.ln = true then 0 else 2)) by
    have h1 := cread_any k hkb A c (bytesU xs) W h (bytesU_isB xs) (by rw [bytesU_len, hx.1]; unfold AtI.small at s; omega)
    obtain ⟨_, _, hn0, _, _⟩ := uniq_facts hv hx.1 hx.2.2.2.2
    obtain ⟨e1, e2, e3⟩ := rd_bytes hgk (xs := xs) (by rw [hx.1]; exact hn0) hx.2.2.2.2
    rw [e1, e2, e3, hx.1] at h1
    refine h1.mono (fun e w' h => ?_)
    obtain ⟨A2, c2, h2, h3, h4⟩ := h
    cases hw : wholeU k z.ln with
    | true =>
      simp only [hw, if_true] at h2 h3 ⊢
      rw [hx.1] at h2 h3
      exact ⟨A2, c2, h2, h3, h4⟩
    | false =>
      simp only [hw, Bool.false_eq_true, if_false] at h2 h3 ⊢
      exact ⟨A2, c2, h2, h3, h4⟩))
  have HG := Lib.hid (fun W => rgroup_any k W)
  have HEQ := Lib.hid (fun (s : z.small) B d W (kk : Kp NoB w W) (hb : Arr W B (us xs)) => (show Calls Tryd.prog 16 #[.slice B z.ln d, .slice z.L z.ln z.lc] W (Stay (.bool true) W) by
    have h := uequal_any B z.L d z.lc xs xs W hb (hx.2.2.2.1.and kk) (by unfold AtI.small at s; rw [hx.1]; omega)
    rw [hx.1, decide_eq_true rfl] at h
    exact h))
  have HBL : Hid ((bytesU xs).length = 4 * z.ln) := Lib.hid (by rw [bytesU_len, hx.1])
  obtain ⟨G, hG⟩ : ∃ G, grp k = G := ⟨_, rfl⟩
  obtain ⟨Wh, hWh⟩ : ∃ b, wholeU k z.ln = b := ⟨_, rfl⟩
  have hwh : ((z.ln : Int) % (G : Int) == 0) = Wh := by
    rw [← hWh]
    unfold wholeU
    rw [hG]
    have hcast : ((z.ln % G : Nat) : Int) = (z.ln : Int) % (G : Int) := Int.natCast_emod _ _
    rw [← hcast, Bool.eq_iff_iff]
    simp
    omega
  rw [hG] at HG hgk
  rw [hWh] at HRD
  have hg0 : ¬ (G : Int) = 0 := by omega
  have hgN : ¬ G = 0 := by omega
  have hwt : (z.ln : Int).tmod (G : Int) = (z.ln : Int) % (G : Int) := Int.tmod_eq_emod_of_nonneg (by omega)
  have hg3 : G ≤ 3 := by rw [← hG]; unfold grp; (repeat' split) <;> omega
  obtain ⟨V, hV⟩ : ∃ v, validC z = v := ⟨_, rfl⟩
  rw [hV] at HRV HBY HRD
  unfold BytesU at HBY
  obtain ⟨m, hmm⟩ : ∃ m, (bytesU xs).length = m := ⟨_, rfl⟩
  rw [hmm] at HBY HRD
  have HKR := Lib.hid hkr
  clear hin hx ld hG hWh hV hkb hgk hmm hkr HBL
  unfold AtI.val AtI.cs at HSM HRV HBY ⊢
  obtain ⟨ha0, ha1⟩ := ha
  go_enter Tryd.func7, Tryd.ntmps7
  cases V
  · go_wp2_with (first
      | (go_at_call 8; refine Calls.mono (HSM.out _ ((Kp.refl NoB w).alloc _)) ?_; rintro e w1 ⟨b, rfl, hs, hK⟩; obtain ⟨hk1', hZ'⟩ := fin_at (z := z) hK; have hk1 := Lib.hid hk1'; have hZ := Lib.hid hZ'; have HS := Lib.hid hs; obtain ⟨x0, x1, x2, x3, x4, x5, x6, x7, x8⟩ := hZ'.attr; clear hK hk1' hZ' hs; cases b)
      | (go_at_call 20; (with_reducible refine Calls.mono (HRV.out (HS.out (by first | trivial | rfl)) _) ?_); rintro e w3 ⟨rfl, hK⟩; have hk3 := Lib.hid (hk1.out.and hK); clear hK)
      | (go_at_call 9; (first | ((with_reducible refine Calls.mono (HAL.out _ hk3.out) ?_); rintro e w2 ⟨rfl, hK⟩; have hk2 := Lib.hid (hk3.out.and hK); clear hK) | ((with_reducible refine Calls.mono (HAL.out _ hk1.out) ?_); rintro e w2 ⟨rfl, hK⟩; have hk2 := Lib.hid (hk1.out.and hK); clear hK))))
    all_goals
      go_ret
      exact ⟨rfl, hk2.out⟩
  cases Wh
  all_goals simp only [Bool.false_eq_true, if_false, if_true] at HRD
  · go_wp2_with (first
      | (go_at_call 8; refine Calls.mono (HSM.out _ ((Kp.refl NoB w).alloc _)) ?_; rintro e w1 ⟨b, rfl, hs, hK⟩; obtain ⟨hk1', hZ'⟩ := fin_at (z := z) hK; have hk1 := Lib.hid hk1'; have hZ := Lib.hid hZ'; have HS := Lib.hid hs; obtain ⟨x0, x1, x2, x3, x4, x5, x6, x7, x8⟩ := hZ'.attr; clear hK hk1' hZ' hs; cases b)
      | (go_at_call 20; (with_reducible refine Calls.mono (HRV.out (HS.out (by first | trivial | rfl)) _) ?_); rintro e w3 ⟨rfl, hK⟩; have hk3 := Lib.hid (hk1.out.and hK); have hZ3 := Lib.hid (hZ.out.and hK); clear x0 x1 x2 x3 x4 x5 x6 x7 x8; have hZ4 := Lib.hid (hZ3.out.alloc (.cells #[.int .i64 8, .int .i64 10, .int .i64 16, .int .i64 32] 3)); obtain ⟨x0, x1, x2, x3, x4, x5, x6, x7, x8⟩ := hZ4.out.attr; have hk4 := Lib.hid (hk3.out.alloc (.cells #[.int .i64 8, .int .i64 10, .int .i64 16, .int .i64 32] 3)); have hix : (w3.alloc (.cells #[.int .i64 8, .int .i64 10, .int .i64 16, .int .i64 32] 3)).cell? ⟨w3.heap.size, r, none⟩ = some (.int .i64 k) := by { rw [(Bk.fresh w3 _ _).cell r]; rcases HKR.out with ⟨rfl, rfl⟩ | ⟨rfl, rfl⟩ | ⟨rfl, rfl⟩ | ⟨rfl, rfl⟩ <;> rfl }; have hr4 : (r : Int) < 4 := by { rcases HKR.out with ⟨_, rfl⟩ | ⟨_, rfl⟩ | ⟨_, rfl⟩ | ⟨_, rfl⟩ <;> decide }; clear hK)
      | (go_at_call 17; (with_reducible refine Calls.mono (HBY.out (HS.out (by first | trivial | rfl)) (by first | trivial | rfl) _ hk4.out) ?_); rintro e w5 ⟨A5, c5, rfl, ho5, hK⟩; have hk5 := Lib.hid (hk4.out.and hK); have hZ5 := Lib.hid (hZ4.out.and hK); have ha5 := Lib.hid (own_parts ho5).2.2; clear hix hr4 hK ho5 x0 x1 x2 x3 x4 x5 x6 x7 x8)
      | (go_at_call 26; (with_reducible refine Calls.mono (HRD.out (HS.out (by first | trivial | rfl)) (by first | trivial | rfl) A5 c5 _ ha5.out) ?_); rintro e w6 ⟨A6, c6, rfl, ho6, hK⟩; have hk6 := Lib.hid (hk5.out.and hK); have hZ6 := Lib.hid (hZ5.out.and hK); have ha6 := Lib.hid (own_parts ho6).2.2; clear hK ho6)
      | (go_at_call 9; (with_reducible refine Calls.mono (HAL.out _ hk1.out) ?_); rintro e w2 ⟨rfl, hK⟩; have hk2 := Lib.hid (hk1.out.and hK); clear hK))
    · go_ret
      exact ⟨rfl, hk2.out⟩
    have bx7 := Lib.hid (Bk.fresh w6 28 (zU 0 false A6 0 c6).cs)
    have hZ7 := Lib.hid (hZ6.out.alloc (.cells (zU 0 false A6 0 c6).cs 28))
    have hk7 := Lib.hid (hk6.out.alloc (.cells (zU 0 false A6 0 c6).cs 28))
    have x5 : (w6.alloc (.cells (zU 0 false A6 0 c6).cs 28)).cell? ⟨w.heap.size, 5, none⟩ = some (.slice z.L z.ln z.lc) := hZ7.out.attr.2.2.2.2.2.1
    unfold zU AtI.cs at x5
    simp only at x5
    unfold zU AtI.cs at hk7 hZ7
    refine wp_region_noPanic ?_
    refine wp_region_held_drew (S := (fun w' => w'.cell? ⟨w.heap.size, 5, none⟩ = some (.slice z.L z.ln z.lc))) (by kernel_rfl) ?_ (fun hHeld => ?_)
    · exact x5
    refine wpAnyH_take (i := 0) (oi := ⟨some 37, _, _, _, _, _⟩) (v := ?_) rfl (by kernel_rfl) (by kernel_rfl) (by kernel_rfl) (fun _ _ _ h => h) (Or.inl ⟨by rfl, fun w hSw => ?_⟩) (by assumption) ?_
    rotate_left
    · (try dsimp only at hSw)
      go_simp
      try with_reducible rfl
    try simp only [Act.put, List.setIfInBounds_toArray, List.set_cons_zero, List.set_cons_succ]
    refine wpAnyH_take (i := 1) (oi := ⟨some 38, _, _, _, _, _⟩) (v := ?_) rfl (by kernel_rfl) (by kernel_rfl) (by kernel_rfl) (fun _ _ _ h => h) (Or.inl ⟨by rfl, fun w hSw => ?_⟩) (by assumption) ?_
    rotate_left
    · (try dsimp only at hSw)
      go_simp
      try with_reducible rfl
    try simp only [Act.put, List.setIfInBounds_toArray, List.set_cons_zero, List.set_cons_succ]
    refine wpAnyH_take (i := 2) (oi := ⟨some 39, _, _, _, _, _⟩) (v := ?_) rfl (by kernel_rfl) (by kernel_rfl) (by kernel_rfl) (fun _ _ _ h => h) (Or.inl ⟨by rfl, fun w hSw => ?_⟩) (by assumption) ?_
    rotate_left
    · (try dsimp only at hSw)
      go_simp
      try with_reducible rfl
    try simp only [Act.put, List.setIfInBounds_toArray, List.set_cons_zero, List.set_cons_succ]
    refine wpAnyH_take (i := 3) (oi := ⟨some 40, _, _, _, _, _⟩) (v := ?_) rfl (by kernel_rfl) (by kernel_rfl) (by kernel_rfl) (fun _ _ _ h => h) (Or.inl ⟨by rfl, fun w hSw => ?_⟩) (by assumption) ?_
    rotate_left
    · (try dsimp only at hSw)
      go_simp
      try with_reducible rfl
    try simp only [Act.put, List.setIfInBounds_toArray, List.set_cons_zero, List.set_cons_succ]
    refine wpAnyH_ready (rs := [4]) (by kernel_rfl) (by simp) ?_
    refine AllReadyH.cons (o := ⟨some 41, _, _, _, _, _⟩) rfl (fun K hK => ?_) AllReadyH.nil
    go_simp
    (with_reducible refine Calls.mono (HG.out _) ?_)
    rintro e w8 ⟨rfl, hK8⟩
    have hk8 := Lib.hid (hk7.out.drew.and hK8)
    have hZ8 := Lib.hid (Bk.and (bk_drew hZ7.out) hK8)
    have bx8 := Lib.hid (Bk.and (bk_drew bx7.out) hK8)
    have ha8 := Lib.hid (((ha6.out.and ((Kp.refl NoB w6).alloc _)).and (Kp.refl NoB _).drew).and hK8)
    clear x5
    have x5 := (Bk.attr (z := z) hZ8.out).2.2.2.2.2.1
    clear hK8
    refine hK.out _ _ ?_ (fun hHeld => ?_)
    · (try dsimp only)
      exact x5
    clear hK K
    try simp only [Act.put, List.setIfInBounds_toArray, List.set_cons_zero, List.set_cons_succ]
    refine wpAnyH_ready (rs := [5]) (by kernel_rfl) (by simp) ?_
    refine AllReadyH.cons (o := ⟨some 42, _, _, _, _, _⟩) rfl (fun K hK => ?_) AllReadyH.nil
    go_simp
    refine hK.out _ _ ?_ (fun hHeld => ?_)
    · (try dsimp only)
      exact x5
    clear hK K
    try simp only [Act.put, List.setIfInBounds_toArray, List.set_cons_zero, List.set_cons_succ]
    refine wpAnyH_take (i := 6) (oi := ⟨some 43, _, _, _, _, _⟩) (v := ?_) rfl (by kernel_rfl) (by kernel_rfl) (by kernel_rfl) (fun _ _ _ h => h) (Or.inl ⟨by rfl, fun w hSw => ?_⟩) (by assumption) ?_
    rotate_left
    · (try dsimp only at hSw)
      go_simp
      try with_reducible rfl
    try simp only [Act.put, List.setIfInBounds_toArray, List.set_cons_zero, List.set_cons_succ]
    refine wpAnyH_ready (rs := [7]) (by kernel_rfl) (by simp) ?_
    refine AllReadyH.cons (o := ⟨some 10, _, _, _, _, _⟩) rfl (fun K hK => ?_) AllReadyH.nil
    go_simp
    refine hK.out _ _ ?_ (fun hHeld => ?_)
    · (try dsimp only)
      exact x5
    clear hK K
    try simp only [Act.put, List.setIfInBounds_toArray, List.set_cons_zero, List.set_cons_succ]
    refine wpAnyH_done (by kernel_rfl) ?_ _
    refine NoPanic.normal ?_
    go_wp2_with (go_at_call 9; (with_reducible refine Calls.mono (HAL.out _ hk8.out) ?_); rintro e w9 ⟨rfl, hK⟩; have hk9 := Lib.hid (hk8.out.and hK); clear hK)
    go_ret
    exact ⟨rfl, hk9.out⟩
  · go_wp2_with (first
      | (go_at_call 8; refine Calls.mono (HSM.out _ ((Kp.refl NoB w).alloc _)) ?_; rintro e w1 ⟨b, rfl, hs, hK⟩; obtain ⟨hk1', hZ'⟩ := fin_at (z := z) hK; have hk1 := Lib.hid hk1'; have hZ := Lib.hid hZ'; have HS := Lib.hid hs; obtain ⟨x0, x1, x2, x3, x4, x5, x6, x7, x8⟩ := hZ'.attr; clear hK hk1' hZ' hs; cases b)
      | (go_at_call 20; (with_reducible refine Calls.mono (HRV.out (HS.out (by first | trivial | rfl)) _) ?_); rintro e w3 ⟨rfl, hK⟩; have hk3 := Lib.hid (hk1.out.and hK); have hZ3 := Lib.hid (hZ.out.and hK); clear x0 x1 x2 x3 x4 x5 x6 x7 x8; have hZ4 := Lib.hid (hZ3.out.alloc (.cells #[.int .i64 8, .int .i64 10, .int .i64 16, .int .i64 32] 3)); obtain ⟨x0, x1, x2, x3, x4, x5, x6, x7, x8⟩ := hZ4.out.attr; have hk4 := Lib.hid (hk3.out.alloc (.cells #[.int .i64 8, .int .i64 10, .int .i64 16, .int .i64 32] 3)); have hix : (w3.alloc (.cells #[.int .i64 8, .int .i64 10, .int .i64 16, .int .i64 32] 3)).cell? ⟨w3.heap.size, r, none⟩ = some (.int .i64 k) := by { rw [(Bk.fresh w3 _ _).cell r]; rcases HKR.out with ⟨rfl, rfl⟩ | ⟨rfl, rfl⟩ | ⟨rfl, rfl⟩ | ⟨rfl, rfl⟩ <;> rfl }; have hr4 : (r : Int) < 4 := by { rcases HKR.out with ⟨_, rfl⟩ | ⟨_, rfl⟩ | ⟨_, rfl⟩ | ⟨_, rfl⟩ <;> decide }; clear hK)
      | (go_at_call 17; (with_reducible refine Calls.mono (HBY.out (HS.out (by first | trivial | rfl)) (by first | trivial | rfl) _ hk4.out) ?_); rintro e w5 ⟨A5, c5, rfl, ho5, hK⟩; have hk5 := Lib.hid (hk4.out.and hK); have hZ5 := Lib.hid (hZ4.out.and hK); have ha5 := Lib.hid (own_parts ho5).2.2; clear hix hr4 hK ho5 x0 x1 x2 x3 x4 x5 x6 x7 x8)
      | (go_at_call 26; (with_reducible refine Calls.mono (HRD.out (HS.out (by first | trivial | rfl)) (by first | trivial | rfl) A5 c5 _ ha5.out) ?_); rintro e w6 ⟨A6, c6, rfl, ho6, hK⟩; have hk6 := Lib.hid (hk5.out.and hK); have hZ6 := Lib.hid (hZ5.out.and hK); have ha6 := Lib.hid (own_parts ho6).2.2; clear hK ho6)
      | (go_at_call 9; (with_reducible refine Calls.mono (HAL.out _ hk1.out) ?_); rintro e w2 ⟨rfl, hK⟩; have hk2 := Lib.hid (hk1.out.and hK); clear hK))
    · go_ret
      exact ⟨rfl, hk2.out⟩
    have bx7 := Lib.hid (Bk.fresh w6 28 (zU k false A6 z.ln c6).cs)
    have hZ7 := Lib.hid (hZ6.out.alloc (.cells (zU k false A6 z.ln c6).cs 28))
    have hk7 := Lib.hid (hk6.out.alloc (.cells (zU k false A6 z.ln c6).cs 28))
    have x5 : (w6.alloc (.cells (zU k false A6 z.ln c6).cs 28)).cell? ⟨w.heap.size, 5, none⟩ = some (.slice z.L z.ln z.lc) := hZ7.out.attr.2.2.2.2.2.1
    unfold zU AtI.cs at x5
    simp only at x5
    unfold zU AtI.cs at hk7 hZ7
    refine wp_region_noPanic ?_
    refine wp_region_held_drew (S := (fun w' => w'.cell? ⟨w.heap.size, 5, none⟩ = some (.slice z.L z.ln z.lc))) (by kernel_rfl) ?_ (fun hHeld => ?_)
    · exact x5
    refine wpAnyH_take (i := 0) (oi := ⟨some 37, _, _, _, _, _⟩) (v := ?_) rfl (by kernel_rfl) (by kernel_rfl) (by kernel_rfl) (fun _ _ _ h => h) (Or.inl ⟨by rfl, fun w hSw => ?_⟩) (by assumption) ?_
    rotate_left
    · (try dsimp only at hSw)
      go_simp
      try with_reducible rfl
    try simp only [Act.put, List.setIfInBounds_toArray, List.set_cons_zero, List.set_cons_succ]
    refine wpAnyH_take (i := 1) (oi := ⟨some 38, _, _, _, _, _⟩) (v := ?_) rfl (by kernel_rfl) (by kernel_rfl) (by kernel_rfl) (fun _ _ _ h => h) (Or.inl ⟨by rfl, fun w hSw => ?_⟩) (by assumption) ?_
    rotate_left
    · (try dsimp only at hSw)
      go_simp
      try with_reducible rfl
    try simp only [Act.put, List.setIfInBounds_toArray, List.set_cons_zero, List.set_cons_succ]
    refine wpAnyH_take (i := 2) (oi := ⟨some 39, _, _, _, _, _⟩) (v := ?_) rfl (by kernel_rfl) (by kernel_rfl) (by kernel_rfl) (fun _ _ _ h => h) (Or.inl ⟨by rfl, fun w hSw => ?_⟩) (by assumption) ?_
    rotate_left
    · (try dsimp only at hSw)
      go_simp
      try with_reducible rfl
    try simp only [Act.put, List.setIfInBounds_toArray, List.set_cons_zero, List.set_cons_succ]
    refine wpAnyH_take (i := 3) (oi := ⟨some 40, _, _, _, _, _⟩) (v := ?_) rfl (by kernel_rfl) (by kernel_rfl) (by kernel_rfl) (fun _ _ _ h => h) (Or.inl ⟨by rfl, fun w hSw => ?_⟩) (by assumption) ?_
    rotate_left
    · (try dsimp only at hSw)
      go_simp
      try with_reducible rfl
    try simp only [Act.put, List.setIfInBounds_toArray, List.set_cons_zero, List.set_cons_succ]
    refine wpAnyH_ready (rs := [4]) (by kernel_rfl) (by simp) ?_
    refine AllReadyH.cons (o := ⟨some 41, _, _, _, _, _⟩) rfl (fun K hK => ?_) AllReadyH.nil
    go_simp
    (with_reducible refine Calls.mono (HG.out _) ?_)
    rintro e w8 ⟨rfl, hK8⟩
    have hk8 := Lib.hid (hk7.out.drew.and hK8)
    have hZ8 := Lib.hid (Bk.and (bk_drew hZ7.out) hK8)
    have bx8 := Lib.hid (Bk.and (bk_drew bx7.out) hK8)
    have ha8 := Lib.hid (((ha6.out.and ((Kp.refl NoB w6).alloc _)).and (Kp.refl NoB _).drew).and hK8)
    clear x5
    have x5 := (Bk.attr (z := z) hZ8.out).2.2.2.2.2.1
    clear hK8
    refine hK.out _ _ ?_ (fun hHeld => ?_)
    · (try dsimp only)
      exact x5
    clear hK K
    try simp only [Act.put, List.setIfInBounds_toArray, List.set_cons_zero, List.set_cons_succ]
    refine wpAnyH_ready (rs := [5]) (by kernel_rfl) (by simp) ?_
    refine AllReadyH.cons (o := ⟨some 42, _, _, _, _, _⟩) rfl (fun K hK => ?_) AllReadyH.nil
    go_simp
    refine hK.out _ _ ?_ (fun hHeld => ?_)
    · (try dsimp only)
      exact x5
    clear hK K
    try simp only [Act.put, List.setIfInBounds_toArray, List.set_cons_zero, List.set_cons_succ]
    refine wpAnyH_take (i := 6) (oi := ⟨some 43, _, _, _, _, _⟩) (v := ?_) rfl (by kernel_rfl) (by kernel_rfl) (by kernel_rfl) (fun _ _ _ h => h) (Or.inl ⟨by rfl, fun w hSw => ?_⟩) (by assumption) ?_
    rotate_left
    · (try dsimp only at hSw)
      go_simp
      try with_reducible rfl
    try simp only [Act.put, List.setIfInBounds_toArray, List.set_cons_zero, List.set_cons_succ]
    refine wpAnyH_ready (rs := [7]) (by kernel_rfl) (by simp) ?_
    refine AllReadyH.cons (o := ⟨some 10, _, _, _, _, _⟩) rfl (fun K hK => ?_) AllReadyH.nil
    go_simp
    refine hK.out _ _ ?_ (fun hHeld => ?_)
    · (try dsimp only)
      exact x5
    clear hK K
    try simp only [Act.put, List.setIfInBounds_toArray, List.set_cons_zero, List.set_cons_succ]
    refine wpAnyH_done (by kernel_rfl) ?_ _
    refine NoPanic.normal ?_
    clear x5
    go_wp2_with (first
      | (go_at_call 9; (with_reducible refine Calls.mono (HAL.out _ hk8.out) ?_); rintro e w9 ⟨rfl, hK⟩; have hk9 := Lib.hid (hk8.out.and hK); have x5 := (Bk.attr (z := z) (hZ8.out.and hK)).2.2.2.2.2.1; have bx9 := bx8.out.and hK; have y0 := bx9.cell 0; have y5 := bx9.cell 5; simp only [zU, AtI.cs, List.getElem?_toArray, List.getElem?_cons_zero, List.getElem?_cons_succ] at y0 y5; have ha9 := Lib.hid (ha8.out.and hK); clear hK bx9)
      | (go_at_call 16; (with_reducible refine Calls.mono (HEQ.out (HS.out (by first | trivial | rfl)) A6 c6 _ hk9.out ha9.out) ?_); rintro e w10 ⟨rfl, hK⟩; have hk10 := Lib.hid (hk9.out.and hK); clear hK))
    go_ret
    exact ⟨rfl, hk10.out⟩

/-- Every remainder of four. -/
theorem ckin_row (z : AtI) (a : Int) (w : World) (hz : InAt9 w z) (ha : 0 ≤ a ∧ a ≤ 255) (ld : Ld w) :
    Calls Tryd.prog 7 #[z.val, .int .u8 a] w fun e w' => e = .returned (.bool true) ∧ Kp NoB w w' := by
  have hr : a % 4 = 0 ∨ a % 4 = 1 ∨ a % 4 = 2 ∨ a % 4 = 3 := by omega
  rcases hr with h | h | h | h
  · exact ckin_at 8 0 (by simp) z a w hz ⟨ha.1, by omega⟩ h ld
  · exact ckin_at 10 1 (by simp) z a w hz ⟨ha.1, by omega⟩ h ld
  · exact ckin_at 16 2 (by simp) z a w hz ⟨ha.1, by omega⟩ h ld
  · exact ckin_at 32 3 (by simp) z a w hz ⟨ha.1, by omega⟩ h ld

end Go.Proofs.YtkhonebedoemoaaDoor
