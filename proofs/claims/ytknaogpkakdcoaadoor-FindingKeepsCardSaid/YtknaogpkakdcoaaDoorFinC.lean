/- Package finding: Text of the kinds reset and notify. No condition but the listed tables' content. -/
import Derived.Test.YtknaogpkakdcoaaDoorFinB
import Derived.Deep.RegionHeld3
namespace Go.Proofs.YtknaogpkakdcoaaDoor
open Go.RowKit
set_option linter.unusedVariables false
set_option linter.unusedSimpArgs false

theorem arr_lit2 (w : World) (o : Obj) (t : TypeId) (vs : List Value) : Arr ((w.alloc o).alloc (.cells vs.toArray t)) (some ⟨w.heap.size + 1, 0, none⟩) vs := by
  have := Arr.lit (w.alloc o) t vs
  rwa [World.size_alloc] at this
theorem own_lit_s (w : World) (base : Nat) (N : List UInt8) (h : base ≤ w.heap.size) : (w.alloc (.cells #[.string (ba N)] 9)).ownsRow base 9 1 (.slice (some ⟨w.heap.size, 0, none⟩) 1 1) 1 [.string (ba N)] := own_lit w base 9 [.string (ba N)] h (by simp [maxLen])

set_option maxRecDepth 100000 in
set_option maxHeartbeats 1600000 in
theorem ftext_3 (s : Int) (hs : s = 1 ∨ s = 2) (A : Option Addr) (m : Nat) (a : Int) (h0 : 0 ≤ a) (h1 : a ≤ 9223372036854775807) (w : World) (ld : Ld w) : Calls Tryd.prog 11 #[.agg #[.int .i64 3, .int .i64 0, .int .i64 s, .slice A 0 m, .int .i64 a]] w (Stay (.string (ba (Lib.join [namesF.getD 3 [], famF.getD s.toNat [], [97, 116], Lib.decDigits a.toNat] [32]))) w) := by
  obtain ⟨i0, hi, hz0, hz1, hz2⟩ := info_parts infoStr
  have HP := Lib.hid (fun W => fproper_any 3 0 s A 0 m a W)
  rw [show properV 3 0 s 0 a = true by simp only [properV, decide_eq_true_eq]; rcases hs with rfl | rfl <;> simp [h0]] at HP
  have HN := Lib.hid ld.nm
  have HFm := Lib.hid ld.fm
  have HI := Lib.hid (fun W (k : Kp NoB w W) => itoa_stay a h0 h1 W (ld.tb.and k))
  have hd := dec_len a h0 h1
  obtain ⟨D, hD⟩ : ∃ d, Lib.decDigits a.toNat = d := ⟨_, rfl⟩
  rw [hD] at HI hd ⊢
  clear ld hD
  obtain ⟨F, hF1, hF2, hF3, hF4⟩ : ∃ N, famF.getD s.toNat [] = N ∧ N.length ≤ 8 ∧ (s = 1 → famF[1]? = some N) ∧ (s = 2 → famF[2]? = some N) := by
    rcases hs with rfl | rfl
    · exact ⟨_, rfl, by decide, (fun _ => rfl), (fun h => absurd h (by decide))⟩
    · exact ⟨_, rfl, by decide, (fun h => absurd h (by decide)), (fun _ => rfl)⟩
  obtain ⟨N, hN1, hN2, hN3⟩ : ∃ N, namesF.getD 3 [] = N ∧ N.length ≤ 8 ∧ namesF[3]? = some N := ⟨_, rfl, by decide, rfl⟩
  rw [hF1, hN1]
  have HJ := Lib.hid (fun W base g c h => join_any base g c [N, F, [97, 116], D] W h (by simp) (by simp) (by simp [Lib.join_cons, Lib.joinTail]; omega))
  obtain ⟨R, hR⟩ : ∃ r, Lib.join [N, F, [97, 116], D] [32] = r := ⟨_, rfl⟩
  rw [hR] at HJ ⊢
  have HT := Lib.hid (And.intro hF3 hF4)
  have HT3 := Lib.hid hN3
  clear hR hF1 hF2 hF3 hF4 hN1 hN2 hN3 hd
  rcases hs with rfl | rfl
  all_goals
    go_enter Tryd.func11, Tryd.ntmps11
    go_wp2_with (first
      | (go_at_call 9; refine Calls.mono (HP.out _) ?_; rintro e w1 ⟨rfl, hK⟩; have hk1 := Lib.hid (((Kp.refl NoB w).alloc _).and hK); have hv1 := Lib.hid ((Bk.fresh w 24 _).and hK); obtain ⟨x0, x1, x2, x3, x4⟩ := hv1.out.five; have n3 := (HN.out.and hk1.out) 3 _ HT3.out; have hlt : w.heap.size < w1.heap.size := hv1.out.lt; have hne := Nat.ne_of_lt hlt; have ho1 := Lib.hid (own_lit_s w1 w1.heap.size N (Nat.le_refl _)); have hq1 := Lib.hid ((Kp.refl NoB w1).alloc (.cells #[.string (ba N)] 9)); have hv1r := Lib.hid (hv1.out.alloc (.cells #[.string (ba N)] 9)); clear hK; (first | (have f1 := (HFm.out.and hk1.out) 1 _ (HT.out.1 rfl)) | (have f1 := (HFm.out.and hk1.out) 2 _ (HT.out.2 rfl))); have hlt1 : 1 < w1.heap.size := World.block_lt_of_cell? w1 _ f1; have hne1 := Nat.ne_of_lt hlt1)
      | (at_builtin; refine wpList_app (w0 := w1) (S := NoB) (hq1.out.alloc _) rfl (.tmp 21) (.tmp 26) 47 rfl 9 i0 (.string ⟨#[]⟩) 1 16 Tryd.underlying47 hi hz0 hz1 hz2 rfl (by decide) _ _ _ rfl (ho1.out.alloc _) _ 1 1 [.string (ba F)] rfl rfl (arr_lit2 _ _ _ _) (by simp [Value.oneCell']) (by decide) (by decide) 2 rfl ?_; intro A2 c2 w2 hown2 hkk2 hG2 _; have hv2 := Lib.hid (Bk.keep (hv1r.out.alloc _) (Kp.of_grown hG2) (fun hq => by have h1 := own_base ho1.out _ hq.symm; have h2 := hv1.out.lt; omega)); clear x0 x1 x2 x3 x4; obtain ⟨x0, x1, x2, x3, x4⟩ := hv2.out.five; have hq2 := Lib.hid hkk2; have ho2 := Lib.hid hown2; clear hkk2 hown2 hG2)
      | (go_at_call 29; (refine Calls.mono (HI.out _ (hk1.out.and hq2.out)) ?_); rintro e w3 ⟨rfl, hK⟩; have hq3 := Lib.hid (hq2.out.and hK); have ho3 := Lib.hid (hK.own ho2.out (fun _ _ q => q)); clear hK)
      | (at_builtin; refine wpList_app (w0 := w1) (S := NoB) (hq3.out.alloc _) rfl (.tmp 49) (.tmp 53) 47 rfl 9 i0 (.string ⟨#[]⟩) 1 16 Tryd.underlying47 hi hz0 hz1 hz2 rfl (by decide) _ _ _ rfl (ho3.out.alloc _) _ 2 2 [.string ⟨#[97, 116]⟩, .string (ba D)] rfl rfl (Arr.lit _ _ _) (by simp [Value.oneCell']) (by decide) (by decide) 4 rfl ?_; intro A4 c4 w4 hown4 hkk4 hG4 _; obtain ⟨g, rfl, -⟩ := own_at hown4 (by decide); have HJ4 := Lib.hid (HJ.out w4 w1.heap.size g c4 hown4); have hq4 := Lib.hid hkk4; clear hown4 hkk4 hG4)
      | (go_at_call 31; (refine Calls.mono HJ4.out ?_); rintro e w5 ⟨rfl, hK⟩; have hq5 := Lib.hid (hq4.out.and hK); clear hK))
    go_ret
    exact ⟨rfl, hk1.out.and hq5.out⟩

theorem bk_drew {w : World} {b : Nat} {t : TypeId} {cs : Array Value} (h : Bk w b t cs) : Bk w.drew b t cs := h

set_option maxRecDepth 100000 in
set_option maxHeartbeats 1600000 in
theorem ftext_4z (c s : Int) (A : Option Addr) (m : Nat) (a : Int) (xs : List Int) (hp : properV 4 c s xs.length a = true) (h1 : a ≤ 9223372036854775807) (w : World) (ld : Ld w) (ha : Arr w A (bs xs)) (hb : IsB xs) (hn : xs.length ≤ 1000) (hx0 : xs.length = 0) : Calls Tryd.prog 11 #[.agg #[.int .i64 4, .int .i64 c, .int .i64 s, .slice A xs.length m, .int .i64 a]] w (Stay (.string (ba (Lib.join [namesF.getD 4 [], Lib.decDigits c.toNat, Lib.decDigits s.toNat, [97, 116], Lib.decDigits a.toNat] [32]))) w) := by
  obtain ⟨i0, hi, hz0, hz1, hz2⟩ := info_parts infoStr
  have HP := Lib.hid (fun W => fproper_any 4 c s A xs.length m a W)
  rw [hp] at HP
  simp only [properV, decide_eq_true_eq] at hp
  have hc : 1 ≤ c ∧ c ≤ 6 := by omega
  have hs : 0 ≤ s ∧ s ≤ 255 := by omega
  have h0 : 0 ≤ a := by omega
  have HN := Lib.hid ld.nm
  have HI := Lib.hid (fun W (k : Kp NoB w W) => itoa_stay a h0 h1 W (ld.tb.and k))
  have HIc := Lib.hid (fun W (k : Kp NoB w W) => itoa_stay c (by omega) (by omega) W (ld.tb.and k))
  have HIs := Lib.hid (fun W (k : Kp NoB w W) => itoa_stay s (by omega) (by omega) W (ld.tb.and k))
  have HX := Lib.hid (fun W (k : Kp NoB w W) => digits_any A m xs W (ha.and k) hb (by omega))
  have hd := dec_len a h0 h1
  have hdc := dec_len c (by omega) (by omega)
  have hds := dec_len s (by omega) (by omega)
  have hdx : (hexL xs).length ≤ 2000 := by rw [hexL_length]; omega
  obtain ⟨D, hD⟩ : ∃ d, Lib.decDigits a.toNat = d := ⟨_, rfl⟩
  obtain ⟨C, hC⟩ : ∃ d, Lib.decDigits c.toNat = d := ⟨_, rfl⟩
  obtain ⟨E, hE⟩ : ∃ d, Lib.decDigits s.toNat = d := ⟨_, rfl⟩
  obtain ⟨X, hX⟩ : ∃ d, hexL xs = d := ⟨_, rfl⟩
  rw [hD] at HI hd ⊢
  rw [hC] at HIc hdc ⊢
  rw [hE] at HIs hds ⊢
  rw [hX] at HX hdx
  obtain ⟨n, hnn⟩ : ∃ n, xs.length = n := ⟨_, rfl⟩
  rw [hnn] at HP HX hx0 ⊢
  clear ld hD hC hE hX hp ha hb hn hnn
  obtain ⟨N, hN1, hN2, hN3⟩ : ∃ N, namesF.getD 4 [] = N ∧ N.length ≤ 8 ∧ namesF[4]? = some N := ⟨_, rfl, by decide, rfl⟩
  rw [hN1]
  have HJ := Lib.hid (fun W base g c h => join_any base g c [N, C, E, [97, 116], D] W h (by simp) (by simp) (by simp [Lib.join_cons, Lib.joinTail]; omega))
  obtain ⟨R, hR⟩ : ∃ r, Lib.join [N, C, E, [97, 116], D] [32] = r := ⟨_, rfl⟩
  rw [hR] at HJ ⊢
  have HT3 := Lib.hid hN3
  clear hR hN1 hN2 hN3 hd hdc hds hdx
  subst hx0
  go_enter Tryd.func11, Tryd.ntmps11
  go_wp2_with (go_at_call 9; refine Calls.mono (HP.out _) ?_; rintro e w1 ⟨rfl, hK⟩; have hk1 := Lib.hid (((Kp.refl NoB w).alloc _).and hK); have hv1 := Lib.hid ((Bk.fresh w 24 _).and hK); obtain ⟨x0, x1, x2, x3, x4⟩ := hv1.out.five; have n3 := (HN.out.and hk1.out) 4 _ HT3.out; have hlt : w.heap.size < w1.heap.size := hv1.out.lt; have hne := Nat.ne_of_lt hlt; have ho1 := Lib.hid (own_lit_s w1 w1.heap.size N (Nat.le_refl _)); have hq1 := Lib.hid ((Kp.refl NoB w1).alloc (.cells #[.string (ba N)] 9)); have hv1r := Lib.hid (hv1.out.alloc (.cells #[.string (ba N)] 9)); clear hK)
  go_region_held3 (fun w' => w'.cell? ⟨w.heap.size, 0, none⟩ = some (.int .i64 4) ∧ w'.cell? ⟨w.heap.size, 1, none⟩ = some (.int .i64 c) ∧ w'.cell? ⟨w.heap.size, 2, none⟩ = some (.int .i64 s) ∧ w'.cell? ⟨w.heap.size, 3, none⟩ = some (.slice A 0 m) ∧ w'.cell? ⟨w.heap.size, 4, none⟩ = some (.int .i64 a)) (go_keep)
    (first
      | (go_at_call 29; (with_reducible refine Calls.mono (HIc.out _ (hk1.out.and hq1.out.drew)) ?_); rintro e w2 ⟨rfl, hK⟩; have hq2 := Lib.hid (hq1.out.drew.and hK); have ho2 := Lib.hid (hK.own (show World.ownsRow (World.drew _) _ _ _ _ _ _ from ho1.out) (fun _ _ q => q)); have hv2 := Lib.hid (Bk.and (bk_drew hv1r.out) hK); clear x0 x1 x2 x3 x4 hK; obtain ⟨x0, x1, x2, x3, x4⟩ := hv2.out.five)
      | (go_at_call 29; (with_reducible refine Calls.mono (HIs.out _ (hk1.out.and hq2.out)) ?_); rintro e w3 ⟨rfl, hK⟩; have hq3 := Lib.hid (hq2.out.and hK); have ho3 := Lib.hid (hK.own ho2.out (fun _ _ q => q)); have hv3 := Lib.hid (hv2.out.and hK); clear x0 x1 x2 x3 x4 hK; obtain ⟨x0, x1, x2, x3, x4⟩ := hv3.out.five)
      | (rw [if_pos (by rfl)]; refine wp_app (w0 := w1) (S := NoB) (hq3.out.alloc _) (.tmp 30) (.tmp 37) 47 rfl 9 i0 (.string ⟨#[]⟩) 1 16 Tryd.underlying47 hi hz0 hz1 hz2 rfl (by decide) _ _ _ rfl (ho3.out.alloc _) _ 2 2 [.string (ba C), .string (ba E)] rfl rfl (Arr.lit _ _ _) (by simp [Value.oneCell']) (by decide) (by decide) 3 rfl ?_; intro A4 c4 w4 hown4 hkk4 hG4 _; have hv4 := Lib.hid (Bk.keep (hv3.out.alloc _) (Kp.of_grown hG4) (fun hq => by have h1 := own_base ho3.out _ hq.symm; have h2 := hv1.out.lt; omega)); clear x0 x1 x2 x3 x4; obtain ⟨x0, x1, x2, x3, x4⟩ := hv4.out.five; have hq4 := Lib.hid hkk4; have ho4 := Lib.hid hown4; clear hkk4 hown4 hG4))
  go_wp2_with (first
    | (go_at_call 29; (with_reducible refine Calls.mono (HI.out _ (hk1.out.and hq4.out)) ?_); rintro e w5 ⟨rfl, hK⟩; have hq5 := Lib.hid (hq4.out.and hK); have ho5 := Lib.hid (hK.own ho4.out (fun _ _ q => q)); clear hK)
    | (at_builtin; refine wpList_app (w0 := w1) (S := NoB) (hq5.out.alloc _) rfl (.tmp 49) (.tmp 53) 47 rfl 9 i0 (.string ⟨#[]⟩) 1 16 Tryd.underlying47 hi hz0 hz1 hz2 rfl (by decide) _ _ _ rfl (ho5.out.alloc _) _ 2 2 [.string ⟨#[97, 116]⟩, .string (ba D)] rfl rfl (Arr.lit _ _ _) (by simp [Value.oneCell']) (by decide) (by decide) 5 rfl ?_; intro A6 c6 w6 hown6 hkk6 hG6 _; obtain ⟨g, rfl, -⟩ := own_at hown6 (by decide); have HJ6 := Lib.hid (HJ.out w6 w1.heap.size g c6 hown6); have hq6 := Lib.hid hkk6; clear hown6 hkk6 hG6)
    | (go_at_call 31; (refine Calls.mono HJ6.out ?_); rintro e w7 ⟨rfl, hK⟩; have hq7 := Lib.hid (hq6.out.and hK); clear hK))
  go_ret
  exact ⟨rfl, hk1.out.and hq7.out⟩

set_option maxRecDepth 100000 in
set_option maxHeartbeats 1600000 in
theorem ftext_4x (c s : Int) (A : Option Addr) (m : Nat) (a : Int) (xs : List Int) (hp : properV 4 c s xs.length a = true) (h1 : a ≤ 9223372036854775807) (w : World) (ld : Ld w) (ha : Arr w A (bs xs)) (hb : IsB xs) (hn : xs.length ≤ 1000) (hx0 : 0 < xs.length) : Calls Tryd.prog 11 #[.agg #[.int .i64 4, .int .i64 c, .int .i64 s, .slice A xs.length m, .int .i64 a]] w (Stay (.string (ba (Lib.join [namesF.getD 4 [], Lib.decDigits c.toNat, Lib.decDigits s.toNat, hexL xs, [97, 116], Lib.decDigits a.toNat] [32]))) w) := by
  obtain ⟨i0, hi, hz0, hz1, hz2⟩ := info_parts infoStr
  have HP := Lib.hid (fun W => fproper_any 4 c s A xs.length m a W)
  rw [hp] at HP
  simp only [properV, decide_eq_true_eq] at hp
  have hc : 1 ≤ c ∧ c ≤ 6 := by omega
  have hs : 0 ≤ s ∧ s ≤ 255 := by omega
  have h0 : 0 ≤ a := by omega
  have HN := Lib.hid ld.nm
  have HI := Lib.hid (fun W (k : Kp NoB w W) => itoa_stay a h0 h1 W (ld.tb.and k))
  have HIc := Lib.hid (fun W (k : Kp NoB w W) => itoa_stay c (by omega) (by omega) W (ld.tb.and k))
  have HIs := Lib.hid (fun W (k : Kp NoB w W) => itoa_stay s (by omega) (by omega) W (ld.tb.and k))
  have HX := Lib.hid (fun W (k : Kp NoB w W) => digits_any A m xs W (ha.and k) hb (by omega))
  have hd := dec_len a h0 h1
  have hdc := dec_len c (by omega) (by omega)
  have hds := dec_len s (by omega) (by omega)
  have hdx : (hexL xs).length ≤ 2000 := by rw [hexL_length]; omega
  obtain ⟨D, hD⟩ : ∃ d, Lib.decDigits a.toNat = d := ⟨_, rfl⟩
  obtain ⟨C, hC⟩ : ∃ d, Lib.decDigits c.toNat = d := ⟨_, rfl⟩
  obtain ⟨E, hE⟩ : ∃ d, Lib.decDigits s.toNat = d := ⟨_, rfl⟩
  obtain ⟨X, hX⟩ : ∃ d, hexL xs = d := ⟨_, rfl⟩
  rw [hD] at HI hd ⊢
  rw [hC] at HIc hdc ⊢
  rw [hE] at HIs hds ⊢
  rw [hX] at HX hdx ⊢
  obtain ⟨n, hnn⟩ : ∃ n, xs.length = n := ⟨_, rfl⟩
  rw [hnn] at HP HX hx0 ⊢
  clear ld hD hC hE hX hp ha hb hn hnn
  obtain ⟨N, hN1, hN2, hN3⟩ : ∃ N, namesF.getD 4 [] = N ∧ N.length ≤ 8 ∧ namesF[4]? = some N := ⟨_, rfl, by decide, rfl⟩
  rw [hN1]
  have HJ := Lib.hid (fun W base g c h => join_any base g c [N, C, E, X, [97, 116], D] W h (by simp) (by simp) (by simp [Lib.join_cons, Lib.joinTail]; omega))
  obtain ⟨R, hR⟩ : ∃ r, Lib.join [N, C, E, X, [97, 116], D] [32] = r := ⟨_, rfl⟩
  rw [hR] at HJ ⊢
  have HT3 := Lib.hid hN3
  clear hR hN1 hN2 hN3 hd hdc hds hdx
  have hx1 : (0 : Int) < n := by omega
  go_enter Tryd.func11, Tryd.ntmps11
  go_wp2_with (go_at_call 9; refine Calls.mono (HP.out _) ?_; rintro e w1 ⟨rfl, hK⟩; have hk1 := Lib.hid (((Kp.refl NoB w).alloc _).and hK); have hv1 := Lib.hid ((Bk.fresh w 24 _).and hK); obtain ⟨x0, x1, x2, x3, x4⟩ := hv1.out.five; have n3 := (HN.out.and hk1.out) 4 _ HT3.out; have hlt : w.heap.size < w1.heap.size := hv1.out.lt; have hne := Nat.ne_of_lt hlt; have ho1 := Lib.hid (own_lit_s w1 w1.heap.size N (Nat.le_refl _)); have hq1 := Lib.hid ((Kp.refl NoB w1).alloc (.cells #[.string (ba N)] 9)); have hv1r := Lib.hid (hv1.out.alloc (.cells #[.string (ba N)] 9)); clear hK)
  go_region_held3 (fun w' => w'.cell? ⟨w.heap.size, 0, none⟩ = some (.int .i64 4) ∧ w'.cell? ⟨w.heap.size, 1, none⟩ = some (.int .i64 c) ∧ w'.cell? ⟨w.heap.size, 2, none⟩ = some (.int .i64 s) ∧ w'.cell? ⟨w.heap.size, 3, none⟩ = some (.slice A n m) ∧ w'.cell? ⟨w.heap.size, 4, none⟩ = some (.int .i64 a)) (go_keep)
    (first
      | (go_at_call 29; (with_reducible refine Calls.mono (HIc.out _ (hk1.out.and hq1.out.drew)) ?_); rintro e w2 ⟨rfl, hK⟩; have hq2 := Lib.hid (hq1.out.drew.and hK); have ho2 := Lib.hid (hK.own (show World.ownsRow (World.drew _) _ _ _ _ _ _ from ho1.out) (fun _ _ q => q)); have hv2 := Lib.hid (Bk.and (bk_drew hv1r.out) hK); clear x0 x1 x2 x3 x4 hK; obtain ⟨x0, x1, x2, x3, x4⟩ := hv2.out.five)
      | (go_at_call 29; (with_reducible refine Calls.mono (HIs.out _ (hk1.out.and hq2.out)) ?_); rintro e w3 ⟨rfl, hK⟩; have hq3 := Lib.hid (hq2.out.and hK); have ho3 := Lib.hid (hK.own ho2.out (fun _ _ q => q)); have hv3 := Lib.hid (hv2.out.and hK); clear x0 x1 x2 x3 x4 hK; obtain ⟨x0, x1, x2, x3, x4⟩ := hv3.out.five)
      | (rw [if_pos (by rfl)]; refine wp_app (w0 := w1) (S := NoB) (hq3.out.alloc _) (.tmp 30) (.tmp 37) 47 rfl 9 i0 (.string ⟨#[]⟩) 1 16 Tryd.underlying47 hi hz0 hz1 hz2 rfl (by decide) _ _ _ rfl (ho3.out.alloc _) _ 2 2 [.string (ba C), .string (ba E)] rfl rfl (Arr.lit _ _ _) (by simp [Value.oneCell']) (by decide) (by decide) 3 rfl ?_; intro A4 c4 w4 hown4 hkk4 hG4 _; have hv4 := Lib.hid (Bk.keep (hv3.out.alloc _) (Kp.of_grown hG4) (fun hq => by have h1 := own_base ho3.out _ hq.symm; have h2 := hv1.out.lt; omega)); clear x0 x1 x2 x3 x4; obtain ⟨x0, x1, x2, x3, x4⟩ := hv4.out.five; have hq4 := Lib.hid hkk4; have ho4 := Lib.hid hown4; clear hkk4 hown4 hG4))
  go_wp2_with (first
    | (go_at_call 30; (with_reducible refine Calls.mono (HX.out _ (hk1.out.and hq4.out)) ?_); rintro e w5 ⟨rfl, hK⟩; have hq5 := Lib.hid (hq4.out.and hK); have ho5 := Lib.hid (hK.own ho4.out (fun _ _ q => q)); have hv5 := Lib.hid (hv4.out.and hK); clear x0 x1 x2 x3 x4 hK; obtain ⟨x0, x1, x2, x3, x4⟩ := hv5.out.five)
    | (at_builtin; refine wpList_app (w0 := w1) (S := NoB) (hq5.out.alloc _) rfl (.tmp 43) (.tmp 47) 47 rfl 9 i0 (.string ⟨#[]⟩) 1 16 Tryd.underlying47 hi hz0 hz1 hz2 rfl (by decide) _ _ _ rfl (ho5.out.alloc _) _ 1 1 [.string (ba X)] rfl rfl (Arr.lit _ _ _) (by simp [Value.oneCell']) (by decide) (by decide) 4 rfl ?_; intro A6 c6 w6 hown6 hkk6 hG6 _; have hv6 := Lib.hid (Bk.keep (hv5.out.alloc _) (Kp.of_grown hG6) (fun hq => by have h1 := own_base ho5.out _ hq.symm; have h2 := hv1.out.lt; omega)); clear x0 x1 x2 x3 x4; obtain ⟨x0, x1, x2, x3, x4⟩ := hv6.out.five; have hq6 := Lib.hid hkk6; have ho6 := Lib.hid hown6; clear hkk6 hown6 hG6)
    | (go_at_call 29; (with_reducible refine Calls.mono (HI.out _ (hk1.out.and hq6.out)) ?_); rintro e w7 ⟨rfl, hK⟩; have hq7 := Lib.hid (hq6.out.and hK); have ho7 := Lib.hid (hK.own ho6.out (fun _ _ q => q)); clear hK)
    | (at_builtin; refine wpList_app (w0 := w1) (S := NoB) (hq7.out.alloc _) rfl (.tmp 49) (.tmp 53) 47 rfl 9 i0 (.string ⟨#[]⟩) 1 16 Tryd.underlying47 hi hz0 hz1 hz2 rfl (by decide) _ _ _ rfl (ho7.out.alloc _) _ 2 2 [.string ⟨#[97, 116]⟩, .string (ba D)] rfl rfl (Arr.lit _ _ _) (by simp [Value.oneCell']) (by decide) (by decide) 6 rfl ?_; intro A8 c8 w8 hown8 hkk8 hG8 _; obtain ⟨g, rfl, -⟩ := own_at hown8 (by decide); have HJ8 := Lib.hid (HJ.out w8 w1.heap.size g c8 hown8); have hq8 := Lib.hid hkk8; clear hown8 hkk8 hG8)
    | (go_at_call 31; (refine Calls.mono HJ8.out ?_); rintro e w9 ⟨rfl, hK⟩; have hq9 := Lib.hid (hq8.out.and hK); clear hK))
  go_ret
  exact ⟨rfl, hk1.out.and hq9.out⟩

end Go.Proofs.YtknaogpkakdcoaaDoor
