/- The reference's Bytes. No condition but the bounds that arguments have. Printed by tools/ofob.py. -/
import Derived.Test.YtilfheociidloaaDoorOFoA
import Derived.Test.YtilfheociidloaaDoorRCat
import Derived.Deep.Cut
import Derived.Deep.CutRange
import Derived.Deep.DeepCutAuto
namespace Go.Proofs.YtilfheociidloaaDoor
open Go.RowKit
set_option linter.unusedVariables false
set_option linter.unusedSimpArgs false

theorem parts6 {w : World} {x1 x2 x3 x4 x5 x6 : List Int} {u1 u2 u3 u4 u5 u6 : Value} (h1 : ByE w x1 [u1]) (h2 : ByE w x2 [u2]) (h3 : ByE w x3 [u3]) (h4 : ByE w x4 [u4]) (h5 : ByE w x5 [u5]) (h6 : ByE w x6 [u6]) :
    PartL w w [x1, x2, x3, x4, x5, x6] [u1, u2, u3, u4, u5, u6] := by
  have hp := ((((((PartL.nil w w).snoc h1.part).snoc h2.part).snoc h3.part).snoc h4.part).snoc h5.part).snoc h6.part
  simpa using hp

set_option maxRecDepth 100000 in
set_option maxHeartbeats 8000000 in
theorem rbytes17_no (o : OpenI) (A : Option Addr) (c : Nat) (cs : List Value) (w : World) (hb : o.B) (hx : CapL w o.caps cs) (ha : Arr w A cs) (hl : o.caps.length ≤ 1000000) (hf : (formC o.caps).length ≤ 100000) (hv : validO o = false) :
    Calls Tryd.prog 8 #[o.val A c] w (Stay (.tuple #[.slice none 0 0, .bool false]) w) := by
  have hk0 := (Kp.refl NoB w).alloc (.cells #[.int .u32 o.sys, .int .i64 o.hold, .int .u32 o.id, .slice A o.caps.length c] 25)
  have HV := Lib.hid (rvalid17_any o A c cs _ hb (hx.and hk0) (ha.and hk0) hl hf)
  rw [hv] at HV
  obtain ⟨x1, x2, x3, x4, x5, x6, x7, x8, x9⟩ := (Bk.fresh w 25 #[.int .u32 o.sys, .int .i64 o.hold, .int .u32 o.id, .slice A o.caps.length c]).four
  have hk0 := Lib.hid hk0
  obtain ⟨s, h, i, caps⟩ := o
  unfold OpenI.val at HV ⊢
  simp only at HV x1 x2 x3 x4 hk0 ⊢
  obtain ⟨n, hn⟩ : ∃ n, caps.length = n := ⟨_, rfl⟩
  simp only [hn] at HV x1 x2 x3 x4 x5 x6 x7 x8 x9 hk0 ⊢
  clear hx ha hb hl hf hv hn
  go_enter Tryd.func8, Tryd.ntmps8
  go_wp2_with fail
  refine HV.out.mono ?_
  rintro e w1 ⟨rfl, hK1⟩
  go_wp2_with fail
  go_ret2
  exact ⟨rfl, hk0.out.and hK1⟩

set_option maxRecDepth 100000 in
set_option maxHeartbeats 32000000 in
theorem rbytes17_yes (o : OpenI) (A : Option Addr) (c : Nat) (cs : List Value) (w : World) (hb : o.B) (hx : CapL w o.caps cs) (ha : Arr w A cs) (hl : o.caps.length ≤ 1000000) (hv : validO o = true) :
    Calls Tryd.prog 8 #[o.val A c] w (Formed w (openL o)) := by
  obtain ⟨i0, hi0, hz0, hz1, hz2⟩ := info_parts infoU8
  have hk0 := (Kp.refl NoB w).alloc (.cells #[.int .u32 o.sys, .int .i64 o.hold, .int .u32 o.id, .slice A o.caps.length c] 25)
  have hB0 := Lib.hid (Bk.fresh w 25 #[.int .u32 o.sys, .int .i64 o.hold, .int .u32 o.id, .slice A o.caps.length c])
  have hv' := hv
  simp only [validO, Bool.and_eq_true, decide_eq_true_eq] at hv'
  obtain ⟨⟨⟨⟨⟨v1, v2⟩, v3⟩, v4⟩, v5⟩, v6⟩ := hv'
  have hfb : IsB (formC o.caps) := form_isB v1 hx.isB
  have HV := Lib.hid (rvalid17_any o A c cs _ hb (hx.and hk0) (ha.and hk0) hl (by omega))
  rw [hv] at HV
  have HC := Lib.hid (fun w' (k : Kp NoB w w') => rbytes_yes A c o.caps cs w' (hx.and k) (ha.and k) hl v1 (by omega))
  have hk0 := Lib.hid hk0
  obtain ⟨⟨s0, s1⟩, ⟨h0, h1⟩, ⟨i0', i1⟩⟩ := hb
  simp only [timedB, decide_eq_true_eq] at v5
  have hpb := param_isB hfb v2
  have hpl := param_len _ v2
  obtain ⟨s, h, i, caps⟩ := o
  unfold OpenI.val at HV ⊢
  unfold openL
  simp only at HV HC hB0 hk0 s0 s1 h0 h1 i0' i1 v1 v2 v3 v4 v5 v6 hl hfb hpb hpl ⊢
  clear hx ha hv v1 v6
  obtain ⟨n, hn⟩ : ∃ n, caps.length = n := ⟨_, rfl⟩
  simp only [hn] at HV HC hB0 hk0 ⊢
  obtain ⟨F, hF⟩ : ∃ F, formC caps = F := ⟨_, rfl⟩
  rw [hF] at HC v2 hfb hpb hpl ⊢
  clear hn hF hl
  unfold Formed at HC
  obtain ⟨a, haE⟩ : ∃ a : Int, (if s ≤ 65535 then s else 23456) = a := ⟨_, rfl⟩
  have ha0 : 0 ≤ a ∧ a < 65536 := by rw [← haE]; split <;> omega
  have hasL : asL s = putL 2 a := by unfold asL; rw [← haE]; split <;> rfl
  rw [hasL]
  have HAE := Lib.hid haE
  clear haE hasL
  have HOa := Lib.hid (fun w => rof_2 a w ha0.1 ha0.2)
  have HOh := Lib.hid (fun w => rof_2 h w (by omega) (by omega))
  have HOi := Lib.hid (fun w => rof_4 i w (by omega) (by omega))
  unfold OfYes at HOa HOh HOi
  have hP0 : paramL F = if F = [] then [] else 2 :: (F.length : Int) :: F := rfl
  obtain ⟨P, hP⟩ : ∃ P, paramL F = P := ⟨_, rfl⟩
  rw [hP] at hpb hpl hP0 ⊢
  have HP0 := Lib.hid hP0
  clear hP hP0
  obtain ⟨pl, hplE⟩ : ∃ n, P.length = n := ⟨_, rfl⟩
  have HPL := Lib.hid hplE
  rw [hplE] at hpl ⊢
  obtain ⟨fl, hfl⟩ : ∃ n, F.length = n := ⟨_, rfl⟩
  have HFL := Lib.hid hfl
  rw [hfl] at v2 HC
  have u1 : IntKind.u8.wrap (fl : Int) = fl := IntWalk.u8_in _ (by omega)
  have u2 : IntKind.u8.wrap (pl : Int) = pl := IntWalk.u8_in _ (by omega)
  have HFB := Lib.hid hfb
  have HPB := Lib.hid hpb
  clear hfb hpb hplE hfl
  have u3 : IntKind.u32.wrap h = h := IntWalk.u32_in _ (by omega)
  have HCat6 := Lib.hid (fun w' A' c' (hh : Sl ByE 1 w' A' [[4], putL 2 a, putL 2 h, putL 4 i, [(pl : Int)], P]) => rcat_any A' c' [[4], putL 2 a, putL 2 h, putL 4 i, [(pl : Int)], P] w' hh (by simp) (by have h1 := putL_length 2 a; have h2 := putL_length 2 h; have h3 := putL_length 4 i; simp only [catL, List.flatten_cons, List.flatten_nil, List.length_append, List.length_cons, List.length_nil]; rw [HPL.out]; omega))
  have hcat6 : catL [[4], putL 2 a, putL 2 h, putL 4 i, [(pl : Int)], P] = 4 :: (putL 2 a ++ (putL 2 h ++ (putL 4 i ++ ((pl : Int) :: P)))) := by simp [catL]
  rw [hcat6] at HCat6
  unfold Joined at HCat6
  obtain ⟨L, hL⟩ : ∃ L, 4 :: (putL 2 a ++ (putL 2 h ++ (putL 4 i ++ ((pl : Int) :: P)))) = L := ⟨_, rfl⟩
  rw [hL] at HCat6 ⊢
  obtain ⟨ll, hll⟩ : ∃ n, L.length = n := ⟨_, rfl⟩
  have HLL := Lib.hid hll
  simp only [hll] at HCat6
  clear hL hll hcat6
  clear h0 h1 s0 s1 i0' i1 v3 v4 v5 ha0
  obtain ⟨x1, x2, x3, x4, x5, x6, x7, x8, x9⟩ := hB0.out.four
  go_enter Tryd.func8, Tryd.ntmps8
  go_wp2_with fail
  refine HV.out.mono ?_
  rintro e w1 ⟨rfl, hK1⟩
  have k1 := Lib.hid (hk0.out.and hK1)
  have b1 := Lib.hid (hB0.out.and hK1)
  obtain ⟨y1, y2, y3, y4, y5, y6, y7, y8, y9⟩ := b1.out.four
  clear x1 x2 x3 x4 x5 x6 x7 x8 x9
  go_upto_if 14 with fail
  go_cut [4] (fun s4 wx => s4 = .int .u32 a ∧ wx = w1)
  case first =>
    have haE := HAE.out
    by_cases hs : s ≤ 65535
    · rw [if_pos hs] at haE
      subst haE
      have hs' : ¬ 65535 < s := by omega
      clear hs
      go_wp2
      go_meet
      exact ⟨rfl, rfl⟩
    · rw [if_neg hs] at haE
      subst haE
      have hs' : 65535 < s := by omega
      clear hs
      go_wp2
      go_meet
      exact ⟨rfl, rfl⟩
  case rest =>
  obtain ⟨rfl, rfl⟩ := hcut
  go_upto_if 23 with (go_at_call 22; refine (HC.out _ k1.out).mono ?_; rintro e w5 ⟨A5, c5, rfl, hown5, hK5⟩; replace hown5 := Lib.hid hown5; have k5 := Lib.hid (k1.out.and hK5); have b5 := Lib.hid (b1.out.and hK5))
  obtain ⟨hK5', -⟩ := And.intro hK5 trivial
  go_cut [7] (fun s7 wx => ∃ A7 c7, s7 = .slice A7 pl c7 ∧ Hid (Kp NoB w5 wx) ∧ Hid (ByE wx P [.slice A7 pl c7]))
  case first =>
    have hPe := HP0.out
    by_cases hfz : F = []
    · rw [if_pos hfz] at hPe
      have e1 : fl = 0 := by rw [← HFL.out, hfz]; rfl
      have e2 : pl = 0 := by rw [← HPL.out, hPe]; rfl
      have hd : decide ((0 : Int) < (fl : Int)) = false := by simp [e1]
      subst e1 e2
      clear hfz
      go_wp2
      go_meet
      exact ⟨none, 0, rfl, Lib.hid (Kp.refl _ _), Lib.hid (by rw [hPe]; exact ⟨none, 0, rfl, Nat.le_refl _, by decide, Arr.nil _ _, IsB.nil⟩)⟩
    · rw [if_neg hfz] at hPe
      have hFl : 0 < fl := by rw [← HFL.out]; exact List.length_pos_iff.2 hfz
      have hpl2 : pl = fl + 2 := by rw [← HPL.out, hPe, ← HFL.out]; rfl
      have HPE : Hid (bs P = [.int .u8 2, .int .u8 fl] ++ bs F) := Lib.hid (by rw [hPe, ← HFL.out]; rfl)
      have HA5 := Lib.hid (Arr.of_own hown5.out)
      have HO1 : Hid ((w5.alloc (.cells #[.int .u8 2, .int .u8 fl] 5)).ownsRow w5.heap.size 5 1 (.slice (some ⟨w5.heap.size, 0, none⟩) 2 2) 2 [.int .u8 2, .int .u8 fl]) := Lib.hid (own_lit w5 w5.heap.size 5 [.int .u8 2, .int .u8 fl] (Nat.le_refl _) (by simp [maxLen]))
      have HKA := Lib.hid ((Kp.refl NoB w5).alloc (.cells #[.int .u8 2, .int .u8 fl] 5))
      clear hfz hPe
      go_wp2_with (at_builtin; refine wpList_app (w0 := w5) (S := NoB) HKA.out rfl (.tmp 27) (.tmp 28) 28 rfl 5 i0 (.int .u8 0) 1 1 Tryd.underlying28 hi0 hz0 hz1 hz2 rfl (by decide) _ 2 _ rfl HO1.out _ fl c5 (bs F) rfl (by rw [bs_length, HFL.out, Nat.mul_one]) (HA5.out.and HKA.out) (bs_one _) (by omega) (by decide) (fl + 2) (by omega) ?_; intro A6 c6 w6 hown6 hK6 _ _; replace hown6 := Lib.hid hown6; replace hK6 := Lib.hid hK6)
      go_meet
      subst hpl2
      exact ⟨A6, c6, rfl, hK6, Lib.hid (byE_own (by rw [HPE.out]; exact hown6.out) HPL.out HPB.out)⟩
  case rest =>
  obtain ⟨A7, c7, rfl, hkx, hqc⟩ := hcut
  have hkc := Lib.hid (k5.out.and hkx.out)
  have hbc := Lib.hid (b5.out.and hkx.out)
  clear hkx y1 y2 y3 y4 y5 y6 y7 y8 y9
  go_upto_region 10 with fail
  refine wp_region_noPanic ?_
  refine wp_region_held_drew (S := (fun w' => w'.cell? ⟨w.heap.size, 1, none⟩ = some (.int .i64 h) ∧ w'.cell? ⟨w.heap.size, 2, none⟩ = some (.int .u32 i))) (by kernel_rfl) ?_ (fun hHeld => ?_)
  · exact ⟨hbc.out.cell 1, hbc.out.cell 2⟩
  obtain ⟨W_0, hW⟩ : ∃ x, wc.drew = x := ⟨_, rfl⟩
  rw [hW]
  have hKd : Kp NoB wc W_0 := by rw [← hW]; exact (Kp.refl NoB wc).drew
  have hk_0 := Lib.hid (hkc.out.and hKd)
  have z_0 := Lib.hid (hbc.out.and hKd)
  have q7_0 := Lib.hid (ByE.and hKd _ _ hqc.out)
  clear hW hKd hHeld
  have hHeld : W_0.cell? ⟨w.heap.size, 1, none⟩ = some (.int .i64 h) ∧ W_0.cell? ⟨w.heap.size, 2, none⟩ = some (.int .u32 i) := ⟨z_0.out.cell 1, z_0.out.cell 2⟩
  refine wpAnyH_take (i := 1) (oi := ⟨some 31, _, _, _, _, _⟩) (v := ?_) rfl (by kernel_rfl) (by kernel_rfl) (by kernel_rfl) (fun _ _ _ h => h) (Or.inl ⟨by rfl, fun w hSw => ?_⟩) (by assumption) ?_
  rotate_left
  · (try dsimp only at hSw)
    go_simp
    try with_reducible rfl
  try simp only [Act.put, List.setIfInBounds_toArray, List.set_cons_zero, List.set_cons_succ]
  refine wpAnyH_take (i := 3) (oi := ⟨some 33, _, _, _, _, _⟩) (v := ?_) rfl (by kernel_rfl) (by kernel_rfl) (by kernel_rfl) (fun _ _ _ h => h) (Or.inl ⟨by rfl, fun w hSw => ?_⟩) (by assumption) ?_
  rotate_left
  · (try dsimp only at hSw)
    go_simp
    try with_reducible rfl
  try simp only [Act.put, List.setIfInBounds_toArray, List.set_cons_zero, List.set_cons_succ]
  refine wpAnyH_take (i := 4) (oi := ⟨some 34, _, _, _, _, _⟩) (v := ?_) rfl (by kernel_rfl) (by kernel_rfl) (by kernel_rfl) (fun _ _ _ h => h) (Or.inl ⟨by rfl, fun w hSw => ?_⟩) (by assumption) ?_
  rotate_left
  · (try dsimp only at hSw)
    go_simp
    try with_reducible rfl
  try simp only [Act.put, List.setIfInBounds_toArray, List.set_cons_zero, List.set_cons_succ]
  refine wpAnyH_take (i := 5) (oi := ⟨some 35, _, _, _, _, _⟩) (v := ?_) rfl (by kernel_rfl) (by kernel_rfl) (by kernel_rfl) (fun _ _ _ h => h) (Or.inl ⟨by rfl, fun w hSw => ?_⟩) (by assumption) ?_
  rotate_left
  · (try dsimp only at hSw)
    go_simp
    try with_reducible rfl
  try simp only [Act.put, List.setIfInBounds_toArray, List.set_cons_zero, List.set_cons_succ]
  refine wpAnyH_take (i := 7) (oi := ⟨some 37, _, _, _, _, _⟩) (v := ?_) rfl (by kernel_rfl) (by kernel_rfl) (by kernel_rfl) (fun _ _ _ h => h) (Or.inl ⟨by rfl, fun w hSw => ?_⟩) (by assumption) ?_
  rotate_left
  · (try dsimp only at hSw)
    go_simp
    try with_reducible rfl
  try simp only [Act.put, List.setIfInBounds_toArray, List.set_cons_zero, List.set_cons_succ]
  refine wpAnyH_take (i := 8) (oi := ⟨some 38, _, _, _, _, _⟩) (v := ?_) rfl (by kernel_rfl) (by kernel_rfl) (by kernel_rfl) (fun _ _ _ h => h) (Or.inl ⟨by rfl, fun w hSw => ?_⟩) (by assumption) ?_
  rotate_left
  · (try dsimp only at hSw)
    go_simp
    try with_reducible rfl
  try simp only [Act.put, List.setIfInBounds_toArray, List.set_cons_zero, List.set_cons_succ]
  refine wpAnyH_take (i := 10) (oi := ⟨some 40, _, _, _, _, _⟩) (v := ?_) rfl (by kernel_rfl) (by kernel_rfl) (by kernel_rfl) (fun _ _ _ h => h) (Or.inl ⟨by rfl, fun w hSw => ?_⟩) (by assumption) ?_
  rotate_left
  · (try dsimp only at hSw)
    go_simp
    try with_reducible rfl
  try simp only [Act.put, List.setIfInBounds_toArray, List.set_cons_zero, List.set_cons_succ]
  refine wpAnyH_take (i := 11) (oi := ⟨some 41, _, _, _, _, _⟩) (v := ?_) rfl (by kernel_rfl) (by kernel_rfl) (by kernel_rfl) (fun _ _ _ h => h) (Or.inl ⟨by rfl, fun w hSw => ?_⟩) (by assumption) ?_
  rotate_left
  · (try dsimp only at hSw)
    go_simp
    try with_reducible rfl
  try simp only [Act.put, List.setIfInBounds_toArray, List.set_cons_zero, List.set_cons_succ]
  refine wpAnyH_take (i := 12) (oi := ⟨some 42, _, _, _, _, _⟩) (v := ?_) rfl (by kernel_rfl) (by kernel_rfl) (by kernel_rfl) (fun _ _ _ h => h) (Or.inl ⟨by rfl, fun w hSw => ?_⟩) (by assumption) ?_
  rotate_left
  · (try dsimp only at hSw)
    go_simp
    try with_reducible rfl
  try simp only [Act.put, List.setIfInBounds_toArray, List.set_cons_zero, List.set_cons_succ]
  refine wpAnyH_take (i := 14) (oi := ⟨some 44, _, _, _, _, _⟩) (v := ?_) rfl (by kernel_rfl) (by kernel_rfl) (by kernel_rfl) (fun _ _ _ h => h) (Or.inl ⟨by rfl, fun w hSw => ?_⟩) (by assumption) ?_
  rotate_left
  · (try dsimp only at hSw)
    go_simp
    try with_reducible rfl
  try simp only [Act.put, List.setIfInBounds_toArray, List.set_cons_zero, List.set_cons_succ]
  refine wpAnyH_ready (rs := [0, 2, 13]) (by kernel_rfl) (by simp) ?_
  refine AllReadyH.cons (o := ⟨some 30, _, _, _, _, _⟩) rfl (fun K hK => ?_) (AllReadyH.cons (o := ⟨some 32, _, _, _, _, _⟩) rfl (fun K hK => ?_) (AllReadyH.cons (o := ⟨some 43, _, _, _, _, _⟩) rfl (fun K hK => ?_) AllReadyH.nil))
  · go_simp
    have hKa : Kp NoB W_0 (W_0.alloc (.cells #[.int .u8 4] 5)) := (Kp.refl NoB W_0).alloc _
    refine hK.out _ _ ⟨(z_0.out.and hKa).cell 1, (z_0.out.and hKa).cell 2⟩ (fun hHeld => ?_)
    clear hK K
    try simp only [Act.put, List.setIfInBounds_toArray, List.set_cons_zero, List.set_cons_succ]
    obtain ⟨W_1, hW⟩ : ∃ x, W_0.alloc (.cells #[.int .u8 4] 5) = x := ⟨_, rfl⟩
    rw [hW]
    rw [hW] at hKa
    have q0_1 : Hid (ByE W_1 [4] [.slice (some ⟨W_0.heap.size, 0, none⟩) 1 1]) := Lib.hid (by rw [← hW]; exact byE_lit _ W_0.heap.size [4] (Bk.fresh W_0 5 (bs [4]).toArray) (by simp) (by intro y hy; simp at hy; omega) 1 rfl)
    obtain ⟨B0, hB0⟩ : ∃ x, W_0.heap.size = x := ⟨_, rfl⟩
    rw [hB0] at q0_1 ⊢
    clear hW hB0
    have hk_1 := Lib.hid (hk_0.out.and hKa)
    have z_1 := Lib.hid (z_0.out.and hKa)
    have q7_1 := Lib.hid (ByE.and hKa _ _ q7_0.out)
    clear hk_0 z_0 q7_0 
    clear hKa
    refine wpAnyH_ready (rs := [2, 13]) (by kernel_rfl) (by simp) ?_
    refine AllReadyH.cons (o := ⟨some 32, _, _, _, _, _⟩) rfl (fun K hK => ?_) (AllReadyH.cons (o := ⟨some 43, _, _, _, _, _⟩) rfl (fun K hK => ?_) AllReadyH.nil)
    · go_simp
      (with_reducible refine Calls.mono (HOa.out _) ?_)
      rintro e W_2 ⟨A2, c2, rfl, ho, hKk⟩
      have q2_2 := Lib.hid (byE_own ho (putL_length _ _) (putL_isB _ _))
      have hk_2 := Lib.hid (hk_1.out.and hKk)
      have z_2 := Lib.hid (z_1.out.and hKk)
      have q7_2 := Lib.hid (ByE.and hKk _ _ q7_1.out)
      have q0_2 := Lib.hid (ByE.and hKk _ _ q0_1.out)
      clear hk_1 z_1 q7_1 q0_1
      clear ho
      refine hK.out _ _ ⟨z_2.out.cell 1, z_2.out.cell 2⟩ (fun hHeld => ?_)
      clear hK K
      try simp only [Act.put, List.setIfInBounds_toArray, List.set_cons_zero, List.set_cons_succ]
      clear hKk
      refine wpAnyH_ready (rs := [6, 13]) (by kernel_rfl) (by simp) ?_
      refine AllReadyH.cons (o := ⟨some 36, _, _, _, _, _⟩) rfl (fun K hK => ?_) (AllReadyH.cons (o := ⟨some 43, _, _, _, _, _⟩) rfl (fun K hK => ?_) AllReadyH.nil)
      · go_simp
        (with_reducible refine Calls.mono (HOh.out _) ?_)
        rintro e W_3 ⟨A3, c3, rfl, ho, hKk⟩
        have q6_3 := Lib.hid (byE_own ho (putL_length _ _) (putL_isB _ _))
        have hk_3 := Lib.hid (hk_2.out.and hKk)
        have z_3 := Lib.hid (z_2.out.and hKk)
        have q7_3 := Lib.hid (ByE.and hKk _ _ q7_2.out)
        have q0_3 := Lib.hid (ByE.and hKk _ _ q0_2.out)
        have q2_3 := Lib.hid (ByE.and hKk _ _ q2_2.out)
        clear hk_2 z_2 q7_2 q0_2 q2_2
        clear ho
        refine hK.out _ _ ⟨z_3.out.cell 1, z_3.out.cell 2⟩ (fun hHeld => ?_)
        clear hK K
        try simp only [Act.put, List.setIfInBounds_toArray, List.set_cons_zero, List.set_cons_succ]
        clear hKk
        refine wpAnyH_ready (rs := [9, 13]) (by kernel_rfl) (by simp) ?_
        refine AllReadyH.cons (o := ⟨some 39, _, _, _, _, _⟩) rfl (fun K hK => ?_) (AllReadyH.cons (o := ⟨some 43, _, _, _, _, _⟩) rfl (fun K hK => ?_) AllReadyH.nil)
        · go_simp
          (with_reducible refine Calls.mono (HOi.out _) ?_)
          rintro e W_4 ⟨A4, c4, rfl, ho, hKk⟩
          have q9_4 := Lib.hid (byE_own ho (putL_length _ _) (putL_isB _ _))
          have hk_4 := Lib.hid (hk_3.out.and hKk)
          have z_4 := Lib.hid (z_3.out.and hKk)
          have q7_4 := Lib.hid (ByE.and hKk _ _ q7_3.out)
          have q0_4 := Lib.hid (ByE.and hKk _ _ q0_3.out)
          have q2_4 := Lib.hid (ByE.and hKk _ _ q2_3.out)
          have q6_4 := Lib.hid (ByE.and hKk _ _ q6_3.out)
          clear hk_3 z_3 q7_3 q0_3 q2_3 q6_3
          clear ho
          refine hK.out _ _ ⟨z_4.out.cell 1, z_4.out.cell 2⟩ (fun hHeld => ?_)
          clear hK K
          try simp only [Act.put, List.setIfInBounds_toArray, List.set_cons_zero, List.set_cons_succ]
          clear hKk
          refine wpAnyH_ready (rs := [13]) (by kernel_rfl) (by simp) ?_
          refine AllReadyH.cons (o := ⟨some 43, _, _, _, _, _⟩) rfl (fun K hK => ?_) AllReadyH.nil
          go_simp
          have hKa : Kp NoB W_4 (W_4.alloc (.cells #[.int .u8 (pl : Int)] 5)) := (Kp.refl NoB W_4).alloc _
          refine hK.out _ _ ⟨(z_4.out.and hKa).cell 1, (z_4.out.and hKa).cell 2⟩ (fun hHeld => ?_)
          clear hK K
          try simp only [Act.put, List.setIfInBounds_toArray, List.set_cons_zero, List.set_cons_succ]
          obtain ⟨W_5, hW⟩ : ∃ x, W_4.alloc (.cells #[.int .u8 (pl : Int)] 5) = x := ⟨_, rfl⟩
          rw [hW]
          rw [hW] at hKa
          have q13_5 : Hid (ByE W_5 [(pl : Int)] [.slice (some ⟨W_4.heap.size, 0, none⟩) 1 1]) := Lib.hid (by rw [← hW]; exact byE_lit _ W_4.heap.size [(pl : Int)] (Bk.fresh W_4 5 (bs [(pl : Int)]).toArray) (by simp) (by intro y hy; simp at hy; omega) 1 rfl)
          obtain ⟨B13, hB13⟩ : ∃ x, W_4.heap.size = x := ⟨_, rfl⟩
          rw [hB13] at q13_5 ⊢
          clear hW hB13
          have hk_5 := Lib.hid (hk_4.out.and hKa)
          have z_5 := Lib.hid (z_4.out.and hKa)
          have q7_5 := Lib.hid (ByE.and hKa _ _ q7_4.out)
          have q0_5 := Lib.hid (ByE.and hKa _ _ q0_4.out)
          have q2_5 := Lib.hid (ByE.and hKa _ _ q2_4.out)
          have q6_5 := Lib.hid (ByE.and hKa _ _ q6_4.out)
          have q9_5 := Lib.hid (ByE.and hKa _ _ q9_4.out)
          clear hk_4 z_4 q7_4 q0_4 q2_4 q6_4 q9_4
          clear hKa
          refine wpAnyH_ready (rs := [15]) (by kernel_rfl) (by simp) ?_
          refine AllReadyH.cons (o := ⟨some 45, _, _, _, _, _⟩) rfl (fun K hK => ?_) AllReadyH.nil
          go_simp
          have hKz : Kp NoB W_5 (W_5.alloc (.cells #[.slice (some ⟨B0, 0, none⟩) 1 1, .slice A2 2 c2, .slice A3 2 c3, .slice A4 4 c4, .slice (some ⟨B13, 0, none⟩) 1 1, .slice A7 pl c7] 28)) := (Kp.refl NoB W_5).alloc _
          have hp := parts6 (ByE.and hKz _ _ q0_5.out) (ByE.and hKz _ _ q2_5.out) (ByE.and hKz _ _ q6_5.out) (ByE.and hKz _ _ q9_5.out) (ByE.and hKz _ _ q13_5.out) (ByE.and hKz _ _ q7_5.out)
          have hsl := sl_of hp (Bk.fresh W_5 28 #[.slice (some ⟨B0, 0, none⟩) 1 1, .slice A2 2 c2, .slice A3 2 c3, .slice A4 4 c4, .slice (some ⟨B13, 0, none⟩) 1 1, .slice A7 pl c7])
          refine hK.out _ _ ⟨(z_5.out.and hKz).cell 1, (z_5.out.and hKz).cell 2⟩ (fun hHeld => ?_)
          clear hK K
          try simp only [Act.put, List.setIfInBounds_toArray, List.set_cons_zero, List.set_cons_succ]
          refine wpAnyH_ready (rs := [16]) (by kernel_rfl) (by simp) ?_
          refine AllReadyH.cons (o := ⟨some 46, _, _, _, _, _⟩) rfl (fun K hK => ?_) AllReadyH.nil
          go_simp
          (with_reducible refine Calls.mono (HCat6.out _ (some ⟨W_5.heap.size, 0, none⟩) 6 hsl) ?_)
          rintro e W9 ⟨A9, c9, rfl, ho9, hK9⟩
          refine hK.out _ _ ⟨((z_5.out.and hKz).and hK9).cell 1, ((z_5.out.and hKz).and hK9).cell 2⟩ (fun hHeld => ?_)
          clear hK K
          try simp only [Act.put, List.setIfInBounds_toArray, List.set_cons_zero, List.set_cons_succ]
          refine wpAnyH_ready (rs := [17]) (by kernel_rfl) (by simp) ?_
          refine AllReadyH.cons (o := ⟨some 2, _, _, _, _, _⟩) rfl (fun K hK => ?_) AllReadyH.nil
          go_simp
          refine hK.out _ _ ⟨((z_5.out.and hKz).and hK9).cell 1, ((z_5.out.and hKz).and hK9).cell 2⟩ (fun hHeld => ?_)
          clear hK K
          try simp only [Act.put, List.setIfInBounds_toArray, List.set_cons_zero, List.set_cons_succ]
          refine wpAnyH_ready (rs := [18]) (by kernel_rfl) (by simp) ?_
          refine AllReadyH.cons (o := ⟨some 3, _, _, _, _, _⟩) rfl (fun K hK => ?_) AllReadyH.nil
          go_simp
          refine hK.out _ _ ⟨((z_5.out.and hKz).and hK9).cell 1, ((z_5.out.and hKz).and hK9).cell 2⟩ (fun hHeld => ?_)
          clear hK K
          try simp only [Act.put, List.setIfInBounds_toArray, List.set_cons_zero, List.set_cons_succ]
          refine wpAnyH_done (by kernel_rfl) ?_ _
          refine NoPanic.normal ?_
          go_wp2
          go_ret2
          exact Formed.ret HLL.out ho9 (hk_5.out.and hKz) hK9 _ rfl
        · go_simp
          have hKa : Kp NoB W_3 (W_3.alloc (.cells #[.int .u8 (pl : Int)] 5)) := (Kp.refl NoB W_3).alloc _
          refine hK.out _ _ ⟨(z_3.out.and hKa).cell 1, (z_3.out.and hKa).cell 2⟩ (fun hHeld => ?_)
          clear hK K
          try simp only [Act.put, List.setIfInBounds_toArray, List.set_cons_zero, List.set_cons_succ]
          obtain ⟨W_4, hW⟩ : ∃ x, W_3.alloc (.cells #[.int .u8 (pl : Int)] 5) = x := ⟨_, rfl⟩
          rw [hW]
          rw [hW] at hKa
          have q13_4 : Hid (ByE W_4 [(pl : Int)] [.slice (some ⟨W_3.heap.size, 0, none⟩) 1 1]) := Lib.hid (by rw [← hW]; exact byE_lit _ W_3.heap.size [(pl : Int)] (Bk.fresh W_3 5 (bs [(pl : Int)]).toArray) (by simp) (by intro y hy; simp at hy; omega) 1 rfl)
          obtain ⟨B13, hB13⟩ : ∃ x, W_3.heap.size = x := ⟨_, rfl⟩
          rw [hB13] at q13_4 ⊢
          clear hW hB13
          have hk_4 := Lib.hid (hk_3.out.and hKa)
          have z_4 := Lib.hid (z_3.out.and hKa)
          have q7_4 := Lib.hid (ByE.and hKa _ _ q7_3.out)
          have q0_4 := Lib.hid (ByE.and hKa _ _ q0_3.out)
          have q2_4 := Lib.hid (ByE.and hKa _ _ q2_3.out)
          have q6_4 := Lib.hid (ByE.and hKa _ _ q6_3.out)
          clear hk_3 z_3 q7_3 q0_3 q2_3 q6_3
          clear hKa
          refine wpAnyH_ready (rs := [9]) (by kernel_rfl) (by simp) ?_
          refine AllReadyH.cons (o := ⟨some 39, _, _, _, _, _⟩) rfl (fun K hK => ?_) AllReadyH.nil
          go_simp
          (with_reducible refine Calls.mono (HOi.out _) ?_)
          rintro e W_5 ⟨A4, c4, rfl, ho, hKk⟩
          have q9_5 := Lib.hid (byE_own ho (putL_length _ _) (putL_isB _ _))
          have hk_5 := Lib.hid (hk_4.out.and hKk)
          have z_5 := Lib.hid (z_4.out.and hKk)
          have q7_5 := Lib.hid (ByE.and hKk _ _ q7_4.out)
          have q0_5 := Lib.hid (ByE.and hKk _ _ q0_4.out)
          have q2_5 := Lib.hid (ByE.and hKk _ _ q2_4.out)
          have q6_5 := Lib.hid (ByE.and hKk _ _ q6_4.out)
          have q13_5 := Lib.hid (ByE.and hKk _ _ q13_4.out)
          clear hk_4 z_4 q7_4 q0_4 q2_4 q6_4 q13_4
          clear ho
          refine hK.out _ _ ⟨z_5.out.cell 1, z_5.out.cell 2⟩ (fun hHeld => ?_)
          clear hK K
          try simp only [Act.put, List.setIfInBounds_toArray, List.set_cons_zero, List.set_cons_succ]
          clear hKk
          refine wpAnyH_ready (rs := [15]) (by kernel_rfl) (by simp) ?_
          refine AllReadyH.cons (o := ⟨some 45, _, _, _, _, _⟩) rfl (fun K hK => ?_) AllReadyH.nil
          go_simp
          have hKz : Kp NoB W_5 (W_5.alloc (.cells #[.slice (some ⟨B0, 0, none⟩) 1 1, .slice A2 2 c2, .slice A3 2 c3, .slice A4 4 c4, .slice (some ⟨B13, 0, none⟩) 1 1, .slice A7 pl c7] 28)) := (Kp.refl NoB W_5).alloc _
          have hp := parts6 (ByE.and hKz _ _ q0_5.out) (ByE.and hKz _ _ q2_5.out) (ByE.and hKz _ _ q6_5.out) (ByE.and hKz _ _ q9_5.out) (ByE.and hKz _ _ q13_5.out) (ByE.and hKz _ _ q7_5.out)
          have hsl := sl_of hp (Bk.fresh W_5 28 #[.slice (some ⟨B0, 0, none⟩) 1 1, .slice A2 2 c2, .slice A3 2 c3, .slice A4 4 c4, .slice (some ⟨B13, 0, none⟩) 1 1, .slice A7 pl c7])
          refine hK.out _ _ ⟨(z_5.out.and hKz).cell 1, (z_5.out.and hKz).cell 2⟩ (fun hHeld => ?_)
          clear hK K
          try simp only [Act.put, List.setIfInBounds_toArray, List.set_cons_zero, List.set_cons_succ]
          refine wpAnyH_ready (rs := [16]) (by kernel_rfl) (by simp) ?_
          refine AllReadyH.cons (o := ⟨some 46, _, _, _, _, _⟩) rfl (fun K hK => ?_) AllReadyH.nil
          go_simp
          (with_reducible refine Calls.mono (HCat6.out _ (some ⟨W_5.heap.size, 0, none⟩) 6 hsl) ?_)
          rintro e W9 ⟨A9, c9, rfl, ho9, hK9⟩
          refine hK.out _ _ ⟨((z_5.out.and hKz).and hK9).cell 1, ((z_5.out.and hKz).and hK9).cell 2⟩ (fun hHeld => ?_)
          clear hK K
          try simp only [Act.put, List.setIfInBounds_toArray, List.set_cons_zero, List.set_cons_succ]
          refine wpAnyH_ready (rs := [17]) (by kernel_rfl) (by simp) ?_
          refine AllReadyH.cons (o := ⟨some 2, _, _, _, _, _⟩) rfl (fun K hK => ?_) AllReadyH.nil
          go_simp
          refine hK.out _ _ ⟨((z_5.out.and hKz).and hK9).cell 1, ((z_5.out.and hKz).and hK9).cell 2⟩ (fun hHeld => ?_)
          clear hK K
          try simp only [Act.put, List.setIfInBounds_toArray, List.set_cons_zero, List.set_cons_succ]
          refine wpAnyH_ready (rs := [18]) (by kernel_rfl) (by simp) ?_
          refine AllReadyH.cons (o := ⟨some 3, _, _, _, _, _⟩) rfl (fun K hK => ?_) AllReadyH.nil
          go_simp
          refine hK.out _ _ ⟨((z_5.out.and hKz).and hK9).cell 1, ((z_5.out.and hKz).and hK9).cell 2⟩ (fun hHeld => ?_)
          clear hK K
          try simp only [Act.put, List.setIfInBounds_toArray, List.set_cons_zero, List.set_cons_succ]
          refine wpAnyH_done (by kernel_rfl) ?_ _
          refine NoPanic.normal ?_
          go_wp2
          go_ret2
          exact Formed.ret HLL.out ho9 (hk_5.out.and hKz) hK9 _ rfl
      · go_simp
        have hKa : Kp NoB W_2 (W_2.alloc (.cells #[.int .u8 (pl : Int)] 5)) := (Kp.refl NoB W_2).alloc _
        refine hK.out _ _ ⟨(z_2.out.and hKa).cell 1, (z_2.out.and hKa).cell 2⟩ (fun hHeld => ?_)
        clear hK K
        try simp only [Act.put, List.setIfInBounds_toArray, List.set_cons_zero, List.set_cons_succ]
        obtain ⟨W_3, hW⟩ : ∃ x, W_2.alloc (.cells #[.int .u8 (pl : Int)] 5) = x := ⟨_, rfl⟩
        rw [hW]
        rw [hW] at hKa
        have q13_3 : Hid (ByE W_3 [(pl : Int)] [.slice (some ⟨W_2.heap.size, 0, none⟩) 1 1]) := Lib.hid (by rw [← hW]; exact byE_lit _ W_2.heap.size [(pl : Int)] (Bk.fresh W_2 5 (bs [(pl : Int)]).toArray) (by simp) (by intro y hy; simp at hy; omega) 1 rfl)
        obtain ⟨B13, hB13⟩ : ∃ x, W_2.heap.size = x := ⟨_, rfl⟩
        rw [hB13] at q13_3 ⊢
        clear hW hB13
        have hk_3 := Lib.hid (hk_2.out.and hKa)
        have z_3 := Lib.hid (z_2.out.and hKa)
        have q7_3 := Lib.hid (ByE.and hKa _ _ q7_2.out)
        have q0_3 := Lib.hid (ByE.and hKa _ _ q0_2.out)
        have q2_3 := Lib.hid (ByE.and hKa _ _ q2_2.out)
        clear hk_2 z_2 q7_2 q0_2 q2_2
        clear hKa
        refine wpAnyH_ready (rs := [6]) (by kernel_rfl) (by simp) ?_
        refine AllReadyH.cons (o := ⟨some 36, _, _, _, _, _⟩) rfl (fun K hK => ?_) AllReadyH.nil
        go_simp
        (with_reducible refine Calls.mono (HOh.out _) ?_)
        rintro e W_4 ⟨A3, c3, rfl, ho, hKk⟩
        have q6_4 := Lib.hid (byE_own ho (putL_length _ _) (putL_isB _ _))
        have hk_4 := Lib.hid (hk_3.out.and hKk)
        have z_4 := Lib.hid (z_3.out.and hKk)
        have q7_4 := Lib.hid (ByE.and hKk _ _ q7_3.out)
        have q0_4 := Lib.hid (ByE.and hKk _ _ q0_3.out)
        have q2_4 := Lib.hid (ByE.and hKk _ _ q2_3.out)
        have q13_4 := Lib.hid (ByE.and hKk _ _ q13_3.out)
        clear hk_3 z_3 q7_3 q0_3 q2_3 q13_3
        clear ho
        refine hK.out _ _ ⟨z_4.out.cell 1, z_4.out.cell 2⟩ (fun hHeld => ?_)
        clear hK K
        try simp only [Act.put, List.setIfInBounds_toArray, List.set_cons_zero, List.set_cons_succ]
        clear hKk
        refine wpAnyH_ready (rs := [9]) (by kernel_rfl) (by simp) ?_
        refine AllReadyH.cons (o := ⟨some 39, _, _, _, _, _⟩) rfl (fun K hK => ?_) AllReadyH.nil
        go_simp
        (with_reducible refine Calls.mono (HOi.out _) ?_)
        rintro e W_5 ⟨A4, c4, rfl, ho, hKk⟩
        have q9_5 := Lib.hid (byE_own ho (putL_length _ _) (putL_isB _ _))
        have hk_5 := Lib.hid (hk_4.out.and hKk)
        have z_5 := Lib.hid (z_4.out.and hKk)
        have q7_5 := Lib.hid (ByE.and hKk _ _ q7_4.out)
        have q0_5 := Lib.hid (ByE.and hKk _ _ q0_4.out)
        have q2_5 := Lib.hid (ByE.and hKk _ _ q2_4.out)
        have q13_5 := Lib.hid (ByE.and hKk _ _ q13_4.out)
        have q6_5 := Lib.hid (ByE.and hKk _ _ q6_4.out)
        clear hk_4 z_4 q7_4 q0_4 q2_4 q13_4 q6_4
        clear ho
        refine hK.out _ _ ⟨z_5.out.cell 1, z_5.out.cell 2⟩ (fun hHeld => ?_)
        clear hK K
        try simp only [Act.put, List.setIfInBounds_toArray, List.set_cons_zero, List.set_cons_succ]
        clear hKk
        refine wpAnyH_ready (rs := [15]) (by kernel_rfl) (by simp) ?_
        refine AllReadyH.cons (o := ⟨some 45, _, _, _, _, _⟩) rfl (fun K hK => ?_) AllReadyH.nil
        go_simp
        have hKz : Kp NoB W_5 (W_5.alloc (.cells #[.slice (some ⟨B0, 0, none⟩) 1 1, .slice A2 2 c2, .slice A3 2 c3, .slice A4 4 c4, .slice (some ⟨B13, 0, none⟩) 1 1, .slice A7 pl c7] 28)) := (Kp.refl NoB W_5).alloc _
        have hp := parts6 (ByE.and hKz _ _ q0_5.out) (ByE.and hKz _ _ q2_5.out) (ByE.and hKz _ _ q6_5.out) (ByE.and hKz _ _ q9_5.out) (ByE.and hKz _ _ q13_5.out) (ByE.and hKz _ _ q7_5.out)
        have hsl := sl_of hp (Bk.fresh W_5 28 #[.slice (some ⟨B0, 0, none⟩) 1 1, .slice A2 2 c2, .slice A3 2 c3, .slice A4 4 c4, .slice (some ⟨B13, 0, none⟩) 1 1, .slice A7 pl c7])
        refine hK.out _ _ ⟨(z_5.out.and hKz).cell 1, (z_5.out.and hKz).cell 2⟩ (fun hHeld => ?_)
        clear hK K
        try simp only [Act.put, List.setIfInBounds_toArray, List.set_cons_zero, List.set_cons_succ]
        refine wpAnyH_ready (rs := [16]) (by kernel_rfl) (by simp) ?_
        refine AllReadyH.cons (o := ⟨some 46, _, _, _, _, _⟩) rfl (fun K hK => ?_) AllReadyH.nil
        go_simp
        (with_reducible refine Calls.mono (HCat6.out _ (some ⟨W_5.heap.size, 0, none⟩) 6 hsl) ?_)
        rintro e W9 ⟨A9, c9, rfl, ho9, hK9⟩
        refine hK.out _ _ ⟨((z_5.out.and hKz).and hK9).cell 1, ((z_5.out.and hKz).and hK9).cell 2⟩ (fun hHeld => ?_)
        clear hK K
        try simp only [Act.put, List.setIfInBounds_toArray, List.set_cons_zero, List.set_cons_succ]
        refine wpAnyH_ready (rs := [17]) (by kernel_rfl) (by simp) ?_
        refine AllReadyH.cons (o := ⟨some 2, _, _, _, _, _⟩) rfl (fun K hK => ?_) AllReadyH.nil
        go_simp
        refine hK.out _ _ ⟨((z_5.out.and hKz).and hK9).cell 1, ((z_5.out.and hKz).and hK9).cell 2⟩ (fun hHeld => ?_)
        clear hK K
        try simp only [Act.put, List.setIfInBounds_toArray, List.set_cons_zero, List.set_cons_succ]
        refine wpAnyH_ready (rs := [18]) (by kernel_rfl) (by simp) ?_
        refine AllReadyH.cons (o := ⟨some 3, _, _, _, _, _⟩) rfl (fun K hK => ?_) AllReadyH.nil
        go_simp
        refine hK.out _ _ ⟨((z_5.out.and hKz).and hK9).cell 1, ((z_5.out.and hKz).and hK9).cell 2⟩ (fun hHeld => ?_)
        clear hK K
        try simp only [Act.put, List.setIfInBounds_toArray, List.set_cons_zero, List.set_cons_succ]
        refine wpAnyH_done (by kernel_rfl) ?_ _
        refine NoPanic.normal ?_
        go_wp2
        go_ret2
        exact Formed.ret HLL.out ho9 (hk_5.out.and hKz) hK9 _ rfl
    · go_simp
      have hKa : Kp NoB W_1 (W_1.alloc (.cells #[.int .u8 (pl : Int)] 5)) := (Kp.refl NoB W_1).alloc _
      refine hK.out _ _ ⟨(z_1.out.and hKa).cell 1, (z_1.out.and hKa).cell 2⟩ (fun hHeld => ?_)
      clear hK K
      try simp only [Act.put, List.setIfInBounds_toArray, List.set_cons_zero, List.set_cons_succ]
      obtain ⟨W_2, hW⟩ : ∃ x, W_1.alloc (.cells #[.int .u8 (pl : Int)] 5) = x := ⟨_, rfl⟩
      rw [hW]
      rw [hW] at hKa
      have q13_2 : Hid (ByE W_2 [(pl : Int)] [.slice (some ⟨W_1.heap.size, 0, none⟩) 1 1]) := Lib.hid (by rw [← hW]; exact byE_lit _ W_1.heap.size [(pl : Int)] (Bk.fresh W_1 5 (bs [(pl : Int)]).toArray) (by simp) (by intro y hy; simp at hy; omega) 1 rfl)
      obtain ⟨B13, hB13⟩ : ∃ x, W_1.heap.size = x := ⟨_, rfl⟩
      rw [hB13] at q13_2 ⊢
      clear hW hB13
      have hk_2 := Lib.hid (hk_1.out.and hKa)
      have z_2 := Lib.hid (z_1.out.and hKa)
      have q7_2 := Lib.hid (ByE.and hKa _ _ q7_1.out)
      have q0_2 := Lib.hid (ByE.and hKa _ _ q0_1.out)
      clear hk_1 z_1 q7_1 q0_1
      clear hKa
      refine wpAnyH_ready (rs := [2]) (by kernel_rfl) (by simp) ?_
      refine AllReadyH.cons (o := ⟨some 32, _, _, _, _, _⟩) rfl (fun K hK => ?_) AllReadyH.nil
      go_simp
      (with_reducible refine Calls.mono (HOa.out _) ?_)
      rintro e W_3 ⟨A2, c2, rfl, ho, hKk⟩
      have q2_3 := Lib.hid (byE_own ho (putL_length _ _) (putL_isB _ _))
      have hk_3 := Lib.hid (hk_2.out.and hKk)
      have z_3 := Lib.hid (z_2.out.and hKk)
      have q7_3 := Lib.hid (ByE.and hKk _ _ q7_2.out)
      have q0_3 := Lib.hid (ByE.and hKk _ _ q0_2.out)
      have q13_3 := Lib.hid (ByE.and hKk _ _ q13_2.out)
      clear hk_2 z_2 q7_2 q0_2 q13_2
      clear ho
      refine hK.out _ _ ⟨z_3.out.cell 1, z_3.out.cell 2⟩ (fun hHeld => ?_)
      clear hK K
      try simp only [Act.put, List.setIfInBounds_toArray, List.set_cons_zero, List.set_cons_succ]
      clear hKk
      refine wpAnyH_ready (rs := [6]) (by kernel_rfl) (by simp) ?_
      refine AllReadyH.cons (o := ⟨some 36, _, _, _, _, _⟩) rfl (fun K hK => ?_) AllReadyH.nil
      go_simp
      (with_reducible refine Calls.mono (HOh.out _) ?_)
      rintro e W_4 ⟨A3, c3, rfl, ho, hKk⟩
      have q6_4 := Lib.hid (byE_own ho (putL_length _ _) (putL_isB _ _))
      have hk_4 := Lib.hid (hk_3.out.and hKk)
      have z_4 := Lib.hid (z_3.out.and hKk)
      have q7_4 := Lib.hid (ByE.and hKk _ _ q7_3.out)
      have q0_4 := Lib.hid (ByE.and hKk _ _ q0_3.out)
      have q13_4 := Lib.hid (ByE.and hKk _ _ q13_3.out)
      have q2_4 := Lib.hid (ByE.and hKk _ _ q2_3.out)
      clear hk_3 z_3 q7_3 q0_3 q13_3 q2_3
      clear ho
      refine hK.out _ _ ⟨z_4.out.cell 1, z_4.out.cell 2⟩ (fun hHeld => ?_)
      clear hK K
      try simp only [Act.put, List.setIfInBounds_toArray, List.set_cons_zero, List.set_cons_succ]
      clear hKk
      refine wpAnyH_ready (rs := [9]) (by kernel_rfl) (by simp) ?_
      refine AllReadyH.cons (o := ⟨some 39, _, _, _, _, _⟩) rfl (fun K hK => ?_) AllReadyH.nil
      go_simp
      (with_reducible refine Calls.mono (HOi.out _) ?_)
      rintro e W_5 ⟨A4, c4, rfl, ho, hKk⟩
      have q9_5 := Lib.hid (byE_own ho (putL_length _ _) (putL_isB _ _))
      have hk_5 := Lib.hid (hk_4.out.and hKk)
      have z_5 := Lib.hid (z_4.out.and hKk)
      have q7_5 := Lib.hid (ByE.and hKk _ _ q7_4.out)
      have q0_5 := Lib.hid (ByE.and hKk _ _ q0_4.out)
      have q13_5 := Lib.hid (ByE.and hKk _ _ q13_4.out)
      have q2_5 := Lib.hid (ByE.and hKk _ _ q2_4.out)
      have q6_5 := Lib.hid (ByE.and hKk _ _ q6_4.out)
      clear hk_4 z_4 q7_4 q0_4 q13_4 q2_4 q6_4
      clear ho
      refine hK.out _ _ ⟨z_5.out.cell 1, z_5.out.cell 2⟩ (fun hHeld => ?_)
      clear hK K
      try simp only [Act.put, List.setIfInBounds_toArray, List.set_cons_zero, List.set_cons_succ]
      clear hKk
      refine wpAnyH_ready (rs := [15]) (by kernel_rfl) (by simp) ?_
      refine AllReadyH.cons (o := ⟨some 45, _, _, _, _, _⟩) rfl (fun K hK => ?_) AllReadyH.nil
      go_simp
      have hKz : Kp NoB W_5 (W_5.alloc (.cells #[.slice (some ⟨B0, 0, none⟩) 1 1, .slice A2 2 c2, .slice A3 2 c3, .slice A4 4 c4, .slice (some ⟨B13, 0, none⟩) 1 1, .slice A7 pl c7] 28)) := (Kp.refl NoB W_5).alloc _
      have hp := parts6 (ByE.and hKz _ _ q0_5.out) (ByE.and hKz _ _ q2_5.out) (ByE.and hKz _ _ q6_5.out) (ByE.and hKz _ _ q9_5.out) (ByE.and hKz _ _ q13_5.out) (ByE.and hKz _ _ q7_5.out)
      have hsl := sl_of hp (Bk.fresh W_5 28 #[.slice (some ⟨B0, 0, none⟩) 1 1, .slice A2 2 c2, .slice A3 2 c3, .slice A4 4 c4, .slice (some ⟨B13, 0, none⟩) 1 1, .slice A7 pl c7])
      refine hK.out _ _ ⟨(z_5.out.and hKz).cell 1, (z_5.out.and hKz).cell 2⟩ (fun hHeld => ?_)
      clear hK K
      try simp only [Act.put, List.setIfInBounds_toArray, List.set_cons_zero, List.set_cons_succ]
      refine wpAnyH_ready (rs := [16]) (by kernel_rfl) (by simp) ?_
      refine AllReadyH.cons (o := ⟨some 46, _, _, _, _, _⟩) rfl (fun K hK => ?_) AllReadyH.nil
      go_simp
      (with_reducible refine Calls.mono (HCat6.out _ (some ⟨W_5.heap.size, 0, none⟩) 6 hsl) ?_)
      rintro e W9 ⟨A9, c9, rfl, ho9, hK9⟩
      refine hK.out _ _ ⟨((z_5.out.and hKz).and hK9).cell 1, ((z_5.out.and hKz).and hK9).cell 2⟩ (fun hHeld => ?_)
      clear hK K
      try simp only [Act.put, List.setIfInBounds_toArray, List.set_cons_zero, List.set_cons_succ]
      refine wpAnyH_ready (rs := [17]) (by kernel_rfl) (by simp) ?_
      refine AllReadyH.cons (o := ⟨some 2, _, _, _, _, _⟩) rfl (fun K hK => ?_) AllReadyH.nil
      go_simp
      refine hK.out _ _ ⟨((z_5.out.and hKz).and hK9).cell 1, ((z_5.out.and hKz).and hK9).cell 2⟩ (fun hHeld => ?_)
      clear hK K
      try simp only [Act.put, List.setIfInBounds_toArray, List.set_cons_zero, List.set_cons_succ]
      refine wpAnyH_ready (rs := [18]) (by kernel_rfl) (by simp) ?_
      refine AllReadyH.cons (o := ⟨some 3, _, _, _, _, _⟩) rfl (fun K hK => ?_) AllReadyH.nil
      go_simp
      refine hK.out _ _ ⟨((z_5.out.and hKz).and hK9).cell 1, ((z_5.out.and hKz).and hK9).cell 2⟩ (fun hHeld => ?_)
      clear hK K
      try simp only [Act.put, List.setIfInBounds_toArray, List.set_cons_zero, List.set_cons_succ]
      refine wpAnyH_done (by kernel_rfl) ?_ _
      refine NoPanic.normal ?_
      go_wp2
      go_ret2
      exact Formed.ret HLL.out ho9 (hk_5.out.and hKz) hK9 _ rfl
  · go_simp
    (with_reducible refine Calls.mono (HOa.out _) ?_)
    rintro e W_1 ⟨A2, c2, rfl, ho, hKk⟩
    have q2_1 := Lib.hid (byE_own ho (putL_length _ _) (putL_isB _ _))
    have hk_1 := Lib.hid (hk_0.out.and hKk)
    have z_1 := Lib.hid (z_0.out.and hKk)
    have q7_1 := Lib.hid (ByE.and hKk _ _ q7_0.out)
    clear hk_0 z_0 q7_0 
    clear ho
    refine hK.out _ _ ⟨z_1.out.cell 1, z_1.out.cell 2⟩ (fun hHeld => ?_)
    clear hK K
    try simp only [Act.put, List.setIfInBounds_toArray, List.set_cons_zero, List.set_cons_succ]
    clear hKk
    refine wpAnyH_ready (rs := [0, 6, 13]) (by kernel_rfl) (by simp) ?_
    refine AllReadyH.cons (o := ⟨some 30, _, _, _, _, _⟩) rfl (fun K hK => ?_) (AllReadyH.cons (o := ⟨some 36, _, _, _, _, _⟩) rfl (fun K hK => ?_) (AllReadyH.cons (o := ⟨some 43, _, _, _, _, _⟩) rfl (fun K hK => ?_) AllReadyH.nil))
    · go_simp
      have hKa : Kp NoB W_1 (W_1.alloc (.cells #[.int .u8 4] 5)) := (Kp.refl NoB W_1).alloc _
      refine hK.out _ _ ⟨(z_1.out.and hKa).cell 1, (z_1.out.and hKa).cell 2⟩ (fun hHeld => ?_)
      clear hK K
      try simp only [Act.put, List.setIfInBounds_toArray, List.set_cons_zero, List.set_cons_succ]
      obtain ⟨W_2, hW⟩ : ∃ x, W_1.alloc (.cells #[.int .u8 4] 5) = x := ⟨_, rfl⟩
      rw [hW]
      rw [hW] at hKa
      have q0_2 : Hid (ByE W_2 [4] [.slice (some ⟨W_1.heap.size, 0, none⟩) 1 1]) := Lib.hid (by rw [← hW]; exact byE_lit _ W_1.heap.size [4] (Bk.fresh W_1 5 (bs [4]).toArray) (by simp) (by intro y hy; simp at hy; omega) 1 rfl)
      obtain ⟨B0, hB0⟩ : ∃ x, W_1.heap.size = x := ⟨_, rfl⟩
      rw [hB0] at q0_2 ⊢
      clear hW hB0
      have hk_2 := Lib.hid (hk_1.out.and hKa)
      have z_2 := Lib.hid (z_1.out.and hKa)
      have q7_2 := Lib.hid (ByE.and hKa _ _ q7_1.out)
      have q2_2 := Lib.hid (ByE.and hKa _ _ q2_1.out)
      clear hk_1 z_1 q7_1 q2_1
      clear hKa
      refine wpAnyH_ready (rs := [6, 13]) (by kernel_rfl) (by simp) ?_
      refine AllReadyH.cons (o := ⟨some 36, _, _, _, _, _⟩) rfl (fun K hK => ?_) (AllReadyH.cons (o := ⟨some 43, _, _, _, _, _⟩) rfl (fun K hK => ?_) AllReadyH.nil)
      · go_simp
        (with_reducible refine Calls.mono (HOh.out _) ?_)
        rintro e W_3 ⟨A3, c3, rfl, ho, hKk⟩
        have q6_3 := Lib.hid (byE_own ho (putL_length _ _) (putL_isB _ _))
        have hk_3 := Lib.hid (hk_2.out.and hKk)
        have z_3 := Lib.hid (z_2.out.and hKk)
        have q7_3 := Lib.hid (ByE.and hKk _ _ q7_2.out)
        have q2_3 := Lib.hid (ByE.and hKk _ _ q2_2.out)
        have q0_3 := Lib.hid (ByE.and hKk _ _ q0_2.out)
        clear hk_2 z_2 q7_2 q2_2 q0_2
        clear ho
        refine hK.out _ _ ⟨z_3.out.cell 1, z_3.out.cell 2⟩ (fun hHeld => ?_)
        clear hK K
        try simp only [Act.put, List.setIfInBounds_toArray, List.set_cons_zero, List.set_cons_succ]
        clear hKk
        refine wpAnyH_ready (rs := [9, 13]) (by kernel_rfl) (by simp) ?_
        refine AllReadyH.cons (o := ⟨some 39, _, _, _, _, _⟩) rfl (fun K hK => ?_) (AllReadyH.cons (o := ⟨some 43, _, _, _, _, _⟩) rfl (fun K hK => ?_) AllReadyH.nil)
        · go_simp
          (with_reducible refine Calls.mono (HOi.out _) ?_)
          rintro e W_4 ⟨A4, c4, rfl, ho, hKk⟩
          have q9_4 := Lib.hid (byE_own ho (putL_length _ _) (putL_isB _ _))
          have hk_4 := Lib.hid (hk_3.out.and hKk)
          have z_4 := Lib.hid (z_3.out.and hKk)
          have q7_4 := Lib.hid (ByE.and hKk _ _ q7_3.out)
          have q2_4 := Lib.hid (ByE.and hKk _ _ q2_3.out)
          have q0_4 := Lib.hid (ByE.and hKk _ _ q0_3.out)
          have q6_4 := Lib.hid (ByE.and hKk _ _ q6_3.out)
          clear hk_3 z_3 q7_3 q2_3 q0_3 q6_3
          clear ho
          refine hK.out _ _ ⟨z_4.out.cell 1, z_4.out.cell 2⟩ (fun hHeld => ?_)
          clear hK K
          try simp only [Act.put, List.setIfInBounds_toArray, List.set_cons_zero, List.set_cons_succ]
          clear hKk
          refine wpAnyH_ready (rs := [13]) (by kernel_rfl) (by simp) ?_
          refine AllReadyH.cons (o := ⟨some 43, _, _, _, _, _⟩) rfl (fun K hK => ?_) AllReadyH.nil
          go_simp
          have hKa : Kp NoB W_4 (W_4.alloc (.cells #[.int .u8 (pl : Int)] 5)) := (Kp.refl NoB W_4).alloc _
          refine hK.out _ _ ⟨(z_4.out.and hKa).cell 1, (z_4.out.and hKa).cell 2⟩ (fun hHeld => ?_)
          clear hK K
          try simp only [Act.put, List.setIfInBounds_toArray, List.set_cons_zero, List.set_cons_succ]
          obtain ⟨W_5, hW⟩ : ∃ x, W_4.alloc (.cells #[.int .u8 (pl : Int)] 5) = x := ⟨_, rfl⟩
          rw [hW]
          rw [hW] at hKa
          have q13_5 : Hid (ByE W_5 [(pl : Int)] [.slice (some ⟨W_4.heap.size, 0, none⟩) 1 1]) := Lib.hid (by rw [← hW]; exact byE_lit _ W_4.heap.size [(pl : Int)] (Bk.fresh W_4 5 (bs [(pl : Int)]).toArray) (by simp) (by intro y hy; simp at hy; omega) 1 rfl)
          obtain ⟨B13, hB13⟩ : ∃ x, W_4.heap.size = x := ⟨_, rfl⟩
          rw [hB13] at q13_5 ⊢
          clear hW hB13
          have hk_5 := Lib.hid (hk_4.out.and hKa)
          have z_5 := Lib.hid (z_4.out.and hKa)
          have q7_5 := Lib.hid (ByE.and hKa _ _ q7_4.out)
          have q2_5 := Lib.hid (ByE.and hKa _ _ q2_4.out)
          have q0_5 := Lib.hid (ByE.and hKa _ _ q0_4.out)
          have q6_5 := Lib.hid (ByE.and hKa _ _ q6_4.out)
          have q9_5 := Lib.hid (ByE.and hKa _ _ q9_4.out)
          clear hk_4 z_4 q7_4 q2_4 q0_4 q6_4 q9_4
          clear hKa
          refine wpAnyH_ready (rs := [15]) (by kernel_rfl) (by simp) ?_
          refine AllReadyH.cons (o := ⟨some 45, _, _, _, _, _⟩) rfl (fun K hK => ?_) AllReadyH.nil
          go_simp
          have hKz : Kp NoB W_5 (W_5.alloc (.cells #[.slice (some ⟨B0, 0, none⟩) 1 1, .slice A2 2 c2, .slice A3 2 c3, .slice A4 4 c4, .slice (some ⟨B13, 0, none⟩) 1 1, .slice A7 pl c7] 28)) := (Kp.refl NoB W_5).alloc _
          have hp := parts6 (ByE.and hKz _ _ q0_5.out) (ByE.and hKz _ _ q2_5.out) (ByE.and hKz _ _ q6_5.out) (ByE.and hKz _ _ q9_5.out) (ByE.and hKz _ _ q13_5.out) (ByE.and hKz _ _ q7_5.out)
          have hsl := sl_of hp (Bk.fresh W_5 28 #[.slice (some ⟨B0, 0, none⟩) 1 1, .slice A2 2 c2, .slice A3 2 c3, .slice A4 4 c4, .slice (some ⟨B13, 0, none⟩) 1 1, .slice A7 pl c7])
          refine hK.out _ _ ⟨(z_5.out.and hKz).cell 1, (z_5.out.and hKz).cell 2⟩ (fun hHeld => ?_)
          clear hK K
          try simp only [Act.put, List.setIfInBounds_toArray, List.set_cons_zero, List.set_cons_succ]
          refine wpAnyH_ready (rs := [16]) (by kernel_rfl) (by simp) ?_
          refine AllReadyH.cons (o := ⟨some 46, _, _, _, _, _⟩) rfl (fun K hK => ?_) AllReadyH.nil
          go_simp
          (with_reducible refine Calls.mono (HCat6.out _ (some ⟨W_5.heap.size, 0, none⟩) 6 hsl) ?_)
          rintro e W9 ⟨A9, c9, rfl, ho9, hK9⟩
          refine hK.out _ _ ⟨((z_5.out.and hKz).and hK9).cell 1, ((z_5.out.and hKz).and hK9).cell 2⟩ (fun hHeld => ?_)
          clear hK K
          try simp only [Act.put, List.setIfInBounds_toArray, List.set_cons_zero, List.set_cons_succ]
          refine wpAnyH_ready (rs := [17]) (by kernel_rfl) (by simp) ?_
          refine AllReadyH.cons (o := ⟨some 2, _, _, _, _, _⟩) rfl (fun K hK => ?_) AllReadyH.nil
          go_simp
          refine hK.out _ _ ⟨((z_5.out.and hKz).and hK9).cell 1, ((z_5.out.and hKz).and hK9).cell 2⟩ (fun hHeld => ?_)
          clear hK K
          try simp only [Act.put, List.setIfInBounds_toArray, List.set_cons_zero, List.set_cons_succ]
          refine wpAnyH_ready (rs := [18]) (by kernel_rfl) (by simp) ?_
          refine AllReadyH.cons (o := ⟨some 3, _, _, _, _, _⟩) rfl (fun K hK => ?_) AllReadyH.nil
          go_simp
          refine hK.out _ _ ⟨((z_5.out.and hKz).and hK9).cell 1, ((z_5.out.and hKz).and hK9).cell 2⟩ (fun hHeld => ?_)
          clear hK K
          try simp only [Act.put, List.setIfInBounds_toArray, List.set_cons_zero, List.set_cons_succ]
          refine wpAnyH_done (by kernel_rfl) ?_ _
          refine NoPanic.normal ?_
          go_wp2
          go_ret2
          exact Formed.ret HLL.out ho9 (hk_5.out.and hKz) hK9 _ rfl
        · go_simp
          have hKa : Kp NoB W_3 (W_3.alloc (.cells #[.int .u8 (pl : Int)] 5)) := (Kp.refl NoB W_3).alloc _
          refine hK.out _ _ ⟨(z_3.out.and hKa).cell 1, (z_3.out.and hKa).cell 2⟩ (fun hHeld => ?_)
          clear hK K
          try simp only [Act.put, List.setIfInBounds_toArray, List.set_cons_zero, List.set_cons_succ]
          obtain ⟨W_4, hW⟩ : ∃ x, W_3.alloc (.cells #[.int .u8 (pl : Int)] 5) = x := ⟨_, rfl⟩
          rw [hW]
          rw [hW] at hKa
          have q13_4 : Hid (ByE W_4 [(pl : Int)] [.slice (some ⟨W_3.heap.size, 0, none⟩) 1 1]) := Lib.hid (by rw [← hW]; exact byE_lit _ W_3.heap.size [(pl : Int)] (Bk.fresh W_3 5 (bs [(pl : Int)]).toArray) (by simp) (by intro y hy; simp at hy; omega) 1 rfl)
          obtain ⟨B13, hB13⟩ : ∃ x, W_3.heap.size = x := ⟨_, rfl⟩
          rw [hB13] at q13_4 ⊢
          clear hW hB13
          have hk_4 := Lib.hid (hk_3.out.and hKa)
          have z_4 := Lib.hid (z_3.out.and hKa)
          have q7_4 := Lib.hid (ByE.and hKa _ _ q7_3.out)
          have q2_4 := Lib.hid (ByE.and hKa _ _ q2_3.out)
          have q0_4 := Lib.hid (ByE.and hKa _ _ q0_3.out)
          have q6_4 := Lib.hid (ByE.and hKa _ _ q6_3.out)
          clear hk_3 z_3 q7_3 q2_3 q0_3 q6_3
          clear hKa
          refine wpAnyH_ready (rs := [9]) (by kernel_rfl) (by simp) ?_
          refine AllReadyH.cons (o := ⟨some 39, _, _, _, _, _⟩) rfl (fun K hK => ?_) AllReadyH.nil
          go_simp
          (with_reducible refine Calls.mono (HOi.out _) ?_)
          rintro e W_5 ⟨A4, c4, rfl, ho, hKk⟩
          have q9_5 := Lib.hid (byE_own ho (putL_length _ _) (putL_isB _ _))
          have hk_5 := Lib.hid (hk_4.out.and hKk)
          have z_5 := Lib.hid (z_4.out.and hKk)
          have q7_5 := Lib.hid (ByE.and hKk _ _ q7_4.out)
          have q2_5 := Lib.hid (ByE.and hKk _ _ q2_4.out)
          have q0_5 := Lib.hid (ByE.and hKk _ _ q0_4.out)
          have q6_5 := Lib.hid (ByE.and hKk _ _ q6_4.out)
          have q13_5 := Lib.hid (ByE.and hKk _ _ q13_4.out)
          clear hk_4 z_4 q7_4 q2_4 q0_4 q6_4 q13_4
          clear ho
          refine hK.out _ _ ⟨z_5.out.cell 1, z_5.out.cell 2⟩ (fun hHeld => ?_)
          clear hK K
          try simp only [Act.put, List.setIfInBounds_toArray, List.set_cons_zero, List.set_cons_succ]
          clear hKk
          refine wpAnyH_ready (rs := [15]) (by kernel_rfl) (by simp) ?_
          refine AllReadyH.cons (o := ⟨some 45, _, _, _, _, _⟩) rfl (fun K hK => ?_) AllReadyH.nil
          go_simp
          have hKz : Kp NoB W_5 (W_5.alloc (.cells #[.slice (some ⟨B0, 0, none⟩) 1 1, .slice A2 2 c2, .slice A3 2 c3, .slice A4 4 c4, .slice (some ⟨B13, 0, none⟩) 1 1, .slice A7 pl c7] 28)) := (Kp.refl NoB W_5).alloc _
          have hp := parts6 (ByE.and hKz _ _ q0_5.out) (ByE.and hKz _ _ q2_5.out) (ByE.and hKz _ _ q6_5.out) (ByE.and hKz _ _ q9_5.out) (ByE.and hKz _ _ q13_5.out) (ByE.and hKz _ _ q7_5.out)
          have hsl := sl_of hp (Bk.fresh W_5 28 #[.slice (some ⟨B0, 0, none⟩) 1 1, .slice A2 2 c2, .slice A3 2 c3, .slice A4 4 c4, .slice (some ⟨B13, 0, none⟩) 1 1, .slice A7 pl c7])
          refine hK.out _ _ ⟨(z_5.out.and hKz).cell 1, (z_5.out.and hKz).cell 2⟩ (fun hHeld => ?_)
          clear hK K
          try simp only [Act.put, List.setIfInBounds_toArray, List.set_cons_zero, List.set_cons_succ]
          refine wpAnyH_ready (rs := [16]) (by kernel_rfl) (by simp) ?_
          refine AllReadyH.cons (o := ⟨some 46, _, _, _, _, _⟩) rfl (fun K hK => ?_) AllReadyH.nil
          go_simp
          (with_reducible refine Calls.mono (HCat6.out _ (some ⟨W_5.heap.size, 0, none⟩) 6 hsl) ?_)
          rintro e W9 ⟨A9, c9, rfl, ho9, hK9⟩
          refine hK.out _ _ ⟨((z_5.out.and hKz).and hK9).cell 1, ((z_5.out.and hKz).and hK9).cell 2⟩ (fun hHeld => ?_)
          clear hK K
          try simp only [Act.put, List.setIfInBounds_toArray, List.set_cons_zero, List.set_cons_succ]
          refine wpAnyH_ready (rs := [17]) (by kernel_rfl) (by simp) ?_
          refine AllReadyH.cons (o := ⟨some 2, _, _, _, _, _⟩) rfl (fun K hK => ?_) AllReadyH.nil
          go_simp
          refine hK.out _ _ ⟨((z_5.out.and hKz).and hK9).cell 1, ((z_5.out.and hKz).and hK9).cell 2⟩ (fun hHeld => ?_)
          clear hK K
          try simp only [Act.put, List.setIfInBounds_toArray, List.set_cons_zero, List.set_cons_succ]
          refine wpAnyH_ready (rs := [18]) (by kernel_rfl) (by simp) ?_
          refine AllReadyH.cons (o := ⟨some 3, _, _, _, _, _⟩) rfl (fun K hK => ?_) AllReadyH.nil
          go_simp
          refine hK.out _ _ ⟨((z_5.out.and hKz).and hK9).cell 1, ((z_5.out.and hKz).and hK9).cell 2⟩ (fun hHeld => ?_)
          clear hK K
          try simp only [Act.put, List.setIfInBounds_toArray, List.set_cons_zero, List.set_cons_succ]
          refine wpAnyH_done (by kernel_rfl) ?_ _
          refine NoPanic.normal ?_
          go_wp2
          go_ret2
          exact Formed.ret HLL.out ho9 (hk_5.out.and hKz) hK9 _ rfl
      · go_simp
        have hKa : Kp NoB W_2 (W_2.alloc (.cells #[.int .u8 (pl : Int)] 5)) := (Kp.refl NoB W_2).alloc _
        refine hK.out _ _ ⟨(z_2.out.and hKa).cell 1, (z_2.out.and hKa).cell 2⟩ (fun hHeld => ?_)
        clear hK K
        try simp only [Act.put, List.setIfInBounds_toArray, List.set_cons_zero, List.set_cons_succ]
        obtain ⟨W_3, hW⟩ : ∃ x, W_2.alloc (.cells #[.int .u8 (pl : Int)] 5) = x := ⟨_, rfl⟩
        rw [hW]
        rw [hW] at hKa
        have q13_3 : Hid (ByE W_3 [(pl : Int)] [.slice (some ⟨W_2.heap.size, 0, none⟩) 1 1]) := Lib.hid (by rw [← hW]; exact byE_lit _ W_2.heap.size [(pl : Int)] (Bk.fresh W_2 5 (bs [(pl : Int)]).toArray) (by simp) (by intro y hy; simp at hy; omega) 1 rfl)
        obtain ⟨B13, hB13⟩ : ∃ x, W_2.heap.size = x := ⟨_, rfl⟩
        rw [hB13] at q13_3 ⊢
        clear hW hB13
        have hk_3 := Lib.hid (hk_2.out.and hKa)
        have z_3 := Lib.hid (z_2.out.and hKa)
        have q7_3 := Lib.hid (ByE.and hKa _ _ q7_2.out)
        have q2_3 := Lib.hid (ByE.and hKa _ _ q2_2.out)
        have q0_3 := Lib.hid (ByE.and hKa _ _ q0_2.out)
        clear hk_2 z_2 q7_2 q2_2 q0_2
        clear hKa
        refine wpAnyH_ready (rs := [6]) (by kernel_rfl) (by simp) ?_
        refine AllReadyH.cons (o := ⟨some 36, _, _, _, _, _⟩) rfl (fun K hK => ?_) AllReadyH.nil
        go_simp
        (with_reducible refine Calls.mono (HOh.out _) ?_)
        rintro e W_4 ⟨A3, c3, rfl, ho, hKk⟩
        have q6_4 := Lib.hid (byE_own ho (putL_length _ _) (putL_isB _ _))
        have hk_4 := Lib.hid (hk_3.out.and hKk)
        have z_4 := Lib.hid (z_3.out.and hKk)
        have q7_4 := Lib.hid (ByE.and hKk _ _ q7_3.out)
        have q2_4 := Lib.hid (ByE.and hKk _ _ q2_3.out)
        have q0_4 := Lib.hid (ByE.and hKk _ _ q0_3.out)
        have q13_4 := Lib.hid (ByE.and hKk _ _ q13_3.out)
        clear hk_3 z_3 q7_3 q2_3 q0_3 q13_3
        clear ho
        refine hK.out _ _ ⟨z_4.out.cell 1, z_4.out.cell 2⟩ (fun hHeld => ?_)
        clear hK K
        try simp only [Act.put, List.setIfInBounds_toArray, List.set_cons_zero, List.set_cons_succ]
        clear hKk
        refine wpAnyH_ready (rs := [9]) (by kernel_rfl) (by simp) ?_
        refine AllReadyH.cons (o := ⟨some 39, _, _, _, _, _⟩) rfl (fun K hK => ?_) AllReadyH.nil
        go_simp
        (with_reducible refine Calls.mono (HOi.out _) ?_)
        rintro e W_5 ⟨A4, c4, rfl, ho, hKk⟩
        have q9_5 := Lib.hid (byE_own ho (putL_length _ _) (putL_isB _ _))
        have hk_5 := Lib.hid (hk_4.out.and hKk)
        have z_5 := Lib.hid (z_4.out.and hKk)
        have q7_5 := Lib.hid (ByE.and hKk _ _ q7_4.out)
        have q2_5 := Lib.hid (ByE.and hKk _ _ q2_4.out)
        have q0_5 := Lib.hid (ByE.and hKk _ _ q0_4.out)
        have q13_5 := Lib.hid (ByE.and hKk _ _ q13_4.out)
        have q6_5 := Lib.hid (ByE.and hKk _ _ q6_4.out)
        clear hk_4 z_4 q7_4 q2_4 q0_4 q13_4 q6_4
        clear ho
        refine hK.out _ _ ⟨z_5.out.cell 1, z_5.out.cell 2⟩ (fun hHeld => ?_)
        clear hK K
        try simp only [Act.put, List.setIfInBounds_toArray, List.set_cons_zero, List.set_cons_succ]
        clear hKk
        refine wpAnyH_ready (rs := [15]) (by kernel_rfl) (by simp) ?_
        refine AllReadyH.cons (o := ⟨some 45, _, _, _, _, _⟩) rfl (fun K hK => ?_) AllReadyH.nil
        go_simp
        have hKz : Kp NoB W_5 (W_5.alloc (.cells #[.slice (some ⟨B0, 0, none⟩) 1 1, .slice A2 2 c2, .slice A3 2 c3, .slice A4 4 c4, .slice (some ⟨B13, 0, none⟩) 1 1, .slice A7 pl c7] 28)) := (Kp.refl NoB W_5).alloc _
        have hp := parts6 (ByE.and hKz _ _ q0_5.out) (ByE.and hKz _ _ q2_5.out) (ByE.and hKz _ _ q6_5.out) (ByE.and hKz _ _ q9_5.out) (ByE.and hKz _ _ q13_5.out) (ByE.and hKz _ _ q7_5.out)
        have hsl := sl_of hp (Bk.fresh W_5 28 #[.slice (some ⟨B0, 0, none⟩) 1 1, .slice A2 2 c2, .slice A3 2 c3, .slice A4 4 c4, .slice (some ⟨B13, 0, none⟩) 1 1, .slice A7 pl c7])
        refine hK.out _ _ ⟨(z_5.out.and hKz).cell 1, (z_5.out.and hKz).cell 2⟩ (fun hHeld => ?_)
        clear hK K
        try simp only [Act.put, List.setIfInBounds_toArray, List.set_cons_zero, List.set_cons_succ]
        refine wpAnyH_ready (rs := [16]) (by kernel_rfl) (by simp) ?_
        refine AllReadyH.cons (o := ⟨some 46, _, _, _, _, _⟩) rfl (fun K hK => ?_) AllReadyH.nil
        go_simp
        (with_reducible refine Calls.mono (HCat6.out _ (some ⟨W_5.heap.size, 0, none⟩) 6 hsl) ?_)
        rintro e W9 ⟨A9, c9, rfl, ho9, hK9⟩
        refine hK.out _ _ ⟨((z_5.out.and hKz).and hK9).cell 1, ((z_5.out.and hKz).and hK9).cell 2⟩ (fun hHeld => ?_)
        clear hK K
        try simp only [Act.put, List.setIfInBounds_toArray, List.set_cons_zero, List.set_cons_succ]
        refine wpAnyH_ready (rs := [17]) (by kernel_rfl) (by simp) ?_
        refine AllReadyH.cons (o := ⟨some 2, _, _, _, _, _⟩) rfl (fun K hK => ?_) AllReadyH.nil
        go_simp
        refine hK.out _ _ ⟨((z_5.out.and hKz).and hK9).cell 1, ((z_5.out.and hKz).and hK9).cell 2⟩ (fun hHeld => ?_)
        clear hK K
        try simp only [Act.put, List.setIfInBounds_toArray, List.set_cons_zero, List.set_cons_succ]
        refine wpAnyH_ready (rs := [18]) (by kernel_rfl) (by simp) ?_
        refine AllReadyH.cons (o := ⟨some 3, _, _, _, _, _⟩) rfl (fun K hK => ?_) AllReadyH.nil
        go_simp
        refine hK.out _ _ ⟨((z_5.out.and hKz).and hK9).cell 1, ((z_5.out.and hKz).and hK9).cell 2⟩ (fun hHeld => ?_)
        clear hK K
        try simp only [Act.put, List.setIfInBounds_toArray, List.set_cons_zero, List.set_cons_succ]
        refine wpAnyH_done (by kernel_rfl) ?_ _
        refine NoPanic.normal ?_
        go_wp2
        go_ret2
        exact Formed.ret HLL.out ho9 (hk_5.out.and hKz) hK9 _ rfl
    · go_simp
      (with_reducible refine Calls.mono (HOh.out _) ?_)
      rintro e W_2 ⟨A3, c3, rfl, ho, hKk⟩
      have q6_2 := Lib.hid (byE_own ho (putL_length _ _) (putL_isB _ _))
      have hk_2 := Lib.hid (hk_1.out.and hKk)
      have z_2 := Lib.hid (z_1.out.and hKk)
      have q7_2 := Lib.hid (ByE.and hKk _ _ q7_1.out)
      have q2_2 := Lib.hid (ByE.and hKk _ _ q2_1.out)
      clear hk_1 z_1 q7_1 q2_1
      clear ho
      refine hK.out _ _ ⟨z_2.out.cell 1, z_2.out.cell 2⟩ (fun hHeld => ?_)
      clear hK K
      try simp only [Act.put, List.setIfInBounds_toArray, List.set_cons_zero, List.set_cons_succ]
      clear hKk
      refine wpAnyH_ready (rs := [0, 9, 13]) (by kernel_rfl) (by simp) ?_
      refine AllReadyH.cons (o := ⟨some 30, _, _, _, _, _⟩) rfl (fun K hK => ?_) (AllReadyH.cons (o := ⟨some 39, _, _, _, _, _⟩) rfl (fun K hK => ?_) (AllReadyH.cons (o := ⟨some 43, _, _, _, _, _⟩) rfl (fun K hK => ?_) AllReadyH.nil))
      · go_simp
        have hKa : Kp NoB W_2 (W_2.alloc (.cells #[.int .u8 4] 5)) := (Kp.refl NoB W_2).alloc _
        refine hK.out _ _ ⟨(z_2.out.and hKa).cell 1, (z_2.out.and hKa).cell 2⟩ (fun hHeld => ?_)
        clear hK K
        try simp only [Act.put, List.setIfInBounds_toArray, List.set_cons_zero, List.set_cons_succ]
        obtain ⟨W_3, hW⟩ : ∃ x, W_2.alloc (.cells #[.int .u8 4] 5) = x := ⟨_, rfl⟩
        rw [hW]
        rw [hW] at hKa
        have q0_3 : Hid (ByE W_3 [4] [.slice (some ⟨W_2.heap.size, 0, none⟩) 1 1]) := Lib.hid (by rw [← hW]; exact byE_lit _ W_2.heap.size [4] (Bk.fresh W_2 5 (bs [4]).toArray) (by simp) (by intro y hy; simp at hy; omega) 1 rfl)
        obtain ⟨B0, hB0⟩ : ∃ x, W_2.heap.size = x := ⟨_, rfl⟩
        rw [hB0] at q0_3 ⊢
        clear hW hB0
        have hk_3 := Lib.hid (hk_2.out.and hKa)
        have z_3 := Lib.hid (z_2.out.and hKa)
        have q7_3 := Lib.hid (ByE.and hKa _ _ q7_2.out)
        have q2_3 := Lib.hid (ByE.and hKa _ _ q2_2.out)
        have q6_3 := Lib.hid (ByE.and hKa _ _ q6_2.out)
        clear hk_2 z_2 q7_2 q2_2 q6_2
        clear hKa
        refine wpAnyH_ready (rs := [9, 13]) (by kernel_rfl) (by simp) ?_
        refine AllReadyH.cons (o := ⟨some 39, _, _, _, _, _⟩) rfl (fun K hK => ?_) (AllReadyH.cons (o := ⟨some 43, _, _, _, _, _⟩) rfl (fun K hK => ?_) AllReadyH.nil)
        · go_simp
          (with_reducible refine Calls.mono (HOi.out _) ?_)
          rintro e W_4 ⟨A4, c4, rfl, ho, hKk⟩
          have q9_4 := Lib.hid (byE_own ho (putL_length _ _) (putL_isB _ _))
          have hk_4 := Lib.hid (hk_3.out.and hKk)
          have z_4 := Lib.hid (z_3.out.and hKk)
          have q7_4 := Lib.hid (ByE.and hKk _ _ q7_3.out)
          have q2_4 := Lib.hid (ByE.and hKk _ _ q2_3.out)
          have q6_4 := Lib.hid (ByE.and hKk _ _ q6_3.out)
          have q0_4 := Lib.hid (ByE.and hKk _ _ q0_3.out)
          clear hk_3 z_3 q7_3 q2_3 q6_3 q0_3
          clear ho
          refine hK.out _ _ ⟨z_4.out.cell 1, z_4.out.cell 2⟩ (fun hHeld => ?_)
          clear hK K
          try simp only [Act.put, List.setIfInBounds_toArray, List.set_cons_zero, List.set_cons_succ]
          clear hKk
          refine wpAnyH_ready (rs := [13]) (by kernel_rfl) (by simp) ?_
          refine AllReadyH.cons (o := ⟨some 43, _, _, _, _, _⟩) rfl (fun K hK => ?_) AllReadyH.nil
          go_simp
          have hKa : Kp NoB W_4 (W_4.alloc (.cells #[.int .u8 (pl : Int)] 5)) := (Kp.refl NoB W_4).alloc _
          refine hK.out _ _ ⟨(z_4.out.and hKa).cell 1, (z_4.out.and hKa).cell 2⟩ (fun hHeld => ?_)
          clear hK K
          try simp only [Act.put, List.setIfInBounds_toArray, List.set_cons_zero, List.set_cons_succ]
          obtain ⟨W_5, hW⟩ : ∃ x, W_4.alloc (.cells #[.int .u8 (pl : Int)] 5) = x := ⟨_, rfl⟩
          rw [hW]
          rw [hW] at hKa
          have q13_5 : Hid (ByE W_5 [(pl : Int)] [.slice (some ⟨W_4.heap.size, 0, none⟩) 1 1]) := Lib.hid (by rw [← hW]; exact byE_lit _ W_4.heap.size [(pl : Int)] (Bk.fresh W_4 5 (bs [(pl : Int)]).toArray) (by simp) (by intro y hy; simp at hy; omega) 1 rfl)
          obtain ⟨B13, hB13⟩ : ∃ x, W_4.heap.size = x := ⟨_, rfl⟩
          rw [hB13] at q13_5 ⊢
          clear hW hB13
          have hk_5 := Lib.hid (hk_4.out.and hKa)
          have z_5 := Lib.hid (z_4.out.and hKa)
          have q7_5 := Lib.hid (ByE.and hKa _ _ q7_4.out)
          have q2_5 := Lib.hid (ByE.and hKa _ _ q2_4.out)
          have q6_5 := Lib.hid (ByE.and hKa _ _ q6_4.out)
          have q0_5 := Lib.hid (ByE.and hKa _ _ q0_4.out)
          have q9_5 := Lib.hid (ByE.and hKa _ _ q9_4.out)
          clear hk_4 z_4 q7_4 q2_4 q6_4 q0_4 q9_4
          clear hKa
          refine wpAnyH_ready (rs := [15]) (by kernel_rfl) (by simp) ?_
          refine AllReadyH.cons (o := ⟨some 45, _, _, _, _, _⟩) rfl (fun K hK => ?_) AllReadyH.nil
          go_simp
          have hKz : Kp NoB W_5 (W_5.alloc (.cells #[.slice (some ⟨B0, 0, none⟩) 1 1, .slice A2 2 c2, .slice A3 2 c3, .slice A4 4 c4, .slice (some ⟨B13, 0, none⟩) 1 1, .slice A7 pl c7] 28)) := (Kp.refl NoB W_5).alloc _
          have hp := parts6 (ByE.and hKz _ _ q0_5.out) (ByE.and hKz _ _ q2_5.out) (ByE.and hKz _ _ q6_5.out) (ByE.and hKz _ _ q9_5.out) (ByE.and hKz _ _ q13_5.out) (ByE.and hKz _ _ q7_5.out)
          have hsl := sl_of hp (Bk.fresh W_5 28 #[.slice (some ⟨B0, 0, none⟩) 1 1, .slice A2 2 c2, .slice A3 2 c3, .slice A4 4 c4, .slice (some ⟨B13, 0, none⟩) 1 1, .slice A7 pl c7])
          refine hK.out _ _ ⟨(z_5.out.and hKz).cell 1, (z_5.out.and hKz).cell 2⟩ (fun hHeld => ?_)
          clear hK K
          try simp only [Act.put, List.setIfInBounds_toArray, List.set_cons_zero, List.set_cons_succ]
          refine wpAnyH_ready (rs := [16]) (by kernel_rfl) (by simp) ?_
          refine AllReadyH.cons (o := ⟨some 46, _, _, _, _, _⟩) rfl (fun K hK => ?_) AllReadyH.nil
          go_simp
          (with_reducible refine Calls.mono (HCat6.out _ (some ⟨W_5.heap.size, 0, none⟩) 6 hsl) ?_)
          rintro e W9 ⟨A9, c9, rfl, ho9, hK9⟩
          refine hK.out _ _ ⟨((z_5.out.and hKz).and hK9).cell 1, ((z_5.out.and hKz).and hK9).cell 2⟩ (fun hHeld => ?_)
          clear hK K
          try simp only [Act.put, List.setIfInBounds_toArray, List.set_cons_zero, List.set_cons_succ]
          refine wpAnyH_ready (rs := [17]) (by kernel_rfl) (by simp) ?_
          refine AllReadyH.cons (o := ⟨some 2, _, _, _, _, _⟩) rfl (fun K hK => ?_) AllReadyH.nil
          go_simp
          refine hK.out _ _ ⟨((z_5.out.and hKz).and hK9).cell 1, ((z_5.out.and hKz).and hK9).cell 2⟩ (fun hHeld => ?_)
          clear hK K
          try simp only [Act.put, List.setIfInBounds_toArray, List.set_cons_zero, List.set_cons_succ]
          refine wpAnyH_ready (rs := [18]) (by kernel_rfl) (by simp) ?_
          refine AllReadyH.cons (o := ⟨some 3, _, _, _, _, _⟩) rfl (fun K hK => ?_) AllReadyH.nil
          go_simp
          refine hK.out _ _ ⟨((z_5.out.and hKz).and hK9).cell 1, ((z_5.out.and hKz).and hK9).cell 2⟩ (fun hHeld => ?_)
          clear hK K
          try simp only [Act.put, List.setIfInBounds_toArray, List.set_cons_zero, List.set_cons_succ]
          refine wpAnyH_done (by kernel_rfl) ?_ _
          refine NoPanic.normal ?_
          go_wp2
          go_ret2
          exact Formed.ret HLL.out ho9 (hk_5.out.and hKz) hK9 _ rfl
        · go_simp
          have hKa : Kp NoB W_3 (W_3.alloc (.cells #[.int .u8 (pl : Int)] 5)) := (Kp.refl NoB W_3).alloc _
          refine hK.out _ _ ⟨(z_3.out.and hKa).cell 1, (z_3.out.and hKa).cell 2⟩ (fun hHeld => ?_)
          clear hK K
          try simp only [Act.put, List.setIfInBounds_toArray, List.set_cons_zero, List.set_cons_succ]
          obtain ⟨W_4, hW⟩ : ∃ x, W_3.alloc (.cells #[.int .u8 (pl : Int)] 5) = x := ⟨_, rfl⟩
          rw [hW]
          rw [hW] at hKa
          have q13_4 : Hid (ByE W_4 [(pl : Int)] [.slice (some ⟨W_3.heap.size, 0, none⟩) 1 1]) := Lib.hid (by rw [← hW]; exact byE_lit _ W_3.heap.size [(pl : Int)] (Bk.fresh W_3 5 (bs [(pl : Int)]).toArray) (by simp) (by intro y hy; simp at hy; omega) 1 rfl)
          obtain ⟨B13, hB13⟩ : ∃ x, W_3.heap.size = x := ⟨_, rfl⟩
          rw [hB13] at q13_4 ⊢
          clear hW hB13
          have hk_4 := Lib.hid (hk_3.out.and hKa)
          have z_4 := Lib.hid (z_3.out.and hKa)
          have q7_4 := Lib.hid (ByE.and hKa _ _ q7_3.out)
          have q2_4 := Lib.hid (ByE.and hKa _ _ q2_3.out)
          have q6_4 := Lib.hid (ByE.and hKa _ _ q6_3.out)
          have q0_4 := Lib.hid (ByE.and hKa _ _ q0_3.out)
          clear hk_3 z_3 q7_3 q2_3 q6_3 q0_3
          clear hKa
          refine wpAnyH_ready (rs := [9]) (by kernel_rfl) (by simp) ?_
          refine AllReadyH.cons (o := ⟨some 39, _, _, _, _, _⟩) rfl (fun K hK => ?_) AllReadyH.nil
          go_simp
          (with_reducible refine Calls.mono (HOi.out _) ?_)
          rintro e W_5 ⟨A4, c4, rfl, ho, hKk⟩
          have q9_5 := Lib.hid (byE_own ho (putL_length _ _) (putL_isB _ _))
          have hk_5 := Lib.hid (hk_4.out.and hKk)
          have z_5 := Lib.hid (z_4.out.and hKk)
          have q7_5 := Lib.hid (ByE.and hKk _ _ q7_4.out)
          have q2_5 := Lib.hid (ByE.and hKk _ _ q2_4.out)
          have q6_5 := Lib.hid (ByE.and hKk _ _ q6_4.out)
          have q0_5 := Lib.hid (ByE.and hKk _ _ q0_4.out)
          have q13_5 := Lib.hid (ByE.and hKk _ _ q13_4.out)
          clear hk_4 z_4 q7_4 q2_4 q6_4 q0_4 q13_4
          clear ho
          refine hK.out _ _ ⟨z_5.out.cell 1, z_5.out.cell 2⟩ (fun hHeld => ?_)
          clear hK K
          try simp only [Act.put, List.setIfInBounds_toArray, List.set_cons_zero, List.set_cons_succ]
          clear hKk
          refine wpAnyH_ready (rs := [15]) (by kernel_rfl) (by simp) ?_
          refine AllReadyH.cons (o := ⟨some 45, _, _, _, _, _⟩) rfl (fun K hK => ?_) AllReadyH.nil
          go_simp
          have hKz : Kp NoB W_5 (W_5.alloc (.cells #[.slice (some ⟨B0, 0, none⟩) 1 1, .slice A2 2 c2, .slice A3 2 c3, .slice A4 4 c4, .slice (some ⟨B13, 0, none⟩) 1 1, .slice A7 pl c7] 28)) := (Kp.refl NoB W_5).alloc _
          have hp := parts6 (ByE.and hKz _ _ q0_5.out) (ByE.and hKz _ _ q2_5.out) (ByE.and hKz _ _ q6_5.out) (ByE.and hKz _ _ q9_5.out) (ByE.and hKz _ _ q13_5.out) (ByE.and hKz _ _ q7_5.out)
          have hsl := sl_of hp (Bk.fresh W_5 28 #[.slice (some ⟨B0, 0, none⟩) 1 1, .slice A2 2 c2, .slice A3 2 c3, .slice A4 4 c4, .slice (some ⟨B13, 0, none⟩) 1 1, .slice A7 pl c7])
          refine hK.out _ _ ⟨(z_5.out.and hKz).cell 1, (z_5.out.and hKz).cell 2⟩ (fun hHeld => ?_)
          clear hK K
          try simp only [Act.put, List.setIfInBounds_toArray, List.set_cons_zero, List.set_cons_succ]
          refine wpAnyH_ready (rs := [16]) (by kernel_rfl) (by simp) ?_
          refine AllReadyH.cons (o := ⟨some 46, _, _, _, _, _⟩) rfl (fun K hK => ?_) AllReadyH.nil
          go_simp
          (with_reducible refine Calls.mono (HCat6.out _ (some ⟨W_5.heap.size, 0, none⟩) 6 hsl) ?_)
          rintro e W9 ⟨A9, c9, rfl, ho9, hK9⟩
          refine hK.out _ _ ⟨((z_5.out.and hKz).and hK9).cell 1, ((z_5.out.and hKz).and hK9).cell 2⟩ (fun hHeld => ?_)
          clear hK K
          try simp only [Act.put, List.setIfInBounds_toArray, List.set_cons_zero, List.set_cons_succ]
          refine wpAnyH_ready (rs := [17]) (by kernel_rfl) (by simp) ?_
          refine AllReadyH.cons (o := ⟨some 2, _, _, _, _, _⟩) rfl (fun K hK => ?_) AllReadyH.nil
          go_simp
          refine hK.out _ _ ⟨((z_5.out.and hKz).and hK9).cell 1, ((z_5.out.and hKz).and hK9).cell 2⟩ (fun hHeld => ?_)
          clear hK K
          try simp only [Act.put, List.setIfInBounds_toArray, List.set_cons_zero, List.set_cons_succ]
          refine wpAnyH_ready (rs := [18]) (by kernel_rfl) (by simp) ?_
          refine AllReadyH.cons (o := ⟨some 3, _, _, _, _, _⟩) rfl (fun K hK => ?_) AllReadyH.nil
          go_simp
          refine hK.out _ _ ⟨((z_5.out.and hKz).and hK9).cell 1, ((z_5.out.and hKz).and hK9).cell 2⟩ (fun hHeld => ?_)
          clear hK K
          try simp only [Act.put, List.setIfInBounds_toArray, List.set_cons_zero, List.set_cons_succ]
          refine wpAnyH_done (by kernel_rfl) ?_ _
          refine NoPanic.normal ?_
          go_wp2
          go_ret2
          exact Formed.ret HLL.out ho9 (hk_5.out.and hKz) hK9 _ rfl
      · go_simp
        (with_reducible refine Calls.mono (HOi.out _) ?_)
        rintro e W_3 ⟨A4, c4, rfl, ho, hKk⟩
        have q9_3 := Lib.hid (byE_own ho (putL_length _ _) (putL_isB _ _))
        have hk_3 := Lib.hid (hk_2.out.and hKk)
        have z_3 := Lib.hid (z_2.out.and hKk)
        have q7_3 := Lib.hid (ByE.and hKk _ _ q7_2.out)
        have q2_3 := Lib.hid (ByE.and hKk _ _ q2_2.out)
        have q6_3 := Lib.hid (ByE.and hKk _ _ q6_2.out)
        clear hk_2 z_2 q7_2 q2_2 q6_2
        clear ho
        refine hK.out _ _ ⟨z_3.out.cell 1, z_3.out.cell 2⟩ (fun hHeld => ?_)
        clear hK K
        try simp only [Act.put, List.setIfInBounds_toArray, List.set_cons_zero, List.set_cons_succ]
        clear hKk
        refine wpAnyH_ready (rs := [0, 13]) (by kernel_rfl) (by simp) ?_
        refine AllReadyH.cons (o := ⟨some 30, _, _, _, _, _⟩) rfl (fun K hK => ?_) (AllReadyH.cons (o := ⟨some 43, _, _, _, _, _⟩) rfl (fun K hK => ?_) AllReadyH.nil)
        · go_simp
          have hKa : Kp NoB W_3 (W_3.alloc (.cells #[.int .u8 4] 5)) := (Kp.refl NoB W_3).alloc _
          refine hK.out _ _ ⟨(z_3.out.and hKa).cell 1, (z_3.out.and hKa).cell 2⟩ (fun hHeld => ?_)
          clear hK K
          try simp only [Act.put, List.setIfInBounds_toArray, List.set_cons_zero, List.set_cons_succ]
          obtain ⟨W_4, hW⟩ : ∃ x, W_3.alloc (.cells #[.int .u8 4] 5) = x := ⟨_, rfl⟩
          rw [hW]
          rw [hW] at hKa
          have q0_4 : Hid (ByE W_4 [4] [.slice (some ⟨W_3.heap.size, 0, none⟩) 1 1]) := Lib.hid (by rw [← hW]; exact byE_lit _ W_3.heap.size [4] (Bk.fresh W_3 5 (bs [4]).toArray) (by simp) (by intro y hy; simp at hy; omega) 1 rfl)
          obtain ⟨B0, hB0⟩ : ∃ x, W_3.heap.size = x := ⟨_, rfl⟩
          rw [hB0] at q0_4 ⊢
          clear hW hB0
          have hk_4 := Lib.hid (hk_3.out.and hKa)
          have z_4 := Lib.hid (z_3.out.and hKa)
          have q7_4 := Lib.hid (ByE.and hKa _ _ q7_3.out)
          have q2_4 := Lib.hid (ByE.and hKa _ _ q2_3.out)
          have q6_4 := Lib.hid (ByE.and hKa _ _ q6_3.out)
          have q9_4 := Lib.hid (ByE.and hKa _ _ q9_3.out)
          clear hk_3 z_3 q7_3 q2_3 q6_3 q9_3
          clear hKa
          refine wpAnyH_ready (rs := [13]) (by kernel_rfl) (by simp) ?_
          refine AllReadyH.cons (o := ⟨some 43, _, _, _, _, _⟩) rfl (fun K hK => ?_) AllReadyH.nil
          go_simp
          have hKa : Kp NoB W_4 (W_4.alloc (.cells #[.int .u8 (pl : Int)] 5)) := (Kp.refl NoB W_4).alloc _
          refine hK.out _ _ ⟨(z_4.out.and hKa).cell 1, (z_4.out.and hKa).cell 2⟩ (fun hHeld => ?_)
          clear hK K
          try simp only [Act.put, List.setIfInBounds_toArray, List.set_cons_zero, List.set_cons_succ]
          obtain ⟨W_5, hW⟩ : ∃ x, W_4.alloc (.cells #[.int .u8 (pl : Int)] 5) = x := ⟨_, rfl⟩
          rw [hW]
          rw [hW] at hKa
          have q13_5 : Hid (ByE W_5 [(pl : Int)] [.slice (some ⟨W_4.heap.size, 0, none⟩) 1 1]) := Lib.hid (by rw [← hW]; exact byE_lit _ W_4.heap.size [(pl : Int)] (Bk.fresh W_4 5 (bs [(pl : Int)]).toArray) (by simp) (by intro y hy; simp at hy; omega) 1 rfl)
          obtain ⟨B13, hB13⟩ : ∃ x, W_4.heap.size = x := ⟨_, rfl⟩
          rw [hB13] at q13_5 ⊢
          clear hW hB13
          have hk_5 := Lib.hid (hk_4.out.and hKa)
          have z_5 := Lib.hid (z_4.out.and hKa)
          have q7_5 := Lib.hid (ByE.and hKa _ _ q7_4.out)
          have q2_5 := Lib.hid (ByE.and hKa _ _ q2_4.out)
          have q6_5 := Lib.hid (ByE.and hKa _ _ q6_4.out)
          have q9_5 := Lib.hid (ByE.and hKa _ _ q9_4.out)
          have q0_5 := Lib.hid (ByE.and hKa _ _ q0_4.out)
          clear hk_4 z_4 q7_4 q2_4 q6_4 q9_4 q0_4
          clear hKa
          refine wpAnyH_ready (rs := [15]) (by kernel_rfl) (by simp) ?_
          refine AllReadyH.cons (o := ⟨some 45, _, _, _, _, _⟩) rfl (fun K hK => ?_) AllReadyH.nil
          go_simp
          have hKz : Kp NoB W_5 (W_5.alloc (.cells #[.slice (some ⟨B0, 0, none⟩) 1 1, .slice A2 2 c2, .slice A3 2 c3, .slice A4 4 c4, .slice (some ⟨B13, 0, none⟩) 1 1, .slice A7 pl c7] 28)) := (Kp.refl NoB W_5).alloc _
          have hp := parts6 (ByE.and hKz _ _ q0_5.out) (ByE.and hKz _ _ q2_5.out) (ByE.and hKz _ _ q6_5.out) (ByE.and hKz _ _ q9_5.out) (ByE.and hKz _ _ q13_5.out) (ByE.and hKz _ _ q7_5.out)
          have hsl := sl_of hp (Bk.fresh W_5 28 #[.slice (some ⟨B0, 0, none⟩) 1 1, .slice A2 2 c2, .slice A3 2 c3, .slice A4 4 c4, .slice (some ⟨B13, 0, none⟩) 1 1, .slice A7 pl c7])
          refine hK.out _ _ ⟨(z_5.out.and hKz).cell 1, (z_5.out.and hKz).cell 2⟩ (fun hHeld => ?_)
          clear hK K
          try simp only [Act.put, List.setIfInBounds_toArray, List.set_cons_zero, List.set_cons_succ]
          refine wpAnyH_ready (rs := [16]) (by kernel_rfl) (by simp) ?_
          refine AllReadyH.cons (o := ⟨some 46, _, _, _, _, _⟩) rfl (fun K hK => ?_) AllReadyH.nil
          go_simp
          (with_reducible refine Calls.mono (HCat6.out _ (some ⟨W_5.heap.size, 0, none⟩) 6 hsl) ?_)
          rintro e W9 ⟨A9, c9, rfl, ho9, hK9⟩
          refine hK.out _ _ ⟨((z_5.out.and hKz).and hK9).cell 1, ((z_5.out.and hKz).and hK9).cell 2⟩ (fun hHeld => ?_)
          clear hK K
          try simp only [Act.put, List.setIfInBounds_toArray, List.set_cons_zero, List.set_cons_succ]
          refine wpAnyH_ready (rs := [17]) (by kernel_rfl) (by simp) ?_
          refine AllReadyH.cons (o := ⟨some 2, _, _, _, _, _⟩) rfl (fun K hK => ?_) AllReadyH.nil
          go_simp
          refine hK.out _ _ ⟨((z_5.out.and hKz).and hK9).cell 1, ((z_5.out.and hKz).and hK9).cell 2⟩ (fun hHeld => ?_)
          clear hK K
          try simp only [Act.put, List.setIfInBounds_toArray, List.set_cons_zero, List.set_cons_succ]
          refine wpAnyH_ready (rs := [18]) (by kernel_rfl) (by simp) ?_
          refine AllReadyH.cons (o := ⟨some 3, _, _, _, _, _⟩) rfl (fun K hK => ?_) AllReadyH.nil
          go_simp
          refine hK.out _ _ ⟨((z_5.out.and hKz).and hK9).cell 1, ((z_5.out.and hKz).and hK9).cell 2⟩ (fun hHeld => ?_)
          clear hK K
          try simp only [Act.put, List.setIfInBounds_toArray, List.set_cons_zero, List.set_cons_succ]
          refine wpAnyH_done (by kernel_rfl) ?_ _
          refine NoPanic.normal ?_
          go_wp2
          go_ret2
          exact Formed.ret HLL.out ho9 (hk_5.out.and hKz) hK9 _ rfl
        · go_simp
          have hKa : Kp NoB W_3 (W_3.alloc (.cells #[.int .u8 (pl : Int)] 5)) := (Kp.refl NoB W_3).alloc _
          refine hK.out _ _ ⟨(z_3.out.and hKa).cell 1, (z_3.out.and hKa).cell 2⟩ (fun hHeld => ?_)
          clear hK K
          try simp only [Act.put, List.setIfInBounds_toArray, List.set_cons_zero, List.set_cons_succ]
          obtain ⟨W_4, hW⟩ : ∃ x, W_3.alloc (.cells #[.int .u8 (pl : Int)] 5) = x := ⟨_, rfl⟩
          rw [hW]
          rw [hW] at hKa
          have q13_4 : Hid (ByE W_4 [(pl : Int)] [.slice (some ⟨W_3.heap.size, 0, none⟩) 1 1]) := Lib.hid (by rw [← hW]; exact byE_lit _ W_3.heap.size [(pl : Int)] (Bk.fresh W_3 5 (bs [(pl : Int)]).toArray) (by simp) (by intro y hy; simp at hy; omega) 1 rfl)
          obtain ⟨B13, hB13⟩ : ∃ x, W_3.heap.size = x := ⟨_, rfl⟩
          rw [hB13] at q13_4 ⊢
          clear hW hB13
          have hk_4 := Lib.hid (hk_3.out.and hKa)
          have z_4 := Lib.hid (z_3.out.and hKa)
          have q7_4 := Lib.hid (ByE.and hKa _ _ q7_3.out)
          have q2_4 := Lib.hid (ByE.and hKa _ _ q2_3.out)
          have q6_4 := Lib.hid (ByE.and hKa _ _ q6_3.out)
          have q9_4 := Lib.hid (ByE.and hKa _ _ q9_3.out)
          clear hk_3 z_3 q7_3 q2_3 q6_3 q9_3
          clear hKa
          refine wpAnyH_ready (rs := [0]) (by kernel_rfl) (by simp) ?_
          refine AllReadyH.cons (o := ⟨some 30, _, _, _, _, _⟩) rfl (fun K hK => ?_) AllReadyH.nil
          go_simp
          have hKa : Kp NoB W_4 (W_4.alloc (.cells #[.int .u8 4] 5)) := (Kp.refl NoB W_4).alloc _
          refine hK.out _ _ ⟨(z_4.out.and hKa).cell 1, (z_4.out.and hKa).cell 2⟩ (fun hHeld => ?_)
          clear hK K
          try simp only [Act.put, List.setIfInBounds_toArray, List.set_cons_zero, List.set_cons_succ]
          obtain ⟨W_5, hW⟩ : ∃ x, W_4.alloc (.cells #[.int .u8 4] 5) = x := ⟨_, rfl⟩
          rw [hW]
          rw [hW] at hKa
          have q0_5 : Hid (ByE W_5 [4] [.slice (some ⟨W_4.heap.size, 0, none⟩) 1 1]) := Lib.hid (by rw [← hW]; exact byE_lit _ W_4.heap.size [4] (Bk.fresh W_4 5 (bs [4]).toArray) (by simp) (by intro y hy; simp at hy; omega) 1 rfl)
          obtain ⟨B0, hB0⟩ : ∃ x, W_4.heap.size = x := ⟨_, rfl⟩
          rw [hB0] at q0_5 ⊢
          clear hW hB0
          have hk_5 := Lib.hid (hk_4.out.and hKa)
          have z_5 := Lib.hid (z_4.out.and hKa)
          have q7_5 := Lib.hid (ByE.and hKa _ _ q7_4.out)
          have q2_5 := Lib.hid (ByE.and hKa _ _ q2_4.out)
          have q6_5 := Lib.hid (ByE.and hKa _ _ q6_4.out)
          have q9_5 := Lib.hid (ByE.and hKa _ _ q9_4.out)
          have q13_5 := Lib.hid (ByE.and hKa _ _ q13_4.out)
          clear hk_4 z_4 q7_4 q2_4 q6_4 q9_4 q13_4
          clear hKa
          refine wpAnyH_ready (rs := [15]) (by kernel_rfl) (by simp) ?_
          refine AllReadyH.cons (o := ⟨some 45, _, _, _, _, _⟩) rfl (fun K hK => ?_) AllReadyH.nil
          go_simp
          have hKz : Kp NoB W_5 (W_5.alloc (.cells #[.slice (some ⟨B0, 0, none⟩) 1 1, .slice A2 2 c2, .slice A3 2 c3, .slice A4 4 c4, .slice (some ⟨B13, 0, none⟩) 1 1, .slice A7 pl c7] 28)) := (Kp.refl NoB W_5).alloc _
          have hp := parts6 (ByE.and hKz _ _ q0_5.out) (ByE.and hKz _ _ q2_5.out) (ByE.and hKz _ _ q6_5.out) (ByE.and hKz _ _ q9_5.out) (ByE.and hKz _ _ q13_5.out) (ByE.and hKz _ _ q7_5.out)
          have hsl := sl_of hp (Bk.fresh W_5 28 #[.slice (some ⟨B0, 0, none⟩) 1 1, .slice A2 2 c2, .slice A3 2 c3, .slice A4 4 c4, .slice (some ⟨B13, 0, none⟩) 1 1, .slice A7 pl c7])
          refine hK.out _ _ ⟨(z_5.out.and hKz).cell 1, (z_5.out.and hKz).cell 2⟩ (fun hHeld => ?_)
          clear hK K
          try simp only [Act.put, List.setIfInBounds_toArray, List.set_cons_zero, List.set_cons_succ]
          refine wpAnyH_ready (rs := [16]) (by kernel_rfl) (by simp) ?_
          refine AllReadyH.cons (o := ⟨some 46, _, _, _, _, _⟩) rfl (fun K hK => ?_) AllReadyH.nil
          go_simp
          (with_reducible refine Calls.mono (HCat6.out _ (some ⟨W_5.heap.size, 0, none⟩) 6 hsl) ?_)
          rintro e W9 ⟨A9, c9, rfl, ho9, hK9⟩
          refine hK.out _ _ ⟨((z_5.out.and hKz).and hK9).cell 1, ((z_5.out.and hKz).and hK9).cell 2⟩ (fun hHeld => ?_)
          clear hK K
          try simp only [Act.put, List.setIfInBounds_toArray, List.set_cons_zero, List.set_cons_succ]
          refine wpAnyH_ready (rs := [17]) (by kernel_rfl) (by simp) ?_
          refine AllReadyH.cons (o := ⟨some 2, _, _, _, _, _⟩) rfl (fun K hK => ?_) AllReadyH.nil
          go_simp
          refine hK.out _ _ ⟨((z_5.out.and hKz).and hK9).cell 1, ((z_5.out.and hKz).and hK9).cell 2⟩ (fun hHeld => ?_)
          clear hK K
          try simp only [Act.put, List.setIfInBounds_toArray, List.set_cons_zero, List.set_cons_succ]
          refine wpAnyH_ready (rs := [18]) (by kernel_rfl) (by simp) ?_
          refine AllReadyH.cons (o := ⟨some 3, _, _, _, _, _⟩) rfl (fun K hK => ?_) AllReadyH.nil
          go_simp
          refine hK.out _ _ ⟨((z_5.out.and hKz).and hK9).cell 1, ((z_5.out.and hKz).and hK9).cell 2⟩ (fun hHeld => ?_)
          clear hK K
          try simp only [Act.put, List.setIfInBounds_toArray, List.set_cons_zero, List.set_cons_succ]
          refine wpAnyH_done (by kernel_rfl) ?_ _
          refine NoPanic.normal ?_
          go_wp2
          go_ret2
          exact Formed.ret HLL.out ho9 (hk_5.out.and hKz) hK9 _ rfl
      · go_simp
        have hKa : Kp NoB W_2 (W_2.alloc (.cells #[.int .u8 (pl : Int)] 5)) := (Kp.refl NoB W_2).alloc _
        refine hK.out _ _ ⟨(z_2.out.and hKa).cell 1, (z_2.out.and hKa).cell 2⟩ (fun hHeld => ?_)
        clear hK K
        try simp only [Act.put, List.setIfInBounds_toArray, List.set_cons_zero, List.set_cons_succ]
        obtain ⟨W_3, hW⟩ : ∃ x, W_2.alloc (.cells #[.int .u8 (pl : Int)] 5) = x := ⟨_, rfl⟩
        rw [hW]
        rw [hW] at hKa
        have q13_3 : Hid (ByE W_3 [(pl : Int)] [.slice (some ⟨W_2.heap.size, 0, none⟩) 1 1]) := Lib.hid (by rw [← hW]; exact byE_lit _ W_2.heap.size [(pl : Int)] (Bk.fresh W_2 5 (bs [(pl : Int)]).toArray) (by simp) (by intro y hy; simp at hy; omega) 1 rfl)
        obtain ⟨B13, hB13⟩ : ∃ x, W_2.heap.size = x := ⟨_, rfl⟩
        rw [hB13] at q13_3 ⊢
        clear hW hB13
        have hk_3 := Lib.hid (hk_2.out.and hKa)
        have z_3 := Lib.hid (z_2.out.and hKa)
        have q7_3 := Lib.hid (ByE.and hKa _ _ q7_2.out)
        have q2_3 := Lib.hid (ByE.and hKa _ _ q2_2.out)
        have q6_3 := Lib.hid (ByE.and hKa _ _ q6_2.out)
        clear hk_2 z_2 q7_2 q2_2 q6_2
        clear hKa
        refine wpAnyH_ready (rs := [0, 9]) (by kernel_rfl) (by simp) ?_
        refine AllReadyH.cons (o := ⟨some 30, _, _, _, _, _⟩) rfl (fun K hK => ?_) (AllReadyH.cons (o := ⟨some 39, _, _, _, _, _⟩) rfl (fun K hK => ?_) AllReadyH.nil)
        · go_simp
          have hKa : Kp NoB W_3 (W_3.alloc (.cells #[.int .u8 4] 5)) := (Kp.refl NoB W_3).alloc _
          refine hK.out _ _ ⟨(z_3.out.and hKa).cell 1, (z_3.out.and hKa).cell 2⟩ (fun hHeld => ?_)
          clear hK K
          try simp only [Act.put, List.setIfInBounds_toArray, List.set_cons_zero, List.set_cons_succ]
          obtain ⟨W_4, hW⟩ : ∃ x, W_3.alloc (.cells #[.int .u8 4] 5) = x := ⟨_, rfl⟩
          rw [hW]
          rw [hW] at hKa
          have q0_4 : Hid (ByE W_4 [4] [.slice (some ⟨W_3.heap.size, 0, none⟩) 1 1]) := Lib.hid (by rw [← hW]; exact byE_lit _ W_3.heap.size [4] (Bk.fresh W_3 5 (bs [4]).toArray) (by simp) (by intro y hy; simp at hy; omega) 1 rfl)
          obtain ⟨B0, hB0⟩ : ∃ x, W_3.heap.size = x := ⟨_, rfl⟩
          rw [hB0] at q0_4 ⊢
          clear hW hB0
          have hk_4 := Lib.hid (hk_3.out.and hKa)
          have z_4 := Lib.hid (z_3.out.and hKa)
          have q7_4 := Lib.hid (ByE.and hKa _ _ q7_3.out)
          have q2_4 := Lib.hid (ByE.and hKa _ _ q2_3.out)
          have q6_4 := Lib.hid (ByE.and hKa _ _ q6_3.out)
          have q13_4 := Lib.hid (ByE.and hKa _ _ q13_3.out)
          clear hk_3 z_3 q7_3 q2_3 q6_3 q13_3
          clear hKa
          refine wpAnyH_ready (rs := [9]) (by kernel_rfl) (by simp) ?_
          refine AllReadyH.cons (o := ⟨some 39, _, _, _, _, _⟩) rfl (fun K hK => ?_) AllReadyH.nil
          go_simp
          (with_reducible refine Calls.mono (HOi.out _) ?_)
          rintro e W_5 ⟨A4, c4, rfl, ho, hKk⟩
          have q9_5 := Lib.hid (byE_own ho (putL_length _ _) (putL_isB _ _))
          have hk_5 := Lib.hid (hk_4.out.and hKk)
          have z_5 := Lib.hid (z_4.out.and hKk)
          have q7_5 := Lib.hid (ByE.and hKk _ _ q7_4.out)
          have q2_5 := Lib.hid (ByE.and hKk _ _ q2_4.out)
          have q6_5 := Lib.hid (ByE.and hKk _ _ q6_4.out)
          have q13_5 := Lib.hid (ByE.and hKk _ _ q13_4.out)
          have q0_5 := Lib.hid (ByE.and hKk _ _ q0_4.out)
          clear hk_4 z_4 q7_4 q2_4 q6_4 q13_4 q0_4
          clear ho
          refine hK.out _ _ ⟨z_5.out.cell 1, z_5.out.cell 2⟩ (fun hHeld => ?_)
          clear hK K
          try simp only [Act.put, List.setIfInBounds_toArray, List.set_cons_zero, List.set_cons_succ]
          clear hKk
          refine wpAnyH_ready (rs := [15]) (by kernel_rfl) (by simp) ?_
          refine AllReadyH.cons (o := ⟨some 45, _, _, _, _, _⟩) rfl (fun K hK => ?_) AllReadyH.nil
          go_simp
          have hKz : Kp NoB W_5 (W_5.alloc (.cells #[.slice (some ⟨B0, 0, none⟩) 1 1, .slice A2 2 c2, .slice A3 2 c3, .slice A4 4 c4, .slice (some ⟨B13, 0, none⟩) 1 1, .slice A7 pl c7] 28)) := (Kp.refl NoB W_5).alloc _
          have hp := parts6 (ByE.and hKz _ _ q0_5.out) (ByE.and hKz _ _ q2_5.out) (ByE.and hKz _ _ q6_5.out) (ByE.and hKz _ _ q9_5.out) (ByE.and hKz _ _ q13_5.out) (ByE.and hKz _ _ q7_5.out)
          have hsl := sl_of hp (Bk.fresh W_5 28 #[.slice (some ⟨B0, 0, none⟩) 1 1, .slice A2 2 c2, .slice A3 2 c3, .slice A4 4 c4, .slice (some ⟨B13, 0, none⟩) 1 1, .slice A7 pl c7])
          refine hK.out _ _ ⟨(z_5.out.and hKz).cell 1, (z_5.out.and hKz).cell 2⟩ (fun hHeld => ?_)
          clear hK K
          try simp only [Act.put, List.setIfInBounds_toArray, List.set_cons_zero, List.set_cons_succ]
          refine wpAnyH_ready (rs := [16]) (by kernel_rfl) (by simp) ?_
          refine AllReadyH.cons (o := ⟨some 46, _, _, _, _, _⟩) rfl (fun K hK => ?_) AllReadyH.nil
          go_simp
          (with_reducible refine Calls.mono (HCat6.out _ (some ⟨W_5.heap.size, 0, none⟩) 6 hsl) ?_)
          rintro e W9 ⟨A9, c9, rfl, ho9, hK9⟩
          refine hK.out _ _ ⟨((z_5.out.and hKz).and hK9).cell 1, ((z_5.out.and hKz).and hK9).cell 2⟩ (fun hHeld => ?_)
          clear hK K
          try simp only [Act.put, List.setIfInBounds_toArray, List.set_cons_zero, List.set_cons_succ]
          refine wpAnyH_ready (rs := [17]) (by kernel_rfl) (by simp) ?_
          refine AllReadyH.cons (o := ⟨some 2, _, _, _, _, _⟩) rfl (fun K hK => ?_) AllReadyH.nil
          go_simp
          refine hK.out _ _ ⟨((z_5.out.and hKz).and hK9).cell 1, ((z_5.out.and hKz).and hK9).cell 2⟩ (fun hHeld => ?_)
          clear hK K
          try simp only [Act.put, List.setIfInBounds_toArray, List.set_cons_zero, List.set_cons_succ]
          refine wpAnyH_ready (rs := [18]) (by kernel_rfl) (by simp) ?_
          refine AllReadyH.cons (o := ⟨some 3, _, _, _, _, _⟩) rfl (fun K hK => ?_) AllReadyH.nil
          go_simp
          refine hK.out _ _ ⟨((z_5.out.and hKz).and hK9).cell 1, ((z_5.out.and hKz).and hK9).cell 2⟩ (fun hHeld => ?_)
          clear hK K
          try simp only [Act.put, List.setIfInBounds_toArray, List.set_cons_zero, List.set_cons_succ]
          refine wpAnyH_done (by kernel_rfl) ?_ _
          refine NoPanic.normal ?_
          go_wp2
          go_ret2
          exact Formed.ret HLL.out ho9 (hk_5.out.and hKz) hK9 _ rfl
        · go_simp
          (with_reducible refine Calls.mono (HOi.out _) ?_)
          rintro e W_4 ⟨A4, c4, rfl, ho, hKk⟩
          have q9_4 := Lib.hid (byE_own ho (putL_length _ _) (putL_isB _ _))
          have hk_4 := Lib.hid (hk_3.out.and hKk)
          have z_4 := Lib.hid (z_3.out.and hKk)
          have q7_4 := Lib.hid (ByE.and hKk _ _ q7_3.out)
          have q2_4 := Lib.hid (ByE.and hKk _ _ q2_3.out)
          have q6_4 := Lib.hid (ByE.and hKk _ _ q6_3.out)
          have q13_4 := Lib.hid (ByE.and hKk _ _ q13_3.out)
          clear hk_3 z_3 q7_3 q2_3 q6_3 q13_3
          clear ho
          refine hK.out _ _ ⟨z_4.out.cell 1, z_4.out.cell 2⟩ (fun hHeld => ?_)
          clear hK K
          try simp only [Act.put, List.setIfInBounds_toArray, List.set_cons_zero, List.set_cons_succ]
          clear hKk
          refine wpAnyH_ready (rs := [0]) (by kernel_rfl) (by simp) ?_
          refine AllReadyH.cons (o := ⟨some 30, _, _, _, _, _⟩) rfl (fun K hK => ?_) AllReadyH.nil
          go_simp
          have hKa : Kp NoB W_4 (W_4.alloc (.cells #[.int .u8 4] 5)) := (Kp.refl NoB W_4).alloc _
          refine hK.out _ _ ⟨(z_4.out.and hKa).cell 1, (z_4.out.and hKa).cell 2⟩ (fun hHeld => ?_)
          clear hK K
          try simp only [Act.put, List.setIfInBounds_toArray, List.set_cons_zero, List.set_cons_succ]
          obtain ⟨W_5, hW⟩ : ∃ x, W_4.alloc (.cells #[.int .u8 4] 5) = x := ⟨_, rfl⟩
          rw [hW]
          rw [hW] at hKa
          have q0_5 : Hid (ByE W_5 [4] [.slice (some ⟨W_4.heap.size, 0, none⟩) 1 1]) := Lib.hid (by rw [← hW]; exact byE_lit _ W_4.heap.size [4] (Bk.fresh W_4 5 (bs [4]).toArray) (by simp) (by intro y hy; simp at hy; omega) 1 rfl)
          obtain ⟨B0, hB0⟩ : ∃ x, W_4.heap.size = x := ⟨_, rfl⟩
          rw [hB0] at q0_5 ⊢
          clear hW hB0
          have hk_5 := Lib.hid (hk_4.out.and hKa)
          have z_5 := Lib.hid (z_4.out.and hKa)
          have q7_5 := Lib.hid (ByE.and hKa _ _ q7_4.out)
          have q2_5 := Lib.hid (ByE.and hKa _ _ q2_4.out)
          have q6_5 := Lib.hid (ByE.and hKa _ _ q6_4.out)
          have q13_5 := Lib.hid (ByE.and hKa _ _ q13_4.out)
          have q9_5 := Lib.hid (ByE.and hKa _ _ q9_4.out)
          clear hk_4 z_4 q7_4 q2_4 q6_4 q13_4 q9_4
          clear hKa
          refine wpAnyH_ready (rs := [15]) (by kernel_rfl) (by simp) ?_
          refine AllReadyH.cons (o := ⟨some 45, _, _, _, _, _⟩) rfl (fun K hK => ?_) AllReadyH.nil
          go_simp
          have hKz : Kp NoB W_5 (W_5.alloc (.cells #[.slice (some ⟨B0, 0, none⟩) 1 1, .slice A2 2 c2, .slice A3 2 c3, .slice A4 4 c4, .slice (some ⟨B13, 0, none⟩) 1 1, .slice A7 pl c7] 28)) := (Kp.refl NoB W_5).alloc _
          have hp := parts6 (ByE.and hKz _ _ q0_5.out) (ByE.and hKz _ _ q2_5.out) (ByE.and hKz _ _ q6_5.out) (ByE.and hKz _ _ q9_5.out) (ByE.and hKz _ _ q13_5.out) (ByE.and hKz _ _ q7_5.out)
          have hsl := sl_of hp (Bk.fresh W_5 28 #[.slice (some ⟨B0, 0, none⟩) 1 1, .slice A2 2 c2, .slice A3 2 c3, .slice A4 4 c4, .slice (some ⟨B13, 0, none⟩) 1 1, .slice A7 pl c7])
          refine hK.out _ _ ⟨(z_5.out.and hKz).cell 1, (z_5.out.and hKz).cell 2⟩ (fun hHeld => ?_)
          clear hK K
          try simp only [Act.put, List.setIfInBounds_toArray, List.set_cons_zero, List.set_cons_succ]
          refine wpAnyH_ready (rs := [16]) (by kernel_rfl) (by simp) ?_
          refine AllReadyH.cons (o := ⟨some 46, _, _, _, _, _⟩) rfl (fun K hK => ?_) AllReadyH.nil
          go_simp
          (with_reducible refine Calls.mono (HCat6.out _ (some ⟨W_5.heap.size, 0, none⟩) 6 hsl) ?_)
          rintro e W9 ⟨A9, c9, rfl, ho9, hK9⟩
          refine hK.out _ _ ⟨((z_5.out.and hKz).and hK9).cell 1, ((z_5.out.and hKz).and hK9).cell 2⟩ (fun hHeld => ?_)
          clear hK K
          try simp only [Act.put, List.setIfInBounds_toArray, List.set_cons_zero, List.set_cons_succ]
          refine wpAnyH_ready (rs := [17]) (by kernel_rfl) (by simp) ?_
          refine AllReadyH.cons (o := ⟨some 2, _, _, _, _, _⟩) rfl (fun K hK => ?_) AllReadyH.nil
          go_simp
          refine hK.out _ _ ⟨((z_5.out.and hKz).and hK9).cell 1, ((z_5.out.and hKz).and hK9).cell 2⟩ (fun hHeld => ?_)
          clear hK K
          try simp only [Act.put, List.setIfInBounds_toArray, List.set_cons_zero, List.set_cons_succ]
          refine wpAnyH_ready (rs := [18]) (by kernel_rfl) (by simp) ?_
          refine AllReadyH.cons (o := ⟨some 3, _, _, _, _, _⟩) rfl (fun K hK => ?_) AllReadyH.nil
          go_simp
          refine hK.out _ _ ⟨((z_5.out.and hKz).and hK9).cell 1, ((z_5.out.and hKz).and hK9).cell 2⟩ (fun hHeld => ?_)
          clear hK K
          try simp only [Act.put, List.setIfInBounds_toArray, List.set_cons_zero, List.set_cons_succ]
          refine wpAnyH_done (by kernel_rfl) ?_ _
          refine NoPanic.normal ?_
          go_wp2
          go_ret2
          exact Formed.ret HLL.out ho9 (hk_5.out.and hKz) hK9 _ rfl
    · go_simp
      have hKa : Kp NoB W_1 (W_1.alloc (.cells #[.int .u8 (pl : Int)] 5)) := (Kp.refl NoB W_1).alloc _
      refine hK.out _ _ ⟨(z_1.out.and hKa).cell 1, (z_1.out.and hKa).cell 2⟩ (fun hHeld => ?_)
      clear hK K
      try simp only [Act.put, List.setIfInBounds_toArray, List.set_cons_zero, List.set_cons_succ]
      obtain ⟨W_2, hW⟩ : ∃ x, W_1.alloc (.cells #[.int .u8 (pl : Int)] 5) = x := ⟨_, rfl⟩
      rw [hW]
      rw [hW] at hKa
      have q13_2 : Hid (ByE W_2 [(pl : Int)] [.slice (some ⟨W_1.heap.size, 0, none⟩) 1 1]) := Lib.hid (by rw [← hW]; exact byE_lit _ W_1.heap.size [(pl : Int)] (Bk.fresh W_1 5 (bs [(pl : Int)]).toArray) (by simp) (by intro y hy; simp at hy; omega) 1 rfl)
      obtain ⟨B13, hB13⟩ : ∃ x, W_1.heap.size = x := ⟨_, rfl⟩
      rw [hB13] at q13_2 ⊢
      clear hW hB13
      have hk_2 := Lib.hid (hk_1.out.and hKa)
      have z_2 := Lib.hid (z_1.out.and hKa)
      have q7_2 := Lib.hid (ByE.and hKa _ _ q7_1.out)
      have q2_2 := Lib.hid (ByE.and hKa _ _ q2_1.out)
      clear hk_1 z_1 q7_1 q2_1
      clear hKa
      refine wpAnyH_ready (rs := [0, 6]) (by kernel_rfl) (by simp) ?_
      refine AllReadyH.cons (o := ⟨some 30, _, _, _, _, _⟩) rfl (fun K hK => ?_) (AllReadyH.cons (o := ⟨some 36, _, _, _, _, _⟩) rfl (fun K hK => ?_) AllReadyH.nil)
      · go_simp
        have hKa : Kp NoB W_2 (W_2.alloc (.cells #[.int .u8 4] 5)) := (Kp.refl NoB W_2).alloc _
        refine hK.out _ _ ⟨(z_2.out.and hKa).cell 1, (z_2.out.and hKa).cell 2⟩ (fun hHeld => ?_)
        clear hK K
        try simp only [Act.put, List.setIfInBounds_toArray, List.set_cons_zero, List.set_cons_succ]
        obtain ⟨W_3, hW⟩ : ∃ x, W_2.alloc (.cells #[.int .u8 4] 5) = x := ⟨_, rfl⟩
        rw [hW]
        rw [hW] at hKa
        have q0_3 : Hid (ByE W_3 [4] [.slice (some ⟨W_2.heap.size, 0, none⟩) 1 1]) := Lib.hid (by rw [← hW]; exact byE_lit _ W_2.heap.size [4] (Bk.fresh W_2 5 (bs [4]).toArray) (by simp) (by intro y hy; simp at hy; omega) 1 rfl)
        obtain ⟨B0, hB0⟩ : ∃ x, W_2.heap.size = x := ⟨_, rfl⟩
        rw [hB0] at q0_3 ⊢
        clear hW hB0
        have hk_3 := Lib.hid (hk_2.out.and hKa)
        have z_3 := Lib.hid (z_2.out.and hKa)
        have q7_3 := Lib.hid (ByE.and hKa _ _ q7_2.out)
        have q2_3 := Lib.hid (ByE.and hKa _ _ q2_2.out)
        have q13_3 := Lib.hid (ByE.and hKa _ _ q13_2.out)
        clear hk_2 z_2 q7_2 q2_2 q13_2
        clear hKa
        refine wpAnyH_ready (rs := [6]) (by kernel_rfl) (by simp) ?_
        refine AllReadyH.cons (o := ⟨some 36, _, _, _, _, _⟩) rfl (fun K hK => ?_) AllReadyH.nil
        go_simp
        (with_reducible refine Calls.mono (HOh.out _) ?_)
        rintro e W_4 ⟨A3, c3, rfl, ho, hKk⟩
        have q6_4 := Lib.hid (byE_own ho (putL_length _ _) (putL_isB _ _))
        have hk_4 := Lib.hid (hk_3.out.and hKk)
        have z_4 := Lib.hid (z_3.out.and hKk)
        have q7_4 := Lib.hid (ByE.and hKk _ _ q7_3.out)
        have q2_4 := Lib.hid (ByE.and hKk _ _ q2_3.out)
        have q13_4 := Lib.hid (ByE.and hKk _ _ q13_3.out)
        have q0_4 := Lib.hid (ByE.and hKk _ _ q0_3.out)
        clear hk_3 z_3 q7_3 q2_3 q13_3 q0_3
        clear ho
        refine hK.out _ _ ⟨z_4.out.cell 1, z_4.out.cell 2⟩ (fun hHeld => ?_)
        clear hK K
        try simp only [Act.put, List.setIfInBounds_toArray, List.set_cons_zero, List.set_cons_succ]
        clear hKk
        refine wpAnyH_ready (rs := [9]) (by kernel_rfl) (by simp) ?_
        refine AllReadyH.cons (o := ⟨some 39, _, _, _, _, _⟩) rfl (fun K hK => ?_) AllReadyH.nil
        go_simp
        (with_reducible refine Calls.mono (HOi.out _) ?_)
        rintro e W_5 ⟨A4, c4, rfl, ho, hKk⟩
        have q9_5 := Lib.hid (byE_own ho (putL_length _ _) (putL_isB _ _))
        have hk_5 := Lib.hid (hk_4.out.and hKk)
        have z_5 := Lib.hid (z_4.out.and hKk)
        have q7_5 := Lib.hid (ByE.and hKk _ _ q7_4.out)
        have q2_5 := Lib.hid (ByE.and hKk _ _ q2_4.out)
        have q13_5 := Lib.hid (ByE.and hKk _ _ q13_4.out)
        have q0_5 := Lib.hid (ByE.and hKk _ _ q0_4.out)
        have q6_5 := Lib.hid (ByE.and hKk _ _ q6_4.out)
        clear hk_4 z_4 q7_4 q2_4 q13_4 q0_4 q6_4
        clear ho
        refine hK.out _ _ ⟨z_5.out.cell 1, z_5.out.cell 2⟩ (fun hHeld => ?_)
        clear hK K
        try simp only [Act.put, List.setIfInBounds_toArray, List.set_cons_zero, List.set_cons_succ]
        clear hKk
        refine wpAnyH_ready (rs := [15]) (by kernel_rfl) (by simp) ?_
        refine AllReadyH.cons (o := ⟨some 45, _, _, _, _, _⟩) rfl (fun K hK => ?_) AllReadyH.nil
        go_simp
        have hKz : Kp NoB W_5 (W_5.alloc (.cells #[.slice (some ⟨B0, 0, none⟩) 1 1, .slice A2 2 c2, .slice A3 2 c3, .slice A4 4 c4, .slice (some ⟨B13, 0, none⟩) 1 1, .slice A7 pl c7] 28)) := (Kp.refl NoB W_5).alloc _
        have hp := parts6 (ByE.and hKz _ _ q0_5.out) (ByE.and hKz _ _ q2_5.out) (ByE.and hKz _ _ q6_5.out) (ByE.and hKz _ _ q9_5.out) (ByE.and hKz _ _ q13_5.out) (ByE.and hKz _ _ q7_5.out)
        have hsl := sl_of hp (Bk.fresh W_5 28 #[.slice (some ⟨B0, 0, none⟩) 1 1, .slice A2 2 c2, .slice A3 2 c3, .slice A4 4 c4, .slice (some ⟨B13, 0, none⟩) 1 1, .slice A7 pl c7])
        refine hK.out _ _ ⟨(z_5.out.and hKz).cell 1, (z_5.out.and hKz).cell 2⟩ (fun hHeld => ?_)
        clear hK K
        try simp only [Act.put, List.setIfInBounds_toArray, List.set_cons_zero, List.set_cons_succ]
        refine wpAnyH_ready (rs := [16]) (by kernel_rfl) (by simp) ?_
        refine AllReadyH.cons (o := ⟨some 46, _, _, _, _, _⟩) rfl (fun K hK => ?_) AllReadyH.nil
        go_simp
        (with_reducible refine Calls.mono (HCat6.out _ (some ⟨W_5.heap.size, 0, none⟩) 6 hsl) ?_)
        rintro e W9 ⟨A9, c9, rfl, ho9, hK9⟩
        refine hK.out _ _ ⟨((z_5.out.and hKz).and hK9).cell 1, ((z_5.out.and hKz).and hK9).cell 2⟩ (fun hHeld => ?_)
        clear hK K
        try simp only [Act.put, List.setIfInBounds_toArray, List.set_cons_zero, List.set_cons_succ]
        refine wpAnyH_ready (rs := [17]) (by kernel_rfl) (by simp) ?_
        refine AllReadyH.cons (o := ⟨some 2, _, _, _, _, _⟩) rfl (fun K hK => ?_) AllReadyH.nil
        go_simp
        refine hK.out _ _ ⟨((z_5.out.and hKz).and hK9).cell 1, ((z_5.out.and hKz).and hK9).cell 2⟩ (fun hHeld => ?_)
        clear hK K
        try simp only [Act.put, List.setIfInBounds_toArray, List.set_cons_zero, List.set_cons_succ]
        refine wpAnyH_ready (rs := [18]) (by kernel_rfl) (by simp) ?_
        refine AllReadyH.cons (o := ⟨some 3, _, _, _, _, _⟩) rfl (fun K hK => ?_) AllReadyH.nil
        go_simp
        refine hK.out _ _ ⟨((z_5.out.and hKz).and hK9).cell 1, ((z_5.out.and hKz).and hK9).cell 2⟩ (fun hHeld => ?_)
        clear hK K
        try simp only [Act.put, List.setIfInBounds_toArray, List.set_cons_zero, List.set_cons_succ]
        refine wpAnyH_done (by kernel_rfl) ?_ _
        refine NoPanic.normal ?_
        go_wp2
        go_ret2
        exact Formed.ret HLL.out ho9 (hk_5.out.and hKz) hK9 _ rfl
      · go_simp
        (with_reducible refine Calls.mono (HOh.out _) ?_)
        rintro e W_3 ⟨A3, c3, rfl, ho, hKk⟩
        have q6_3 := Lib.hid (byE_own ho (putL_length _ _) (putL_isB _ _))
        have hk_3 := Lib.hid (hk_2.out.and hKk)
        have z_3 := Lib.hid (z_2.out.and hKk)
        have q7_3 := Lib.hid (ByE.and hKk _ _ q7_2.out)
        have q2_3 := Lib.hid (ByE.and hKk _ _ q2_2.out)
        have q13_3 := Lib.hid (ByE.and hKk _ _ q13_2.out)
        clear hk_2 z_2 q7_2 q2_2 q13_2
        clear ho
        refine hK.out _ _ ⟨z_3.out.cell 1, z_3.out.cell 2⟩ (fun hHeld => ?_)
        clear hK K
        try simp only [Act.put, List.setIfInBounds_toArray, List.set_cons_zero, List.set_cons_succ]
        clear hKk
        refine wpAnyH_ready (rs := [0, 9]) (by kernel_rfl) (by simp) ?_
        refine AllReadyH.cons (o := ⟨some 30, _, _, _, _, _⟩) rfl (fun K hK => ?_) (AllReadyH.cons (o := ⟨some 39, _, _, _, _, _⟩) rfl (fun K hK => ?_) AllReadyH.nil)
        · go_simp
          have hKa : Kp NoB W_3 (W_3.alloc (.cells #[.int .u8 4] 5)) := (Kp.refl NoB W_3).alloc _
          refine hK.out _ _ ⟨(z_3.out.and hKa).cell 1, (z_3.out.and hKa).cell 2⟩ (fun hHeld => ?_)
          clear hK K
          try simp only [Act.put, List.setIfInBounds_toArray, List.set_cons_zero, List.set_cons_succ]
          obtain ⟨W_4, hW⟩ : ∃ x, W_3.alloc (.cells #[.int .u8 4] 5) = x := ⟨_, rfl⟩
          rw [hW]
          rw [hW] at hKa
          have q0_4 : Hid (ByE W_4 [4] [.slice (some ⟨W_3.heap.size, 0, none⟩) 1 1]) := Lib.hid (by rw [← hW]; exact byE_lit _ W_3.heap.size [4] (Bk.fresh W_3 5 (bs [4]).toArray) (by simp) (by intro y hy; simp at hy; omega) 1 rfl)
          obtain ⟨B0, hB0⟩ : ∃ x, W_3.heap.size = x := ⟨_, rfl⟩
          rw [hB0] at q0_4 ⊢
          clear hW hB0
          have hk_4 := Lib.hid (hk_3.out.and hKa)
          have z_4 := Lib.hid (z_3.out.and hKa)
          have q7_4 := Lib.hid (ByE.and hKa _ _ q7_3.out)
          have q2_4 := Lib.hid (ByE.and hKa _ _ q2_3.out)
          have q13_4 := Lib.hid (ByE.and hKa _ _ q13_3.out)
          have q6_4 := Lib.hid (ByE.and hKa _ _ q6_3.out)
          clear hk_3 z_3 q7_3 q2_3 q13_3 q6_3
          clear hKa
          refine wpAnyH_ready (rs := [9]) (by kernel_rfl) (by simp) ?_
          refine AllReadyH.cons (o := ⟨some 39, _, _, _, _, _⟩) rfl (fun K hK => ?_) AllReadyH.nil
          go_simp
          (with_reducible refine Calls.mono (HOi.out _) ?_)
          rintro e W_5 ⟨A4, c4, rfl, ho, hKk⟩
          have q9_5 := Lib.hid (byE_own ho (putL_length _ _) (putL_isB _ _))
          have hk_5 := Lib.hid (hk_4.out.and hKk)
          have z_5 := Lib.hid (z_4.out.and hKk)
          have q7_5 := Lib.hid (ByE.and hKk _ _ q7_4.out)
          have q2_5 := Lib.hid (ByE.and hKk _ _ q2_4.out)
          have q13_5 := Lib.hid (ByE.and hKk _ _ q13_4.out)
          have q6_5 := Lib.hid (ByE.and hKk _ _ q6_4.out)
          have q0_5 := Lib.hid (ByE.and hKk _ _ q0_4.out)
          clear hk_4 z_4 q7_4 q2_4 q13_4 q6_4 q0_4
          clear ho
          refine hK.out _ _ ⟨z_5.out.cell 1, z_5.out.cell 2⟩ (fun hHeld => ?_)
          clear hK K
          try simp only [Act.put, List.setIfInBounds_toArray, List.set_cons_zero, List.set_cons_succ]
          clear hKk
          refine wpAnyH_ready (rs := [15]) (by kernel_rfl) (by simp) ?_
          refine AllReadyH.cons (o := ⟨some 45, _, _, _, _, _⟩) rfl (fun K hK => ?_) AllReadyH.nil
          go_simp
          have hKz : Kp NoB W_5 (W_5.alloc (.cells #[.slice (some ⟨B0, 0, none⟩) 1 1, .slice A2 2 c2, .slice A3 2 c3, .slice A4 4 c4, .slice (some ⟨B13, 0, none⟩) 1 1, .slice A7 pl c7] 28)) := (Kp.refl NoB W_5).alloc _
          have hp := parts6 (ByE.and hKz _ _ q0_5.out) (ByE.and hKz _ _ q2_5.out) (ByE.and hKz _ _ q6_5.out) (ByE.and hKz _ _ q9_5.out) (ByE.and hKz _ _ q13_5.out) (ByE.and hKz _ _ q7_5.out)
          have hsl := sl_of hp (Bk.fresh W_5 28 #[.slice (some ⟨B0, 0, none⟩) 1 1, .slice A2 2 c2, .slice A3 2 c3, .slice A4 4 c4, .slice (some ⟨B13, 0, none⟩) 1 1, .slice A7 pl c7])
          refine hK.out _ _ ⟨(z_5.out.and hKz).cell 1, (z_5.out.and hKz).cell 2⟩ (fun hHeld => ?_)
          clear hK K
          try simp only [Act.put, List.setIfInBounds_toArray, List.set_cons_zero, List.set_cons_succ]
          refine wpAnyH_ready (rs := [16]) (by kernel_rfl) (by simp) ?_
          refine AllReadyH.cons (o := ⟨some 46, _, _, _, _, _⟩) rfl (fun K hK => ?_) AllReadyH.nil
          go_simp
          (with_reducible refine Calls.mono (HCat6.out _ (some ⟨W_5.heap.size, 0, none⟩) 6 hsl) ?_)
          rintro e W9 ⟨A9, c9, rfl, ho9, hK9⟩
          refine hK.out _ _ ⟨((z_5.out.and hKz).and hK9).cell 1, ((z_5.out.and hKz).and hK9).cell 2⟩ (fun hHeld => ?_)
          clear hK K
          try simp only [Act.put, List.setIfInBounds_toArray, List.set_cons_zero, List.set_cons_succ]
          refine wpAnyH_ready (rs := [17]) (by kernel_rfl) (by simp) ?_
          refine AllReadyH.cons (o := ⟨some 2, _, _, _, _, _⟩) rfl (fun K hK => ?_) AllReadyH.nil
          go_simp
          refine hK.out _ _ ⟨((z_5.out.and hKz).and hK9).cell 1, ((z_5.out.and hKz).and hK9).cell 2⟩ (fun hHeld => ?_)
          clear hK K
          try simp only [Act.put, List.setIfInBounds_toArray, List.set_cons_zero, List.set_cons_succ]
          refine wpAnyH_ready (rs := [18]) (by kernel_rfl) (by simp) ?_
          refine AllReadyH.cons (o := ⟨some 3, _, _, _, _, _⟩) rfl (fun K hK => ?_) AllReadyH.nil
          go_simp
          refine hK.out _ _ ⟨((z_5.out.and hKz).and hK9).cell 1, ((z_5.out.and hKz).and hK9).cell 2⟩ (fun hHeld => ?_)
          clear hK K
          try simp only [Act.put, List.setIfInBounds_toArray, List.set_cons_zero, List.set_cons_succ]
          refine wpAnyH_done (by kernel_rfl) ?_ _
          refine NoPanic.normal ?_
          go_wp2
          go_ret2
          exact Formed.ret HLL.out ho9 (hk_5.out.and hKz) hK9 _ rfl
        · go_simp
          (with_reducible refine Calls.mono (HOi.out _) ?_)
          rintro e W_4 ⟨A4, c4, rfl, ho, hKk⟩
          have q9_4 := Lib.hid (byE_own ho (putL_length _ _) (putL_isB _ _))
          have hk_4 := Lib.hid (hk_3.out.and hKk)
          have z_4 := Lib.hid (z_3.out.and hKk)
          have q7_4 := Lib.hid (ByE.and hKk _ _ q7_3.out)
          have q2_4 := Lib.hid (ByE.and hKk _ _ q2_3.out)
          have q13_4 := Lib.hid (ByE.and hKk _ _ q13_3.out)
          have q6_4 := Lib.hid (ByE.and hKk _ _ q6_3.out)
          clear hk_3 z_3 q7_3 q2_3 q13_3 q6_3
          clear ho
          refine hK.out _ _ ⟨z_4.out.cell 1, z_4.out.cell 2⟩ (fun hHeld => ?_)
          clear hK K
          try simp only [Act.put, List.setIfInBounds_toArray, List.set_cons_zero, List.set_cons_succ]
          clear hKk
          refine wpAnyH_ready (rs := [0]) (by kernel_rfl) (by simp) ?_
          refine AllReadyH.cons (o := ⟨some 30, _, _, _, _, _⟩) rfl (fun K hK => ?_) AllReadyH.nil
          go_simp
          have hKa : Kp NoB W_4 (W_4.alloc (.cells #[.int .u8 4] 5)) := (Kp.refl NoB W_4).alloc _
          refine hK.out _ _ ⟨(z_4.out.and hKa).cell 1, (z_4.out.and hKa).cell 2⟩ (fun hHeld => ?_)
          clear hK K
          try simp only [Act.put, List.setIfInBounds_toArray, List.set_cons_zero, List.set_cons_succ]
          obtain ⟨W_5, hW⟩ : ∃ x, W_4.alloc (.cells #[.int .u8 4] 5) = x := ⟨_, rfl⟩
          rw [hW]
          rw [hW] at hKa
          have q0_5 : Hid (ByE W_5 [4] [.slice (some ⟨W_4.heap.size, 0, none⟩) 1 1]) := Lib.hid (by rw [← hW]; exact byE_lit _ W_4.heap.size [4] (Bk.fresh W_4 5 (bs [4]).toArray) (by simp) (by intro y hy; simp at hy; omega) 1 rfl)
          obtain ⟨B0, hB0⟩ : ∃ x, W_4.heap.size = x := ⟨_, rfl⟩
          rw [hB0] at q0_5 ⊢
          clear hW hB0
          have hk_5 := Lib.hid (hk_4.out.and hKa)
          have z_5 := Lib.hid (z_4.out.and hKa)
          have q7_5 := Lib.hid (ByE.and hKa _ _ q7_4.out)
          have q2_5 := Lib.hid (ByE.and hKa _ _ q2_4.out)
          have q13_5 := Lib.hid (ByE.and hKa _ _ q13_4.out)
          have q6_5 := Lib.hid (ByE.and hKa _ _ q6_4.out)
          have q9_5 := Lib.hid (ByE.and hKa _ _ q9_4.out)
          clear hk_4 z_4 q7_4 q2_4 q13_4 q6_4 q9_4
          clear hKa
          refine wpAnyH_ready (rs := [15]) (by kernel_rfl) (by simp) ?_
          refine AllReadyH.cons (o := ⟨some 45, _, _, _, _, _⟩) rfl (fun K hK => ?_) AllReadyH.nil
          go_simp
          have hKz : Kp NoB W_5 (W_5.alloc (.cells #[.slice (some ⟨B0, 0, none⟩) 1 1, .slice A2 2 c2, .slice A3 2 c3, .slice A4 4 c4, .slice (some ⟨B13, 0, none⟩) 1 1, .slice A7 pl c7] 28)) := (Kp.refl NoB W_5).alloc _
          have hp := parts6 (ByE.and hKz _ _ q0_5.out) (ByE.and hKz _ _ q2_5.out) (ByE.and hKz _ _ q6_5.out) (ByE.and hKz _ _ q9_5.out) (ByE.and hKz _ _ q13_5.out) (ByE.and hKz _ _ q7_5.out)
          have hsl := sl_of hp (Bk.fresh W_5 28 #[.slice (some ⟨B0, 0, none⟩) 1 1, .slice A2 2 c2, .slice A3 2 c3, .slice A4 4 c4, .slice (some ⟨B13, 0, none⟩) 1 1, .slice A7 pl c7])
          refine hK.out _ _ ⟨(z_5.out.and hKz).cell 1, (z_5.out.and hKz).cell 2⟩ (fun hHeld => ?_)
          clear hK K
          try simp only [Act.put, List.setIfInBounds_toArray, List.set_cons_zero, List.set_cons_succ]
          refine wpAnyH_ready (rs := [16]) (by kernel_rfl) (by simp) ?_
          refine AllReadyH.cons (o := ⟨some 46, _, _, _, _, _⟩) rfl (fun K hK => ?_) AllReadyH.nil
          go_simp
          (with_reducible refine Calls.mono (HCat6.out _ (some ⟨W_5.heap.size, 0, none⟩) 6 hsl) ?_)
          rintro e W9 ⟨A9, c9, rfl, ho9, hK9⟩
          refine hK.out _ _ ⟨((z_5.out.and hKz).and hK9).cell 1, ((z_5.out.and hKz).and hK9).cell 2⟩ (fun hHeld => ?_)
          clear hK K
          try simp only [Act.put, List.setIfInBounds_toArray, List.set_cons_zero, List.set_cons_succ]
          refine wpAnyH_ready (rs := [17]) (by kernel_rfl) (by simp) ?_
          refine AllReadyH.cons (o := ⟨some 2, _, _, _, _, _⟩) rfl (fun K hK => ?_) AllReadyH.nil
          go_simp
          refine hK.out _ _ ⟨((z_5.out.and hKz).and hK9).cell 1, ((z_5.out.and hKz).and hK9).cell 2⟩ (fun hHeld => ?_)
          clear hK K
          try simp only [Act.put, List.setIfInBounds_toArray, List.set_cons_zero, List.set_cons_succ]
          refine wpAnyH_ready (rs := [18]) (by kernel_rfl) (by simp) ?_
          refine AllReadyH.cons (o := ⟨some 3, _, _, _, _, _⟩) rfl (fun K hK => ?_) AllReadyH.nil
          go_simp
          refine hK.out _ _ ⟨((z_5.out.and hKz).and hK9).cell 1, ((z_5.out.and hKz).and hK9).cell 2⟩ (fun hHeld => ?_)
          clear hK K
          try simp only [Act.put, List.setIfInBounds_toArray, List.set_cons_zero, List.set_cons_succ]
          refine wpAnyH_done (by kernel_rfl) ?_ _
          refine NoPanic.normal ?_
          go_wp2
          go_ret2
          exact Formed.ret HLL.out ho9 (hk_5.out.and hKz) hK9 _ rfl
  · go_simp
    have hKa : Kp NoB W_0 (W_0.alloc (.cells #[.int .u8 (pl : Int)] 5)) := (Kp.refl NoB W_0).alloc _
    refine hK.out _ _ ⟨(z_0.out.and hKa).cell 1, (z_0.out.and hKa).cell 2⟩ (fun hHeld => ?_)
    clear hK K
    try simp only [Act.put, List.setIfInBounds_toArray, List.set_cons_zero, List.set_cons_succ]
    obtain ⟨W_1, hW⟩ : ∃ x, W_0.alloc (.cells #[.int .u8 (pl : Int)] 5) = x := ⟨_, rfl⟩
    rw [hW]
    rw [hW] at hKa
    have q13_1 : Hid (ByE W_1 [(pl : Int)] [.slice (some ⟨W_0.heap.size, 0, none⟩) 1 1]) := Lib.hid (by rw [← hW]; exact byE_lit _ W_0.heap.size [(pl : Int)] (Bk.fresh W_0 5 (bs [(pl : Int)]).toArray) (by simp) (by intro y hy; simp at hy; omega) 1 rfl)
    obtain ⟨B13, hB13⟩ : ∃ x, W_0.heap.size = x := ⟨_, rfl⟩
    rw [hB13] at q13_1 ⊢
    clear hW hB13
    have hk_1 := Lib.hid (hk_0.out.and hKa)
    have z_1 := Lib.hid (z_0.out.and hKa)
    have q7_1 := Lib.hid (ByE.and hKa _ _ q7_0.out)
    clear hk_0 z_0 q7_0 
    clear hKa
    refine wpAnyH_ready (rs := [0, 2]) (by kernel_rfl) (by simp) ?_
    refine AllReadyH.cons (o := ⟨some 30, _, _, _, _, _⟩) rfl (fun K hK => ?_) (AllReadyH.cons (o := ⟨some 32, _, _, _, _, _⟩) rfl (fun K hK => ?_) AllReadyH.nil)
    · go_simp
      have hKa : Kp NoB W_1 (W_1.alloc (.cells #[.int .u8 4] 5)) := (Kp.refl NoB W_1).alloc _
      refine hK.out _ _ ⟨(z_1.out.and hKa).cell 1, (z_1.out.and hKa).cell 2⟩ (fun hHeld => ?_)
      clear hK K
      try simp only [Act.put, List.setIfInBounds_toArray, List.set_cons_zero, List.set_cons_succ]
      obtain ⟨W_2, hW⟩ : ∃ x, W_1.alloc (.cells #[.int .u8 4] 5) = x := ⟨_, rfl⟩
      rw [hW]
      rw [hW] at hKa
      have q0_2 : Hid (ByE W_2 [4] [.slice (some ⟨W_1.heap.size, 0, none⟩) 1 1]) := Lib.hid (by rw [← hW]; exact byE_lit _ W_1.heap.size [4] (Bk.fresh W_1 5 (bs [4]).toArray) (by simp) (by intro y hy; simp at hy; omega) 1 rfl)
      obtain ⟨B0, hB0⟩ : ∃ x, W_1.heap.size = x := ⟨_, rfl⟩
      rw [hB0] at q0_2 ⊢
      clear hW hB0
      have hk_2 := Lib.hid (hk_1.out.and hKa)
      have z_2 := Lib.hid (z_1.out.and hKa)
      have q7_2 := Lib.hid (ByE.and hKa _ _ q7_1.out)
      have q13_2 := Lib.hid (ByE.and hKa _ _ q13_1.out)
      clear hk_1 z_1 q7_1 q13_1
      clear hKa
      refine wpAnyH_ready (rs := [2]) (by kernel_rfl) (by simp) ?_
      refine AllReadyH.cons (o := ⟨some 32, _, _, _, _, _⟩) rfl (fun K hK => ?_) AllReadyH.nil
      go_simp
      (with_reducible refine Calls.mono (HOa.out _) ?_)
      rintro e W_3 ⟨A2, c2, rfl, ho, hKk⟩
      have q2_3 := Lib.hid (byE_own ho (putL_length _ _) (putL_isB _ _))
      have hk_3 := Lib.hid (hk_2.out.and hKk)
      have z_3 := Lib.hid (z_2.out.and hKk)
      have q7_3 := Lib.hid (ByE.and hKk _ _ q7_2.out)
      have q13_3 := Lib.hid (ByE.and hKk _ _ q13_2.out)
      have q0_3 := Lib.hid (ByE.and hKk _ _ q0_2.out)
      clear hk_2 z_2 q7_2 q13_2 q0_2
      clear ho
      refine hK.out _ _ ⟨z_3.out.cell 1, z_3.out.cell 2⟩ (fun hHeld => ?_)
      clear hK K
      try simp only [Act.put, List.setIfInBounds_toArray, List.set_cons_zero, List.set_cons_succ]
      clear hKk
      refine wpAnyH_ready (rs := [6]) (by kernel_rfl) (by simp) ?_
      refine AllReadyH.cons (o := ⟨some 36, _, _, _, _, _⟩) rfl (fun K hK => ?_) AllReadyH.nil
      go_simp
      (with_reducible refine Calls.mono (HOh.out _) ?_)
      rintro e W_4 ⟨A3, c3, rfl, ho, hKk⟩
      have q6_4 := Lib.hid (byE_own ho (putL_length _ _) (putL_isB _ _))
      have hk_4 := Lib.hid (hk_3.out.and hKk)
      have z_4 := Lib.hid (z_3.out.and hKk)
      have q7_4 := Lib.hid (ByE.and hKk _ _ q7_3.out)
      have q13_4 := Lib.hid (ByE.and hKk _ _ q13_3.out)
      have q0_4 := Lib.hid (ByE.and hKk _ _ q0_3.out)
      have q2_4 := Lib.hid (ByE.and hKk _ _ q2_3.out)
      clear hk_3 z_3 q7_3 q13_3 q0_3 q2_3
      clear ho
      refine hK.out _ _ ⟨z_4.out.cell 1, z_4.out.cell 2⟩ (fun hHeld => ?_)
      clear hK K
      try simp only [Act.put, List.setIfInBounds_toArray, List.set_cons_zero, List.set_cons_succ]
      clear hKk
      refine wpAnyH_ready (rs := [9]) (by kernel_rfl) (by simp) ?_
      refine AllReadyH.cons (o := ⟨some 39, _, _, _, _, _⟩) rfl (fun K hK => ?_) AllReadyH.nil
      go_simp
      (with_reducible refine Calls.mono (HOi.out _) ?_)
      rintro e W_5 ⟨A4, c4, rfl, ho, hKk⟩
      have q9_5 := Lib.hid (byE_own ho (putL_length _ _) (putL_isB _ _))
      have hk_5 := Lib.hid (hk_4.out.and hKk)
      have z_5 := Lib.hid (z_4.out.and hKk)
      have q7_5 := Lib.hid (ByE.and hKk _ _ q7_4.out)
      have q13_5 := Lib.hid (ByE.and hKk _ _ q13_4.out)
      have q0_5 := Lib.hid (ByE.and hKk _ _ q0_4.out)
      have q2_5 := Lib.hid (ByE.and hKk _ _ q2_4.out)
      have q6_5 := Lib.hid (ByE.and hKk _ _ q6_4.out)
      clear hk_4 z_4 q7_4 q13_4 q0_4 q2_4 q6_4
      clear ho
      refine hK.out _ _ ⟨z_5.out.cell 1, z_5.out.cell 2⟩ (fun hHeld => ?_)
      clear hK K
      try simp only [Act.put, List.setIfInBounds_toArray, List.set_cons_zero, List.set_cons_succ]
      clear hKk
      refine wpAnyH_ready (rs := [15]) (by kernel_rfl) (by simp) ?_
      refine AllReadyH.cons (o := ⟨some 45, _, _, _, _, _⟩) rfl (fun K hK => ?_) AllReadyH.nil
      go_simp
      have hKz : Kp NoB W_5 (W_5.alloc (.cells #[.slice (some ⟨B0, 0, none⟩) 1 1, .slice A2 2 c2, .slice A3 2 c3, .slice A4 4 c4, .slice (some ⟨B13, 0, none⟩) 1 1, .slice A7 pl c7] 28)) := (Kp.refl NoB W_5).alloc _
      have hp := parts6 (ByE.and hKz _ _ q0_5.out) (ByE.and hKz _ _ q2_5.out) (ByE.and hKz _ _ q6_5.out) (ByE.and hKz _ _ q9_5.out) (ByE.and hKz _ _ q13_5.out) (ByE.and hKz _ _ q7_5.out)
      have hsl := sl_of hp (Bk.fresh W_5 28 #[.slice (some ⟨B0, 0, none⟩) 1 1, .slice A2 2 c2, .slice A3 2 c3, .slice A4 4 c4, .slice (some ⟨B13, 0, none⟩) 1 1, .slice A7 pl c7])
      refine hK.out _ _ ⟨(z_5.out.and hKz).cell 1, (z_5.out.and hKz).cell 2⟩ (fun hHeld => ?_)
      clear hK K
      try simp only [Act.put, List.setIfInBounds_toArray, List.set_cons_zero, List.set_cons_succ]
      refine wpAnyH_ready (rs := [16]) (by kernel_rfl) (by simp) ?_
      refine AllReadyH.cons (o := ⟨some 46, _, _, _, _, _⟩) rfl (fun K hK => ?_) AllReadyH.nil
      go_simp
      (with_reducible refine Calls.mono (HCat6.out _ (some ⟨W_5.heap.size, 0, none⟩) 6 hsl) ?_)
      rintro e W9 ⟨A9, c9, rfl, ho9, hK9⟩
      refine hK.out _ _ ⟨((z_5.out.and hKz).and hK9).cell 1, ((z_5.out.and hKz).and hK9).cell 2⟩ (fun hHeld => ?_)
      clear hK K
      try simp only [Act.put, List.setIfInBounds_toArray, List.set_cons_zero, List.set_cons_succ]
      refine wpAnyH_ready (rs := [17]) (by kernel_rfl) (by simp) ?_
      refine AllReadyH.cons (o := ⟨some 2, _, _, _, _, _⟩) rfl (fun K hK => ?_) AllReadyH.nil
      go_simp
      refine hK.out _ _ ⟨((z_5.out.and hKz).and hK9).cell 1, ((z_5.out.and hKz).and hK9).cell 2⟩ (fun hHeld => ?_)
      clear hK K
      try simp only [Act.put, List.setIfInBounds_toArray, List.set_cons_zero, List.set_cons_succ]
      refine wpAnyH_ready (rs := [18]) (by kernel_rfl) (by simp) ?_
      refine AllReadyH.cons (o := ⟨some 3, _, _, _, _, _⟩) rfl (fun K hK => ?_) AllReadyH.nil
      go_simp
      refine hK.out _ _ ⟨((z_5.out.and hKz).and hK9).cell 1, ((z_5.out.and hKz).and hK9).cell 2⟩ (fun hHeld => ?_)
      clear hK K
      try simp only [Act.put, List.setIfInBounds_toArray, List.set_cons_zero, List.set_cons_succ]
      refine wpAnyH_done (by kernel_rfl) ?_ _
      refine NoPanic.normal ?_
      go_wp2
      go_ret2
      exact Formed.ret HLL.out ho9 (hk_5.out.and hKz) hK9 _ rfl
    · go_simp
      (with_reducible refine Calls.mono (HOa.out _) ?_)
      rintro e W_2 ⟨A2, c2, rfl, ho, hKk⟩
      have q2_2 := Lib.hid (byE_own ho (putL_length _ _) (putL_isB _ _))
      have hk_2 := Lib.hid (hk_1.out.and hKk)
      have z_2 := Lib.hid (z_1.out.and hKk)
      have q7_2 := Lib.hid (ByE.and hKk _ _ q7_1.out)
      have q13_2 := Lib.hid (ByE.and hKk _ _ q13_1.out)
      clear hk_1 z_1 q7_1 q13_1
      clear ho
      refine hK.out _ _ ⟨z_2.out.cell 1, z_2.out.cell 2⟩ (fun hHeld => ?_)
      clear hK K
      try simp only [Act.put, List.setIfInBounds_toArray, List.set_cons_zero, List.set_cons_succ]
      clear hKk
      refine wpAnyH_ready (rs := [0, 6]) (by kernel_rfl) (by simp) ?_
      refine AllReadyH.cons (o := ⟨some 30, _, _, _, _, _⟩) rfl (fun K hK => ?_) (AllReadyH.cons (o := ⟨some 36, _, _, _, _, _⟩) rfl (fun K hK => ?_) AllReadyH.nil)
      · go_simp
        have hKa : Kp NoB W_2 (W_2.alloc (.cells #[.int .u8 4] 5)) := (Kp.refl NoB W_2).alloc _
        refine hK.out _ _ ⟨(z_2.out.and hKa).cell 1, (z_2.out.and hKa).cell 2⟩ (fun hHeld => ?_)
        clear hK K
        try simp only [Act.put, List.setIfInBounds_toArray, List.set_cons_zero, List.set_cons_succ]
        obtain ⟨W_3, hW⟩ : ∃ x, W_2.alloc (.cells #[.int .u8 4] 5) = x := ⟨_, rfl⟩
        rw [hW]
        rw [hW] at hKa
        have q0_3 : Hid (ByE W_3 [4] [.slice (some ⟨W_2.heap.size, 0, none⟩) 1 1]) := Lib.hid (by rw [← hW]; exact byE_lit _ W_2.heap.size [4] (Bk.fresh W_2 5 (bs [4]).toArray) (by simp) (by intro y hy; simp at hy; omega) 1 rfl)
        obtain ⟨B0, hB0⟩ : ∃ x, W_2.heap.size = x := ⟨_, rfl⟩
        rw [hB0] at q0_3 ⊢
        clear hW hB0
        have hk_3 := Lib.hid (hk_2.out.and hKa)
        have z_3 := Lib.hid (z_2.out.and hKa)
        have q7_3 := Lib.hid (ByE.and hKa _ _ q7_2.out)
        have q13_3 := Lib.hid (ByE.and hKa _ _ q13_2.out)
        have q2_3 := Lib.hid (ByE.and hKa _ _ q2_2.out)
        clear hk_2 z_2 q7_2 q13_2 q2_2
        clear hKa
        refine wpAnyH_ready (rs := [6]) (by kernel_rfl) (by simp) ?_
        refine AllReadyH.cons (o := ⟨some 36, _, _, _, _, _⟩) rfl (fun K hK => ?_) AllReadyH.nil
        go_simp
        (with_reducible refine Calls.mono (HOh.out _) ?_)
        rintro e W_4 ⟨A3, c3, rfl, ho, hKk⟩
        have q6_4 := Lib.hid (byE_own ho (putL_length _ _) (putL_isB _ _))
        have hk_4 := Lib.hid (hk_3.out.and hKk)
        have z_4 := Lib.hid (z_3.out.and hKk)
        have q7_4 := Lib.hid (ByE.and hKk _ _ q7_3.out)
        have q13_4 := Lib.hid (ByE.and hKk _ _ q13_3.out)
        have q2_4 := Lib.hid (ByE.and hKk _ _ q2_3.out)
        have q0_4 := Lib.hid (ByE.and hKk _ _ q0_3.out)
        clear hk_3 z_3 q7_3 q13_3 q2_3 q0_3
        clear ho
        refine hK.out _ _ ⟨z_4.out.cell 1, z_4.out.cell 2⟩ (fun hHeld => ?_)
        clear hK K
        try simp only [Act.put, List.setIfInBounds_toArray, List.set_cons_zero, List.set_cons_succ]
        clear hKk
        refine wpAnyH_ready (rs := [9]) (by kernel_rfl) (by simp) ?_
        refine AllReadyH.cons (o := ⟨some 39, _, _, _, _, _⟩) rfl (fun K hK => ?_) AllReadyH.nil
        go_simp
        (with_reducible refine Calls.mono (HOi.out _) ?_)
        rintro e W_5 ⟨A4, c4, rfl, ho, hKk⟩
        have q9_5 := Lib.hid (byE_own ho (putL_length _ _) (putL_isB _ _))
        have hk_5 := Lib.hid (hk_4.out.and hKk)
        have z_5 := Lib.hid (z_4.out.and hKk)
        have q7_5 := Lib.hid (ByE.and hKk _ _ q7_4.out)
        have q13_5 := Lib.hid (ByE.and hKk _ _ q13_4.out)
        have q2_5 := Lib.hid (ByE.and hKk _ _ q2_4.out)
        have q0_5 := Lib.hid (ByE.and hKk _ _ q0_4.out)
        have q6_5 := Lib.hid (ByE.and hKk _ _ q6_4.out)
        clear hk_4 z_4 q7_4 q13_4 q2_4 q0_4 q6_4
        clear ho
        refine hK.out _ _ ⟨z_5.out.cell 1, z_5.out.cell 2⟩ (fun hHeld => ?_)
        clear hK K
        try simp only [Act.put, List.setIfInBounds_toArray, List.set_cons_zero, List.set_cons_succ]
        clear hKk
        refine wpAnyH_ready (rs := [15]) (by kernel_rfl) (by simp) ?_
        refine AllReadyH.cons (o := ⟨some 45, _, _, _, _, _⟩) rfl (fun K hK => ?_) AllReadyH.nil
        go_simp
        have hKz : Kp NoB W_5 (W_5.alloc (.cells #[.slice (some ⟨B0, 0, none⟩) 1 1, .slice A2 2 c2, .slice A3 2 c3, .slice A4 4 c4, .slice (some ⟨B13, 0, none⟩) 1 1, .slice A7 pl c7] 28)) := (Kp.refl NoB W_5).alloc _
        have hp := parts6 (ByE.and hKz _ _ q0_5.out) (ByE.and hKz _ _ q2_5.out) (ByE.and hKz _ _ q6_5.out) (ByE.and hKz _ _ q9_5.out) (ByE.and hKz _ _ q13_5.out) (ByE.and hKz _ _ q7_5.out)
        have hsl := sl_of hp (Bk.fresh W_5 28 #[.slice (some ⟨B0, 0, none⟩) 1 1, .slice A2 2 c2, .slice A3 2 c3, .slice A4 4 c4, .slice (some ⟨B13, 0, none⟩) 1 1, .slice A7 pl c7])
        refine hK.out _ _ ⟨(z_5.out.and hKz).cell 1, (z_5.out.and hKz).cell 2⟩ (fun hHeld => ?_)
        clear hK K
        try simp only [Act.put, List.setIfInBounds_toArray, List.set_cons_zero, List.set_cons_succ]
        refine wpAnyH_ready (rs := [16]) (by kernel_rfl) (by simp) ?_
        refine AllReadyH.cons (o := ⟨some 46, _, _, _, _, _⟩) rfl (fun K hK => ?_) AllReadyH.nil
        go_simp
        (with_reducible refine Calls.mono (HCat6.out _ (some ⟨W_5.heap.size, 0, none⟩) 6 hsl) ?_)
        rintro e W9 ⟨A9, c9, rfl, ho9, hK9⟩
        refine hK.out _ _ ⟨((z_5.out.and hKz).and hK9).cell 1, ((z_5.out.and hKz).and hK9).cell 2⟩ (fun hHeld => ?_)
        clear hK K
        try simp only [Act.put, List.setIfInBounds_toArray, List.set_cons_zero, List.set_cons_succ]
        refine wpAnyH_ready (rs := [17]) (by kernel_rfl) (by simp) ?_
        refine AllReadyH.cons (o := ⟨some 2, _, _, _, _, _⟩) rfl (fun K hK => ?_) AllReadyH.nil
        go_simp
        refine hK.out _ _ ⟨((z_5.out.and hKz).and hK9).cell 1, ((z_5.out.and hKz).and hK9).cell 2⟩ (fun hHeld => ?_)
        clear hK K
        try simp only [Act.put, List.setIfInBounds_toArray, List.set_cons_zero, List.set_cons_succ]
        refine wpAnyH_ready (rs := [18]) (by kernel_rfl) (by simp) ?_
        refine AllReadyH.cons (o := ⟨some 3, _, _, _, _, _⟩) rfl (fun K hK => ?_) AllReadyH.nil
        go_simp
        refine hK.out _ _ ⟨((z_5.out.and hKz).and hK9).cell 1, ((z_5.out.and hKz).and hK9).cell 2⟩ (fun hHeld => ?_)
        clear hK K
        try simp only [Act.put, List.setIfInBounds_toArray, List.set_cons_zero, List.set_cons_succ]
        refine wpAnyH_done (by kernel_rfl) ?_ _
        refine NoPanic.normal ?_
        go_wp2
        go_ret2
        exact Formed.ret HLL.out ho9 (hk_5.out.and hKz) hK9 _ rfl
      · go_simp
        (with_reducible refine Calls.mono (HOh.out _) ?_)
        rintro e W_3 ⟨A3, c3, rfl, ho, hKk⟩
        have q6_3 := Lib.hid (byE_own ho (putL_length _ _) (putL_isB _ _))
        have hk_3 := Lib.hid (hk_2.out.and hKk)
        have z_3 := Lib.hid (z_2.out.and hKk)
        have q7_3 := Lib.hid (ByE.and hKk _ _ q7_2.out)
        have q13_3 := Lib.hid (ByE.and hKk _ _ q13_2.out)
        have q2_3 := Lib.hid (ByE.and hKk _ _ q2_2.out)
        clear hk_2 z_2 q7_2 q13_2 q2_2
        clear ho
        refine hK.out _ _ ⟨z_3.out.cell 1, z_3.out.cell 2⟩ (fun hHeld => ?_)
        clear hK K
        try simp only [Act.put, List.setIfInBounds_toArray, List.set_cons_zero, List.set_cons_succ]
        clear hKk
        refine wpAnyH_ready (rs := [0, 9]) (by kernel_rfl) (by simp) ?_
        refine AllReadyH.cons (o := ⟨some 30, _, _, _, _, _⟩) rfl (fun K hK => ?_) (AllReadyH.cons (o := ⟨some 39, _, _, _, _, _⟩) rfl (fun K hK => ?_) AllReadyH.nil)
        · go_simp
          have hKa : Kp NoB W_3 (W_3.alloc (.cells #[.int .u8 4] 5)) := (Kp.refl NoB W_3).alloc _
          refine hK.out _ _ ⟨(z_3.out.and hKa).cell 1, (z_3.out.and hKa).cell 2⟩ (fun hHeld => ?_)
          clear hK K
          try simp only [Act.put, List.setIfInBounds_toArray, List.set_cons_zero, List.set_cons_succ]
          obtain ⟨W_4, hW⟩ : ∃ x, W_3.alloc (.cells #[.int .u8 4] 5) = x := ⟨_, rfl⟩
          rw [hW]
          rw [hW] at hKa
          have q0_4 : Hid (ByE W_4 [4] [.slice (some ⟨W_3.heap.size, 0, none⟩) 1 1]) := Lib.hid (by rw [← hW]; exact byE_lit _ W_3.heap.size [4] (Bk.fresh W_3 5 (bs [4]).toArray) (by simp) (by intro y hy; simp at hy; omega) 1 rfl)
          obtain ⟨B0, hB0⟩ : ∃ x, W_3.heap.size = x := ⟨_, rfl⟩
          rw [hB0] at q0_4 ⊢
          clear hW hB0
          have hk_4 := Lib.hid (hk_3.out.and hKa)
          have z_4 := Lib.hid (z_3.out.and hKa)
          have q7_4 := Lib.hid (ByE.and hKa _ _ q7_3.out)
          have q13_4 := Lib.hid (ByE.and hKa _ _ q13_3.out)
          have q2_4 := Lib.hid (ByE.and hKa _ _ q2_3.out)
          have q6_4 := Lib.hid (ByE.and hKa _ _ q6_3.out)
          clear hk_3 z_3 q7_3 q13_3 q2_3 q6_3
          clear hKa
          refine wpAnyH_ready (rs := [9]) (by kernel_rfl) (by simp) ?_
          refine AllReadyH.cons (o := ⟨some 39, _, _, _, _, _⟩) rfl (fun K hK => ?_) AllReadyH.nil
          go_simp
          (with_reducible refine Calls.mono (HOi.out _) ?_)
          rintro e W_5 ⟨A4, c4, rfl, ho, hKk⟩
          have q9_5 := Lib.hid (byE_own ho (putL_length _ _) (putL_isB _ _))
          have hk_5 := Lib.hid (hk_4.out.and hKk)
          have z_5 := Lib.hid (z_4.out.and hKk)
          have q7_5 := Lib.hid (ByE.and hKk _ _ q7_4.out)
          have q13_5 := Lib.hid (ByE.and hKk _ _ q13_4.out)
          have q2_5 := Lib.hid (ByE.and hKk _ _ q2_4.out)
          have q6_5 := Lib.hid (ByE.and hKk _ _ q6_4.out)
          have q0_5 := Lib.hid (ByE.and hKk _ _ q0_4.out)
          clear hk_4 z_4 q7_4 q13_4 q2_4 q6_4 q0_4
          clear ho
          refine hK.out _ _ ⟨z_5.out.cell 1, z_5.out.cell 2⟩ (fun hHeld => ?_)
          clear hK K
          try simp only [Act.put, List.setIfInBounds_toArray, List.set_cons_zero, List.set_cons_succ]
          clear hKk
          refine wpAnyH_ready (rs := [15]) (by kernel_rfl) (by simp) ?_
          refine AllReadyH.cons (o := ⟨some 45, _, _, _, _, _⟩) rfl (fun K hK => ?_) AllReadyH.nil
          go_simp
          have hKz : Kp NoB W_5 (W_5.alloc (.cells #[.slice (some ⟨B0, 0, none⟩) 1 1, .slice A2 2 c2, .slice A3 2 c3, .slice A4 4 c4, .slice (some ⟨B13, 0, none⟩) 1 1, .slice A7 pl c7] 28)) := (Kp.refl NoB W_5).alloc _
          have hp := parts6 (ByE.and hKz _ _ q0_5.out) (ByE.and hKz _ _ q2_5.out) (ByE.and hKz _ _ q6_5.out) (ByE.and hKz _ _ q9_5.out) (ByE.and hKz _ _ q13_5.out) (ByE.and hKz _ _ q7_5.out)
          have hsl := sl_of hp (Bk.fresh W_5 28 #[.slice (some ⟨B0, 0, none⟩) 1 1, .slice A2 2 c2, .slice A3 2 c3, .slice A4 4 c4, .slice (some ⟨B13, 0, none⟩) 1 1, .slice A7 pl c7])
          refine hK.out _ _ ⟨(z_5.out.and hKz).cell 1, (z_5.out.and hKz).cell 2⟩ (fun hHeld => ?_)
          clear hK K
          try simp only [Act.put, List.setIfInBounds_toArray, List.set_cons_zero, List.set_cons_succ]
          refine wpAnyH_ready (rs := [16]) (by kernel_rfl) (by simp) ?_
          refine AllReadyH.cons (o := ⟨some 46, _, _, _, _, _⟩) rfl (fun K hK => ?_) AllReadyH.nil
          go_simp
          (with_reducible refine Calls.mono (HCat6.out _ (some ⟨W_5.heap.size, 0, none⟩) 6 hsl) ?_)
          rintro e W9 ⟨A9, c9, rfl, ho9, hK9⟩
          refine hK.out _ _ ⟨((z_5.out.and hKz).and hK9).cell 1, ((z_5.out.and hKz).and hK9).cell 2⟩ (fun hHeld => ?_)
          clear hK K
          try simp only [Act.put, List.setIfInBounds_toArray, List.set_cons_zero, List.set_cons_succ]
          refine wpAnyH_ready (rs := [17]) (by kernel_rfl) (by simp) ?_
          refine AllReadyH.cons (o := ⟨some 2, _, _, _, _, _⟩) rfl (fun K hK => ?_) AllReadyH.nil
          go_simp
          refine hK.out _ _ ⟨((z_5.out.and hKz).and hK9).cell 1, ((z_5.out.and hKz).and hK9).cell 2⟩ (fun hHeld => ?_)
          clear hK K
          try simp only [Act.put, List.setIfInBounds_toArray, List.set_cons_zero, List.set_cons_succ]
          refine wpAnyH_ready (rs := [18]) (by kernel_rfl) (by simp) ?_
          refine AllReadyH.cons (o := ⟨some 3, _, _, _, _, _⟩) rfl (fun K hK => ?_) AllReadyH.nil
          go_simp
          refine hK.out _ _ ⟨((z_5.out.and hKz).and hK9).cell 1, ((z_5.out.and hKz).and hK9).cell 2⟩ (fun hHeld => ?_)
          clear hK K
          try simp only [Act.put, List.setIfInBounds_toArray, List.set_cons_zero, List.set_cons_succ]
          refine wpAnyH_done (by kernel_rfl) ?_ _
          refine NoPanic.normal ?_
          go_wp2
          go_ret2
          exact Formed.ret HLL.out ho9 (hk_5.out.and hKz) hK9 _ rfl
        · go_simp
          (with_reducible refine Calls.mono (HOi.out _) ?_)
          rintro e W_4 ⟨A4, c4, rfl, ho, hKk⟩
          have q9_4 := Lib.hid (byE_own ho (putL_length _ _) (putL_isB _ _))
          have hk_4 := Lib.hid (hk_3.out.and hKk)
          have z_4 := Lib.hid (z_3.out.and hKk)
          have q7_4 := Lib.hid (ByE.and hKk _ _ q7_3.out)
          have q13_4 := Lib.hid (ByE.and hKk _ _ q13_3.out)
          have q2_4 := Lib.hid (ByE.and hKk _ _ q2_3.out)
          have q6_4 := Lib.hid (ByE.and hKk _ _ q6_3.out)
          clear hk_3 z_3 q7_3 q13_3 q2_3 q6_3
          clear ho
          refine hK.out _ _ ⟨z_4.out.cell 1, z_4.out.cell 2⟩ (fun hHeld => ?_)
          clear hK K
          try simp only [Act.put, List.setIfInBounds_toArray, List.set_cons_zero, List.set_cons_succ]
          clear hKk
          refine wpAnyH_ready (rs := [0]) (by kernel_rfl) (by simp) ?_
          refine AllReadyH.cons (o := ⟨some 30, _, _, _, _, _⟩) rfl (fun K hK => ?_) AllReadyH.nil
          go_simp
          have hKa : Kp NoB W_4 (W_4.alloc (.cells #[.int .u8 4] 5)) := (Kp.refl NoB W_4).alloc _
          refine hK.out _ _ ⟨(z_4.out.and hKa).cell 1, (z_4.out.and hKa).cell 2⟩ (fun hHeld => ?_)
          clear hK K
          try simp only [Act.put, List.setIfInBounds_toArray, List.set_cons_zero, List.set_cons_succ]
          obtain ⟨W_5, hW⟩ : ∃ x, W_4.alloc (.cells #[.int .u8 4] 5) = x := ⟨_, rfl⟩
          rw [hW]
          rw [hW] at hKa
          have q0_5 : Hid (ByE W_5 [4] [.slice (some ⟨W_4.heap.size, 0, none⟩) 1 1]) := Lib.hid (by rw [← hW]; exact byE_lit _ W_4.heap.size [4] (Bk.fresh W_4 5 (bs [4]).toArray) (by simp) (by intro y hy; simp at hy; omega) 1 rfl)
          obtain ⟨B0, hB0⟩ : ∃ x, W_4.heap.size = x := ⟨_, rfl⟩
          rw [hB0] at q0_5 ⊢
          clear hW hB0
          have hk_5 := Lib.hid (hk_4.out.and hKa)
          have z_5 := Lib.hid (z_4.out.and hKa)
          have q7_5 := Lib.hid (ByE.and hKa _ _ q7_4.out)
          have q13_5 := Lib.hid (ByE.and hKa _ _ q13_4.out)
          have q2_5 := Lib.hid (ByE.and hKa _ _ q2_4.out)
          have q6_5 := Lib.hid (ByE.and hKa _ _ q6_4.out)
          have q9_5 := Lib.hid (ByE.and hKa _ _ q9_4.out)
          clear hk_4 z_4 q7_4 q13_4 q2_4 q6_4 q9_4
          clear hKa
          refine wpAnyH_ready (rs := [15]) (by kernel_rfl) (by simp) ?_
          refine AllReadyH.cons (o := ⟨some 45, _, _, _, _, _⟩) rfl (fun K hK => ?_) AllReadyH.nil
          go_simp
          have hKz : Kp NoB W_5 (W_5.alloc (.cells #[.slice (some ⟨B0, 0, none⟩) 1 1, .slice A2 2 c2, .slice A3 2 c3, .slice A4 4 c4, .slice (some ⟨B13, 0, none⟩) 1 1, .slice A7 pl c7] 28)) := (Kp.refl NoB W_5).alloc _
          have hp := parts6 (ByE.and hKz _ _ q0_5.out) (ByE.and hKz _ _ q2_5.out) (ByE.and hKz _ _ q6_5.out) (ByE.and hKz _ _ q9_5.out) (ByE.and hKz _ _ q13_5.out) (ByE.and hKz _ _ q7_5.out)
          have hsl := sl_of hp (Bk.fresh W_5 28 #[.slice (some ⟨B0, 0, none⟩) 1 1, .slice A2 2 c2, .slice A3 2 c3, .slice A4 4 c4, .slice (some ⟨B13, 0, none⟩) 1 1, .slice A7 pl c7])
          refine hK.out _ _ ⟨(z_5.out.and hKz).cell 1, (z_5.out.and hKz).cell 2⟩ (fun hHeld => ?_)
          clear hK K
          try simp only [Act.put, List.setIfInBounds_toArray, List.set_cons_zero, List.set_cons_succ]
          refine wpAnyH_ready (rs := [16]) (by kernel_rfl) (by simp) ?_
          refine AllReadyH.cons (o := ⟨some 46, _, _, _, _, _⟩) rfl (fun K hK => ?_) AllReadyH.nil
          go_simp
          (with_reducible refine Calls.mono (HCat6.out _ (some ⟨W_5.heap.size, 0, none⟩) 6 hsl) ?_)
          rintro e W9 ⟨A9, c9, rfl, ho9, hK9⟩
          refine hK.out _ _ ⟨((z_5.out.and hKz).and hK9).cell 1, ((z_5.out.and hKz).and hK9).cell 2⟩ (fun hHeld => ?_)
          clear hK K
          try simp only [Act.put, List.setIfInBounds_toArray, List.set_cons_zero, List.set_cons_succ]
          refine wpAnyH_ready (rs := [17]) (by kernel_rfl) (by simp) ?_
          refine AllReadyH.cons (o := ⟨some 2, _, _, _, _, _⟩) rfl (fun K hK => ?_) AllReadyH.nil
          go_simp
          refine hK.out _ _ ⟨((z_5.out.and hKz).and hK9).cell 1, ((z_5.out.and hKz).and hK9).cell 2⟩ (fun hHeld => ?_)
          clear hK K
          try simp only [Act.put, List.setIfInBounds_toArray, List.set_cons_zero, List.set_cons_succ]
          refine wpAnyH_ready (rs := [18]) (by kernel_rfl) (by simp) ?_
          refine AllReadyH.cons (o := ⟨some 3, _, _, _, _, _⟩) rfl (fun K hK => ?_) AllReadyH.nil
          go_simp
          refine hK.out _ _ ⟨((z_5.out.and hKz).and hK9).cell 1, ((z_5.out.and hKz).and hK9).cell 2⟩ (fun hHeld => ?_)
          clear hK K
          try simp only [Act.put, List.setIfInBounds_toArray, List.set_cons_zero, List.set_cons_succ]
          refine wpAnyH_done (by kernel_rfl) ?_ _
          refine NoPanic.normal ?_
          go_wp2
          go_ret2
          exact Formed.ret HLL.out ho9 (hk_5.out.and hKz) hK9 _ rfl

end Go.Proofs.YtilfheociidloaaDoor
