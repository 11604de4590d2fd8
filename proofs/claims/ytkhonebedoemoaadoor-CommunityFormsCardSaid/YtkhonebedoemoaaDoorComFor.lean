/- CommunityForms' walk. No condition but the table of powers of ten. -/
import Derived.Test.YtkhonebedoemoaaDoorComBy
import Derived.Test.YtkhonebedoemoaaDoorComTx
import Derived.Test.YtkhonebedoemoaaDoorComX
namespace Go.Proofs.YtkhonebedoemoaaDoor
open Go.RowKit
set_option linter.unusedVariables false
set_option linter.unusedSimpArgs false

/-- What Read and Bytes leave, the fields written out. -/
def ReadW (w : World) (k : Int) (l : List Int) (n : Nat) (v : Int) (e : Ending) (w' : World) : Prop :=
  ∃ A c, e = .returned (.tuple #[.agg #[.int .i64 k, .bool false, .int .u32 0, .int .u32 0, .slice none 0 0, .slice A n c, .slice none 0 0, .int .i64 0, .slice none 0 0], .int .i64 v]) ∧ w'.ownsRow w.heap.size 22 1 (.slice A n c) n (us l) ∧ Kp NoB w w'
theorem ReadU.w {w w' : World} {k v : Int} {l : List Int} {e : Ending} (h : ReadU w k l v e w') : ReadW w k l l.length v e w' := h
def BytesW (w : World) (b : Bool) (l : List Int) (n : Nat) (e : Ending) (w' : World) : Prop :=
  ∃ A c, e = .returned (.tuple #[.slice A n c, .bool b]) ∧ w'.ownsRow w.heap.size 5 1 (.slice A n c) n (bs l) ∧ Kp NoB w w'
theorem BytesU.w {w w' : World} {b : Bool} {l : List Int} {e : Ending} (h : BytesU w b l e w') : BytesW w b l l.length e w' := h

theorem valid_facts {z : AtI} (hv : validC z = true) : 0 < grp z.t ∧ 0 < z.ln ∧ z.ln % grp z.t = 0 ∧ (0 : Int) = z.n ∧ (0 : Int) = z.m ∧ z.rest.bare = true := by
  unfold validC plainB at hv
  simp only [Bool.and_eq_true, decide_eq_true_eq] at hv
  obtain ⟨⟨⟨h1, h2⟩, h3⟩, ⟨⟨_, h4⟩, h5⟩, h6⟩ := hv
  exact ⟨h1, h2, h3, by simpa [AtI.rest] using h4, by simpa [AtI.rest] using h5, h6⟩

set_option maxRecDepth 100000 in
set_option maxHeartbeats 16000000 in
theorem cforms_row (z : AtI) (w : World) (hz : InAt9 w z) (ld : Ld w) :
    Calls Tryd.prog 5 #[z.val] w fun e w' => e = .returned (.bool true) ∧ Kp NoB w w' := by
  obtain ⟨hin, xs, hx⟩ := hz
  have HSM := Lib.hid (fun W (k : Kp NoB w W) => small_any z W (hin.and k))
  have HAL := Lib.hid (fun W (k : Kp NoB w W) => alive_any W (ld.tb.and k))
  obtain ⟨BL, hBL⟩ : ∃ l, (if validC z = true then bytesU xs else []) = l := ⟨_, rfl⟩
  obtain ⟨m, hm⟩ : ∃ m, BL.length = m := ⟨_, rfl⟩
  obtain ⟨V, hV⟩ : ∃ v, validC z = v := ⟨_, rfl⟩
  obtain ⟨T, hT⟩ : ∃ t, ba (textC z xs) = t := ⟨_, rfl⟩
  have HV := Lib.hid (fun (s : z.small) W => valid_any z (hin.1.ok s) W)
  have HRV := Lib.hid (fun (s : z.small) W => rvalid_any z (hin.1.ok s) W)
  have HTX := Lib.hid (fun (s : z.small) W (kk : Kp NoB w W) => ctext_any z (hin.1.ok s) xs W (hx.and kk) (by unfold AtI.small at s; omega) (ld.tb.and kk))
  have HRT := Lib.hid (fun (s : z.small) W (kk : Kp NoB w W) => rtext_any z (hin.1.ok s) xs W (hx.and kk) (by unfold AtI.small at s; omega))
  have HG := Lib.hid (fun W => group_any z.t W)
  have HRG := Lib.hid (fun W => rgroup_any z.t W)
  have HBY := Lib.hid (fun (s : z.small) W (kk : Kp NoB w W) => (show Calls Tryd.prog 17 #[z.val] W (BytesW W V BL m) by
    rw [← hm, ← hBL, ← hV]
    cases hv : validC z with
    | true => exact (cbytes_good z (hin.1.ok s) xs W (hx.and kk) (by unfold AtI.small at s; omega) hv).mono (fun e w' h => by simpa using h.w)
    | false => exact (cbytes_bad z (hin.1.ok s) W hv).mono (fun e w' h => by simpa using h.w)))
  have HRB := Lib.hid (fun (s : z.small) W (kk : Kp NoB w W) => (show Calls Tryd.prog 18 #[z.val] W (BytesW W V BL m) by
    rw [← hm, ← hBL, ← hV]
    cases hv : validC z with
    | true => exact (rbytes_good z (hin.1.ok s) xs W (hx.and kk) (by unfold AtI.small at s; omega) hv).mono (fun e w' h => by simpa using h.w)
    | false => exact (rbytes_bad z (hin.1.ok s) W hv).mono (fun e w' h => by simpa using h.w)))
  have HEQ := Lib.hid (fun (s : z.small) W A B c d (h1 : Arr W A (bs BL)) (h2 : Arr W B (bs BL)) => (show Calls Tryd.prog 21 #[.slice A m c, .slice B m d] W (fun e w' => e = .returned (.bool true) ∧ ∃ n, w' = W.drewN n) by
    have h := equal_any A B c d BL BL W h1 h2 (by
      rw [← hBL]
      split
      · rw [bytesU_len, hx.1]; unfold AtI.small at s; omega
      · simp)
    rw [hm, decide_eq_true rfl] at h
    exact h))
  have HRD := Lib.hid (fun (s : z.small) (hv : V = true) A c W (h : Arr W A (bs BL)) => (show Calls Tryd.prog 26 #[.int .i64 z.t, .slice A m c] W (ReadW W z.t xs z.ln 0) by
    rw [← hV] at hv
    obtain ⟨hg, hn0, hmod, -⟩ := valid_facts hv
    rw [if_pos hv] at hBL
    rw [← hBL] at h
    have h1 := cread_any z.t hin.1.t A c (bytesU xs) W h (bytesU_isB xs) (by rw [bytesU_len, hx.1]; unfold AtI.small at s; omega)
    obtain ⟨e1, e2, e3⟩ := rd_bytes hg (xs := xs) (by rw [hx.1]; exact hn0) hx.2.2.2.2
    have hwh : wholeU z.t xs.length = true := by rw [hx.1]; exact decide_eq_true hmod
    rw [e1, e2, e3, if_pos hwh, if_pos hwh, if_pos hwh] at h1
    rw [← hm, ← hBL]
    refine h1.mono (fun e w' h => ?_)
    have h' := h.w
    rw [hx.1] at h'
    exact h'))
  have HSA := Lib.hid (fun (s : z.small) (hv : V = true) W D d (h1 : Arr W D (us xs)) (kk : Kp NoB w W) => (show Calls Tryd.prog 14 #[(zU z.t false D z.ln d).val, ({ z with p := false } : AtI).val] W (Stay (.bool true) W) by
    rw [← hV] at hv
    obtain ⟨-, -, -, h4, h5, h6⟩ := valid_facts hv
    exact gsame_any (zU z.t false D z.ln d) { z with p := false } xs W rfl rfl h4 h5 rfl hx.1 (by rw [hx.1]; unfold AtI.small at s; omega) h1 (hx.2.2.2.1.and kk) (by simp [zU, AtI.rest, AtI.bare]) h6))
  rw [hV] at HV HRV
  rw [hT] at HTX HRT
  clear hin hx ld hBL hm hV hT
  unfold BytesW at HBY HRB
  unfold ReadW at HRD
  unfold AtI.val AtI.cs at HSM HV HRV HTX HRT HBY HRB HSA ⊢
  unfold zU at HSA
  simp only at HSA
  go_enter Tryd.func5, Tryd.ntmps5
  go_wp2_with (first
    | (go_at_call 8; refine Calls.mono (HSM.out _ ((Kp.refl NoB w).alloc _)) ?_; rintro e w1 ⟨b, rfl, hs, hK⟩; obtain ⟨hk1', hZ'⟩ := fin_at (z := z) hK; have hk1 := Lib.hid hk1'; have hZ := Lib.hid hZ'; have HS := Lib.hid hs; obtain ⟨x0, x1, x2, x3, x4, x5, x6, x7, x8⟩ := hZ'.attr; clear hK hk1' hZ' hs)
    | (go_at_call 9; refine Calls.mono (HAL.out _ hk1.out) ?_; rintro e w2 ⟨rfl, hK⟩; have hk2 := Lib.hid (hk1.out.and hK); clear hK))
  · go_ret
    exact ⟨rfl, hk2.out⟩
  · have HSm := Lib.hid (HS.out (by cases b <;> simp_all))
    have HBY' := Lib.hid (HBY.out HSm.out)
    have HRB' := Lib.hid (HRB.out HSm.out)
    have HV' := Lib.hid (HV.out HSm.out)
    have HRV' := Lib.hid (HRV.out HSm.out)
    have HTX' := Lib.hid (HTX.out HSm.out)
    have HRT' := Lib.hid (HRT.out HSm.out)
    have HEQ' := Lib.hid (HEQ.out HSm.out)
    have HRD' := Lib.hid (HRD.out HSm.out)
    have HSA' := Lib.hid (HSA.out HSm.out)
    clear HBY HRB HV HRV HTX HRT HEQ HRD HSA HS HSM
    go_wp2_with (first
      | (go_at_call 17; (with_reducible refine Calls.mono (HBY'.out _ hk1.out) ?_); rintro e w2 ⟨A2, c2, rfl, ho, hK⟩; have hk2 := Lib.hid (hk1.out.and hK); have hZ2 := Lib.hid (hZ.out.and hK); have ha2 := Lib.hid (own_parts ho).2.2; clear x0 x1 x2 x3 x4 x5 x6 x7 x8; obtain ⟨x0, x1, x2, x3, x4, x5, x6, x7, x8⟩ := hZ2.out.attr; clear hK ho)
      | (go_at_call 18; (with_reducible refine Calls.mono (HRB'.out _ hk2.out) ?_); rintro e w3 ⟨A3, c3, rfl, ho, hK⟩; have hk3 := Lib.hid (hk2.out.and hK); have hZ3 := Lib.hid (hZ2.out.and hK); have ha3 := Lib.hid (own_parts ho).2.2; have hb3 := Lib.hid (ha2.out.and hK); clear x0 x1 x2 x3 x4 x5 x6 x7 x8; obtain ⟨x0, x1, x2, x3, x4, x5, x6, x7, x8⟩ := hZ3.out.attr; clear hK ho))
    -- REGION5
    refine wp_region_noPanic ?_
    refine wp_region_held_drew (S := (fun w' => w'.cell? ⟨w.heap.size, 0, none⟩ = some (.int .i64 z.t) ∧ w'.cell? ⟨w.heap.size, 1, none⟩ = some (.bool z.p) ∧ w'.cell? ⟨w.heap.size, 2, none⟩ = some (.int .u32 z.n) ∧ w'.cell? ⟨w.heap.size, 3, none⟩ = some (.int .u32 z.m) ∧ w'.cell? ⟨w.heap.size, 4, none⟩ = some (.slice z.S z.sn z.sc) ∧ w'.cell? ⟨w.heap.size, 5, none⟩ = some (.slice z.L z.ln z.lc) ∧ w'.cell? ⟨w.heap.size, 6, none⟩ = some (.slice z.B z.bn z.bc) ∧ w'.cell? ⟨w.heap.size, 7, none⟩ = some (.int .i64 z.f) ∧ w'.cell? ⟨w.heap.size, 8, none⟩ = some (.slice z.R z.rn z.rc))) (by kernel_rfl) ?_ (fun hHeld => ?_)
    · exact Bk.attr (z := z) hZ3.out
    refine wpAnyH_take (i := 0) (oi := ⟨some 23, _, _, _, _, _⟩) (v := ?_) rfl (by kernel_rfl) (by kernel_rfl) (by kernel_rfl) (fun _ _ _ h => h) (Or.inl ⟨by rfl, fun w hSw => ?_⟩) (by assumption) ?_
    rotate_left
    · (try dsimp only at hSw)
      go_simp
      try with_reducible rfl
    try simp only [Act.put, List.setIfInBounds_toArray, List.set_cons_zero, List.set_cons_succ]
    refine wpAnyH_take (i := 2) (oi := ⟨some 25, _, _, _, _, _⟩) (v := ?_) rfl (by kernel_rfl) (by kernel_rfl) (by kernel_rfl) (fun _ _ _ h => h) (Or.inl ⟨by rfl, fun w hSw => ?_⟩) (by assumption) ?_
    rotate_left
    · (try dsimp only at hSw)
      go_simp
      try with_reducible rfl
    try simp only [Act.put, List.setIfInBounds_toArray, List.set_cons_zero, List.set_cons_succ]
    refine wpAnyH_ready (rs := [1]) (by kernel_rfl) (by simp) ?_
    refine AllReadyH.cons (o := ⟨some 24, _, _, _, _, _⟩) rfl (fun K hK => ?_) AllReadyH.nil
    go_simp
    (with_reducible refine Calls.mono (HV'.out _) ?_)
    rintro e w4 ⟨rfl, hK⟩
    have hk4 := Lib.hid (Kp.and (hk3.out.drew) hK)
    have hZ4 := Lib.hid (Bk.and (bk_drew hZ3.out) hK)
    have ha4 := Lib.hid (Arr.and (ha3.out.and (Kp.refl NoB w3).drew) hK)
    have hb4 := Lib.hid (Arr.and (hb3.out.and (Kp.refl NoB w3).drew) hK)
    clear hK
    refine hK.out _ _ ?_ (fun hHeld => ?_)
    · (try dsimp only)
      exact Bk.attr (z := z) hZ4.out
    clear hK K
    try simp only [Act.put, List.setIfInBounds_toArray, List.set_cons_zero, List.set_cons_succ]
    refine wpAnyH_ready (rs := [3]) (by kernel_rfl) (by simp) ?_
    refine AllReadyH.cons (o := ⟨some 26, _, _, _, _, _⟩) rfl (fun K hK => ?_) AllReadyH.nil
    go_simp
    (with_reducible refine Calls.mono (HRV'.out _) ?_)
    rintro e w5 ⟨rfl, hK⟩
    have hk5 := Lib.hid (Kp.and hk4.out hK)
    have hZ5 := Lib.hid (Bk.and hZ4.out hK)
    have ha5 := Lib.hid (Arr.and ha4.out hK)
    have hb5 := Lib.hid (Arr.and hb4.out hK)
    clear hK
    refine hK.out _ _ ?_ (fun hHeld => ?_)
    · (try dsimp only)
      exact Bk.attr (z := z) hZ5.out
    clear hK K
    try simp only [Act.put, List.setIfInBounds_toArray, List.set_cons_zero, List.set_cons_succ]
    refine wpAnyH_take (i := 4) (oi := ⟨some 27, _, _, _, _, _⟩) (v := ?_) rfl (by kernel_rfl) (by kernel_rfl) (by kernel_rfl) (fun _ _ _ h => h) (Or.inl ⟨by rfl, fun w hSw => ?_⟩) (by assumption) ?_
    rotate_left
    · (try dsimp only at hSw)
      go_simp
      try with_reducible rfl
    try simp only [Act.put, List.setIfInBounds_toArray, List.set_cons_zero, List.set_cons_succ]
    refine wpAnyH_take (i := 5) (oi := ⟨some 28, _, _, _, _, _⟩) (v := ?_) rfl (by kernel_rfl) (by kernel_rfl) (by kernel_rfl) (fun _ _ _ h => h) (Or.inl ⟨by rfl, fun w hSw => ?_⟩) (by assumption) ?_
    rotate_left
    · (try dsimp only at hSw)
      go_simp
      try with_reducible rfl
    try simp only [Act.put, List.setIfInBounds_toArray, List.set_cons_zero, List.set_cons_succ]
    refine wpAnyH_take (i := 6) (oi := ⟨some 29, _, _, _, _, _⟩) (v := ?_) rfl (by kernel_rfl) (by kernel_rfl) (by kernel_rfl) (fun _ _ _ h => h) (Or.inl ⟨by rfl, fun w hSw => ?_⟩) (by assumption) ?_
    rotate_left
    · (try dsimp only at hSw)
      go_simp
      try with_reducible rfl
    try simp only [Act.put, List.setIfInBounds_toArray, List.set_cons_zero, List.set_cons_succ]
    refine wpAnyH_take (i := 7) (oi := ⟨some 30, _, _, _, _, _⟩) (v := ?_) rfl (by kernel_rfl) (by kernel_rfl) (by kernel_rfl) (fun _ _ _ h => h) (Or.inl ⟨by rfl, fun w hSw => ?_⟩) (by assumption) ?_
    rotate_left
    · (try dsimp only at hSw)
      go_simp
      try with_reducible rfl
    try simp only [Act.put, List.setIfInBounds_toArray, List.set_cons_zero, List.set_cons_succ]
    refine wpAnyH_ready (rs := [8]) (by kernel_rfl) (by simp) ?_
    refine AllReadyH.cons (o := ⟨some 31, _, _, _, _, _⟩) rfl (fun K hK => ?_) AllReadyH.nil
    go_simp
    (with_reducible refine Calls.mono (HEQ'.out _ A2 A3 c2 c3 hb5.out ha5.out) ?_)
    rintro e w6 ⟨rfl, nq, hw6⟩
    have hK : Kp NoB w5 w6 := by rw [hw6]; exact (Kp.refl NoB w5).drewN nq
    have hk6 := Lib.hid (hk5.out.and hK)
    have hZ6 := Lib.hid (Bk.and hZ5.out hK)
    have ha6 := Lib.hid (ha5.out.and hK)
    have hb6 := Lib.hid (hb5.out.and hK)
    clear hK hw6
    refine hK.out _ _ ?_ (fun hHeld => ?_)
    · (try dsimp only)
      exact Bk.attr (z := z) hZ6.out
    clear hK K
    try simp only [Act.put, List.setIfInBounds_toArray, List.set_cons_zero, List.set_cons_succ]
    refine wpAnyH_take (i := 9) (oi := ⟨some 32, _, _, _, _, _⟩) (v := ?_) rfl (by kernel_rfl) (by kernel_rfl) (by kernel_rfl) (fun _ _ _ h => h) (Or.inl ⟨by rfl, fun w hSw => ?_⟩) (by assumption) ?_
    rotate_left
    · (try dsimp only at hSw)
      go_simp
      try with_reducible rfl
    try simp only [Act.put, List.setIfInBounds_toArray, List.set_cons_zero, List.set_cons_succ]
    refine wpAnyH_take (i := 10) (oi := ⟨some 33, _, _, _, _, _⟩) (v := ?_) rfl (by kernel_rfl) (by kernel_rfl) (by kernel_rfl) (fun _ _ _ h => h) (Or.inl ⟨by rfl, fun w hSw => ?_⟩) (by assumption) ?_
    rotate_left
    · (try dsimp only at hSw)
      go_simp
      try with_reducible rfl
    try simp only [Act.put, List.setIfInBounds_toArray, List.set_cons_zero, List.set_cons_succ]
    refine wpAnyH_take (i := 11) (oi := ⟨some 34, _, _, _, _, _⟩) (v := ?_) rfl (by kernel_rfl) (by kernel_rfl) (by kernel_rfl) (fun _ _ _ h => h) (Or.inl ⟨by rfl, fun w hSw => ?_⟩) (by assumption) ?_
    rotate_left
    · (try dsimp only at hSw)
      go_simp
      try with_reducible rfl
    try simp only [Act.put, List.setIfInBounds_toArray, List.set_cons_zero, List.set_cons_succ]
    refine wpAnyH_take (i := 12) (oi := ⟨some 35, _, _, _, _, _⟩) (v := ?_) rfl (by kernel_rfl) (by kernel_rfl) (by kernel_rfl) (fun _ _ _ h => h) (Or.inl ⟨by rfl, fun w hSw => ?_⟩) (by assumption) ?_
    rotate_left
    · (try dsimp only at hSw)
      go_simp
      try with_reducible rfl
    try simp only [Act.put, List.setIfInBounds_toArray, List.set_cons_zero, List.set_cons_succ]
    refine wpAnyH_take (i := 13) (oi := ⟨some 36, _, _, _, _, _⟩) (v := ?_) rfl (by kernel_rfl) (by kernel_rfl) (by kernel_rfl) (fun _ _ _ h => h) (Or.inl ⟨by rfl, fun w hSw => ?_⟩) (by assumption) ?_
    rotate_left
    · (try dsimp only at hSw)
      go_simp
      try with_reducible rfl
    try simp only [Act.put, List.setIfInBounds_toArray, List.set_cons_zero, List.set_cons_succ]
    refine wpAnyH_take (i := 14) (oi := ⟨some 37, _, _, _, _, _⟩) (v := ?_) rfl (by kernel_rfl) (by kernel_rfl) (by kernel_rfl) (fun _ _ _ h => h) (Or.inl ⟨by rfl, fun w hSw => ?_⟩) (by assumption) ?_
    rotate_left
    · (try dsimp only at hSw)
      go_simp
      try with_reducible rfl
    try simp only [Act.put, List.setIfInBounds_toArray, List.set_cons_zero, List.set_cons_succ]
    refine wpAnyH_take (i := 15) (oi := ⟨some 38, _, _, _, _, _⟩) (v := ?_) rfl (by kernel_rfl) (by kernel_rfl) (by kernel_rfl) (fun _ _ _ h => h) (Or.inl ⟨by rfl, fun w hSw => ?_⟩) (by assumption) ?_
    rotate_left
    · (try dsimp only at hSw)
      go_simp
      try with_reducible rfl
    try simp only [Act.put, List.setIfInBounds_toArray, List.set_cons_zero, List.set_cons_succ]
    refine wpAnyH_take (i := 16) (oi := ⟨some 39, _, _, _, _, _⟩) (v := ?_) rfl (by kernel_rfl) (by kernel_rfl) (by kernel_rfl) (fun _ _ _ h => h) (Or.inl ⟨by rfl, fun w hSw => ?_⟩) (by assumption) ?_
    rotate_left
    · (try dsimp only at hSw)
      go_simp
      try with_reducible rfl
    try simp only [Act.put, List.setIfInBounds_toArray, List.set_cons_zero, List.set_cons_succ]
    refine wpAnyH_take (i := 17) (oi := ⟨some 40, _, _, _, _, _⟩) (v := ?_) rfl (by kernel_rfl) (by kernel_rfl) (by kernel_rfl) (fun _ _ _ h => h) (Or.inl ⟨by rfl, fun w hSw => ?_⟩) (by assumption) ?_
    rotate_left
    · (try dsimp only at hSw)
      go_simp
      try with_reducible rfl
    try simp only [Act.put, List.setIfInBounds_toArray, List.set_cons_zero, List.set_cons_succ]
    refine wpAnyH_take (i := 19) (oi := ⟨some 42, _, _, _, _, _⟩) (v := ?_) rfl (by kernel_rfl) (by kernel_rfl) (by kernel_rfl) (fun _ _ _ h => h) (Or.inl ⟨by rfl, fun w hSw => ?_⟩) (by assumption) ?_
    rotate_left
    · (try dsimp only at hSw)
      go_simp
      try with_reducible rfl
    try simp only [Act.put, List.setIfInBounds_toArray, List.set_cons_zero, List.set_cons_succ]
    refine wpAnyH_ready (rs := [18]) (by kernel_rfl) (by simp) ?_
    refine AllReadyH.cons (o := ⟨some 41, _, _, _, _, _⟩) rfl (fun K hK => ?_) AllReadyH.nil
    go_simp
    (with_reducible refine Calls.mono (HTX'.out _ hk6.out) ?_)
    rintro e w7 ⟨rfl, hK⟩
    have hk7 := Lib.hid (Kp.and hk6.out hK)
    have hZ7 := Lib.hid (Bk.and hZ6.out hK)
    have ha7 := Lib.hid (Arr.and ha6.out hK)
    have hb7 := Lib.hid (Arr.and hb6.out hK)
    clear hK
    refine hK.out _ _ ?_ (fun hHeld => ?_)
    · (try dsimp only)
      exact Bk.attr (z := z) hZ7.out
    clear hK K
    try simp only [Act.put, List.setIfInBounds_toArray, List.set_cons_zero, List.set_cons_succ]
    refine wpAnyH_ready (rs := [20]) (by kernel_rfl) (by simp) ?_
    refine AllReadyH.cons (o := ⟨some 43, _, _, _, _, _⟩) rfl (fun K hK => ?_) AllReadyH.nil
    go_simp
    (with_reducible refine Calls.mono (HRT'.out _ hk7.out) ?_)
    rintro e w8 ⟨rfl, hK⟩
    have hk8 := Lib.hid (Kp.and hk7.out hK)
    have hZ8 := Lib.hid (Bk.and hZ7.out hK)
    have ha8 := Lib.hid (Arr.and ha7.out hK)
    have hb8 := Lib.hid (Arr.and hb7.out hK)
    clear hK
    refine hK.out _ _ ?_ (fun hHeld => ?_)
    · (try dsimp only)
      exact Bk.attr (z := z) hZ8.out
    clear hK K
    try simp only [Act.put, List.setIfInBounds_toArray, List.set_cons_zero, List.set_cons_succ]
    refine wpAnyH_take (i := 21) (oi := ⟨some 44, _, _, _, _, _⟩) (v := ?_) rfl (by kernel_rfl) (by kernel_rfl) (by kernel_rfl) (fun _ _ _ h => h) (Or.inl ⟨by rfl, fun w hSw => ?_⟩) (by assumption) ?_
    rotate_left
    · (try dsimp only at hSw)
      go_simp
      try with_reducible rfl
    try simp only [Act.put, List.setIfInBounds_toArray, List.set_cons_zero, List.set_cons_succ]
    refine wpAnyH_take (i := 22) (oi := ⟨some 45, _, _, _, _, _⟩) (v := ?_) rfl (by kernel_rfl) (by kernel_rfl) (by kernel_rfl) (fun _ _ _ h => h) (Or.inl ⟨by rfl, fun w hSw => ?_⟩) (by assumption) ?_
    rotate_left
    · (try dsimp only at hSw)
      go_simp
      try with_reducible rfl
    try simp only [Act.put, List.setIfInBounds_toArray, List.set_cons_zero, List.set_cons_succ]
    refine wpAnyH_take (i := 23) (oi := ⟨some 46, _, _, _, _, _⟩) (v := ?_) rfl (by kernel_rfl) (by kernel_rfl) (by kernel_rfl) (fun _ _ _ h => h) (Or.inl ⟨by rfl, fun w hSw => ?_⟩) (by assumption) ?_
    rotate_left
    · (try dsimp only at hSw)
      go_simp
      try with_reducible rfl
    try simp only [Act.put, List.setIfInBounds_toArray, List.set_cons_zero, List.set_cons_succ]
    refine wpAnyH_take (i := 24) (oi := ⟨some 47, _, _, _, _, _⟩) (v := ?_) rfl (by kernel_rfl) (by kernel_rfl) (by kernel_rfl) (fun _ _ _ h => h) (Or.inl ⟨by rfl, fun w hSw => ?_⟩) (by assumption) ?_
    rotate_left
    · (try dsimp only at hSw)
      go_simp
      try with_reducible rfl
    try simp only [Act.put, List.setIfInBounds_toArray, List.set_cons_zero, List.set_cons_succ]
    refine wpAnyH_take (i := 25) (oi := ⟨some 48, _, _, _, _, _⟩) (v := ?_) rfl (by kernel_rfl) (by kernel_rfl) (by kernel_rfl) (fun _ _ _ h => h) (Or.inl ⟨by rfl, fun w hSw => ?_⟩) (by assumption) ?_
    rotate_left
    · (try dsimp only at hSw)
      go_simp
      try with_reducible rfl
    try simp only [Act.put, List.setIfInBounds_toArray, List.set_cons_zero, List.set_cons_succ]
    refine wpAnyH_take (i := 27) (oi := ⟨some 50, _, _, _, _, _⟩) (v := ?_) rfl (by kernel_rfl) (by kernel_rfl) (by kernel_rfl) (fun _ _ _ h => h) (Or.inl ⟨by rfl, fun w hSw => ?_⟩) (by assumption) ?_
    rotate_left
    · (try dsimp only at hSw)
      go_simp
      try with_reducible rfl
    try simp only [Act.put, List.setIfInBounds_toArray, List.set_cons_zero, List.set_cons_succ]
    refine wpAnyH_take (i := 28) (oi := ⟨some 51, _, _, _, _, _⟩) (v := ?_) rfl (by kernel_rfl) (by kernel_rfl) (by kernel_rfl) (fun _ _ _ h => h) (Or.inl ⟨by rfl, fun w hSw => ?_⟩) (by assumption) ?_
    rotate_left
    · (try dsimp only at hSw)
      go_simp
      try with_reducible rfl
    try simp only [Act.put, List.setIfInBounds_toArray, List.set_cons_zero, List.set_cons_succ]
    refine wpAnyH_ready (rs := [26]) (by kernel_rfl) (by simp) ?_
    refine AllReadyH.cons (o := ⟨some 49, _, _, _, _, _⟩) rfl (fun K hK => ?_) AllReadyH.nil
    go_simp
    (with_reducible refine Calls.mono (HG.out _) ?_)
    rintro e w9 ⟨rfl, hK⟩
    have hk9 := Lib.hid (Kp.and hk8.out hK)
    have hZ9 := Lib.hid (Bk.and hZ8.out hK)
    have ha9 := Lib.hid (Arr.and ha8.out hK)
    have hb9 := Lib.hid (Arr.and hb8.out hK)
    clear hK
    refine hK.out _ _ ?_ (fun hHeld => ?_)
    · (try dsimp only)
      exact Bk.attr (z := z) hZ9.out
    clear hK K
    try simp only [Act.put, List.setIfInBounds_toArray, List.set_cons_zero, List.set_cons_succ]
    refine wpAnyH_ready (rs := [29]) (by kernel_rfl) (by simp) ?_
    refine AllReadyH.cons (o := ⟨some 52, _, _, _, _, _⟩) rfl (fun K hK => ?_) AllReadyH.nil
    go_simp
    (with_reducible refine Calls.mono (HRG.out _) ?_)
    rintro e w10 ⟨rfl, hK⟩
    have hk10 := Lib.hid (Kp.and hk9.out hK)
    have hZ10 := Lib.hid (Bk.and hZ9.out hK)
    have ha10 := Lib.hid (Arr.and ha9.out hK)
    have hb10 := Lib.hid (Arr.and hb9.out hK)
    clear hK
    refine hK.out _ _ ?_ (fun hHeld => ?_)
    · (try dsimp only)
      exact Bk.attr (z := z) hZ10.out
    clear hK K
    try simp only [Act.put, List.setIfInBounds_toArray, List.set_cons_zero, List.set_cons_succ]
    refine wpAnyH_take (i := 30) (oi := ⟨some 53, _, _, _, _, _⟩) (v := ?_) rfl (by kernel_rfl) (by kernel_rfl) (by kernel_rfl) (fun _ _ _ h => h) (Or.inl ⟨by rfl, fun w hSw => ?_⟩) (by assumption) ?_
    rotate_left
    · (try dsimp only at hSw)
      go_simp
      try with_reducible rfl
    try simp only [Act.put, List.setIfInBounds_toArray, List.set_cons_zero, List.set_cons_succ]
    refine wpAnyH_take (i := 31) (oi := ⟨some 54, _, _, _, _, _⟩) (v := ?_) rfl (by kernel_rfl) (by kernel_rfl) (by kernel_rfl) (fun _ _ _ h => h) (Or.inl ⟨by rfl, fun w hSw => ?_⟩) (by assumption) ?_
    rotate_left
    · (try dsimp only at hSw)
      go_simp
      try with_reducible rfl
    try simp only [Act.put, List.setIfInBounds_toArray, List.set_cons_zero, List.set_cons_succ]
    refine wpAnyH_done (by kernel_rfl) ?_ _
    refine NoPanic.normal ?_
    -- END5
    clear x0 x1 x2 x3 x4 x5 x6 x7 x8
    obtain ⟨x0, x1, x2, x3, x4, x5, x6, x7, x8⟩ := Bk.attr (z := z) hZ10.out
    cases V with
    | false =>
      go_wp2_with (go_at_call 9; refine Calls.mono (HAL.out _ hk10.out) ?_; rintro e w11 ⟨rfl, hK⟩; have hk11 := Lib.hid (hk10.out.and hK); clear hK)
      go_ret
      exact ⟨rfl, hk11.out⟩
    | true =>
      have HRD2 := Lib.hid (HRD'.out rfl)
      have HSA2 := Lib.hid (HSA'.out rfl)
      go_wp2_with (first
        | (go_at_call 26; (with_reducible refine Calls.mono (HRD2.out A2 c2 _ hb10.out) ?_); rintro e w11 ⟨A4, c4, rfl, ho, hK⟩; have hk11 := Lib.hid (hk10.out.and hK); have hZ11 := Lib.hid (hZ10.out.and hK); have ho11 := Lib.hid ho; have hlt := hZ11.out.lt; have hne := Nat.ne_of_lt hlt; have hfr := hZ11.out.frozen 1; clear x0 x1 x2 x3 x4 x5 x6 x7 x8; obtain ⟨x0, x1, x2, x3, x4, x5, x6, x7, x8⟩ := Bk.attr (z := z) hZ11.out; clear hK ho)
        | (go_at_call 9; have hks := hk11.out.setCell (p := ⟨w.heap.size, 1, none⟩) (fun h => by simp at h) (.bool false); have hZs := hZ11.out.set 1 (.bool false); have hos := own_parts (((Kp.refl (OnB w.heap.size) w11).setCell (p := ⟨w.heap.size, 1, none⟩) (fun _ => rfl) (.bool false)).own ho11.out (fun b e q => own_off ho11.out hZ11.out (by decide) (by unfold OnB at q; rw [← q]; exact e))); have bxs := Bk.fresh (w11.setCell ⟨w.heap.size, 1, none⟩ (.bool false)) 28 (zU z.t false A4 z.ln c4).cs; refine Calls.mono (HAL.out _ (hks.alloc _)) ?_; rintro e w12 ⟨rfl, hK⟩; have hk12 := Lib.hid ((hks.alloc _).and hK); have hZ12 : Bk w12 w.heap.size 28 ({ z with p := false } : AtI).cs := (hZs.alloc _).and hK; have bx12 := bxs.and hK; have ha12 := Lib.hid ((hos.2.2.and ((Kp.refl NoB _).alloc _)).and hK); clear x0 x1 x2 x3 x4 x5 x6 x7 x8; obtain ⟨x0, x1, x2, x3, x4, x5, x6, x7, x8⟩ := Bk.attr (z := { z with p := false }) hZ12; obtain ⟨y0, y1, y2, y3, y4, y5, y6, y7, y8⟩ := Bk.attr (z := zU z.t false A4 z.ln c4) bx12; unfold zU at y0 y1 y2 y3 y4 y5 y6 y7 y8; simp only [World.size_setCell] at y0 y1 y2 y3 y4 y5 y6 y7 y8; simp only at x0 x1 x2 x3 x4 x5 x6 x7 x8; clear hks hZs hos bxs hZ12 bx12 hK hfr)
        | (go_at_call 14; (with_reducible refine Calls.mono (HSA2.out _ A4 c4 ha12.out hk12.out) ?_); rintro e w13 ⟨rfl, hK⟩; have hk13 := Lib.hid (hk12.out.and hK); clear hK))
      go_ret
      exact ⟨rfl, hk13.out⟩

end Go.Proofs.YtkhonebedoemoaaDoor
