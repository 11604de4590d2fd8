/- Package prefix: Valid and Bytes: contracts by walking the Go text. -/
import Derived.Test.YtkkfigdfgagimaaPreB
import Derived.Test.YtkkfigdfgagimaaCat0
import Derived.Deep.RegionHeld3
namespace Go.Proofs.Ytkkfigdfgagimaa
open Go.RowKit
set_option linter.unusedVariables false
set_option linter.unusedSimpArgs false

def validP (p : PreI) : Bool := rangedB p.fam p.len && decide (maskL p.len p.addr = p.addr)
theorem ranged_bd {fam len : Int} (h : rangedB fam len = true) : 0 ≤ len ∧ len ≤ 128 := by
  unfold rangedB at h
  have := wid_bd fam
  simp only [decide_eq_true_eq] at h
  omega

/-- The two first cells and the address of a prefix that was boxed. -/
theorem Bk.pre {w : World} {b : Nat} {t : TypeId} {p : PreI} (h : Bk w b t (preC p).toArray) : w.cell? ⟨b, 0, none⟩ = some (.int .i64 p.fam) ∧ w.cell? ⟨b, 1, none⟩ = some (.int .i64 p.len) ∧ w.rangeAt b 2 (bs p.addr) :=
  ⟨h.cell 0, h.cell 1, fun j v hv => by
    rw [h.cell (2 + j), ← hv]
    rw [show 2 + j = j + 1 + 1 by omega]
    simp [preC]⟩

set_option maxRecDepth 100000 in
set_option maxHeartbeats 4000000 in
theorem valid_any (p : PreI) (w : World) (hB : p.B) : Calls Try.prog 43 #[p.val] w (Stay (.bool (validP p)) w) := by
  have HR := Lib.hid (fun w => ranged_any p.fam p.len w)
  obtain ⟨hfam, hlen, ha, hab⟩ := hB
  by_cases hr : rangedB p.fam p.len = true
  · obtain ⟨l0, l1⟩ := ranged_bd hr
    have HM := Lib.hid (fun w => masked_any p.len p.addr w l0 l1 ha hab)
    have he : ∀ w, (binOp .eql 27 (.agg (bs (maskL p.len p.addr)).toArray) (.agg (bs p.addr).toArray)).run Try.prog w = .ok (.bool (decide (maskL p.len p.addr = p.addr))) w := fun w => binop_ad w _ _ (mkTo_length _ _ _) ha
    rw [hr] at HR
    unfold validP
    rw [hr]
    simp only [Bool.true_and]
    unfold adV at HM
    unfold PreI.val
    have hb0 := Lib.hid (Bk.fresh w 29 (preC p).toArray)
    obtain ⟨x1, x2, x3⟩ := hb0.out.pre
    obtain ⟨fam, len, a⟩ := p
    simp only at *
    obtain ⟨m, hm⟩ : ∃ m, maskL len a = m := ⟨_, rfl⟩
    obtain ⟨q, hq⟩ : ∃ q, decide (m = a) = q := ⟨_, rfl⟩
    rw [hm] at HM he ⊢
    rw [hq] at he ⊢
    have hu := Try.underlying27
    have hi : (Try.prog.info? 27).map (·.size) = some (bs a).length := by rw [bs_length, ha]; exact (size_of infoAd).2
    clear hr l0 l1 hm hq hfam hlen hab
    go_enter Try.func43, Try.ntmps43
    go_wp2_with fail
    refine wp_region_noPanic ?_
    refine wp_region_held_drew (S := fun w' => w'.cell? ⟨w.heap.size, 0, none⟩ = some (.int .i64 fam) ∧ w'.cell? ⟨w.heap.size, 1, none⟩ = some (.int .i64 len) ∧ w'.rangeAt w.heap.size 2 (bs a)) (by kernel_rfl) ?_ (fun hHeld => ?_)
    · go_keep
    refine wpAnyH_take (i := 0) (v := ?_) rfl (by kernel_rfl) (by kernel_rfl) (by kernel_rfl) (fun _ _ _ h => h) (Or.inl ⟨by rfl, fun w hSw => ?_⟩) (by assumption) ?_
    rotate_left
    · obtain ⟨s1, s2, s3⟩ := hSw
      go_simp
      with_reducible rfl
    try simp only [Act.put, List.setIfInBounds_toArray, List.set_cons_zero, List.set_cons_succ]
    refine wpAnyH_take (i := 1) (v := ?_) rfl (by kernel_rfl) (by kernel_rfl) (by kernel_rfl) (fun _ _ _ h => h) (Or.inl ⟨by rfl, fun w hSw => ?_⟩) (by assumption) ?_
    rotate_left
    · obtain ⟨s1, s2, s3⟩ := hSw
      go_simp
      with_reducible rfl
    try simp only [Act.put, List.setIfInBounds_toArray, List.set_cons_zero, List.set_cons_succ]
    refine wpAnyH_take (i := 2) (v := ?_) rfl (by kernel_rfl) (by kernel_rfl) (by kernel_rfl) (fun _ _ _ h => h) (Or.inl ⟨by rfl, fun w hSw => ?_⟩) (by assumption) ?_
    rotate_left
    · obtain ⟨s1, s2, s3⟩ := hSw
      go_simp
      with_reducible rfl
    try simp only [Act.put, List.setIfInBounds_toArray, List.set_cons_zero, List.set_cons_succ]
    refine wpAnyH_take (i := 3) (v := ?_) rfl (by kernel_rfl) (by kernel_rfl) (by kernel_rfl) (fun _ _ _ h => h) (Or.inl ⟨by rfl, fun w hSw => ?_⟩) (by assumption) ?_
    rotate_left
    · obtain ⟨s1, s2, s3⟩ := hSw
      go_simp
      with_reducible rfl
    try simp only [Act.put, List.setIfInBounds_toArray, List.set_cons_zero, List.set_cons_succ]
    refine wpAnyH_ready (rs := [4]) (by kernel_rfl) (by simp) ?_
    refine AllReadyH.cons (o := ⟨some 7, _, _, _, _, _⟩) rfl (fun K hK => ?_) AllReadyH.nil
    go_simp
    go_at_call 54; refine (HR.out _).mono ?_; rintro e w1 ⟨rfl, rfl⟩
    refine hK.out _ _ ?_ (fun hHeld => ?_)
    · go_keep
    clear hK K
    try simp only [Act.put, List.setIfInBounds_toArray, List.set_cons_zero, List.set_cons_succ]
    refine wpAnyH_take (i := 5) (v := ?_) rfl (by kernel_rfl) (by kernel_rfl) (by kernel_rfl) (fun _ _ _ h => h) (Or.inl ⟨by rfl, fun w hSw => ?_⟩) (by assumption) ?_
    rotate_left
    · obtain ⟨s1, s2, s3⟩ := hSw
      go_simp
      with_reducible rfl
    try simp only [Act.put, List.setIfInBounds_toArray, List.set_cons_zero, List.set_cons_succ]
    refine wpAnyH_take (i := 6) (v := ?_) rfl (by kernel_rfl) (by kernel_rfl) (by kernel_rfl) (fun _ _ _ h => h) (Or.inl ⟨by rfl, fun w hSw => ?_⟩) (by assumption) ?_
    rotate_left
    · obtain ⟨s1, s2, s3⟩ := hSw
      go_simp
      with_reducible rfl
    try simp only [Act.put, List.setIfInBounds_toArray, List.set_cons_zero, List.set_cons_succ]
    refine wpAnyH_take (i := 7) (v := .agg (bs a).toArray) rfl (by kernel_rfl) (by kernel_rfl) (by kernel_rfl) (fun _ _ _ h => h) (yieldsIf_load_mid (by rfl) 27 _ rfl _ _ rfl (bs a) _ (fun w hSw => hSw.2.2) hu rfl hi) (by assumption) ?_
    try simp only [Act.put, List.setIfInBounds_toArray, List.set_cons_zero, List.set_cons_succ]
    refine wpAnyH_take (i := 8) (v := ?_) rfl (by kernel_rfl) (by kernel_rfl) (by kernel_rfl) (fun _ _ _ h => h) (Or.inl ⟨by rfl, fun w hSw => ?_⟩) (by assumption) ?_
    rotate_left
    · obtain ⟨s1, s2, s3⟩ := hSw
      go_simp
      with_reducible rfl
    try simp only [Act.put, List.setIfInBounds_toArray, List.set_cons_zero, List.set_cons_succ]
    refine wpAnyH_take (i := 9) (v := ?_) rfl (by kernel_rfl) (by kernel_rfl) (by kernel_rfl) (fun _ _ _ h => h) (Or.inl ⟨by rfl, fun w hSw => ?_⟩) (by assumption) ?_
    rotate_left
    · obtain ⟨s1, s2, s3⟩ := hSw
      go_simp
      with_reducible rfl
    try simp only [Act.put, List.setIfInBounds_toArray, List.set_cons_zero, List.set_cons_succ]
    refine wpAnyH_take (i := 11) (v := ?_) rfl (by kernel_rfl) (by kernel_rfl) (by kernel_rfl) (fun _ _ _ h => h) (Or.inl ⟨by rfl, fun w hSw => ?_⟩) (by assumption) ?_
    rotate_left
    · obtain ⟨s1, s2, s3⟩ := hSw
      go_simp
      with_reducible rfl
    try simp only [Act.put, List.setIfInBounds_toArray, List.set_cons_zero, List.set_cons_succ]
    refine wpAnyH_take (i := 12) (v := .agg (bs a).toArray) rfl (by kernel_rfl) (by kernel_rfl) (by kernel_rfl) (fun _ _ _ h => h) (yieldsIf_load_mid (by rfl) 27 _ rfl _ _ rfl (bs a) _ (fun w hSw => hSw.2.2) hu rfl hi) (by assumption) ?_
    try simp only [Act.put, List.setIfInBounds_toArray, List.set_cons_zero, List.set_cons_succ]
    refine wpAnyH_ready (rs := [10]) (by kernel_rfl) (by simp) ?_
    refine AllReadyH.cons (o := ⟨some 13, _, _, _, _, _⟩) rfl (fun K hK => ?_) AllReadyH.nil
    go_simp
    go_at_call 63; refine (HM.out _).mono ?_; rintro e w1 ⟨rfl, hK1⟩; obtain ⟨z1, z2, z3⟩ := ((hb0.out.drewN 1).and hK1).pre
    refine hK.out _ _ ?_ (fun hHeld => ?_)
    · go_keep
    clear hK K
    try simp only [Act.put, List.setIfInBounds_toArray, List.set_cons_zero, List.set_cons_succ]
    refine wpAnyH_take (i := 13) (v := ?_) rfl (by kernel_rfl) (by kernel_rfl) (by kernel_rfl) (fun _ _ _ h => h) (Or.inl ⟨by rfl, fun w hSw => ?_⟩) (by assumption) ?_
    rotate_left
    · obtain ⟨s1, s2, s3⟩ := hSw
      go_simp
      with_reducible rfl
    try simp only [Act.put, List.setIfInBounds_toArray, List.set_cons_zero, List.set_cons_succ]
    refine wpAnyH_take (i := 14) (v := ?_) rfl (by kernel_rfl) (by kernel_rfl) (by kernel_rfl) (fun _ _ _ h => h) (Or.inl ⟨by rfl, fun w hSw => ?_⟩) (by assumption) ?_
    rotate_left
    · obtain ⟨s1, s2, s3⟩ := hSw
      go_simp
      with_reducible rfl
    try simp only [Act.put, List.setIfInBounds_toArray, List.set_cons_zero, List.set_cons_succ]
    refine wpAnyH_take (i := 15) (v := ?_) rfl (by kernel_rfl) (by kernel_rfl) (by kernel_rfl) (fun _ _ _ h => h) (Or.inl ⟨by rfl, fun w hSw => ?_⟩) (by assumption) ?_
    rotate_left
    · obtain ⟨s1, s2, s3⟩ := hSw
      go_simp
      with_reducible rfl
    try simp only [Act.put, List.setIfInBounds_toArray, List.set_cons_zero, List.set_cons_succ]
    refine wpAnyH_done (by kernel_rfl) ?_ _
    refine NoPanic.normal ?_
    go_wp2_with fail
    go_ret
    exact ⟨rfl, ((Kp.refl _ _).alloc _).drew.and hK1⟩
  · have hr' : rangedB p.fam p.len = false := by simpa using hr
    unfold validP
    rw [hr'] at HR ⊢
    simp only [Bool.false_and]
    unfold PreI.val
    obtain ⟨x1, x2, x3⟩ := (Bk.fresh w 29 (preC p).toArray).pre
    clear hr hr'
    go_enter Try.func43, Try.ntmps43
    go_wp2_with fail
    go_quiet ((go_at_call 54; exact Calls.quiet_of_same (HR.out _)))
    go_wp2_with fail
    go_ret
    exact ⟨rfl, ((Kp.refl _ _).alloc _).drewN _⟩

end Go.Proofs.Ytkkfigdfgagimaa
