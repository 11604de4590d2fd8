/- AggregateForms' walk. No condition but the table of powers of ten. -/
import Derived.Test.YtnjdkcnafjkckaaDoorAggT
namespace Go.Proofs.YtnjdkcnafjkckaaDoor
open Go.RowKit
set_option linter.unusedVariables false
set_option linter.unusedSimpArgs false

theorem bk_p {w : World} {b : Nat} {t : TypeId} {z : AtI} {o : Obj} (h : Bk w b t z.cs) : Bk ((w.setCell ⟨b, 1, none⟩ (.bool false)).alloc o) b t ({ z with p := false } : AtI).cs := (h.set 1 (.bool false)).alloc o
theorem bk_fresh_set (w : World) (p : Addr) (v : Value) (t : TypeId) (cs : Array Value) : Bk ((w.setCell p v).alloc (.cells cs t)) w.heap.size t cs := by
  have h := Bk.fresh (w.setCell p v) t cs
  rwa [show (w.setCell p v).heap.size = w.heap.size by simp] at h
theorem attrMG {w : World} {b : Nat} {t : TypeId} {k n m : Int} (h : Bk w b t (mkG k n m).cs) :
    w.cell? ⟨b, 0, none⟩ = some (.int .i64 k) ∧ w.cell? ⟨b, 1, none⟩ = some (.bool false) ∧ w.cell? ⟨b, 2, none⟩ = some (.int .u32 n) ∧ w.cell? ⟨b, 3, none⟩ = some (.int .u32 m) ∧
    w.cell? ⟨b, 4, none⟩ = some (.slice none 0 0) ∧ w.cell? ⟨b, 5, none⟩ = some (.slice none 0 0) ∧ w.cell? ⟨b, 6, none⟩ = some (.slice none 0 0) ∧ w.cell? ⟨b, 7, none⟩ = some (.int .i64 0) ∧ w.cell? ⟨b, 8, none⟩ = some (.slice none 0 0) :=
  h.attr

theorem equal_same (A B : Option Addr) (c d : Nat) (xs : List Int) (w : World) (hl : xs.length ≤ 140737488355328) (ha : Arr w A (bs xs)) (hb : Arr w B (bs xs)) :
    Calls Tryd.prog 20 #[.slice A xs.length c, .slice B xs.length d] w (Stay (.bool true) w) :=
  (equal_any A B c d xs xs w ha hb hl).mono fun e w' ⟨h1, n, h2⟩ => ⟨by rw [h1]; simp, by rw [h2]; exact (Kp.refl _ _).drewN n⟩

set_option maxRecDepth 100000 in
set_option maxHeartbeats 1600000 in
theorem aforms_bad (width : Int) (z : AtI) (w : World) (hz : InAt w z) (ld : Ld w) (hsm : z.small) (hv : validG width z = false) :
    Calls Tryd.prog 5 #[.int .i64 width, z.val] w fun e w' => e = .returned (.bool true) ∧ Kp NoB w w' := by
  have HAL := Lib.hid (fun W (k : Kp NoB w W) => alive_any W (ld.tb.and k))
  have HS := Lib.hid (fun W (k : Kp NoB w W) => small_any z W (hz.and k))
  have HB := Lib.hid (fun W => gbytes_any width z (hz.1.ok hsm) W)
  have HRB := Lib.hid (fun W => grbytes_any width z (hz.1.ok hsm) W)
  have HV := Lib.hid (fun W => gvalid_any width z (hz.1.ok hsm) W)
  have HRV := Lib.hid (fun W => grvalid_any width z hz.1.n W)
  have HT := Lib.hid (fun W (k : Kp NoB w W) => gtext_any z (hz.1.ok hsm) W (ld.tb.and k))
  have HRT := Lib.hid (fun W => grtext_any z (hz.1.ok hsm) W)
  have HH := Lib.hid (fun W => ghas_any z.t W)
  have HRH := Lib.hid (fun W => grhas_any z.t W)
  have hl4 := bytesG_short width z
  have HE := Lib.hid (fun W A B c d h1 h2 => equal_same A B c d (bytesG width z) W (by omega) h1 h2)
  obtain ⟨T, hT⟩ : ∃ t, ba (textG z) = t := ⟨_, rfl⟩
  obtain ⟨H, hH⟩ : ∃ t, hasG z.t = t := ⟨_, rfl⟩
  rw [hT] at HT HRT
  rw [hH] at HH HRH
  unfold GBytesM at HB
  unfold GRBytesM at HRB
  rw [hv] at HB HRB HV HRV
  obtain ⟨L, hL⟩ : ∃ l, bytesG width z = l := ⟨_, rfl⟩
  rw [hL] at HB HRB HE
  clear hz ld hsm hv hT hH hL hl4
  unfold AtI.val AtI.cs at *
  go_enter Tryd.func5, Tryd.ntmps5
  go_wp2_with (first
    | (go_at_call 9; (with_reducible refine Calls.mono (HS.out _ ((Kp.refl NoB w).alloc _)) ?_); rintro e w1 ⟨b1, rfl, hs1, hK⟩; have HS1 := Lib.hid hs1; obtain ⟨hk1', hZ'⟩ := fin_at (z := z) hK; have hk1 := Lib.hid hk1'; have hz1 := Lib.hid hZ'; obtain ⟨x0, x1, x2, x3, x4, x5, x6, x7, x8⟩ := hz1.out.attr; clear hK hk1' hZ' hs1)
    | (go_at_call 18; (with_reducible refine Calls.mono (HB.out _) ?_); rintro e w2 ⟨A2, c2, rfl, hA, -, -, hK⟩; have p2 := Lib.hid hA; clear hA; have hk2 := Lib.hid (hk1.out.and hK); have hz2 := Lib.hid (hz1.out.and hK); clear x0 x1 x2 x3 x4 x5 x6 x7 x8; obtain ⟨x0, x1, x2, x3, x4, x5, x6, x7, x8⟩ := hz2.out.attr; clear hK)
    | (go_at_call 19; (with_reducible refine Calls.mono (HRB.out _) ?_); rintro e w3 ⟨A3, c3, rfl, hA, hK⟩; have q3 := Lib.hid hA; have p3 := Lib.hid (p2.out.and hK); clear hA; have hk3 := Lib.hid (hk2.out.and hK); have hz3 := Lib.hid (hz2.out.and hK); clear x0 x1 x2 x3 x4 x5 x6 x7 x8; obtain ⟨x0, x1, x2, x3, x4, x5, x6, x7, x8⟩ := hz3.out.attr; clear hK)
    | (go_at_call 8; refine Calls.mono (HAL.out _ hk1.out) ?_; rintro e w14 ⟨rfl, hK⟩; have hk14 := Lib.hid (hk1.out.and hK); clear hK))
  · go_ret
    exact ⟨rfl, hk14.out⟩
  · go_region_held3 (fun w' => w'.cell? ⟨w.heap.size, 0, none⟩ = some (.int .i64 z.t) ∧ w'.cell? ⟨w.heap.size, 1, none⟩ = some (.bool z.p) ∧ w'.cell? ⟨w.heap.size, 2, none⟩ = some (.int .u32 z.n) ∧ w'.cell? ⟨w.heap.size, 3, none⟩ = some (.int .u32 z.m) ∧ w'.cell? ⟨w.heap.size, 4, none⟩ = some (.slice z.S z.sn z.sc) ∧ w'.cell? ⟨w.heap.size, 5, none⟩ = some (.slice z.L z.ln z.lc) ∧ w'.cell? ⟨w.heap.size, 6, none⟩ = some (.slice z.B z.bn z.bc) ∧ w'.cell? ⟨w.heap.size, 7, none⟩ = some (.int .i64 z.f) ∧ w'.cell? ⟨w.heap.size, 8, none⟩ = some (.slice z.R z.rn z.rc)) (go_keep)
      (first
      | (go_at_call 16; (with_reducible refine Calls.mono (HV.out _) ?_); rintro e w4 ⟨rfl, hK⟩; have hk4 := Lib.hid (hk3.out.drew.and hK); have hz4 := Lib.hid ((bk_drew hz3.out).and hK); have p4 := Lib.hid ((show Arr (World.drew _) _ _ from p3.out).and hK); have q4 := Lib.hid ((show Arr (World.drew _) _ _ from q3.out).and hK); clear x0 x1 x2 x3 x4 x5 x6 x7 x8; obtain ⟨x0, x1, x2, x3, x4, x5, x6, x7, x8⟩ := hz4.out.attr; clear hK)
      | (go_at_call 17; (with_reducible refine Calls.mono (HRV.out _) ?_); rintro e w5 ⟨rfl, hK⟩; have hk5 := Lib.hid (hk4.out.and hK); have hz5 := Lib.hid (hz4.out.and hK); have p5 := Lib.hid (p4.out.and hK); have q5 := Lib.hid (q4.out.and hK); clear x0 x1 x2 x3 x4 x5 x6 x7 x8; obtain ⟨x0, x1, x2, x3, x4, x5, x6, x7, x8⟩ := hz5.out.attr; clear hK)
      | (go_at_call 20; (with_reducible refine Calls.mono (HE.out _ _ _ _ _ p5.out q5.out) ?_); rintro e w6 ⟨rfl, hK⟩; have hk6 := Lib.hid (hk5.out.and hK); have hz6 := Lib.hid (hz5.out.and hK); have p6 := Lib.hid (p5.out.and hK); have q6 := Lib.hid (q5.out.and hK); clear x0 x1 x2 x3 x4 x5 x6 x7 x8; obtain ⟨x0, x1, x2, x3, x4, x5, x6, x7, x8⟩ := hz6.out.attr; clear hK)
      | (go_at_call 21; (with_reducible refine Calls.mono (HT.out _ hk6.out) ?_); rintro e w7 ⟨rfl, hK⟩; have hk7 := Lib.hid (hk6.out.and hK); have hz7 := Lib.hid (hz6.out.and hK); have p7 := Lib.hid (p6.out.and hK); have q7 := Lib.hid (q6.out.and hK); clear x0 x1 x2 x3 x4 x5 x6 x7 x8; obtain ⟨x0, x1, x2, x3, x4, x5, x6, x7, x8⟩ := hz7.out.attr; clear hK)
      | (go_at_call 22; (with_reducible refine Calls.mono (HRT.out _) ?_); rintro e w8 ⟨rfl, hK⟩; have hk8 := Lib.hid (hk7.out.and hK); have hz8 := Lib.hid (hz7.out.and hK); have p8 := Lib.hid (p7.out.and hK); have q8 := Lib.hid (q7.out.and hK); clear x0 x1 x2 x3 x4 x5 x6 x7 x8; obtain ⟨x0, x1, x2, x3, x4, x5, x6, x7, x8⟩ := hz8.out.attr; clear hK)
      | (go_at_call 23; (with_reducible refine Calls.mono (HH.out _) ?_); rintro e w9 ⟨rfl, hK⟩; have hk9 := Lib.hid (hk8.out.and hK); have hz9 := Lib.hid (hz8.out.and hK); have p9 := Lib.hid (p8.out.and hK); have q9 := Lib.hid (q8.out.and hK); clear x0 x1 x2 x3 x4 x5 x6 x7 x8; obtain ⟨x0, x1, x2, x3, x4, x5, x6, x7, x8⟩ := hz9.out.attr; clear hK)
      | (go_at_call 24; (with_reducible refine Calls.mono (HRH.out _) ?_); rintro e w10 ⟨rfl, hK⟩; have hk10 := Lib.hid (hk9.out.and hK); have hz10 := Lib.hid (hz9.out.and hK); have p10 := Lib.hid (p9.out.and hK); have q10 := Lib.hid (q9.out.and hK); clear x0 x1 x2 x3 x4 x5 x6 x7 x8; obtain ⟨x0, x1, x2, x3, x4, x5, x6, x7, x8⟩ := hz10.out.attr; clear hK))
    go_wp2_with (go_at_call 8; refine Calls.mono (HAL.out _ hk10.out) ?_; rintro e w15 ⟨rfl, hK⟩; have hk15 := Lib.hid (hk10.out.and hK); clear hK)
    go_ret
    exact ⟨rfl, hk15.out⟩

set_option maxRecDepth 100000 in
set_option maxHeartbeats 1600000 in
theorem aforms_good (width : Int) (z : AtI) (w : World) (hz : InAt w z) (ld : Ld w) (hsm : z.small) (hv : validG width z = true) :
    Calls Tryd.prog 5 #[.int .i64 width, z.val] w fun e w' => e = .returned (.bool true) ∧ Kp NoB w w' := by
  have HAL := Lib.hid (fun W (k : Kp NoB w W) => alive_any W (ld.tb.and k))
  have HS := Lib.hid (fun W (k : Kp NoB w W) => small_any z W (hz.and k))
  have HB := Lib.hid (fun W => gbytes_any width z (hz.1.ok hsm) W)
  have HRB := Lib.hid (fun W => grbytes_any width z (hz.1.ok hsm) W)
  have HV := Lib.hid (fun W => gvalid_any width z (hz.1.ok hsm) W)
  have HRV := Lib.hid (fun W => grvalid_any width z hz.1.n W)
  have HT := Lib.hid (fun W (k : Kp NoB w W) => gtext_any z (hz.1.ok hsm) W (ld.tb.and k))
  have HRT := Lib.hid (fun W => grtext_any z (hz.1.ok hsm) W)
  have HH := Lib.hid (fun W => ghas_any z.t W)
  have HRH := Lib.hid (fun W => grhas_any z.t W)
  have hl4 := bytesG_short width z
  have HE := Lib.hid (fun W A B c d h1 h2 => equal_same A B c d (bytesG width z) W (by omega) h1 h2)
  obtain ⟨hat, hkd⟩ := read_bytes hz.1.n hz.1.m hv
  obtain ⟨-, -, -, hbare, -⟩ := validG_k hz.1.n hv
  have HRD := Lib.hid (fun W A c (h : Arr W A (bs (bytesG width z))) => gread_any width z.t A c (bytesG width z) (by omega) W h (bytesG_isB width z))
  rw [hat, hkd] at HRD
  have HSM := Lib.hid (fun W => gsame_any (mkG z.t z.n z.m) { z with p := false } rfl rfl rfl rfl (by simp [AtI.bare, mkG]) hbare W)
  obtain ⟨T, hT⟩ : ∃ t, ba (textG z) = t := ⟨_, rfl⟩
  obtain ⟨H, hH⟩ : ∃ t, hasG z.t = t := ⟨_, rfl⟩
  rw [hT] at HT HRT
  rw [hH] at HH HRH
  unfold GBytesM at HB
  unfold GRBytesM at HRB
  rw [hv] at HB HRB HV HRV
  obtain ⟨L, hL⟩ : ∃ l, bytesG width z = l := ⟨_, rfl⟩
  rw [hL] at HB HRB HE HRD
  clear hz ld hsm hv hT hH hL hl4 hat hkd hbare
  unfold AtI.val AtI.cs at *
  unfold mkG at HRD HSM
  simp only at HRD HSM
  go_enter Tryd.func5, Tryd.ntmps5
  go_wp2_with (first
    | (go_at_call 9; (with_reducible refine Calls.mono (HS.out _ ((Kp.refl NoB w).alloc _)) ?_); rintro e w1 ⟨b1, rfl, hs1, hK⟩; have HS1 := Lib.hid hs1; obtain ⟨hk1', hZ'⟩ := fin_at (z := z) hK; have hk1 := Lib.hid hk1'; have hz1 := Lib.hid hZ'; obtain ⟨x0, x1, x2, x3, x4, x5, x6, x7, x8⟩ := hz1.out.attr; clear hK hk1' hZ' hs1)
    | (go_at_call 18; (with_reducible refine Calls.mono (HB.out _) ?_); rintro e w2 ⟨A2, c2, rfl, hA, -, -, hK⟩; have p2 := Lib.hid hA; clear hA; have hk2 := Lib.hid (hk1.out.and hK); have hz2 := Lib.hid (hz1.out.and hK); clear x0 x1 x2 x3 x4 x5 x6 x7 x8; obtain ⟨x0, x1, x2, x3, x4, x5, x6, x7, x8⟩ := hz2.out.attr; clear hK)
    | (go_at_call 19; (with_reducible refine Calls.mono (HRB.out _) ?_); rintro e w3 ⟨A3, c3, rfl, hA, hK⟩; have q3 := Lib.hid hA; have p3 := Lib.hid (p2.out.and hK); clear hA; have hk3 := Lib.hid (hk2.out.and hK); have hz3 := Lib.hid (hz2.out.and hK); clear x0 x1 x2 x3 x4 x5 x6 x7 x8; obtain ⟨x0, x1, x2, x3, x4, x5, x6, x7, x8⟩ := hz3.out.attr; clear hK)
    | (go_at_call 8; refine Calls.mono (HAL.out _ hk1.out) ?_; rintro e w14 ⟨rfl, hK⟩; have hk14 := Lib.hid (hk1.out.and hK); clear hK))
  · go_ret
    exact ⟨rfl, hk14.out⟩
  · go_region_held3 (fun w' => w'.cell? ⟨w.heap.size, 0, none⟩ = some (.int .i64 z.t) ∧ w'.cell? ⟨w.heap.size, 1, none⟩ = some (.bool z.p) ∧ w'.cell? ⟨w.heap.size, 2, none⟩ = some (.int .u32 z.n) ∧ w'.cell? ⟨w.heap.size, 3, none⟩ = some (.int .u32 z.m) ∧ w'.cell? ⟨w.heap.size, 4, none⟩ = some (.slice z.S z.sn z.sc) ∧ w'.cell? ⟨w.heap.size, 5, none⟩ = some (.slice z.L z.ln z.lc) ∧ w'.cell? ⟨w.heap.size, 6, none⟩ = some (.slice z.B z.bn z.bc) ∧ w'.cell? ⟨w.heap.size, 7, none⟩ = some (.int .i64 z.f) ∧ w'.cell? ⟨w.heap.size, 8, none⟩ = some (.slice z.R z.rn z.rc)) (go_keep)
      (first
      | (go_at_call 16; (with_reducible refine Calls.mono (HV.out _) ?_); rintro e w4 ⟨rfl, hK⟩; have hk4 := Lib.hid (hk3.out.drew.and hK); have hz4 := Lib.hid ((bk_drew hz3.out).and hK); have p4 := Lib.hid ((show Arr (World.drew _) _ _ from p3.out).and hK); have q4 := Lib.hid ((show Arr (World.drew _) _ _ from q3.out).and hK); clear x0 x1 x2 x3 x4 x5 x6 x7 x8; obtain ⟨x0, x1, x2, x3, x4, x5, x6, x7, x8⟩ := hz4.out.attr; clear hK)
      | (go_at_call 17; (with_reducible refine Calls.mono (HRV.out _) ?_); rintro e w5 ⟨rfl, hK⟩; have hk5 := Lib.hid (hk4.out.and hK); have hz5 := Lib.hid (hz4.out.and hK); have p5 := Lib.hid (p4.out.and hK); have q5 := Lib.hid (q4.out.and hK); clear x0 x1 x2 x3 x4 x5 x6 x7 x8; obtain ⟨x0, x1, x2, x3, x4, x5, x6, x7, x8⟩ := hz5.out.attr; clear hK)
      | (go_at_call 20; (with_reducible refine Calls.mono (HE.out _ _ _ _ _ p5.out q5.out) ?_); rintro e w6 ⟨rfl, hK⟩; have hk6 := Lib.hid (hk5.out.and hK); have hz6 := Lib.hid (hz5.out.and hK); have p6 := Lib.hid (p5.out.and hK); have q6 := Lib.hid (q5.out.and hK); clear x0 x1 x2 x3 x4 x5 x6 x7 x8; obtain ⟨x0, x1, x2, x3, x4, x5, x6, x7, x8⟩ := hz6.out.attr; clear hK)
      | (go_at_call 21; (with_reducible refine Calls.mono (HT.out _ hk6.out) ?_); rintro e w7 ⟨rfl, hK⟩; have hk7 := Lib.hid (hk6.out.and hK); have hz7 := Lib.hid (hz6.out.and hK); have p7 := Lib.hid (p6.out.and hK); have q7 := Lib.hid (q6.out.and hK); clear x0 x1 x2 x3 x4 x5 x6 x7 x8; obtain ⟨x0, x1, x2, x3, x4, x5, x6, x7, x8⟩ := hz7.out.attr; clear hK)
      | (go_at_call 22; (with_reducible refine Calls.mono (HRT.out _) ?_); rintro e w8 ⟨rfl, hK⟩; have hk8 := Lib.hid (hk7.out.and hK); have hz8 := Lib.hid (hz7.out.and hK); have p8 := Lib.hid (p7.out.and hK); have q8 := Lib.hid (q7.out.and hK); clear x0 x1 x2 x3 x4 x5 x6 x7 x8; obtain ⟨x0, x1, x2, x3, x4, x5, x6, x7, x8⟩ := hz8.out.attr; clear hK)
      | (go_at_call 23; (with_reducible refine Calls.mono (HH.out _) ?_); rintro e w9 ⟨rfl, hK⟩; have hk9 := Lib.hid (hk8.out.and hK); have hz9 := Lib.hid (hz8.out.and hK); have p9 := Lib.hid (p8.out.and hK); have q9 := Lib.hid (q8.out.and hK); clear x0 x1 x2 x3 x4 x5 x6 x7 x8; obtain ⟨x0, x1, x2, x3, x4, x5, x6, x7, x8⟩ := hz9.out.attr; clear hK)
      | (go_at_call 24; (with_reducible refine Calls.mono (HRH.out _) ?_); rintro e w10 ⟨rfl, hK⟩; have hk10 := Lib.hid (hk9.out.and hK); have hz10 := Lib.hid (hz9.out.and hK); have p10 := Lib.hid (p9.out.and hK); have q10 := Lib.hid (q9.out.and hK); clear x0 x1 x2 x3 x4 x5 x6 x7 x8; obtain ⟨x0, x1, x2, x3, x4, x5, x6, x7, x8⟩ := hz10.out.attr; clear hK))
    go_wp2_with (first
      | (go_at_call 25; (with_reducible refine Calls.mono (HRD.out _ _ _ p10.out) ?_); rintro e w11 ⟨rfl, hK⟩; have hk11 := Lib.hid (hk10.out.and hK); have hz11 := Lib.hid (hz10.out.and hK); clear x0 x1 x2 x3 x4 x5 x6 x7 x8; obtain ⟨x0, x1, x2, x3, x4, x5, x6, x7, x8⟩ := hz11.out.attr; have fz1 := hz11.out.frozen 1; have hlt : w.heap.size < w11.heap.size := hz11.out.lt; have hne : ¬ w.heap.size = w11.heap.size := Nat.ne_of_lt hlt; clear hK)
      | (go_at_call 8; refine Calls.mono (HAL.out _ ((hk11.out.setCell (fun q => absurd q (by simp)) _).alloc _)) ?_; rintro e w12 ⟨rfl, hK⟩; have hk12 := Lib.hid (((hk11.out.setCell (fun q => absurd q (by simp)) _).alloc _).and hK); have hz12 := Lib.hid ((bk_p hz11.out).and hK); have hy12 := Lib.hid ((bk_fresh_set w11 _ _ 30 (mkG z.t z.n z.m).cs).and hK); clear x0 x1 x2 x3 x4 x5 x6 x7 x8; obtain ⟨x0, x1, x2, x3, x4, x5, x6, x7, x8⟩ := hz12.out.attr; simp only at x0 x1 x2 x3 x4 x5 x6 x7 x8; obtain ⟨y0, y1, y2, y3, y4, y5, y6, y7, y8⟩ := attrMG hy12.out; clear hK)
      | (go_at_call 12; refine Calls.mono (HSM.out _) ?_; rintro e w13 ⟨rfl, hK⟩; have hk13 := Lib.hid (hk12.out.and hK); clear hK))
    go_ret
    exact ⟨by simp, hk13.out⟩

set_option maxRecDepth 100000 in
theorem aforms_big (width : Int) (z : AtI) (w : World) (hz : InAt w z) (ld : Ld w) (hsm : ¬ z.small) :
    Calls Tryd.prog 5 #[.int .i64 width, z.val] w fun e w' => e = .returned (.bool true) ∧ Kp NoB w w' := by
  have HAL := Lib.hid (fun W (k : Kp NoB w W) => alive_any W (ld.tb.and k))
  have HS := Lib.hid (fun W (k : Kp NoB w W) => (small_any z W (hz.and k)).mono fun e w' (h : SmallM z W e w') => (show Stay (.bool false) W e w' by
    obtain ⟨b, rfl, hb, hK⟩ := h
    cases b with
    | false => exact ⟨rfl, hK⟩
    | true => exact absurd (hb rfl) hsm))
  clear hz ld hsm
  unfold AtI.val AtI.cs at *
  go_enter Tryd.func5, Tryd.ntmps5
  go_wp2_with (first
    | (go_at_call 9; refine Calls.mono (HS.out _ ((Kp.refl NoB w).alloc _)) ?_; rintro e w1 ⟨rfl, hK⟩; have hk1 := Lib.hid (((Kp.refl NoB w).alloc _).and hK); clear hK)
    | (go_at_call 8; refine Calls.mono (HAL.out _ hk1.out) ?_; rintro e w14 ⟨rfl, hK⟩; have hk14 := Lib.hid (hk1.out.and hK); clear hK))
  go_ret
  exact ⟨rfl, hk14.out⟩

theorem aforms_row (width : Int) (z : AtI) (w : World) (hw : -9223372036854775808 ≤ width ∧ width ≤ 9223372036854775807) (hz : InAt w z) (ld : Ld w) :
    Calls Tryd.prog 5 #[.int .i64 width, z.val] w fun e w' => e = .returned (.bool true) ∧ Kp NoB w w' := by
  by_cases hsm : z.small
  · cases hv : validG width z with
    | false => exact aforms_bad width z w hz ld hsm hv
    | true => exact aforms_good width z w hz ld hsm hv
  · exact aforms_big width z w hz ld hsm

end Go.Proofs.YtnjdkcnafjkckaaDoor
