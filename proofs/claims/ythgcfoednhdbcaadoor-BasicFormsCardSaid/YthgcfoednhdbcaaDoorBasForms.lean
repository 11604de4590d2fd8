/- BasicForms' walk. No condition but the table of powers of ten. -/
import Derived.Test.YthgcfoednhdbcaaDoorBasN
import Derived.Test.YthgcfoednhdbcaaDoorBasApart
namespace Go.Proofs.YthgcfoednhdbcaaDoor
open Go.RowKit
set_option linter.unusedVariables false
set_option linter.unusedSimpArgs false

theorem rhas_stay (k : Int) (w : World) : Calls Tryd.prog 25 #[.int .i64 k] w (Stay (.bool (hasB k)) w) :=
  (rhas_any k w).mono fun e w' ⟨h1, h2⟩ => ⟨h1, by rw [h2]; exact Kp.refl _ _⟩
theorem equal_same (A B : Option Addr) (c d : Nat) (xs : List Int) (w : World) (hl : xs.length ≤ 140737488355328) (ha : Arr w A (bs xs)) (hb : Arr w B (bs xs)) :
    Calls Tryd.prog 16 #[.slice A xs.length c, .slice B xs.length d] w (Stay (.bool true) w) :=
  (equal_any A B c d xs xs w ha hb hl).mono fun e w' ⟨h1, n, h2⟩ => ⟨by rw [h1]; simp, by rw [h2]; exact (Kp.refl _ _).drewN n⟩
theorem bytes_good' {z : AtI} (hn : 0 ≤ z.n ∧ z.n < 4294967296) (hv : validA z = true) : goodR z.t (bytesA z) = true ∧ big (bytesA z) = z.n := by
  cases hk : wdO z.t with
  | none => unfold validA at hv; rw [hk] at hv; cases hv
  | some r =>
    obtain ⟨a, m, c⟩ := r
    have hm : z.n ≤ m := by have h := hv; unfold validA at h; rw [hk] at h; simp only [Bool.and_eq_true, decide_eq_true_eq] at h; exact h.2
    have hB : bytesA z = putL (wdT z.t) z.n := by unfold bytesA; rw [if_pos hv]
    have hw := (wdO_a hk).1
    have hlt : z.n < 256 ^ (wdT z.t) := by
      rcases wdO_kinds hk with ⟨_, rfl, rfl, _⟩ | ⟨_, rfl, rfl, _⟩ | ⟨_, rfl, rfl, _⟩
      · rw [show wdT z.t = 1 by omega]; omega
      · rw [show wdT z.t = 4 by omega]; omega
      · rw [show wdT z.t = 0 by omega]; omega
    have hb : big (bytesA z) = z.n := by rw [hB, big_putL _ _ hn.1 hlt]
    refine ⟨?_, hb⟩
    unfold goodR
    rw [hk]
    simp only [decide_eq_true_eq]
    rw [hb, hB, putL_length]
    exact ⟨by omega, hm⟩

set_option maxRecDepth 100000 in
set_option maxHeartbeats 1600000 in
theorem bforms_bad (z : AtI) (w : World) (hz : InAt w z) (ld : Ld w) (hsm : z.small) (hv : validA z = false) :
    Calls Tryd.prog 7 #[z.val] w fun e w' => e = .returned (.bool true) ∧ Kp NoB w w' := by
  have HAL := Lib.hid (fun W (k : Kp NoB w W) => alive_any W (ld.tb.and k))
  have HS := Lib.hid (fun W (k : Kp NoB w W) => small_any z W (hz.and k))
  have HB := Lib.hid (fun W => bytes_any z (hz.1.ok hsm) W)
  have HRB := Lib.hid (fun W => rbytes_any z hz.1.n W)
  have HV := Lib.hid (fun W => valid_any z (hz.1.ok hsm) W)
  have HRV := Lib.hid (fun W => rvalid_any z hz.1.n W)
  have HT := Lib.hid (fun W (k : Kp NoB w W) => text_any z (hz.1.ok hsm) W (ld.tb.and k))
  have HRT := Lib.hid (fun W => rtext_any z hz.1.n W)
  have HH := Lib.hid (fun W => has_any z.t hz.1.t W)
  have HRH := Lib.hid (fun W => rhas_stay z.t W)
  have hl4 := bytesA_len z
  have HE := Lib.hid (fun W A B c d h1 h2 => equal_same A B c d (bytesA z) W (by omega) h1 h2)
  obtain ⟨T, hT⟩ : ∃ t, ba (textA z) = t := ⟨_, rfl⟩
  obtain ⟨H, hH⟩ : ∃ t, hasB z.t = t := ⟨_, rfl⟩
  rw [hT] at HT HRT
  rw [hH] at HH HRH
  unfold BytesM at HB
  unfold RBytesM at HRB
  rw [hv] at HB HRB HV HRV
  obtain ⟨L, hL⟩ : ∃ l, bytesA z = l := ⟨_, rfl⟩
  rw [hL] at HB HRB HE
  clear hz ld hsm hv hT hH hL hl4
  unfold AtI.val AtI.cs at *
  go_enter Tryd.func7, Tryd.ntmps7
  go_wp2_with (first
    | (go_at_call 8; (with_reducible refine Calls.mono (HS.out _ ((Kp.refl NoB w).alloc _)) ?_); rintro e w1 ⟨b1, rfl, hs1, hK⟩; have HS1 := Lib.hid hs1; obtain ⟨hk1', hZ'⟩ := fin_at (z := z) hK; have hk1 := Lib.hid hk1'; have hz1 := Lib.hid hZ'; obtain ⟨x0, x1, x2, x3, x4, x5, x6, x7, x8⟩ := hz1.out.attr; clear hK hk1' hZ' hs1)
    | (go_at_call 15; (with_reducible refine Calls.mono (HB.out _) ?_); rintro e w2 ⟨A2, c2, rfl, hA, -, -, hK⟩; have p2 := Lib.hid hA; clear hA; have hk2 := Lib.hid (hk1.out.and hK); have hz2 := Lib.hid (hz1.out.and hK); clear x0 x1 x2 x3 x4 x5 x6 x7 x8; obtain ⟨x0, x1, x2, x3, x4, x5, x6, x7, x8⟩ := hz2.out.attr; clear hK)
    | (go_at_call 21; (with_reducible refine Calls.mono (HRB.out _) ?_); rintro e w3 ⟨A3, c3, rfl, hA, hK⟩; have q3 := Lib.hid hA; have p3 := Lib.hid (p2.out.and hK); clear hA; have hk3 := Lib.hid (hk2.out.and hK); have hz3 := Lib.hid (hz2.out.and hK); clear x0 x1 x2 x3 x4 x5 x6 x7 x8; obtain ⟨x0, x1, x2, x3, x4, x5, x6, x7, x8⟩ := hz3.out.attr; clear hK)
    | (go_at_call 9; refine Calls.mono (HAL.out _ hk1.out) ?_; rintro e w14 ⟨rfl, hK⟩; have hk14 := Lib.hid (hk1.out.and hK); clear hK))
  · go_ret
    exact ⟨rfl, hk14.out⟩
  · go_region_held3 (fun w' => w'.cell? ⟨w.heap.size, 0, none⟩ = some (.int .i64 z.t) ∧ w'.cell? ⟨w.heap.size, 1, none⟩ = some (.bool z.p) ∧ w'.cell? ⟨w.heap.size, 2, none⟩ = some (.int .u32 z.n) ∧ w'.cell? ⟨w.heap.size, 3, none⟩ = some (.int .u32 z.m) ∧ w'.cell? ⟨w.heap.size, 4, none⟩ = some (.slice z.S z.sn z.sc) ∧ w'.cell? ⟨w.heap.size, 5, none⟩ = some (.slice z.L z.ln z.lc) ∧ w'.cell? ⟨w.heap.size, 6, none⟩ = some (.slice z.B z.bn z.bc) ∧ w'.cell? ⟨w.heap.size, 7, none⟩ = some (.int .i64 z.f) ∧ w'.cell? ⟨w.heap.size, 8, none⟩ = some (.slice z.R z.rn z.rc)) (go_keep)
      (first
      | (go_at_call 22; refine Calls.mono (HV.out _) ?_; rintro e w4 ⟨rfl, hK⟩; have hk4 := Lib.hid (hk3.out.drew.and hK); have hz4 := Lib.hid ((bk_drew hz3.out).and hK); have p4 := Lib.hid ((show Arr (World.drew _) _ _ from p3.out).and hK); have q4 := Lib.hid ((show Arr (World.drew _) _ _ from q3.out).and hK); clear x0 x1 x2 x3 x4 x5 x6 x7 x8; obtain ⟨x0, x1, x2, x3, x4, x5, x6, x7, x8⟩ := hz4.out.attr; clear hK)
      | (go_at_call 14; (with_reducible refine Calls.mono (HRV.out _) ?_); rintro e w5 ⟨rfl, hK⟩; have hk5 := Lib.hid (hk4.out.and hK); have hz5 := Lib.hid (hz4.out.and hK); have p5 := Lib.hid (p4.out.and hK); have q5 := Lib.hid (q4.out.and hK); clear x0 x1 x2 x3 x4 x5 x6 x7 x8; obtain ⟨x0, x1, x2, x3, x4, x5, x6, x7, x8⟩ := hz5.out.attr; clear hK)
      | (go_at_call 16; (with_reducible refine Calls.mono (HE.out _ _ _ _ _ p5.out q5.out) ?_); rintro e w6 ⟨rfl, hK⟩; have hk6 := Lib.hid (hk5.out.and hK); have hz6 := Lib.hid (hz5.out.and hK); have p6 := Lib.hid (p5.out.and hK); have q6 := Lib.hid (q5.out.and hK); clear x0 x1 x2 x3 x4 x5 x6 x7 x8; obtain ⟨x0, x1, x2, x3, x4, x5, x6, x7, x8⟩ := hz6.out.attr; clear hK)
      | (go_at_call 17; (with_reducible refine Calls.mono (HT.out _ hk6.out) ?_); rintro e w7 ⟨rfl, hK⟩; have hk7 := Lib.hid (hk6.out.and hK); have hz7 := Lib.hid (hz6.out.and hK); have p7 := Lib.hid (p6.out.and hK); have q7 := Lib.hid (q6.out.and hK); clear x0 x1 x2 x3 x4 x5 x6 x7 x8; obtain ⟨x0, x1, x2, x3, x4, x5, x6, x7, x8⟩ := hz7.out.attr; clear hK)
      | (go_at_call 23; (with_reducible refine Calls.mono (HRT.out _) ?_); rintro e w8 ⟨rfl, hK⟩; have hk8 := Lib.hid (hk7.out.and hK); have hz8 := Lib.hid (hz7.out.and hK); have p8 := Lib.hid (p7.out.and hK); have q8 := Lib.hid (q7.out.and hK); clear x0 x1 x2 x3 x4 x5 x6 x7 x8; obtain ⟨x0, x1, x2, x3, x4, x5, x6, x7, x8⟩ := hz8.out.attr; clear hK)
      | (go_at_call 24; (with_reducible refine Calls.mono (HH.out _) ?_); rintro e w9 ⟨rfl, hK⟩; have hk9 := Lib.hid (hk8.out.and hK); have hz9 := Lib.hid (hz8.out.and hK); have p9 := Lib.hid (p8.out.and hK); have q9 := Lib.hid (q8.out.and hK); clear x0 x1 x2 x3 x4 x5 x6 x7 x8; obtain ⟨x0, x1, x2, x3, x4, x5, x6, x7, x8⟩ := hz9.out.attr; clear hK)
      | (go_at_call 25; (with_reducible refine Calls.mono (HRH.out _) ?_); rintro e w10 ⟨rfl, hK⟩; have hk10 := Lib.hid (hk9.out.and hK); have hz10 := Lib.hid (hz9.out.and hK); have p10 := Lib.hid (p9.out.and hK); have q10 := Lib.hid (q9.out.and hK); clear x0 x1 x2 x3 x4 x5 x6 x7 x8; obtain ⟨x0, x1, x2, x3, x4, x5, x6, x7, x8⟩ := hz10.out.attr; clear hK))
    go_wp2_with (go_at_call 9; refine Calls.mono (HAL.out _ hk10.out) ?_; rintro e w15 ⟨rfl, hK⟩; have hk15 := Lib.hid (hk10.out.and hK); clear hK)
    go_ret
    exact ⟨rfl, hk15.out⟩

set_option maxRecDepth 100000 in
set_option maxHeartbeats 1600000 in
theorem bforms_good (z : AtI) (w : World) (hz : InAt w z) (ld : Ld w) (hsm : z.small) (hv : validA z = true) :
    Calls Tryd.prog 7 #[z.val] w fun e w' => e = .returned (.bool true) ∧ Kp NoB w w' := by
  have HAL := Lib.hid (fun W (k : Kp NoB w W) => alive_any W (ld.tb.and k))
  have HS := Lib.hid (fun W (k : Kp NoB w W) => small_any z W (hz.and k))
  have HB := Lib.hid (fun W => bytes_any z (hz.1.ok hsm) W)
  have HRB := Lib.hid (fun W => rbytes_any z hz.1.n W)
  have HV := Lib.hid (fun W => valid_any z (hz.1.ok hsm) W)
  have HRV := Lib.hid (fun W => rvalid_any z hz.1.n W)
  have HT := Lib.hid (fun W (k : Kp NoB w W) => text_any z (hz.1.ok hsm) W (ld.tb.and k))
  have HRT := Lib.hid (fun W => rtext_any z hz.1.n W)
  have HH := Lib.hid (fun W => has_any z.t hz.1.t W)
  have HRH := Lib.hid (fun W => rhas_stay z.t W)
  have hl4 := bytesA_len z
  have HE := Lib.hid (fun W A B c d h1 h2 => equal_same A B c d (bytesA z) W (by omega) h1 h2)
  obtain ⟨hg, hbig⟩ := bytes_good' hz.1.n hv
  have hib : IsB (bytesA z) := by unfold bytesA; rw [if_pos hv]; exact putL_isB _ _
  have HRD := Lib.hid (fun W A c (h : Arr W A (bs (bytesA z))) => read_any z.t hz.1.t A c (bytesA z) (by omega) W h hib)
  rw [show attrR z.t (bytesA z) = mkA z.t z.n by unfold attrR; rw [if_pos hg, hbig], kind_good hg] at HRD
  have HPL := Lib.hid (fun A W (h : Arr W A [.int .u32 z.n]) => plain_one (mkA z.t z.n) (mkA_ok z.t z.n hz.1.t hz.1.n) A W h)
  have hpl : plainB (mkA z.t z.n) [(mkA z.t z.n).n] = true := by simp [plainB, AtI.bare, mkA]
  rw [hpl] at HPL
  obtain ⟨T, hT⟩ : ∃ t, ba (textA z) = t := ⟨_, rfl⟩
  obtain ⟨H, hH⟩ : ∃ t, hasB z.t = t := ⟨_, rfl⟩
  rw [hT] at HT HRT
  rw [hH] at HH HRH
  unfold BytesM at HB
  unfold RBytesM at HRB
  rw [hv] at HB HRB HV HRV
  obtain ⟨L, hL⟩ : ∃ l, bytesA z = l := ⟨_, rfl⟩
  rw [hL] at HB HRB HE HRD
  clear hz ld hsm hv hT hH hL hl4 hg hbig hib hpl
  unfold AtI.val AtI.cs at *
  unfold mkA at HRD
  go_enter Tryd.func7, Tryd.ntmps7
  go_wp2_with (first
    | (go_at_call 8; (with_reducible refine Calls.mono (HS.out _ ((Kp.refl NoB w).alloc _)) ?_); rintro e w1 ⟨b1, rfl, hs1, hK⟩; have HS1 := Lib.hid hs1; obtain ⟨hk1', hZ'⟩ := fin_at (z := z) hK; have hk1 := Lib.hid hk1'; have hz1 := Lib.hid hZ'; obtain ⟨x0, x1, x2, x3, x4, x5, x6, x7, x8⟩ := hz1.out.attr; clear hK hk1' hZ' hs1)
    | (go_at_call 15; (with_reducible refine Calls.mono (HB.out _) ?_); rintro e w2 ⟨A2, c2, rfl, hA, -, -, hK⟩; have p2 := Lib.hid hA; clear hA; have hk2 := Lib.hid (hk1.out.and hK); have hz2 := Lib.hid (hz1.out.and hK); clear x0 x1 x2 x3 x4 x5 x6 x7 x8; obtain ⟨x0, x1, x2, x3, x4, x5, x6, x7, x8⟩ := hz2.out.attr; clear hK)
    | (go_at_call 21; (with_reducible refine Calls.mono (HRB.out _) ?_); rintro e w3 ⟨A3, c3, rfl, hA, hK⟩; have q3 := Lib.hid hA; have p3 := Lib.hid (p2.out.and hK); clear hA; have hk3 := Lib.hid (hk2.out.and hK); have hz3 := Lib.hid (hz2.out.and hK); clear x0 x1 x2 x3 x4 x5 x6 x7 x8; obtain ⟨x0, x1, x2, x3, x4, x5, x6, x7, x8⟩ := hz3.out.attr; clear hK)
    | (go_at_call 9; refine Calls.mono (HAL.out _ hk1.out) ?_; rintro e w14 ⟨rfl, hK⟩; have hk14 := Lib.hid (hk1.out.and hK); clear hK))
  · go_ret
    exact ⟨rfl, hk14.out⟩
  · go_region_held3 (fun w' => w'.cell? ⟨w.heap.size, 0, none⟩ = some (.int .i64 z.t) ∧ w'.cell? ⟨w.heap.size, 1, none⟩ = some (.bool z.p) ∧ w'.cell? ⟨w.heap.size, 2, none⟩ = some (.int .u32 z.n) ∧ w'.cell? ⟨w.heap.size, 3, none⟩ = some (.int .u32 z.m) ∧ w'.cell? ⟨w.heap.size, 4, none⟩ = some (.slice z.S z.sn z.sc) ∧ w'.cell? ⟨w.heap.size, 5, none⟩ = some (.slice z.L z.ln z.lc) ∧ w'.cell? ⟨w.heap.size, 6, none⟩ = some (.slice z.B z.bn z.bc) ∧ w'.cell? ⟨w.heap.size, 7, none⟩ = some (.int .i64 z.f) ∧ w'.cell? ⟨w.heap.size, 8, none⟩ = some (.slice z.R z.rn z.rc)) (go_keep)
      (first
      | (go_at_call 22; refine Calls.mono (HV.out _) ?_; rintro e w4 ⟨rfl, hK⟩; have hk4 := Lib.hid (hk3.out.drew.and hK); have hz4 := Lib.hid ((bk_drew hz3.out).and hK); have p4 := Lib.hid ((show Arr (World.drew _) _ _ from p3.out).and hK); have q4 := Lib.hid ((show Arr (World.drew _) _ _ from q3.out).and hK); clear x0 x1 x2 x3 x4 x5 x6 x7 x8; obtain ⟨x0, x1, x2, x3, x4, x5, x6, x7, x8⟩ := hz4.out.attr; clear hK)
      | (go_at_call 14; (with_reducible refine Calls.mono (HRV.out _) ?_); rintro e w5 ⟨rfl, hK⟩; have hk5 := Lib.hid (hk4.out.and hK); have hz5 := Lib.hid (hz4.out.and hK); have p5 := Lib.hid (p4.out.and hK); have q5 := Lib.hid (q4.out.and hK); clear x0 x1 x2 x3 x4 x5 x6 x7 x8; obtain ⟨x0, x1, x2, x3, x4, x5, x6, x7, x8⟩ := hz5.out.attr; clear hK)
      | (go_at_call 16; (with_reducible refine Calls.mono (HE.out _ _ _ _ _ p5.out q5.out) ?_); rintro e w6 ⟨rfl, hK⟩; have hk6 := Lib.hid (hk5.out.and hK); have hz6 := Lib.hid (hz5.out.and hK); have p6 := Lib.hid (p5.out.and hK); have q6 := Lib.hid (q5.out.and hK); clear x0 x1 x2 x3 x4 x5 x6 x7 x8; obtain ⟨x0, x1, x2, x3, x4, x5, x6, x7, x8⟩ := hz6.out.attr; clear hK)
      | (go_at_call 17; (with_reducible refine Calls.mono (HT.out _ hk6.out) ?_); rintro e w7 ⟨rfl, hK⟩; have hk7 := Lib.hid (hk6.out.and hK); have hz7 := Lib.hid (hz6.out.and hK); have p7 := Lib.hid (p6.out.and hK); have q7 := Lib.hid (q6.out.and hK); clear x0 x1 x2 x3 x4 x5 x6 x7 x8; obtain ⟨x0, x1, x2, x3, x4, x5, x6, x7, x8⟩ := hz7.out.attr; clear hK)
      | (go_at_call 23; (with_reducible refine Calls.mono (HRT.out _) ?_); rintro e w8 ⟨rfl, hK⟩; have hk8 := Lib.hid (hk7.out.and hK); have hz8 := Lib.hid (hz7.out.and hK); have p8 := Lib.hid (p7.out.and hK); have q8 := Lib.hid (q7.out.and hK); clear x0 x1 x2 x3 x4 x5 x6 x7 x8; obtain ⟨x0, x1, x2, x3, x4, x5, x6, x7, x8⟩ := hz8.out.attr; clear hK)
      | (go_at_call 24; (with_reducible refine Calls.mono (HH.out _) ?_); rintro e w9 ⟨rfl, hK⟩; have hk9 := Lib.hid (hk8.out.and hK); have hz9 := Lib.hid (hz8.out.and hK); have p9 := Lib.hid (p8.out.and hK); have q9 := Lib.hid (q8.out.and hK); clear x0 x1 x2 x3 x4 x5 x6 x7 x8; obtain ⟨x0, x1, x2, x3, x4, x5, x6, x7, x8⟩ := hz9.out.attr; clear hK)
      | (go_at_call 25; (with_reducible refine Calls.mono (HRH.out _) ?_); rintro e w10 ⟨rfl, hK⟩; have hk10 := Lib.hid (hk9.out.and hK); have hz10 := Lib.hid (hz9.out.and hK); have p10 := Lib.hid (p9.out.and hK); have q10 := Lib.hid (q9.out.and hK); clear x0 x1 x2 x3 x4 x5 x6 x7 x8; obtain ⟨x0, x1, x2, x3, x4, x5, x6, x7, x8⟩ := hz10.out.attr; clear hK))
    go_wp2_with (first
      | (go_at_call 19; (with_reducible refine Calls.mono (HRD.out _ _ _ p10.out) ?_); rintro e w11 ⟨rfl, hK⟩; have hk11 := Lib.hid (hk10.out.and hK); have hz11 := Lib.hid (hz10.out.and hK); have p11 := Lib.hid (p10.out.and hK); have q11 := Lib.hid (q10.out.and hK); clear x0 x1 x2 x3 x4 x5 x6 x7 x8; obtain ⟨x0, x1, x2, x3, x4, x5, x6, x7, x8⟩ := hz11.out.attr; clear hK)
      | (go_at_call 9; refine Calls.mono (HAL.out _ (hk11.out.alloc _)) ?_; rintro e w12 ⟨rfl, hK⟩; have hk12 := Lib.hid ((hk11.out.alloc _).and hK); have hz12 := Lib.hid (((show Bk _ _ _ _ from hz11.out).alloc _).and hK); have hy12 := Lib.hid ((Bk.fresh w11 28 (mkA z.t z.n).cs).and hK); clear x0 x1 x2 x3 x4 x5 x6 x7 x8; obtain ⟨x0, x1, x2, x3, x4, x5, x6, x7, x8⟩ := hz12.out.attr; obtain ⟨y0, y1, y2, y3, y4, y5, y6, y7, y8⟩ := attrM hy12.out; clear hK)
      | (go_at_call 10; refine Calls.mono (HPL.out _ _ (arr_one ((Bk.fresh w12 22 #[.int .u32 z.n]).cell 0))) ?_; rintro e w13 ⟨rfl, hK⟩; have hk13 := Lib.hid ((hk12.out.alloc _).and hK); clear hK))
    go_ret
    exact ⟨by simp, hk13.out⟩

set_option maxRecDepth 100000 in
theorem bforms_big (z : AtI) (w : World) (hz : InAt w z) (ld : Ld w) (hsm : ¬ z.small) :
    Calls Tryd.prog 7 #[z.val] w fun e w' => e = .returned (.bool true) ∧ Kp NoB w w' := by
  have HAL := Lib.hid (fun W (k : Kp NoB w W) => alive_any W (ld.tb.and k))
  have HS := Lib.hid (fun W (k : Kp NoB w W) => (small_any z W (hz.and k)).mono fun e w' (h : SmallM z W e w') => (show Stay (.bool false) W e w' by
    obtain ⟨b, rfl, hb, hK⟩ := h
    cases b with
    | false => exact ⟨rfl, hK⟩
    | true => exact absurd (hb rfl) hsm))
  clear hz ld hsm
  unfold AtI.val AtI.cs at *
  go_enter Tryd.func7, Tryd.ntmps7
  go_wp2_with (first
    | (go_at_call 8; refine Calls.mono (HS.out _ ((Kp.refl NoB w).alloc _)) ?_; rintro e w1 ⟨rfl, hK⟩; have hk1 := Lib.hid (((Kp.refl NoB w).alloc _).and hK); clear hK)
    | (go_at_call 9; refine Calls.mono (HAL.out _ hk1.out) ?_; rintro e w14 ⟨rfl, hK⟩; have hk14 := Lib.hid (hk1.out.and hK); clear hK))
  go_ret
  exact ⟨rfl, hk14.out⟩

theorem bforms_row (z : AtI) (w : World) (hz : InAt w z) (ld : Ld w) :
    Calls Tryd.prog 7 #[z.val] w fun e w' => e = .returned (.bool true) ∧ Kp NoB w w' := by
  by_cases hsm : z.small
  · cases hv : validA z with
    | false => exact bforms_bad z w hz ld hsm hv
    | true => exact bforms_good z w hz ld hsm hv
  · exact bforms_big z w hz ld hsm

end Go.Proofs.YthgcfoednhdbcaaDoor
