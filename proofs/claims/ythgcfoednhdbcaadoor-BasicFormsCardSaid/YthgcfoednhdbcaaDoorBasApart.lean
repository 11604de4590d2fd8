/- BasicApart's walk. No condition but the table of powers of ten. -/
import Derived.Test.YthgcfoednhdbcaaDoorApart
import Derived.Deep.RegionHeld3
namespace Go.Proofs.YthgcfoednhdbcaaDoor
open Go.RowKit
set_option linter.unusedVariables false
set_option linter.unusedSimpArgs false

theorem equal_n (za zb : AtI) (h : decide (bytesA za = bytesA zb) = (za.n == zb.n)) (hl : (bytesA za).length ≤ 140737488355328) (A B : Option Addr) (c d : Nat) (w : World) (ha : Arr w A (bs (bytesA za))) (hb : Arr w B (bs (bytesA zb))) :
    Calls Tryd.prog 16 #[.slice A (bytesA za).length c, .slice B (bytesA zb).length d] w (Stay (.bool (za.n == zb.n)) w) :=
  (equal_any A B c d (bytesA za) (bytesA zb) w ha hb hl).mono fun e w' ⟨h1, n, h2⟩ => ⟨by rw [h1, h], by rw [h2]; exact (Kp.refl _ _).drewN n⟩
theorem bytesA_len (z : AtI) : (bytesA z).length ≤ 4 := by
  unfold bytesA
  split
  · rw [putL_length]; exact wdT_le _
  · simp

set_option maxRecDepth 100000 in
set_option maxHeartbeats 3200000 in
theorem apart_a (za zb : AtI) (w : World) (hza : InAt w za) (hzb : InAt w zb) (ld : Ld w) (hv : validA za = false) :
    Calls Tryd.prog 4 #[za.val, zb.val] w fun e w' => e = .returned (.bool true) ∧ Kp NoB w w' := by
  have HAL := Lib.hid (fun W (k : Kp NoB w W) => alive_any W (ld.tb.and k))
  have HSa := Lib.hid (fun W (k : Kp NoB w W) => small_any za W (hza.and k))
  have HSb := Lib.hid (fun W (k : Kp NoB w W) => small_any zb W (hzb.and k))
  have HVa := Lib.hid (fun W => rvalid_any za hza.1.n W)
  have HVb := Lib.hid (fun W => rvalid_any zb hzb.1.n W)
  rw [hv] at HVa
  clear hza hzb ld hv
  unfold AtI.val AtI.cs at *
  go_enter Tryd.func4, Tryd.ntmps4
  go_wp2_with (first
    | (go_at_call 8; (with_reducible refine Calls.mono (HSa.out _ (((Kp.refl NoB w).alloc _).alloc _)) ?_); rintro e w1 ⟨q1, rfl, hs1, hK⟩; have HS1 := Lib.hid hs1; have hk1 := Lib.hid ((((Kp.refl NoB w).alloc _).alloc _).and hK); have ha1 := Lib.hid (((Bk.fresh w 28 za.cs).alloc _).and hK); have hb1 := Lib.hid ((Bk.second w _ 28 zb.cs).and hK); obtain ⟨x0, x1, x2, x3, x4, x5, x6, x7, x8⟩ := ha1.out.attr; obtain ⟨y0, y1, y2, y3, y4, y5, y6, y7, y8⟩ := hb1.out.attr; clear hK hs1)
    | (go_at_call 8; (with_reducible refine Calls.mono (HSb.out _ hk1.out) ?_); rintro e w2 ⟨q2, rfl, hs2, hK⟩; have hk2 := Lib.hid (hk1.out.and hK); have ha2 := Lib.hid (ha1.out.and hK); have hb2 := Lib.hid (hb1.out.and hK); clear x0 x1 x2 x3 x4 x5 x6 x7 x8 y0 y1 y2 y3 y4 y5 y6 y7 y8; obtain ⟨x0, x1, x2, x3, x4, x5, x6, x7, x8⟩ := ha2.out.attr; obtain ⟨y0, y1, y2, y3, y4, y5, y6, y7, y8⟩ := hb2.out.attr; clear hK; have HS2 := Lib.hid hs2; clear hs2)
    | (go_at_call 14; (with_reducible refine Calls.mono (HVa.out _) ?_); rintro e w3 ⟨rfl, hK⟩; have hk3 := Lib.hid (hk2.out.and hK); have ha3 := Lib.hid (ha2.out.and hK); have hb3 := Lib.hid (hb2.out.and hK); clear x0 x1 x2 x3 x4 x5 x6 x7 x8 y0 y1 y2 y3 y4 y5 y6 y7 y8; obtain ⟨x0, x1, x2, x3, x4, x5, x6, x7, x8⟩ := ha3.out.attr; obtain ⟨y0, y1, y2, y3, y4, y5, y6, y7, y8⟩ := hb3.out.attr; clear hK)
    | (go_at_call 9; refine Calls.mono (HAL.out _ hk3.out) ?_; rintro e w9 ⟨rfl, hK⟩; have hk9 := Lib.hid (hk3.out.and hK); clear hK)
    | (go_at_call 9; refine Calls.mono (HAL.out _ hk2.out) ?_; rintro e w9 ⟨rfl, hK⟩; have hk9 := Lib.hid (hk2.out.and hK); clear hK)
    | (go_at_call 9; refine Calls.mono (HAL.out _ hk1.out) ?_; rintro e w9 ⟨rfl, hK⟩; have hk9 := Lib.hid (hk1.out.and hK); clear hK))
  all_goals
    go_ret
    exact ⟨rfl, hk9.out⟩

set_option maxRecDepth 100000 in
set_option maxHeartbeats 3200000 in
theorem apart_b (za zb : AtI) (w : World) (hza : InAt w za) (hzb : InAt w zb) (ld : Ld w) (hv : validA za = true) (hv2 : validA zb = false) :
    Calls Tryd.prog 4 #[za.val, zb.val] w fun e w' => e = .returned (.bool true) ∧ Kp NoB w w' := by
  have HAL := Lib.hid (fun W (k : Kp NoB w W) => alive_any W (ld.tb.and k))
  have HSa := Lib.hid (fun W (k : Kp NoB w W) => small_any za W (hza.and k))
  have HSb := Lib.hid (fun W (k : Kp NoB w W) => small_any zb W (hzb.and k))
  have HVa := Lib.hid (fun W => rvalid_any za hza.1.n W)
  have HVb := Lib.hid (fun W => rvalid_any zb hzb.1.n W)
  rw [hv] at HVa
  rw [hv2] at HVb
  clear hza hzb ld hv hv2
  unfold AtI.val AtI.cs at *
  go_enter Tryd.func4, Tryd.ntmps4
  go_wp2_with (first
    | (go_at_call 8; (with_reducible refine Calls.mono (HSa.out _ (((Kp.refl NoB w).alloc _).alloc _)) ?_); rintro e w1 ⟨q1, rfl, hs1, hK⟩; have HS1 := Lib.hid hs1; have hk1 := Lib.hid ((((Kp.refl NoB w).alloc _).alloc _).and hK); have ha1 := Lib.hid (((Bk.fresh w 28 za.cs).alloc _).and hK); have hb1 := Lib.hid ((Bk.second w _ 28 zb.cs).and hK); obtain ⟨x0, x1, x2, x3, x4, x5, x6, x7, x8⟩ := ha1.out.attr; obtain ⟨y0, y1, y2, y3, y4, y5, y6, y7, y8⟩ := hb1.out.attr; clear hK hs1)
    | (go_at_call 8; (with_reducible refine Calls.mono (HSb.out _ hk1.out) ?_); rintro e w2 ⟨q2, rfl, hs2, hK⟩; have hk2 := Lib.hid (hk1.out.and hK); have ha2 := Lib.hid (ha1.out.and hK); have hb2 := Lib.hid (hb1.out.and hK); clear x0 x1 x2 x3 x4 x5 x6 x7 x8 y0 y1 y2 y3 y4 y5 y6 y7 y8; obtain ⟨x0, x1, x2, x3, x4, x5, x6, x7, x8⟩ := ha2.out.attr; obtain ⟨y0, y1, y2, y3, y4, y5, y6, y7, y8⟩ := hb2.out.attr; clear hK; have HS2 := Lib.hid hs2; clear hs2)
    | (go_at_call 14; (with_reducible refine Calls.mono (HVa.out _) ?_); rintro e w3 ⟨rfl, hK⟩; have hk3 := Lib.hid (hk2.out.and hK); have ha3 := Lib.hid (ha2.out.and hK); have hb3 := Lib.hid (hb2.out.and hK); clear x0 x1 x2 x3 x4 x5 x6 x7 x8 y0 y1 y2 y3 y4 y5 y6 y7 y8; obtain ⟨x0, x1, x2, x3, x4, x5, x6, x7, x8⟩ := ha3.out.attr; obtain ⟨y0, y1, y2, y3, y4, y5, y6, y7, y8⟩ := hb3.out.attr; clear hK)
    | (go_at_call 14; (with_reducible refine Calls.mono (HVb.out _) ?_); rintro e w4 ⟨rfl, hK⟩; have hk4 := Lib.hid (hk3.out.and hK); have ha4 := Lib.hid (ha3.out.and hK); have hb4 := Lib.hid (hb3.out.and hK); clear x0 x1 x2 x3 x4 x5 x6 x7 x8 y0 y1 y2 y3 y4 y5 y6 y7 y8; obtain ⟨x0, x1, x2, x3, x4, x5, x6, x7, x8⟩ := ha4.out.attr; obtain ⟨y0, y1, y2, y3, y4, y5, y6, y7, y8⟩ := hb4.out.attr; clear hK)
    | (go_at_call 9; refine Calls.mono (HAL.out _ hk4.out) ?_; rintro e w9 ⟨rfl, hK⟩; have hk9 := Lib.hid (hk4.out.and hK); clear hK)
    | (go_at_call 9; refine Calls.mono (HAL.out _ hk2.out) ?_; rintro e w9 ⟨rfl, hK⟩; have hk9 := Lib.hid (hk2.out.and hK); clear hK)
    | (go_at_call 9; refine Calls.mono (HAL.out _ hk1.out) ?_; rintro e w9 ⟨rfl, hK⟩; have hk9 := Lib.hid (hk1.out.and hK); clear hK))
  all_goals
    go_ret
    exact ⟨rfl, hk9.out⟩

set_option maxRecDepth 100000 in
set_option maxHeartbeats 3200000 in
theorem apart_c (za zb : AtI) (w : World) (hza : InAt w za) (hzb : InAt w zb) (ld : Ld w) (hv : validA za = true) (hv2 : validA zb = true) (ht : ¬ za.t = zb.t) :
    Calls Tryd.prog 4 #[za.val, zb.val] w fun e w' => e = .returned (.bool true) ∧ Kp NoB w w' := by
  have HAL := Lib.hid (fun W (k : Kp NoB w W) => alive_any W (ld.tb.and k))
  have HSa := Lib.hid (fun W (k : Kp NoB w W) => small_any za W (hza.and k))
  have HSb := Lib.hid (fun W (k : Kp NoB w W) => small_any zb W (hzb.and k))
  have HVa := Lib.hid (fun W => rvalid_any za hza.1.n W)
  have HVb := Lib.hid (fun W => rvalid_any zb hzb.1.n W)
  rw [hv] at HVa
  rw [hv2] at HVb
  clear hza hzb ld hv hv2
  unfold AtI.val AtI.cs at *
  go_enter Tryd.func4, Tryd.ntmps4
  go_wp2_with (first
    | (go_at_call 8; (with_reducible refine Calls.mono (HSa.out _ (((Kp.refl NoB w).alloc _).alloc _)) ?_); rintro e w1 ⟨q1, rfl, hs1, hK⟩; have HS1 := Lib.hid hs1; have hk1 := Lib.hid ((((Kp.refl NoB w).alloc _).alloc _).and hK); have ha1 := Lib.hid (((Bk.fresh w 28 za.cs).alloc _).and hK); have hb1 := Lib.hid ((Bk.second w _ 28 zb.cs).and hK); obtain ⟨x0, x1, x2, x3, x4, x5, x6, x7, x8⟩ := ha1.out.attr; obtain ⟨y0, y1, y2, y3, y4, y5, y6, y7, y8⟩ := hb1.out.attr; clear hK hs1)
    | (go_at_call 8; (with_reducible refine Calls.mono (HSb.out _ hk1.out) ?_); rintro e w2 ⟨q2, rfl, hs2, hK⟩; have hk2 := Lib.hid (hk1.out.and hK); have ha2 := Lib.hid (ha1.out.and hK); have hb2 := Lib.hid (hb1.out.and hK); clear x0 x1 x2 x3 x4 x5 x6 x7 x8 y0 y1 y2 y3 y4 y5 y6 y7 y8; obtain ⟨x0, x1, x2, x3, x4, x5, x6, x7, x8⟩ := ha2.out.attr; obtain ⟨y0, y1, y2, y3, y4, y5, y6, y7, y8⟩ := hb2.out.attr; clear hK; have HS2 := Lib.hid hs2; clear hs2)
    | (go_at_call 14; (with_reducible refine Calls.mono (HVa.out _) ?_); rintro e w3 ⟨rfl, hK⟩; have hk3 := Lib.hid (hk2.out.and hK); have ha3 := Lib.hid (ha2.out.and hK); have hb3 := Lib.hid (hb2.out.and hK); clear x0 x1 x2 x3 x4 x5 x6 x7 x8 y0 y1 y2 y3 y4 y5 y6 y7 y8; obtain ⟨x0, x1, x2, x3, x4, x5, x6, x7, x8⟩ := ha3.out.attr; obtain ⟨y0, y1, y2, y3, y4, y5, y6, y7, y8⟩ := hb3.out.attr; clear hK)
    | (go_at_call 14; (with_reducible refine Calls.mono (HVb.out _) ?_); rintro e w4 ⟨rfl, hK⟩; have hk4 := Lib.hid (hk3.out.and hK); have ha4 := Lib.hid (ha3.out.and hK); have hb4 := Lib.hid (hb3.out.and hK); clear x0 x1 x2 x3 x4 x5 x6 x7 x8 y0 y1 y2 y3 y4 y5 y6 y7 y8; obtain ⟨x0, x1, x2, x3, x4, x5, x6, x7, x8⟩ := ha4.out.attr; obtain ⟨y0, y1, y2, y3, y4, y5, y6, y7, y8⟩ := hb4.out.attr; clear hK)
    | (go_at_call 9; refine Calls.mono (HAL.out _ hk4.out) ?_; rintro e w9 ⟨rfl, hK⟩; have hk9 := Lib.hid (hk4.out.and hK); clear hK)
    | (go_at_call 9; refine Calls.mono (HAL.out _ hk2.out) ?_; rintro e w9 ⟨rfl, hK⟩; have hk9 := Lib.hid (hk2.out.and hK); clear hK)
    | (go_at_call 9; refine Calls.mono (HAL.out _ hk1.out) ?_; rintro e w9 ⟨rfl, hK⟩; have hk9 := Lib.hid (hk1.out.and hK); clear hK))
  all_goals
    go_ret
    exact ⟨rfl, hk9.out⟩

set_option maxRecDepth 100000 in
set_option maxHeartbeats 3200000 in
theorem apart_d (za zb : AtI) (w : World) (hza : InAt w za) (hzb : InAt w zb) (ld : Ld w) (hv : validA za = true) (hv2 : validA zb = true) (ht : zb.t = za.t) :
    Calls Tryd.prog 4 #[za.val, zb.val] w fun e w' => e = .returned (.bool true) ∧ Kp NoB w w' := by
  have HAL := Lib.hid (fun W (k : Kp NoB w W) => alive_any W (ld.tb.and k))
  have HSa := Lib.hid (fun W (k : Kp NoB w W) => small_any za W (hza.and k))
  have HSb := Lib.hid (fun W (k : Kp NoB w W) => small_any zb W (hzb.and k))
  have HVa := Lib.hid (fun W => rvalid_any za hza.1.n W)
  have HVb := Lib.hid (fun W => rvalid_any zb hzb.1.n W)
  obtain ⟨hap1, hap2⟩ := apart_both hza.1.n hzb.1.n ht.symm hv hv2
  have HBa := Lib.hid (fun (s : za.small) W => bytes_any za (hza.1.ok s) W)
  have HBb := Lib.hid (fun (s : zb.small) W => bytes_any zb (hzb.1.ok s) W)
  have HTa := Lib.hid (fun (s : za.small) W (k : Kp NoB w W) => text_any za (hza.1.ok s) W (ld.tb.and k))
  have HTb := Lib.hid (fun (s : zb.small) W (k : Kp NoB w W) => text_any zb (hzb.1.ok s) W (ld.tb.and k))
  have hl4 := bytesA_len za
  have HEQ := Lib.hid (fun W A B c d h1 h2 => equal_n za zb hap1 (by omega) A B c d W h1 h2)
  obtain ⟨Ta, hTa⟩ : ∃ t, ba (textA za) = t := ⟨_, rfl⟩
  obtain ⟨Tb', hTb⟩ : ∃ t, ba (textA zb) = t := ⟨_, rfl⟩
  rw [hTa] at HTa hap2
  rw [hTb] at HTb hap2
  unfold BytesM at HBa HBb
  obtain ⟨La, hLa⟩ : ∃ l, bytesA za = l := ⟨_, rfl⟩
  obtain ⟨Lb, hLb⟩ : ∃ l, bytesA zb = l := ⟨_, rfl⟩
  rw [hLa] at HEQ HBa
  rw [hLb] at HEQ HBb
  rw [hv] at HVa HBa
  rw [hv2] at HVb HBb
  clear hza hzb ld hv hv2 hap1 hTa hTb hLa hLb hl4
  unfold AtI.val AtI.cs at *
  rw [ht] at HSb HVb HBb HTb ⊢
  go_enter Tryd.func4, Tryd.ntmps4
  go_wp2_with (first
    | (go_at_call 8; (with_reducible refine Calls.mono (HSa.out _ (((Kp.refl NoB w).alloc _).alloc _)) ?_); rintro e w1 ⟨q1, rfl, hs1, hK⟩; have HS1 := Lib.hid hs1; have hk1 := Lib.hid ((((Kp.refl NoB w).alloc _).alloc _).and hK); have ha1 := Lib.hid (((Bk.fresh w 28 za.cs).alloc _).and hK); have hb1 := Lib.hid ((Bk.second w _ 28 (AtI.mk za.t zb.p zb.n zb.m zb.S zb.sn zb.sc zb.L zb.ln zb.lc zb.B zb.bn zb.bc zb.f zb.R zb.rn zb.rc).cs).and hK); obtain ⟨x0, x1, x2, x3, x4, x5, x6, x7, x8⟩ := ha1.out.attr; obtain ⟨y0, y1, y2, y3, y4, y5, y6, y7, y8⟩ := hb1.out.attr; clear hK hs1)
    | (go_at_call 8; (with_reducible refine Calls.mono (HSb.out _ hk1.out) ?_); rintro e w2 ⟨q2, rfl, hs2, hK⟩; have hk2 := Lib.hid (hk1.out.and hK); have ha2 := Lib.hid (ha1.out.and hK); have hb2 := Lib.hid (hb1.out.and hK); clear x0 x1 x2 x3 x4 x5 x6 x7 x8 y0 y1 y2 y3 y4 y5 y6 y7 y8; obtain ⟨x0, x1, x2, x3, x4, x5, x6, x7, x8⟩ := ha2.out.attr; obtain ⟨y0, y1, y2, y3, y4, y5, y6, y7, y8⟩ := hb2.out.attr; clear hK; have HS2 := Lib.hid hs2; clear hs2)
    | (go_at_call 14; (with_reducible refine Calls.mono (HVa.out _) ?_); rintro e w3 ⟨rfl, hK⟩; have hk3 := Lib.hid (hk2.out.and hK); have ha3 := Lib.hid (ha2.out.and hK); have hb3 := Lib.hid (hb2.out.and hK); clear x0 x1 x2 x3 x4 x5 x6 x7 x8 y0 y1 y2 y3 y4 y5 y6 y7 y8; obtain ⟨x0, x1, x2, x3, x4, x5, x6, x7, x8⟩ := ha3.out.attr; obtain ⟨y0, y1, y2, y3, y4, y5, y6, y7, y8⟩ := hb3.out.attr; clear hK)
    | (go_at_call 14; (with_reducible refine Calls.mono (HVb.out _) ?_); rintro e w4 ⟨rfl, hK⟩; have hk4 := Lib.hid (hk3.out.and hK); have ha4 := Lib.hid (ha3.out.and hK); have hb4 := Lib.hid (hb3.out.and hK); clear x0 x1 x2 x3 x4 x5 x6 x7 x8 y0 y1 y2 y3 y4 y5 y6 y7 y8; obtain ⟨x0, x1, x2, x3, x4, x5, x6, x7, x8⟩ := ha4.out.attr; obtain ⟨y0, y1, y2, y3, y4, y5, y6, y7, y8⟩ := hb4.out.attr; clear hK)
    | (go_at_call 15; (with_reducible refine Calls.mono (HBa.out (HS1.out (by assumption)) _) ?_); rintro e w5 ⟨A5, c5, rfl, hA5, -, -, hK⟩; have HA5 := Lib.hid hA5; clear hA5; have hk5 := Lib.hid (hk4.out.and hK); have ha5 := Lib.hid (ha4.out.and hK); have hb5 := Lib.hid (hb4.out.and hK); clear x0 x1 x2 x3 x4 x5 x6 x7 x8 y0 y1 y2 y3 y4 y5 y6 y7 y8; obtain ⟨x0, x1, x2, x3, x4, x5, x6, x7, x8⟩ := ha5.out.attr; obtain ⟨y0, y1, y2, y3, y4, y5, y6, y7, y8⟩ := hb5.out.attr; clear hK)
    | (go_at_call 15; (with_reducible refine Calls.mono (HBb.out (HS2.out (by assumption)) _) ?_); rintro e w6 ⟨A6, c6, rfl, hA6, -, -, hK⟩; have HA6 := Lib.hid hA6; have HA5' := Lib.hid (HA5.out.and hK); clear hA6; have hk6 := Lib.hid (hk5.out.and hK); have ha6 := Lib.hid (ha5.out.and hK); have hb6 := Lib.hid (hb5.out.and hK); clear x0 x1 x2 x3 x4 x5 x6 x7 x8 y0 y1 y2 y3 y4 y5 y6 y7 y8; obtain ⟨x0, x1, x2, x3, x4, x5, x6, x7, x8⟩ := ha6.out.attr; obtain ⟨y0, y1, y2, y3, y4, y5, y6, y7, y8⟩ := hb6.out.attr; clear hK)
    | (go_at_call 9; refine Calls.mono (HAL.out _ hk2.out) ?_; rintro e w9 ⟨rfl, hK⟩; have hk9 := Lib.hid (hk2.out.and hK); clear hK)
    | (go_at_call 9; refine Calls.mono (HAL.out _ hk1.out) ?_; rintro e w9 ⟨rfl, hK⟩; have hk9 := Lib.hid (hk1.out.and hK); clear hK))
  · have Hs1 := Lib.hid (HS1.out (by assumption))
    have Hs2 := Lib.hid (HS2.out (by assumption))
    go_region_held3 (fun w' => w'.cell? ⟨w.heap.size, 0, none⟩ = some (.int .i64 za.t) ∧ w'.cell? ⟨w.heap.size, 1, none⟩ = some (.bool za.p) ∧ w'.cell? ⟨w.heap.size, 2, none⟩ = some (.int .u32 za.n) ∧ w'.cell? ⟨w.heap.size, 3, none⟩ = some (.int .u32 za.m) ∧ w'.cell? ⟨w.heap.size, 4, none⟩ = some (.slice za.S za.sn za.sc) ∧ w'.cell? ⟨w.heap.size, 5, none⟩ = some (.slice za.L za.ln za.lc) ∧ w'.cell? ⟨w.heap.size, 6, none⟩ = some (.slice za.B za.bn za.bc) ∧ w'.cell? ⟨w.heap.size, 7, none⟩ = some (.int .i64 za.f) ∧ w'.cell? ⟨w.heap.size, 8, none⟩ = some (.slice za.R za.rn za.rc) ∧ w'.cell? ⟨w.heap.size + 1, 0, none⟩ = some (.int .i64 za.t) ∧ w'.cell? ⟨w.heap.size + 1, 1, none⟩ = some (.bool zb.p) ∧ w'.cell? ⟨w.heap.size + 1, 2, none⟩ = some (.int .u32 zb.n) ∧ w'.cell? ⟨w.heap.size + 1, 3, none⟩ = some (.int .u32 zb.m) ∧ w'.cell? ⟨w.heap.size + 1, 4, none⟩ = some (.slice zb.S zb.sn zb.sc) ∧ w'.cell? ⟨w.heap.size + 1, 5, none⟩ = some (.slice zb.L zb.ln zb.lc) ∧ w'.cell? ⟨w.heap.size + 1, 6, none⟩ = some (.slice zb.B zb.bn zb.bc) ∧ w'.cell? ⟨w.heap.size + 1, 7, none⟩ = some (.int .i64 zb.f) ∧ w'.cell? ⟨w.heap.size + 1, 8, none⟩ = some (.slice zb.R zb.rn zb.rc)) (go_keep)
      (first
      | (go_at_call 9; refine Calls.mono (HAL.out _ hk6.out.drew) ?_; rintro e w7 ⟨rfl, hK⟩; have HA7 := Lib.hid ((show Arr (World.drew _) _ _ from HA5'.out).and hK); have HB7 := Lib.hid ((show Arr (World.drew _) _ _ from HA6.out).and hK); have hk7 := Lib.hid (hk6.out.drew.and hK); have ha7 := Lib.hid ((bk_drew ha6.out).and hK); have hb7 := Lib.hid ((bk_drew hb6.out).and hK); clear x0 x1 x2 x3 x4 x5 x6 x7 x8 y0 y1 y2 y3 y4 y5 y6 y7 y8; obtain ⟨x0, x1, x2, x3, x4, x5, x6, x7, x8⟩ := ha7.out.attr; obtain ⟨y0, y1, y2, y3, y4, y5, y6, y7, y8⟩ := hb7.out.attr; clear hK)
      | (go_at_call 16; refine Calls.mono (HEQ.out _ _ _ _ _ HA7.out HB7.out) ?_; rintro e w8 ⟨rfl, hK⟩; have hk8 := Lib.hid (hk7.out.and hK); have ha8 := Lib.hid (ha7.out.and hK); have hb8 := Lib.hid (hb7.out.and hK); clear x0 x1 x2 x3 x4 x5 x6 x7 x8 y0 y1 y2 y3 y4 y5 y6 y7 y8; obtain ⟨x0, x1, x2, x3, x4, x5, x6, x7, x8⟩ := ha8.out.attr; obtain ⟨y0, y1, y2, y3, y4, y5, y6, y7, y8⟩ := hb8.out.attr; clear hK)
      | (go_at_call 17; (with_reducible refine Calls.mono (HTa.out Hs1.out _ hk8.out) ?_); rintro e w9 ⟨rfl, hK⟩; have hk9 := Lib.hid (hk8.out.and hK); have ha9 := Lib.hid (ha8.out.and hK); have hb9 := Lib.hid (hb8.out.and hK); clear x0 x1 x2 x3 x4 x5 x6 x7 x8 y0 y1 y2 y3 y4 y5 y6 y7 y8; obtain ⟨x0, x1, x2, x3, x4, x5, x6, x7, x8⟩ := ha9.out.attr; obtain ⟨y0, y1, y2, y3, y4, y5, y6, y7, y8⟩ := hb9.out.attr; clear hK)
      | (go_at_call 17; (with_reducible refine Calls.mono (HTb.out Hs2.out _ hk9.out) ?_); rintro e w10 ⟨rfl, hK⟩; have hk10 := Lib.hid (hk9.out.and hK); have ha10 := Lib.hid (ha9.out.and hK); have hb10 := Lib.hid (hb9.out.and hK); clear x0 x1 x2 x3 x4 x5 x6 x7 x8 y0 y1 y2 y3 y4 y5 y6 y7 y8; obtain ⟨x0, x1, x2, x3, x4, x5, x6, x7, x8⟩ := ha10.out.attr; obtain ⟨y0, y1, y2, y3, y4, y5, y6, y7, y8⟩ := hb10.out.attr; clear hK))
    go_wp2
    go_ret
    exact ⟨by simp, hk10.out⟩
  all_goals
    go_ret
    exact ⟨rfl, hk9.out⟩

theorem bapart_row (za zb : AtI) (w : World) (hza : InAt w za) (hzb : InAt w zb) (ld : Ld w) :
    Calls Tryd.prog 4 #[za.val, zb.val] w fun e w' => e = .returned (.bool true) ∧ Kp NoB w w' := by
  cases hv : validA za with
  | false => exact apart_a za zb w hza hzb ld hv
  | true =>
    cases hv2 : validA zb with
    | false => exact apart_b za zb w hza hzb ld hv hv2
    | true =>
      by_cases ht : za.t = zb.t
      · exact apart_d za zb w hza hzb ld hv hv2 ht.symm
      · exact apart_c za zb w hza hzb ld hv hv2 ht

end Go.Proofs.YthgcfoednhdbcaaDoor
