/- BasicPlain's walk. No condition but the table of powers of ten. -/
import Derived.Test.YthgcfoednhdbcaaDoorBasLd
import Derived.Deep.RegionHeld3
namespace Go.Proofs.YthgcfoednhdbcaaDoor
open Go.RowKit
set_option linter.unusedVariables false
set_option linter.unusedSimpArgs false

set_option maxRecDepth 100000 in
set_option maxHeartbeats 3200000 in
theorem bplain_row (z : AtI) (A : Option Addr) (n c : Nat) (l : List Int) (w : World) (hz : InAt w z) (hl : InUs w A n c l) (ld : Ld w) :
    Calls Tryd.prog 3 #[z.val, .slice A n c] w fun e w' => e = .returned (.bool true) ∧ Kp NoB w w' := by
  obtain ⟨rfl, hn, hc, ha, hu⟩ := hl
  have HSM := Lib.hid (fun W (k : Kp NoB w W) => small_any z W (hz.and k))
  have HAL := Lib.hid (fun W (k : Kp NoB w W) => alive_any W (ld.tb.and k))
  have HP := Lib.hid (fun (s : z.small) W (k : Kp NoB w W) => plain_any z (hz.1.ok s) A c l W (ha.and k))
  have HR := Lib.hid (fun W (k : Kp NoB w W) => rplain_any z A c l W (ha.and k) (Nat.le_trans hn hc))
  have HA := Lib.hid (fun W (k : Kp NoB w W) => address_any z.n hz.1.n.1 hz.1.n.2 W (ld.tb.and k))
  have HB := Lib.hid (fun W => raddress_any z.n hz.1.n.1 hz.1.n.2 W)
  have hlm : l.length ≤ maxLen := Nat.le_trans hn hc
  clear hz ha hu ld hn
  obtain ⟨n, hnn⟩ : ∃ n, l.length = n := ⟨_, rfl⟩
  obtain ⟨P, hP⟩ : ∃ P, plainB z l = P := ⟨_, rfl⟩
  obtain ⟨T, hT⟩ : ∃ T, addrL z.n = T := ⟨_, rfl⟩
  rw [hnn, hP] at HP HR
  rw [hT] at HA HB
  rw [hnn] at hlm ⊢
  clear hnn hP hT hc
  unfold maxLen at hlm
  unfold AtI.val AtI.cs at *
  by_cases h20 : (n : Int) ≤ 20
  · go_enter Tryd.func3, Tryd.ntmps3
    go_wp2_with (first
      | (go_at_call 8; refine Calls.mono (HSM.out _ ((Kp.refl NoB w).alloc _)) ?_; rintro e w1 ⟨b, rfl, hs, hK⟩; obtain ⟨hk1', hZ'⟩ := fin_at (z := z) hK; have hk1 := Lib.hid hk1'; have hZ := Lib.hid hZ'; have HS := Lib.hid hs; obtain ⟨x0, x1, x2, x3, x4, x5, x6, x7, x8⟩ := hZ'.attr; clear hK hk1' hZ' hs)
      | (go_at_call 9; refine Calls.mono (HAL.out _ hk1.out) ?_; rintro e w2 ⟨rfl, hK⟩; have hk2 := Lib.hid (hk1.out.and hK); clear hK))
    · have HPs := Lib.hid (HP.out (HS.out (by assumption)))
      go_region_held3 (fun w' => w'.cell? ⟨w.heap.size, 0, none⟩ = some (.int .i64 z.t) ∧ w'.cell? ⟨w.heap.size, 1, none⟩ = some (.bool z.p) ∧ w'.cell? ⟨w.heap.size, 2, none⟩ = some (.int .u32 z.n) ∧ w'.cell? ⟨w.heap.size, 3, none⟩ = some (.int .u32 z.m) ∧ w'.cell? ⟨w.heap.size, 4, none⟩ = some (.slice z.S z.sn z.sc) ∧ w'.cell? ⟨w.heap.size, 5, none⟩ = some (.slice z.L z.ln z.lc) ∧ w'.cell? ⟨w.heap.size, 6, none⟩ = some (.slice z.B z.bn z.bc) ∧ w'.cell? ⟨w.heap.size, 7, none⟩ = some (.int .i64 z.f) ∧ w'.cell? ⟨w.heap.size, 8, none⟩ = some (.slice z.R z.rn z.rc)) (go_keep)
        (first
        | (go_at_call 9; refine Calls.mono (HAL.out _ hk1.out.drew) ?_; rintro e w2 ⟨rfl, hK⟩; have hk2 := Lib.hid (hk1.out.drew.and hK); have hZ2 := Lib.hid ((bk_drew hZ.out).and hK); obtain ⟨x0, x1, x2, x3, x4, x5, x6, x7, x8⟩ := hZ2.out.attr; clear hK)
        | (go_at_call 10; refine Calls.mono (HPs.out _ hk2.out (by omega)) ?_; rintro e w3 ⟨rfl, hK⟩; have hk3 := Lib.hid (hk2.out.and hK); have hZ3 := Lib.hid (hZ2.out.and hK); obtain ⟨x0, x1, x2, x3, x4, x5, x6, x7, x8⟩ := hZ3.out.attr; clear hK)
        | (go_at_call 11; refine Calls.mono (HR.out _ hk3.out) ?_; rintro e w4 ⟨rfl, hK⟩; have hk4 := Lib.hid (hk3.out.and hK); have hZ4 := Lib.hid (hZ3.out.and hK); obtain ⟨x0, x1, x2, x3, x4, x5, x6, x7, x8⟩ := hZ4.out.attr; clear hK)
        | (go_at_call 12; refine Calls.mono (HA.out _ hk4.out) ?_; rintro e w5 ⟨rfl, hK⟩; have hk5 := Lib.hid (hk4.out.and hK); have hZ5 := Lib.hid (hZ4.out.and hK); obtain ⟨x0, x1, x2, x3, x4, x5, x6, x7, x8⟩ := hZ5.out.attr; clear hK)
        | (go_at_call 13; refine Calls.mono (HB.out _) ?_; rintro e w6 ⟨rfl, hK⟩; have hk6 := Lib.hid (hk5.out.and hK); have hZ6 := Lib.hid (hZ5.out.and hK); obtain ⟨x0, x1, x2, x3, x4, x5, x6, x7, x8⟩ := hZ6.out.attr; clear hK))
      go_wp2
      go_ret
      exact ⟨by simp, hk6.out⟩
    · go_ret
      exact ⟨rfl, hk2.out⟩
  · go_enter Tryd.func3, Tryd.ntmps3
    go_wp2_with (first
      | (go_at_call 8; refine Calls.mono (HSM.out _ ((Kp.refl NoB w).alloc _)) ?_; rintro e w1 ⟨b, rfl, hs, hK⟩; obtain ⟨hk1', hZ'⟩ := fin_at (z := z) hK; have hk1 := Lib.hid hk1'; have hZ := Lib.hid hZ'; have HS := Lib.hid hs; obtain ⟨x0, x1, x2, x3, x4, x5, x6, x7, x8⟩ := hZ'.attr; clear hK hk1' hZ' hs)
      | (go_at_call 9; refine Calls.mono (HAL.out _ hk1.out) ?_; rintro e w2 ⟨rfl, hK⟩; have hk2 := Lib.hid (hk1.out.and hK); clear hK))
    all_goals
      go_ret
      exact ⟨rfl, hk2.out⟩

end Go.Proofs.YthgcfoednhdbcaaDoor
