/- CommunityHas' walk. No condition but the table of powers of ten. -/
import Derived.Test.YtkhonebedoemoaaDoorComS
import Derived.Deep.RegionHeld3
namespace Go.Proofs.YtkhonebedoemoaaDoor
open Go.RowKit
set_option linter.unusedVariables false
set_option linter.unusedSimpArgs false

set_option maxRecDepth 100000 in
set_option maxHeartbeats 3200000 in
theorem chas_row (z : AtI) (A : Option Addr) (n c : Nat) (l : List Int) (w : World) (hz : InAt9 w z) (hl : InUs w A n c l) (ld : Ld w) :
    Calls Tryd.prog 3 #[z.val, .slice A n c] w fun e w' => e = .returned (.bool true) ∧ Kp NoB w w' := by
  obtain ⟨hin, xs, hx⟩ := hz
  obtain ⟨rfl, hn, hc, ha, hu⟩ := hl
  have HSM := Lib.hid (fun W (k : Kp NoB w W) => small_any z W (hin.and k))
  have HAL := Lib.hid (fun W (k : Kp NoB w W) => alive_any W (ld.tb.and k))
  have HRH := Lib.hid (fun (s : z.small) W (k : Kp NoB w W) => rhas_any z (hin.1.ok s) xs l A c W (hx.and k) (ha.and k) (by unfold AtI.small at s; omega))
  have HCH := Lib.hid (fun (s : z.small) (hl20 : l.length ≤ 100000) W (k : Kp NoB w W) => chas_any z (hin.1.ok s) xs l A c W (hx.and k) (ha.and k) (by unfold AtI.small at s; omega) hl20)
  have HUH := Lib.hid (fun (s : z.small) (hl20 : l.length ≤ 100000) W (k : Kp NoB w W) => uniq_has z (hin.1.ok s) xs l A c W (hx.and k) (by unfold AtI.small at s; omega) (ha.and k) hl20)
  have hlm : l.length ≤ maxLen := Nat.le_trans hn hc
  clear hin hx ha hu ld hn
  obtain ⟨n, hnn⟩ : ∃ n, l.length = n := ⟨_, rfl⟩
  obtain ⟨H, hH⟩ : ∃ H, (validC z && hasL (grp z.t) xs l) = H := ⟨_, rfl⟩
  rw [hnn, hH] at HRH HCH HUH
  rw [hnn] at hlm ⊢
  clear hnn hH hc
  unfold maxLen at hlm
  unfold AtI.val AtI.cs at HSM HRH HCH ⊢
  have HUV := Lib.hid (fun (s : z.small) (hl20 : n ≤ 100000) W (k : Kp NoB w W) => HUH.out s hl20 W k)
  unfold AtI.val at HUV
  unfold AtI.cs at HUV
  clear HUH
  by_cases h20 : (n : Int) ≤ 20
  · have h20' : n ≤ 100000 := by omega
    go_enter Tryd.func3, Tryd.ntmps3
    go_wp2_with (first
      | (go_at_call 8; refine Calls.mono (HSM.out _ ((Kp.refl NoB w).alloc _)) ?_; rintro e w1 ⟨b, rfl, hs, hK⟩; obtain ⟨hk1', hZ'⟩ := fin_at (z := z) hK; have hk1 := Lib.hid hk1'; have hZ := Lib.hid hZ'; have HS := Lib.hid hs; obtain ⟨x0, x1, x2, x3, x4, x5, x6, x7, x8⟩ := hZ'.attr; clear hK hk1' hZ' hs)
      | (go_at_call 9; refine Calls.mono (HAL.out _ hk1.out) ?_; rintro e w2 ⟨rfl, hK⟩; have hk2 := Lib.hid (hk1.out.and hK); clear hK))
    · have HRH' := Lib.hid (HRH.out (HS.out (by assumption)))
      have HCH' := Lib.hid (HCH.out (HS.out (by assumption)) h20')
      have HUV' := Lib.hid (HUV.out (HS.out (by assumption)) h20')
      clear HRH HCH HUV
      go_wp2_with (first
        | (go_at_call 10; (with_reducible refine Calls.mono (HRH'.out _ hk1.out) ?_); rintro e w2 ⟨rfl, hK⟩; have hk2 := Lib.hid (hk1.out.and hK); have hZ2 := Lib.hid (hZ.out.and hK); clear x0 x1 x2 x3 x4 x5 x6 x7 x8; obtain ⟨x0, x1, x2, x3, x4, x5, x6, x7, x8⟩ := hZ2.out.attr; clear hK)
        | (go_at_call 9; (with_reducible refine Calls.mono (HAL.out _ hk2.out) ?_); rintro e w3 ⟨rfl, hK⟩; have hk3 := Lib.hid (hk2.out.and hK); have hZ3 := Lib.hid (hZ2.out.and hK); clear x0 x1 x2 x3 x4 x5 x6 x7 x8; obtain ⟨x0, x1, x2, x3, x4, x5, x6, x7, x8⟩ := hZ3.out.attr; clear hK)
        | (go_at_call 11; (with_reducible refine Calls.mono (HCH'.out _ hk3.out) ?_); rintro e w4 ⟨rfl, hK⟩; have hk4 := Lib.hid (hk3.out.and hK); have hZ4 := Lib.hid (hZ3.out.and hK); clear x0 x1 x2 x3 x4 x5 x6 x7 x8; obtain ⟨x0, x1, x2, x3, x4, x5, x6, x7, x8⟩ := hZ4.out.attr; clear hK)
        | (go_at_call 12; (with_reducible refine Calls.mono (HUV'.out _ hk4.out) ?_); rintro e w5 ⟨y, rfl, hK, hy⟩; have hk5 := Lib.hid (hk4.out.and hK); have HY := Lib.hid hy; clear hK hy)
        | (go_at_call 11; (with_reducible refine Calls.mono (HY.out _ (Kp.refl _ _)) ?_); rintro e w6 ⟨rfl, hK⟩; have hk6 := Lib.hid (hk5.out.and hK); clear hK))
      go_ret
      exact ⟨rfl, hk6.out⟩
    · go_ret
      exact ⟨rfl, hk2.out⟩
  · go_enter Tryd.func3, Tryd.ntmps3
    go_wp2_with (first
      | (go_at_call 8; refine Calls.mono (HSM.out _ ((Kp.refl NoB w).alloc _)) ?_; rintro e w1 ⟨b, rfl, hs, hK⟩; obtain ⟨hk1', hZ'⟩ := fin_at (z := z) hK; have hk1 := Lib.hid hk1'; have hZ := Lib.hid hZ'; have HS := Lib.hid hs; obtain ⟨x0, x1, x2, x3, x4, x5, x6, x7, x8⟩ := hZ'.attr; clear hK hk1' hZ' hs)
      | (go_at_call 9; refine Calls.mono (HAL.out _ hk1.out) ?_; rintro e w2 ⟨rfl, hK⟩; have hk2 := Lib.hid (hk1.out.and hK); clear hK))
    all_goals
      go_ret
      exact ⟨rfl, hk2.out⟩

end Go.Proofs.YtkhonebedoemoaaDoor
