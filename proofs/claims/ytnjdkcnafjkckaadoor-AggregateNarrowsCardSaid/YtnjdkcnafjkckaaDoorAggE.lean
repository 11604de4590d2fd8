/- Chapter 8: Text of the reference; the chapter's example. No condition but the bounds that arguments have, and the table of powers of ten. -/
import Derived.Test.YtnjdkcnafjkckaaDoorAggD
namespace Go.Proofs.YtnjdkcnafjkckaaDoor
open Go.RowKit
set_option linter.unusedVariables false
set_option linter.unusedSimpArgs false

theorem grtext_bad (z : AtI) (hn : 0 ≤ z.n ∧ z.n < 4294967296) (hv : validG 4 z = false) (w : World) : Calls Tryd.prog 22 #[z.val] w (Stay (.string ⟨#[]⟩) w) := by
  have HV := Lib.hid (fun W => grvalid_any 4 z hn W)
  simp only [hv] at HV
  clear hv
  unfold AtI.val AtI.cs at *
  go_enter Tryd.func22, Tryd.ntmps22
  go_wp2_with (go_at_call 17; refine Calls.mono (HV.out _) ?_; rintro e w1 ⟨rfl, hK⟩; have hk1 := Lib.hid (((Kp.refl NoB w).alloc _).and hK); clear hK)
  go_ret
  exact ⟨rfl, hk1.out⟩

set_option maxRecDepth 100000 in
set_option maxHeartbeats 1600000 in
theorem grtext_good (z : AtI) (ok : z.Ok) (hv : validG 4 z = true) (w : World) : Calls Tryd.prog 22 #[z.val] w (Stay (.string (ba (nameG z.t ++ [32] ++ Lib.decDigits z.n.toNat ++ [32] ++ addrL z.m))) w) := by
  obtain ⟨K, -, -, -, -, hty⟩ := validG_k ok.n hv
  have HV := Lib.hid (fun W => grvalid_any 4 z ok.n W)
  simp only [hv] at HV
  have hn := ok.n
  have hm := ok.m
  have hd := dec_short z.n.toNat (by omega)
  have ht := addr_short z.m
  have HD0 := fun W => rdec_stay z.n.toNat (by omega) W
  rw [show ((z.n.toNat : Nat) : Int) = z.n by omega] at HD0
  have HA := Lib.hid (fun W => raddress_any z.m hm.1 hm.2 W)
  obtain ⟨d, hdd⟩ : ∃ d, Lib.decDigits z.n.toNat = d := ⟨_, rfl⟩
  obtain ⟨t, htt⟩ : ∃ d, addrL z.m = d := ⟨_, rfl⟩
  rw [hdd] at HD0 hd ⊢
  rw [htt] at HA ht ⊢
  have HD := Lib.hid HD0
  clear HD0 hv ok hdd htt
  obtain ⟨k, p, n, m, S, sn, sc, L, ln, lc, B, bn, bc, f, R, rn, rc⟩ := z
  simp only at hty hn hm HD HA ⊢
  have hw64 : wrap64 n = n := Go.IntWalk.wrap64_in _ ⟨by omega, by omega⟩
  have hwi : IntKind.i64.wrap n = n := IntWalk.i64_in _ ⟨by omega, by omega⟩
  rcases hty with rfl | rfl
  · obtain ⟨s, hs⟩ : ∃ s, nameG 7 ++ [32] = s := ⟨_, rfl⟩
    have hl7 : s.length = 11 := by rw [← hs]; rfl
    have e0 : (⟨#[97, 103, 103, 114, 101, 103, 97, 116, 111, 114, 32]⟩ : ByteArray) = ba s := by rw [← hs]; rfl
    rw [hs]
    obtain ⟨s2, h2⟩ : ∃ x, s ++ d = x := ⟨_, rfl⟩
    obtain ⟨s3, h3⟩ : ∃ x, s2 ++ [32] = x := ⟨_, rfl⟩
    obtain ⟨s4, h4⟩ : ∃ x, s3 ++ t = x := ⟨_, rfl⟩
    have l2 := congrArg List.length h2
    have l3 := congrArg List.length h3
    rw [List.length_append] at l2 l3
    rw [List.length_singleton] at l3
    have hc2 : ∀ W, (Op.stringOp .add ⟨#[97, 103, 103, 114, 101, 103, 97, 116, 111, 114, 32]⟩ (ba d)).run Tryd.prog W = .ok (.string (ba s2)) W := fun W => by rw [e0, str_add s d (by omega) W, h2]
    have hc3 : ∀ W, (Op.stringOp .add (ba s2) ⟨#[32]⟩).run Tryd.prog W = .ok (.string (ba s3)) W := fun W => by rw [show (⟨#[32]⟩ : ByteArray) = ba [32] from rfl, str_add s2 [32] (by simp; omega) W, h3]
    have hc4 : ∀ W, (Op.stringOp .add (ba s3) (ba t)).run Tryd.prog W = .ok (.string (ba s4)) W := fun W => by rw [str_add s3 t (by omega) W, h4]
    rw [h2, h3, h4]
    clear hs hl7 hd ht h2 h3 h4 l2 l3 e0
    unfold AtI.val AtI.cs at *
    go_enter Tryd.func22, Tryd.ntmps22
    go_wp2_with (go_at_call 17; refine Calls.mono (HV.out _) ?_; rintro e w1 ⟨rfl, hK⟩; obtain ⟨hk1', hZ'⟩ := fin_at (z := ⟨7, p, n, m, S, sn, sc, L, ln, lc, B, bn, bc, f, R, rn, rc⟩) hK; have hk1 := Lib.hid hk1'; have hZ := Lib.hid hZ'; obtain ⟨x0, x1, x2, x3, x4, x5, x6, x7, x8⟩ := hZ'.attr; clear hK hk1' hZ')
    go_region_held3 (fun w' => w'.cell? ⟨w.heap.size, 2, none⟩ = some (.int .u32 n) ∧ w'.cell? ⟨w.heap.size, 3, none⟩ = some (.int .u32 m)) (go_keep)
      (first
        | (go_at_call 42; refine Calls.mono (HD.out _) ?_; rintro e w2 ⟨rfl, hK⟩; have hk2 := Lib.hid (hk1.out.drew.and hK); have hZ2 := Lib.hid ((bk_drew hZ.out).and hK); clear x0 x1 x2 x3 x4 x5 x6 x7 x8; obtain ⟨x0, x1, x2, x3, x4, x5, x6, x7, x8⟩ := hZ2.out.attr; clear hK)
        | (go_at_call 43; refine Calls.mono (HA.out _) ?_; rintro e w3 ⟨rfl, hK⟩; have hk3 := Lib.hid (hk2.out.and hK); have hZ3 := Lib.hid (hZ2.out.and hK); clear x0 x1 x2 x3 x4 x5 x6 x7 x8; obtain ⟨x0, x1, x2, x3, x4, x5, x6, x7, x8⟩ := hZ3.out.attr; clear hK))
    go_wp2
    go_ret
    exact ⟨rfl, hk3.out⟩
  · obtain ⟨s, hs⟩ : ∃ s, nameG 18 ++ [32] = s := ⟨_, rfl⟩
    have hl7 : s.length = 12 := by rw [← hs]; rfl
    have e0 : (⟨#[97, 103, 103, 114, 101, 103, 97, 116, 111, 114, 52, 32]⟩ : ByteArray) = ba s := by rw [← hs]; rfl
    rw [hs]
    obtain ⟨s2, h2⟩ : ∃ x, s ++ d = x := ⟨_, rfl⟩
    obtain ⟨s3, h3⟩ : ∃ x, s2 ++ [32] = x := ⟨_, rfl⟩
    obtain ⟨s4, h4⟩ : ∃ x, s3 ++ t = x := ⟨_, rfl⟩
    have l2 := congrArg List.length h2
    have l3 := congrArg List.length h3
    rw [List.length_append] at l2 l3
    rw [List.length_singleton] at l3
    have hc2 : ∀ W, (Op.stringOp .add ⟨#[97, 103, 103, 114, 101, 103, 97, 116, 111, 114, 52, 32]⟩ (ba d)).run Tryd.prog W = .ok (.string (ba s2)) W := fun W => by rw [e0, str_add s d (by omega) W, h2]
    have hc3 : ∀ W, (Op.stringOp .add (ba s2) ⟨#[32]⟩).run Tryd.prog W = .ok (.string (ba s3)) W := fun W => by rw [show (⟨#[32]⟩ : ByteArray) = ba [32] from rfl, str_add s2 [32] (by simp; omega) W, h3]
    have hc4 : ∀ W, (Op.stringOp .add (ba s3) (ba t)).run Tryd.prog W = .ok (.string (ba s4)) W := fun W => by rw [str_add s3 t (by omega) W, h4]
    rw [h2, h3, h4]
    clear hs hl7 hd ht h2 h3 h4 l2 l3 e0
    unfold AtI.val AtI.cs at *
    go_enter Tryd.func22, Tryd.ntmps22
    go_wp2_with (go_at_call 17; refine Calls.mono (HV.out _) ?_; rintro e w1 ⟨rfl, hK⟩; obtain ⟨hk1', hZ'⟩ := fin_at (z := ⟨18, p, n, m, S, sn, sc, L, ln, lc, B, bn, bc, f, R, rn, rc⟩) hK; have hk1 := Lib.hid hk1'; have hZ := Lib.hid hZ'; obtain ⟨x0, x1, x2, x3, x4, x5, x6, x7, x8⟩ := hZ'.attr; clear hK hk1' hZ')
    go_region_held3 (fun w' => w'.cell? ⟨w.heap.size, 2, none⟩ = some (.int .u32 n) ∧ w'.cell? ⟨w.heap.size, 3, none⟩ = some (.int .u32 m)) (go_keep)
      (first
        | (go_at_call 42; refine Calls.mono (HD.out _) ?_; rintro e w2 ⟨rfl, hK⟩; have hk2 := Lib.hid (hk1.out.drew.and hK); have hZ2 := Lib.hid ((bk_drew hZ.out).and hK); clear x0 x1 x2 x3 x4 x5 x6 x7 x8; obtain ⟨x0, x1, x2, x3, x4, x5, x6, x7, x8⟩ := hZ2.out.attr; clear hK)
        | (go_at_call 43; refine Calls.mono (HA.out _) ?_; rintro e w3 ⟨rfl, hK⟩; have hk3 := Lib.hid (hk2.out.and hK); have hZ3 := Lib.hid (hZ2.out.and hK); clear x0 x1 x2 x3 x4 x5 x6 x7 x8; obtain ⟨x0, x1, x2, x3, x4, x5, x6, x7, x8⟩ := hZ3.out.attr; clear hK))
    go_wp2
    go_ret
    exact ⟨rfl, hk3.out⟩

theorem grtext_any (z : AtI) (ok : z.Ok) (w : World) : Calls Tryd.prog 22 #[z.val] w (Stay (.string (ba (textG z))) w) := by
  unfold textG
  cases hv : validG 4 z with
  | false => exact grtext_bad z ok.n hv w
  | true => exact grtext_good z ok hv w

/-- An attribute with no other fields than its numbers. -/
def mkG (k n m : Int) : AtI := ⟨k, false, n, m, none, 0, 0, none, 0, 0, none, 0, 0, 0, none, 0, 0⟩
theorem mkG_ok (k n m : Int) (hk : -9223372036854775808 ≤ k ∧ k ≤ 9223372036854775807) (hn : 0 ≤ n ∧ n < 4294967296) (hm : 0 ≤ m ∧ m < 4294967296) : (mkG k n m).Ok := ⟨hk, hn, hm, (by simp [mkG]), (by simp [mkG])⟩

theorem text70 : ba (textG (mkG 7 70000 1)) = ⟨#[97, 103, 103, 114, 101, 103, 97, 116, 111, 114, 32, 55, 48, 48, 48, 48, 32, 48, 46, 48, 46, 48, 46, 49]⟩ := by
  have e : textG (mkG 7 70000 1) = [97, 103, 103, 114, 101, 103, 97, 116, 111, 114, 32, 55, 48, 48, 48, 48, 32, 48, 46, 48, 46, 48, 46, 49] := by decide +kernel
  rw [e]; rfl

theorem alive_any (w : World) (htab : Tb w) : Calls Tryd.prog 8 #[] w (Stay (.bool true) w) := by
  have HT := Lib.hid (fun W h => gtext_any (mkG 7 70000 1) (mkG_ok 7 70000 1 (by decide) (by decide) (by decide)) W h)
  rw [text70] at HT
  have HTab := Lib.hid htab
  clear htab
  unfold AtI.val AtI.cs mkG at HT
  go_enter Tryd.func8, Tryd.ntmps8
  go_wp2_with (go_at_call 21; refine Calls.mono (HT.out _ HTab.out) ?_; rintro e w1 ⟨rfl, hK⟩)
  go_ret
  exact ⟨rfl, hK⟩

end Go.Proofs.YtnjdkcnafjkckaaDoor
