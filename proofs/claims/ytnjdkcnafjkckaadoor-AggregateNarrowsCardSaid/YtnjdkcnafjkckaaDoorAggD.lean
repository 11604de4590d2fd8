/- Chapter 8: Text of both sides; the chapter's example. No condition but the bounds that arguments have, and the table of powers of ten. -/
import Derived.Test.YtnjdkcnafjkckaaDoorAggB
import Derived.Test.YtnjdkcnafjkckaaDoorFu10
import Derived.Test.YtnjdkcnafjkckaaDoorDec
namespace Go.Proofs.YtnjdkcnafjkckaaDoor
open Go.RowKit
set_option linter.unusedVariables false
set_option linter.unusedSimpArgs false

/-- The name of a type. -/
def nameG (k : Int) : List UInt8 := if k = 18 then [97, 103, 103, 114, 101, 103, 97, 116, 111, 114, 52] else [97, 103, 103, 114, 101, 103, 97, 116, 111, 114]
/-- The text of an attribute. -/
def textG (z : AtI) : List UInt8 := if validG 4 z then nameG z.t ++ [32] ++ Lib.decDigits z.n.toNat ++ [32] ++ addrL z.m else []

theorem str_add (s : List UInt8) (t : List UInt8) (h : s.length + t.length ≤ 100000) (w : World) : (Op.stringOp .add (ba s) (ba t)).run Tryd.prog w = .ok (.string (ba (s ++ t))) w := by
  rw [run_string_add_sum w _ _ (by rw [ba_size, ba_size]; omega), ba_app]

theorem gtext_bad (z : AtI) (ok : z.Ok) (hv : validG 4 z = false) (w : World) : Calls Tryd.prog 21 #[z.val] w (Stay (.string ⟨#[]⟩) w) := by
  have HV := Lib.hid (fun W => gvalid_any 4 z ok W)
  simp only [hv] at HV
  clear hv
  unfold AtI.val AtI.cs at *
  go_enter Tryd.func21, Tryd.ntmps21
  go_wp2_with (go_at_call 16; refine Calls.mono (HV.out _) ?_; rintro e w1 ⟨rfl, hK⟩; have hk1 := Lib.hid (((Kp.refl NoB w).alloc _).and hK); clear hK)
  go_ret
  exact ⟨rfl, hk1.out⟩

set_option maxRecDepth 100000 in
set_option maxHeartbeats 1600000 in
theorem gtext_good (z : AtI) (ok : z.Ok) (hv : validG 4 z = true) (w : World) (htab : Tb w) : Calls Tryd.prog 21 #[z.val] w (Stay (.string (ba (nameG z.t ++ [32] ++ Lib.decDigits z.n.toNat ++ [32] ++ addrL z.m))) w) := by
  obtain ⟨K, -, -, -, -, hty⟩ := validG_k ok.n hv
  have HV := Lib.hid (fun W => gvalid_any 4 z ok W)
  simp only [hv] at HV
  have hn := ok.n
  have hm := ok.m
  have hd := dec_short z.n.toNat (by omega)
  have ht := addr_short z.m
  have HD0 := fun W (k : Kp NoB w W) => fu10_any z.n.toNat (by omega) W (htab.and k)
  rw [show ((z.n.toNat : Nat) : Int) = z.n by omega] at HD0
  have HA := Lib.hid (fun W (k : Kp NoB w W) => address_any z.m hm.1 hm.2 W (htab.and k))
  obtain ⟨d, hdd⟩ : ∃ d, Lib.decDigits z.n.toNat = d := ⟨_, rfl⟩
  obtain ⟨t, htt⟩ : ∃ d, addrL z.m = d := ⟨_, rfl⟩
  rw [hdd] at HD0 hd ⊢
  rw [htt] at HA ht ⊢
  have HD := Lib.hid HD0
  clear HD0 hv ok htab hdd htt
  obtain ⟨k, p, n, m, S, sn, sc, L, ln, lc, B, bn, bc, f, R, rn, rc⟩ := z
  simp only at hty hn hm HD HA ⊢
  have hw64 : IntKind.u64.wrap n = n := IntWalk.u64_in _ (by omega)
  rcases hty with rfl | rfl
  · have hc1 : ∀ W, (Op.stringOp .add ⟨#[97, 103, 103, 114, 101, 103, 97, 116, 111, 114]⟩ ⟨#[32]⟩).run Tryd.prog W = .ok (.string (ba (nameG 7 ++ [32]))) W := fun W => by
      rw [show (⟨#[97, 103, 103, 114, 101, 103, 97, 116, 111, 114]⟩ : ByteArray) = ba (nameG 7) from rfl, show (⟨#[32]⟩ : ByteArray) = ba [32] from rfl, str_add _ _ (by decide)]
    have hl7 : (nameG 7 ++ [32]).length = 11 := rfl
    obtain ⟨s, hs⟩ : ∃ s, nameG 7 ++ [32] = s := ⟨_, rfl⟩
    rw [hs] at hc1 hl7 ⊢
    have hc2 : ∀ W, (Op.stringOp .add (ba s) ⟨d.toArray⟩).run Tryd.prog W = .ok (.string (ba (s ++ d))) W := fun W => str_add s d (by omega) W
    have hc3 : ∀ W, (Op.stringOp .add (ba (s ++ d)) ⟨#[32]⟩).run Tryd.prog W = .ok (.string (ba (s ++ d ++ [32]))) W := fun W => str_add (s ++ d) [32] (by simp; omega) W
    have hc4 : ∀ W, (Op.stringOp .add (ba (s ++ d ++ [32])) (ba t)).run Tryd.prog W = .ok (.string (ba (s ++ d ++ [32] ++ t))) W := fun W => str_add (s ++ d ++ [32]) t (by simp; omega) W
    obtain ⟨s2, h2⟩ : ∃ x, s ++ d = x := ⟨_, rfl⟩
    rw [h2] at hc2 hc3 hc4 ⊢
    obtain ⟨s3, h3⟩ : ∃ x, s2 ++ [32] = x := ⟨_, rfl⟩
    rw [h3] at hc3 hc4 ⊢
    obtain ⟨s4, h4⟩ : ∃ x, s3 ++ t = x := ⟨_, rfl⟩
    rw [h4] at hc4 ⊢
    clear hs hl7 hd ht h2 h3 h4
    unfold AtI.val AtI.cs at *
    go_enter Tryd.func21, Tryd.ntmps21
    go_wp2_with (go_at_call 16; refine Calls.mono (HV.out _) ?_; rintro e w1 ⟨rfl, hK⟩; obtain ⟨hk1', hZ'⟩ := fin_at (z := ⟨7, p, n, m, S, sn, sc, L, ln, lc, B, bn, bc, f, R, rn, rc⟩) hK; have hk1 := Lib.hid hk1'; have hZ := Lib.hid hZ'; obtain ⟨x0, x1, x2, x3, x4, x5, x6, x7, x8⟩ := hZ'.attr; clear hK hk1' hZ')
    go_region_held3 (fun w' => w'.cell? ⟨w.heap.size, 2, none⟩ = some (.int .u32 n) ∧ w'.cell? ⟨w.heap.size, 3, none⟩ = some (.int .u32 m)) (go_keep)
      (first
        | (go_at_call 40; refine Calls.mono (HD.out _ hk1.out.drew) ?_; rintro e w2 ⟨rfl, hK⟩; have hk2 := Lib.hid (hk1.out.drew.and hK); have hZ2 := Lib.hid ((bk_drew hZ.out).and hK); clear x0 x1 x2 x3 x4 x5 x6 x7 x8; obtain ⟨x0, x1, x2, x3, x4, x5, x6, x7, x8⟩ := hZ2.out.attr; clear hK)
        | (go_at_call 41; refine Calls.mono (HA.out _ hk2.out) ?_; rintro e w3 ⟨rfl, hK⟩; have hk3 := Lib.hid (hk2.out.and hK); have hZ3 := Lib.hid (hZ2.out.and hK); clear x0 x1 x2 x3 x4 x5 x6 x7 x8; obtain ⟨x0, x1, x2, x3, x4, x5, x6, x7, x8⟩ := hZ3.out.attr; clear hK))
    go_wp2
    go_ret
    exact ⟨rfl, hk3.out⟩
  · have hc0 : ∀ W, (Op.stringOp .add ⟨#[97, 103, 103, 114, 101, 103, 97, 116, 111, 114]⟩ ⟨#[52]⟩).run Tryd.prog W = .ok (.string (ba (nameG 18))) W := fun W => by
      rw [show (⟨#[97, 103, 103, 114, 101, 103, 97, 116, 111, 114]⟩ : ByteArray) = ba [97, 103, 103, 114, 101, 103, 97, 116, 111, 114] from rfl, show (⟨#[52]⟩ : ByteArray) = ba [52] from rfl, str_add _ _ (by decide)]
      rfl
    have hc1 : ∀ W, (Op.stringOp .add (ba (nameG 18)) ⟨#[32]⟩).run Tryd.prog W = .ok (.string (ba (nameG 18 ++ [32]))) W := fun W => by
      rw [show (⟨#[32]⟩ : ByteArray) = ba [32] from rfl, str_add _ _ (by decide)]
    have hl7 : (nameG 18 ++ [32]).length = 12 := rfl
    obtain ⟨s, hs⟩ : ∃ s, nameG 18 ++ [32] = s := ⟨_, rfl⟩
    rw [hs] at hc1 hl7 ⊢
    obtain ⟨s0, hs0⟩ : ∃ s, nameG 18 = s := ⟨_, rfl⟩
    rw [hs0] at hc1 hc0
    have hc2 : ∀ W, (Op.stringOp .add (ba s) ⟨d.toArray⟩).run Tryd.prog W = .ok (.string (ba (s ++ d))) W := fun W => str_add s d (by omega) W
    have hc3 : ∀ W, (Op.stringOp .add (ba (s ++ d)) ⟨#[32]⟩).run Tryd.prog W = .ok (.string (ba (s ++ d ++ [32]))) W := fun W => str_add (s ++ d) [32] (by simp; omega) W
    have hc4 : ∀ W, (Op.stringOp .add (ba (s ++ d ++ [32])) (ba t)).run Tryd.prog W = .ok (.string (ba (s ++ d ++ [32] ++ t))) W := fun W => str_add (s ++ d ++ [32]) t (by simp; omega) W
    obtain ⟨s2, h2⟩ : ∃ x, s ++ d = x := ⟨_, rfl⟩
    rw [h2] at hc2 hc3 hc4 ⊢
    obtain ⟨s3, h3⟩ : ∃ x, s2 ++ [32] = x := ⟨_, rfl⟩
    rw [h3] at hc3 hc4 ⊢
    obtain ⟨s4, h4⟩ : ∃ x, s3 ++ t = x := ⟨_, rfl⟩
    rw [h4] at hc4 ⊢
    clear hs hl7 hd ht hs0 h2 h3 h4
    unfold AtI.val AtI.cs at *
    go_enter Tryd.func21, Tryd.ntmps21
    go_wp2_with (go_at_call 16; refine Calls.mono (HV.out _) ?_; rintro e w1 ⟨rfl, hK⟩; obtain ⟨hk1', hZ'⟩ := fin_at (z := ⟨18, p, n, m, S, sn, sc, L, ln, lc, B, bn, bc, f, R, rn, rc⟩) hK; have hk1 := Lib.hid hk1'; have hZ := Lib.hid hZ'; obtain ⟨x0, x1, x2, x3, x4, x5, x6, x7, x8⟩ := hZ'.attr; clear hK hk1' hZ')
    go_region_held3 (fun w' => w'.cell? ⟨w.heap.size, 2, none⟩ = some (.int .u32 n) ∧ w'.cell? ⟨w.heap.size, 3, none⟩ = some (.int .u32 m)) (go_keep)
      (first
        | (go_at_call 40; refine Calls.mono (HD.out _ hk1.out.drew) ?_; rintro e w2 ⟨rfl, hK⟩; have hk2 := Lib.hid (hk1.out.drew.and hK); have hZ2 := Lib.hid ((bk_drew hZ.out).and hK); clear x0 x1 x2 x3 x4 x5 x6 x7 x8; obtain ⟨x0, x1, x2, x3, x4, x5, x6, x7, x8⟩ := hZ2.out.attr; clear hK)
        | (go_at_call 41; refine Calls.mono (HA.out _ hk2.out) ?_; rintro e w3 ⟨rfl, hK⟩; have hk3 := Lib.hid (hk2.out.and hK); have hZ3 := Lib.hid (hZ2.out.and hK); clear x0 x1 x2 x3 x4 x5 x6 x7 x8; obtain ⟨x0, x1, x2, x3, x4, x5, x6, x7, x8⟩ := hZ3.out.attr; clear hK))
    go_wp2
    go_ret
    exact ⟨rfl, hk3.out⟩

theorem gtext_any (z : AtI) (ok : z.Ok) (w : World) (htab : Tb w) : Calls Tryd.prog 21 #[z.val] w (Stay (.string (ba (textG z))) w) := by
  unfold textG
  cases hv : validG 4 z with
  | false => exact gtext_bad z ok hv w
  | true => exact gtext_good z ok hv w htab

end Go.Proofs.YtnjdkcnafjkckaaDoor
