/- Chapter 7: the reference's Text. No condition but the bounds that arguments have. -/
import Derived.Test.YthgcfoednhdbcaaDoorBasL
namespace Go.Proofs.YthgcfoednhdbcaaDoor
open Go.RowKit
set_option linter.unusedVariables false
set_option linter.unusedSimpArgs false

theorem pre_add (s : List UInt8) (t : List UInt8) (hs : s.length ≤ 100) (ht : t.length ≤ 200) (w : World) : (Op.stringOp .add (ba s) (ba t)).run Tryd.prog w = .ok (.string (ba (s ++ t))) w := by
  rw [run_string_add_sum w _ _ (by rw [ba_size, ba_size]; omega), ba_app]

set_option maxRecDepth 100000 in
set_option maxHeartbeats 800000 in
theorem rtext_3 (p : Bool) (n m : Int) (S : Option Addr) (sn sc : Nat) (L : Option Addr) (ln lc : Nat) (B : Option Addr) (bn bc : Nat) (f : Int) (R : Option Addr) (rn rc : Nat) (hn : 0 ≤ n ∧ n < 4294967296) (hv : validA (AtI.mk 3 p n m S sn sc L ln lc B bn bc f R rn rc) = true) (w : World) : Calls Tryd.prog 23 #[(AtI.mk 3 p n m S sn sc L ln lc B bn bc f R rn rc).val] w (Stay (.string (ba (txtL sNexthop (addrL n)))) w) := by
  have HV := Lib.hid (fun W => rvalid_any (AtI.mk 3 p n m S sn sc L ln lc B bn bc f R rn rc) hn W)
  simp only [hv] at HV
  have ht : (addrL n).length ≤ 200 := addr_short n
  have HC := Lib.hid (fun W => raddress_any n hn.1 hn.2 W)
  obtain ⟨t, htt⟩ : ∃ t, addrL n = t := ⟨_, rfl⟩
  rw [htt] at HC ht ⊢
  have hadd : ∀ W, (Op.stringOp .add ⟨#[110, 101, 120, 116, 104, 111, 112, 32]⟩ (ba t)).run Tryd.prog W = .ok (.string (ba (txtL sNexthop t))) W := fun W => by
    rw [show (⟨#[110, 101, 120, 116, 104, 111, 112, 32]⟩ : ByteArray) = ba [110, 101, 120, 116, 104, 111, 112, 32] from rfl, pre_add _ _ (by decide) ht]
    rfl
  clear hv htt ht hn
  unfold AtI.val AtI.cs at *
  go_enter Tryd.func23, Tryd.ntmps23
  go_wp2_with (first
    | (go_at_call 14; refine Calls.mono (HV.out _) ?_; rintro e w1 ⟨rfl, hK⟩; obtain ⟨hk1', hZ'⟩ := fin_at (z := (AtI.mk 3 p n m S sn sc L ln lc B bn bc f R rn rc)) hK; have hk1 := Lib.hid hk1'; have hZ := Lib.hid hZ'; obtain ⟨x0, x1, x2, x3, x4, x5, x6, x7, x8⟩ := hZ'.attr; clear hK hk1' hZ')
    | (go_at_call 13; refine Calls.mono (HC.out _) ?_; rintro e w2 ⟨rfl, hK⟩; have hk2 := Lib.hid (hk1.out.and hK); clear hK))
  go_ret
  exact ⟨rfl, hk2.out⟩

set_option maxRecDepth 100000 in
set_option maxHeartbeats 800000 in
theorem rtext_9 (p : Bool) (n m : Int) (S : Option Addr) (sn sc : Nat) (L : Option Addr) (ln lc : Nat) (B : Option Addr) (bn bc : Nat) (f : Int) (R : Option Addr) (rn rc : Nat) (hn : 0 ≤ n ∧ n < 4294967296) (hv : validA (AtI.mk 9 p n m S sn sc L ln lc B bn bc f R rn rc) = true) (w : World) : Calls Tryd.prog 23 #[(AtI.mk 9 p n m S sn sc L ln lc B bn bc f R rn rc).val] w (Stay (.string (ba (txtL sOriginator (addrL n)))) w) := by
  have HV := Lib.hid (fun W => rvalid_any (AtI.mk 9 p n m S sn sc L ln lc B bn bc f R rn rc) hn W)
  simp only [hv] at HV
  have ht : (addrL n).length ≤ 200 := addr_short n
  have HC := Lib.hid (fun W => raddress_any n hn.1 hn.2 W)
  obtain ⟨t, htt⟩ : ∃ t, addrL n = t := ⟨_, rfl⟩
  rw [htt] at HC ht ⊢
  have hadd : ∀ W, (Op.stringOp .add ⟨#[111, 114, 105, 103, 105, 110, 97, 116, 111, 114, 32]⟩ (ba t)).run Tryd.prog W = .ok (.string (ba (txtL sOriginator t))) W := fun W => by
    rw [show (⟨#[111, 114, 105, 103, 105, 110, 97, 116, 111, 114, 32]⟩ : ByteArray) = ba [111, 114, 105, 103, 105, 110, 97, 116, 111, 114, 32] from rfl, pre_add _ _ (by decide) ht]
    rfl
  clear hv htt ht hn
  unfold AtI.val AtI.cs at *
  go_enter Tryd.func23, Tryd.ntmps23
  go_wp2_with (first
    | (go_at_call 14; refine Calls.mono (HV.out _) ?_; rintro e w1 ⟨rfl, hK⟩; obtain ⟨hk1', hZ'⟩ := fin_at (z := (AtI.mk 9 p n m S sn sc L ln lc B bn bc f R rn rc)) hK; have hk1 := Lib.hid hk1'; have hZ := Lib.hid hZ'; obtain ⟨x0, x1, x2, x3, x4, x5, x6, x7, x8⟩ := hZ'.attr; clear hK hk1' hZ')
    | (go_at_call 13; refine Calls.mono (HC.out _) ?_; rintro e w2 ⟨rfl, hK⟩; have hk2 := Lib.hid (hk1.out.and hK); clear hK))
  go_ret
  exact ⟨rfl, hk2.out⟩

set_option maxRecDepth 100000 in
set_option maxHeartbeats 800000 in
theorem rtext_4 (p : Bool) (n m : Int) (S : Option Addr) (sn sc : Nat) (L : Option Addr) (ln lc : Nat) (B : Option Addr) (bn bc : Nat) (f : Int) (R : Option Addr) (rn rc : Nat) (hn : 0 ≤ n ∧ n < 4294967296) (hv : validA (AtI.mk 4 p n m S sn sc L ln lc B bn bc f R rn rc) = true) (w : World) : Calls Tryd.prog 23 #[(AtI.mk 4 p n m S sn sc L ln lc B bn bc f R rn rc).val] w (Stay (.string (ba (txtL sMed (Lib.decDigits n.toNat)))) w) := by
  have HV := Lib.hid (fun W => rvalid_any (AtI.mk 4 p n m S sn sc L ln lc B bn bc f R rn rc) hn W)
  simp only [hv] at HV
  have ht : (Lib.decDigits n.toNat).length ≤ 200 := by have := dec_short n.toNat (by omega); omega
  have hdec := fun W => rdec_stay n.toNat (by omega) W
  rw [show ((n.toNat : Nat) : Int) = n by omega] at hdec
  have HC := Lib.hid hdec
  have hwn : wrap64 n = n := Go.IntWalk.wrap64_in _ ⟨by omega, by omega⟩
  obtain ⟨t, htt⟩ : ∃ t, Lib.decDigits n.toNat = t := ⟨_, rfl⟩
  rw [htt] at HC ht ⊢
  clear hdec
  have hadd : ∀ W, (Op.stringOp .add ⟨#[109, 101, 100, 32]⟩ (ba t)).run Tryd.prog W = .ok (.string (ba (txtL sMed t))) W := fun W => by
    rw [show (⟨#[109, 101, 100, 32]⟩ : ByteArray) = ba [109, 101, 100, 32] from rfl, pre_add _ _ (by decide) ht]
    rfl
  clear hv htt ht hn
  unfold AtI.val AtI.cs at *
  go_enter Tryd.func23, Tryd.ntmps23
  go_wp2_with (first
    | (go_at_call 14; refine Calls.mono (HV.out _) ?_; rintro e w1 ⟨rfl, hK⟩; obtain ⟨hk1', hZ'⟩ := fin_at (z := (AtI.mk 4 p n m S sn sc L ln lc B bn bc f R rn rc)) hK; have hk1 := Lib.hid hk1'; have hZ := Lib.hid hZ'; obtain ⟨x0, x1, x2, x3, x4, x5, x6, x7, x8⟩ := hZ'.attr; clear hK hk1' hZ')
    | (go_at_call 30; refine Calls.mono (HC.out _) ?_; rintro e w2 ⟨rfl, hK⟩; have hk2 := Lib.hid (hk1.out.and hK); clear hK))
  go_ret
  exact ⟨rfl, hk2.out⟩

set_option maxRecDepth 100000 in
set_option maxHeartbeats 800000 in
theorem rtext_5 (p : Bool) (n m : Int) (S : Option Addr) (sn sc : Nat) (L : Option Addr) (ln lc : Nat) (B : Option Addr) (bn bc : Nat) (f : Int) (R : Option Addr) (rn rc : Nat) (hn : 0 ≤ n ∧ n < 4294967296) (hv : validA (AtI.mk 5 p n m S sn sc L ln lc B bn bc f R rn rc) = true) (w : World) : Calls Tryd.prog 23 #[(AtI.mk 5 p n m S sn sc L ln lc B bn bc f R rn rc).val] w (Stay (.string (ba (txtL sLocal (Lib.decDigits n.toNat)))) w) := by
  have HV := Lib.hid (fun W => rvalid_any (AtI.mk 5 p n m S sn sc L ln lc B bn bc f R rn rc) hn W)
  simp only [hv] at HV
  have ht : (Lib.decDigits n.toNat).length ≤ 200 := by have := dec_short n.toNat (by omega); omega
  have hdec := fun W => rdec_stay n.toNat (by omega) W
  rw [show ((n.toNat : Nat) : Int) = n by omega] at hdec
  have HC := Lib.hid hdec
  have hwn : wrap64 n = n := Go.IntWalk.wrap64_in _ ⟨by omega, by omega⟩
  obtain ⟨t, htt⟩ : ∃ t, Lib.decDigits n.toNat = t := ⟨_, rfl⟩
  rw [htt] at HC ht ⊢
  clear hdec
  have hadd : ∀ W, (Op.stringOp .add ⟨#[108, 111, 99, 97, 108, 112, 114, 101, 102, 32]⟩ (ba t)).run Tryd.prog W = .ok (.string (ba (txtL sLocal t))) W := fun W => by
    rw [show (⟨#[108, 111, 99, 97, 108, 112, 114, 101, 102, 32]⟩ : ByteArray) = ba [108, 111, 99, 97, 108, 112, 114, 101, 102, 32] from rfl, pre_add _ _ (by decide) ht]
    rfl
  clear hv htt ht hn
  unfold AtI.val AtI.cs at *
  go_enter Tryd.func23, Tryd.ntmps23
  go_wp2_with (first
    | (go_at_call 14; refine Calls.mono (HV.out _) ?_; rintro e w1 ⟨rfl, hK⟩; obtain ⟨hk1', hZ'⟩ := fin_at (z := (AtI.mk 5 p n m S sn sc L ln lc B bn bc f R rn rc)) hK; have hk1 := Lib.hid hk1'; have hZ := Lib.hid hZ'; obtain ⟨x0, x1, x2, x3, x4, x5, x6, x7, x8⟩ := hZ'.attr; clear hK hk1' hZ')
    | (go_at_call 30; refine Calls.mono (HC.out _) ?_; rintro e w2 ⟨rfl, hK⟩; have hk2 := Lib.hid (hk1.out.and hK); clear hK))
  go_ret
  exact ⟨rfl, hk2.out⟩

set_option maxRecDepth 100000 in
set_option maxHeartbeats 800000 in
theorem rtext_10 (p : Bool) (m : Int) (S : Option Addr) (sn sc : Nat) (L : Option Addr) (ln lc : Nat) (B : Option Addr) (bn bc : Nat) (f : Int) (R : Option Addr) (rn rc : Nat) (hv : validA (AtI.mk 1 p 0 m S sn sc L ln lc B bn bc f R rn rc) = true) (w : World) : Calls Tryd.prog 23 #[(AtI.mk 1 p 0 m S sn sc L ln lc B bn bc f R rn rc).val] w (Stay (.string (ba (txtL sOrigin (orgL 0)))) w) := by
  have HV := Lib.hid (fun W => rvalid_any (AtI.mk 1 p 0 m S sn sc L ln lc B bn bc f R rn rc) (by show (0 : Int) ≤ 0 ∧ (0 : Int) < 4294967296; decide) W)
  simp only [hv] at HV
  have hadd : ∀ W, (Op.stringOp .add ⟨#[111, 114, 105, 103, 105, 110, 32]⟩ ⟨#[105, 103, 112]⟩).run Tryd.prog W = .ok (.string (ba (txtL sOrigin (orgL 0)))) W := fun W => by
    rw [show (⟨#[111, 114, 105, 103, 105, 110, 32]⟩ : ByteArray) = ba [111, 114, 105, 103, 105, 110, 32] from rfl, show (⟨#[105, 103, 112]⟩ : ByteArray) = ba [105, 103, 112] from rfl, pre_add _ _ (by decide) (by decide)]
    rfl
  clear hv
  unfold AtI.val AtI.cs at *
  go_enter Tryd.func23, Tryd.ntmps23
  go_wp2_with (go_at_call 14; refine Calls.mono (HV.out _) ?_; rintro e w1 ⟨rfl, hK⟩; obtain ⟨hk1', hZ'⟩ := fin_at (z := (AtI.mk 1 p 0 m S sn sc L ln lc B bn bc f R rn rc)) hK; have hk1 := Lib.hid hk1'; have hZ := Lib.hid hZ'; obtain ⟨x0, x1, x2, x3, x4, x5, x6, x7, x8⟩ := hZ'.attr; have hlt : w.heap.size < w1.heap.size := hZ.out.lt; have hne := Nat.ne_of_lt hlt; clear hK hk1' hZ')
  go_ret
  exact ⟨rfl, hk1.out.alloc _⟩

set_option maxRecDepth 100000 in
set_option maxHeartbeats 800000 in
theorem rtext_11 (p : Bool) (m : Int) (S : Option Addr) (sn sc : Nat) (L : Option Addr) (ln lc : Nat) (B : Option Addr) (bn bc : Nat) (f : Int) (R : Option Addr) (rn rc : Nat) (hv : validA (AtI.mk 1 p 1 m S sn sc L ln lc B bn bc f R rn rc) = true) (w : World) : Calls Tryd.prog 23 #[(AtI.mk 1 p 1 m S sn sc L ln lc B bn bc f R rn rc).val] w (Stay (.string (ba (txtL sOrigin (orgL 1)))) w) := by
  have HV := Lib.hid (fun W => rvalid_any (AtI.mk 1 p 1 m S sn sc L ln lc B bn bc f R rn rc) (by show (0 : Int) ≤ 1 ∧ (1 : Int) < 4294967296; decide) W)
  simp only [hv] at HV
  have hadd : ∀ W, (Op.stringOp .add ⟨#[111, 114, 105, 103, 105, 110, 32]⟩ ⟨#[101, 103, 112]⟩).run Tryd.prog W = .ok (.string (ba (txtL sOrigin (orgL 1)))) W := fun W => by
    rw [show (⟨#[111, 114, 105, 103, 105, 110, 32]⟩ : ByteArray) = ba [111, 114, 105, 103, 105, 110, 32] from rfl, show (⟨#[101, 103, 112]⟩ : ByteArray) = ba [101, 103, 112] from rfl, pre_add _ _ (by decide) (by decide)]
    rfl
  clear hv
  unfold AtI.val AtI.cs at *
  go_enter Tryd.func23, Tryd.ntmps23
  go_wp2_with (go_at_call 14; refine Calls.mono (HV.out _) ?_; rintro e w1 ⟨rfl, hK⟩; obtain ⟨hk1', hZ'⟩ := fin_at (z := (AtI.mk 1 p 1 m S sn sc L ln lc B bn bc f R rn rc)) hK; have hk1 := Lib.hid hk1'; have hZ := Lib.hid hZ'; obtain ⟨x0, x1, x2, x3, x4, x5, x6, x7, x8⟩ := hZ'.attr; have hlt : w.heap.size < w1.heap.size := hZ.out.lt; have hne := Nat.ne_of_lt hlt; clear hK hk1' hZ')
  go_ret
  exact ⟨rfl, hk1.out.alloc _⟩

set_option maxRecDepth 100000 in
set_option maxHeartbeats 800000 in
theorem rtext_12 (p : Bool) (m : Int) (S : Option Addr) (sn sc : Nat) (L : Option Addr) (ln lc : Nat) (B : Option Addr) (bn bc : Nat) (f : Int) (R : Option Addr) (rn rc : Nat) (hv : validA (AtI.mk 1 p 2 m S sn sc L ln lc B bn bc f R rn rc) = true) (w : World) : Calls Tryd.prog 23 #[(AtI.mk 1 p 2 m S sn sc L ln lc B bn bc f R rn rc).val] w (Stay (.string (ba (txtL sOrigin (orgL 2)))) w) := by
  have HV := Lib.hid (fun W => rvalid_any (AtI.mk 1 p 2 m S sn sc L ln lc B bn bc f R rn rc) (by show (0 : Int) ≤ 2 ∧ (2 : Int) < 4294967296; decide) W)
  simp only [hv] at HV
  have hadd : ∀ W, (Op.stringOp .add ⟨#[111, 114, 105, 103, 105, 110, 32]⟩ ⟨#[105, 110, 99, 111, 109, 112, 108, 101, 116, 101]⟩).run Tryd.prog W = .ok (.string (ba (txtL sOrigin (orgL 2)))) W := fun W => by
    rw [show (⟨#[111, 114, 105, 103, 105, 110, 32]⟩ : ByteArray) = ba [111, 114, 105, 103, 105, 110, 32] from rfl, show (⟨#[105, 110, 99, 111, 109, 112, 108, 101, 116, 101]⟩ : ByteArray) = ba [105, 110, 99, 111, 109, 112, 108, 101, 116, 101] from rfl, pre_add _ _ (by decide) (by decide)]
    rfl
  clear hv
  unfold AtI.val AtI.cs at *
  go_enter Tryd.func23, Tryd.ntmps23
  go_wp2_with (go_at_call 14; refine Calls.mono (HV.out _) ?_; rintro e w1 ⟨rfl, hK⟩; obtain ⟨hk1', hZ'⟩ := fin_at (z := (AtI.mk 1 p 2 m S sn sc L ln lc B bn bc f R rn rc)) hK; have hk1 := Lib.hid hk1'; have hZ := Lib.hid hZ'; obtain ⟨x0, x1, x2, x3, x4, x5, x6, x7, x8⟩ := hZ'.attr; have hlt : w.heap.size < w1.heap.size := hZ.out.lt; have hne := Nat.ne_of_lt hlt; clear hK hk1' hZ')
  go_ret
  exact ⟨rfl, hk1.out.alloc _⟩

set_option maxRecDepth 100000 in
set_option maxHeartbeats 800000 in
theorem rtext_6 (p : Bool) (n m : Int) (S : Option Addr) (sn sc : Nat) (L : Option Addr) (ln lc : Nat) (B : Option Addr) (bn bc : Nat) (f : Int) (R : Option Addr) (rn rc : Nat) (hn : 0 ≤ n ∧ n < 4294967296) (hv : validA (AtI.mk 6 p n m S sn sc L ln lc B bn bc f R rn rc) = true) (w : World) : Calls Tryd.prog 23 #[(AtI.mk 6 p n m S sn sc L ln lc B bn bc f R rn rc).val] w (Stay (.string (ba [97, 116, 111, 109, 105, 99])) w) := by
  have HV := Lib.hid (fun W => rvalid_any (AtI.mk 6 p n m S sn sc L ln lc B bn bc f R rn rc) hn W)
  simp only [hv] at HV
  clear hv hn
  unfold AtI.val AtI.cs at *
  go_enter Tryd.func23, Tryd.ntmps23
  go_wp2_with (go_at_call 14; refine Calls.mono (HV.out _) ?_; rintro e w1 ⟨rfl, hK⟩; obtain ⟨hk1', hZ'⟩ := fin_at (z := (AtI.mk 6 p n m S sn sc L ln lc B bn bc f R rn rc)) hK; have hk1 := Lib.hid hk1'; have hZ := Lib.hid hZ'; obtain ⟨x0, x1, x2, x3, x4, x5, x6, x7, x8⟩ := hZ'.attr; clear hK hk1' hZ')
  go_ret
  exact ⟨rfl, hk1.out⟩

theorem rtext_bad (z : AtI) (hn : 0 ≤ z.n ∧ z.n < 4294967296) (hv : validA z = false) (w : World) : Calls Tryd.prog 23 #[z.val] w (Stay (.string ⟨#[]⟩) w) := by
  have HV := Lib.hid (fun W => rvalid_any z hn W)
  simp only [hv] at HV
  clear hn hv
  unfold AtI.val AtI.cs at *
  go_enter Tryd.func23, Tryd.ntmps23
  go_wp2_with (go_at_call 14; refine Calls.mono (HV.out _) ?_; rintro e w1 ⟨rfl, hK⟩; have hk1 := Lib.hid (((Kp.refl NoB w).alloc _).and hK); clear hK)
  go_ret
  exact ⟨rfl, hk1.out⟩

theorem rtext_any (z : AtI) (hn : 0 ≤ z.n ∧ z.n < 4294967296) (w : World) : Calls Tryd.prog 23 #[z.val] w (Stay (.string (ba (textA z))) w) := by
  cases hv : validA z with
  | false => rw [show textA z = [] by unfold textA; rw [hv]; rfl]; exact rtext_bad z hn hv w
  | true =>
    rw [show textA z = txtK z.t z.n by unfold textA; rw [if_pos hv]]
    cases hk : wdO z.t with
    | none => unfold validA at hv; rw [hk] at hv; cases hv
    | some r =>
      obtain ⟨a, mm, c⟩ := r
      have hv' := hv
      unfold validA at hv'
      rw [hk] at hv'
      simp only [Bool.and_eq_true, decide_eq_true_eq] at hv'
      have h2 := hv'.2
      clear hv'
      have hkk := wdO_kinds hk
      clear hk
      obtain ⟨t, p, n, m, S, sn, sc, L, ln, lc, B, bn, bc, f, R, rn, rc⟩ := z
      simp only at hn h2 hkk
      rcases hkk with ⟨rfl, rfl, rfl, rfl⟩ | ⟨h1, rfl, rfl, rfl⟩ | ⟨rfl, rfl, rfl, rfl⟩
      · rcases (show n = 0 ∨ n = 1 ∨ n = 2 by omega) with rfl | rfl | rfl
        · exact rtext_10 _ _ _ _ _ _ _ _ _ _ _ _ _ _ _ hv w
        · exact rtext_11 _ _ _ _ _ _ _ _ _ _ _ _ _ _ _ hv w
        · exact rtext_12 _ _ _ _ _ _ _ _ _ _ _ _ _ _ _ hv w
      · rcases h1 with rfl | rfl | rfl | rfl
        · exact rtext_3 _ _ _ _ _ _ _ _ _ _ _ _ _ _ _ _ hn hv w
        · exact rtext_4 _ _ _ _ _ _ _ _ _ _ _ _ _ _ _ _ hn hv w
        · exact rtext_5 _ _ _ _ _ _ _ _ _ _ _ _ _ _ _ _ hn hv w
        · exact rtext_9 _ _ _ _ _ _ _ _ _ _ _ _ _ _ _ _ hn hv w
      · exact rtext_6 _ _ _ _ _ _ _ _ _ _ _ _ _ _ _ _ hn hv w

end Go.Proofs.YthgcfoednhdbcaaDoor
