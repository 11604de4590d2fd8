/- The reference's Text; the text of a verdict; the chapter's example. No condition but the listed tables' content. -/
import Derived.Test.YtknaogpkakdcoaaDoorFinC
import Derived.Test.YtknaogpkakdcoaaDoorHexR
namespace Go.Proofs.YtknaogpkakdcoaaDoor
open Go.RowKit
set_option linter.unusedVariables false
set_option linter.unusedSimpArgs false

theorem str_add (s : List UInt8) (t : List UInt8) (h : s.length + t.length ≤ 100000) (w : World) : (Op.stringOp .add (ba s) (ba t)).run Tryd.prog w = .ok (.string (ba (s ++ t))) w := by
  rw [run_string_add_sum w _ _ (by rw [ba_size, ba_size]; omega), ba_app]
theorem rdec_int (n : Int) (h0 : 0 ≤ n) (h1 : n ≤ 9223372036854775807) (w : World) : Calls Tryd.prog 32 #[.int .i64 n] w (Stay (.string (ba (Lib.decDigits n.toNat))) w) := by
  have h := rdec_stay n.toNat (by omega) w
  rw [show ((n.toNat : Nat) : Int) = n by omega] at h
  exact h

theorem rtext_bad (k c s : Int) (A : Option Addr) (n m : Nat) (a : Int) (w : World) (hp : properV k c s n a = false) : Calls Tryd.prog 12 #[.agg #[.int .i64 k, .int .i64 c, .int .i64 s, .slice A n m, .int .i64 a]] w (Stay (.string ⟨#[]⟩) w) := by
  have HP := Lib.hid (fun W => rproper_any k c s A n m a W)
  rw [hp] at HP
  clear hp
  go_enter Tryd.func12, Tryd.ntmps12
  go_wp2_with (go_at_call 10; refine Calls.mono (HP.out _) ?_; rintro e w1 ⟨rfl, hK⟩; have hk1 := Lib.hid (((Kp.refl NoB w).alloc _).and hK); clear hK)
  go_ret
  exact ⟨rfl, hk1.out⟩

set_option maxRecDepth 100000 in
set_option maxHeartbeats 1600000 in
theorem rtext_0 (A : Option Addr) (m : Nat) (w : World) : Calls Tryd.prog 12 #[.agg #[.int .i64 0, .int .i64 0, .int .i64 0, .slice A 0 m, .int .i64 0]] w (Stay (.string (ba [97, 99, 99, 101, 112, 116])) w) := by
  have HP := Lib.hid (fun W => rproper_any 0 0 0 A 0 m 0 W)
  rw [show properV 0 0 0 0 0 = true from rfl] at HP
  go_enter Tryd.func12, Tryd.ntmps12
  go_wp2_with (go_at_call 10; refine Calls.mono (HP.out _) ?_; rintro e w1 ⟨rfl, hK⟩; have hk1 := Lib.hid (((Kp.refl NoB w).alloc _).and hK); have hv1 := Lib.hid ((Bk.fresh w 24 _).and hK); obtain ⟨x0, x1, x2, x3, x4⟩ := hv1.out.five; have hlt : w.heap.size < w1.heap.size := hv1.out.lt; have hne := Nat.ne_of_lt hlt; clear hK)
  go_ret
  exact ⟨rfl, hk1.out.alloc _⟩

set_option maxRecDepth 100000 in
set_option maxHeartbeats 1600000 in
theorem rtext_1 (A : Option Addr) (m : Nat) (a : Int) (h0 : 0 ≤ a) (h1 : a ≤ 9223372036854775807) (w : World) : Calls Tryd.prog 12 #[.agg #[.int .i64 1, .int .i64 0, .int .i64 0, .slice A 0 m, .int .i64 a]] w (Stay (.string (ba (Lib.join [[100, 105, 115, 99, 97, 114, 100], [97, 116], Lib.decDigits a.toNat] [32]))) w) := by
  have HP := Lib.hid (fun W => rproper_any 1 0 0 A 0 m a W)
  rw [show properV 1 0 0 0 a = true by simp only [properV, decide_eq_true_eq]; simp [h0]] at HP
  have HI := Lib.hid (fun W => rdec_int a h0 h1 W)
  have hd := dec_len a h0 h1
  obtain ⟨D, hD⟩ : ∃ d, Lib.decDigits a.toNat = d := ⟨_, rfl⟩
  rw [hD] at HI hd ⊢
  obtain ⟨P1, hP1⟩ : ∃ x, ([100, 105, 115, 99, 97, 114, 100] ++ [32, 97, 116, 32] : List UInt8) = x := ⟨_, rfl⟩
  obtain ⟨R, hR⟩ : ∃ x, P1 ++ D = x := ⟨_, rfl⟩
  have hl1 := congrArg List.length hP1
  simp at hl1
  have hJ : Lib.join [[100, 105, 115, 99, 97, 114, 100], [97, 116], D] [32] = R := by rw [← hR, ← hP1]; simp [Lib.join_cons, Lib.joinTail]
  rw [hJ]
  have hc1 : ∀ W, (Op.stringOp .add ⟨#[100, 105, 115, 99, 97, 114, 100]⟩ ⟨#[32, 97, 116, 32]⟩).run Tryd.prog W = .ok (.string (ba P1)) W := fun W => by rw [show (⟨#[100, 105, 115, 99, 97, 114, 100]⟩ : ByteArray) = ba [100, 105, 115, 99, 97, 114, 100] from rfl, show (⟨#[32, 97, 116, 32]⟩ : ByteArray) = ba [32, 97, 116, 32] from rfl, str_add _ _ (by decide) W, hP1]
  have hc2 : ∀ W, (Op.stringOp .add (ba P1) (ba D)).run Tryd.prog W = .ok (.string (ba R)) W := fun W => by rw [str_add _ _ (by omega) W, hR]
  clear hJ hR hP1 hl1 hd hD
  go_enter Tryd.func12, Tryd.ntmps12
  go_wp2_with (first
    | (go_at_call 10; refine Calls.mono (HP.out _) ?_; rintro e w1 ⟨rfl, hK⟩; have hk1 := Lib.hid (((Kp.refl NoB w).alloc _).and hK); have hv1 := Lib.hid ((Bk.fresh w 24 _).and hK); obtain ⟨x0, x1, x2, x3, x4⟩ := hv1.out.five; have hlt : w.heap.size < w1.heap.size := hv1.out.lt; have hne := Nat.ne_of_lt hlt; clear hK)
    | (go_at_call 32; (with_reducible refine Calls.mono (HI.out _) ?_); rintro e w2 ⟨rfl, hK⟩; have hk2 := Lib.hid ((hk1.out.alloc _).and hK); clear hK))
  go_ret
  exact ⟨rfl, hk2.out⟩

set_option maxRecDepth 100000 in
set_option maxHeartbeats 1600000 in
theorem rtext_2 (A : Option Addr) (m : Nat) (a : Int) (h0 : 0 ≤ a) (h1 : a ≤ 9223372036854775807) (w : World) : Calls Tryd.prog 12 #[.agg #[.int .i64 2, .int .i64 0, .int .i64 0, .slice A 0 m, .int .i64 a]] w (Stay (.string (ba (Lib.join [[119, 105, 116, 104, 100, 114, 97, 119], [97, 116], Lib.decDigits a.toNat] [32]))) w) := by
  have HP := Lib.hid (fun W => rproper_any 2 0 0 A 0 m a W)
  rw [show properV 2 0 0 0 a = true by simp only [properV, decide_eq_true_eq]; simp [h0]] at HP
  have HI := Lib.hid (fun W => rdec_int a h0 h1 W)
  have hd := dec_len a h0 h1
  obtain ⟨D, hD⟩ : ∃ d, Lib.decDigits a.toNat = d := ⟨_, rfl⟩
  rw [hD] at HI hd ⊢
  obtain ⟨P1, hP1⟩ : ∃ x, ([119, 105, 116, 104, 100, 114, 97, 119] ++ [32, 97, 116, 32] : List UInt8) = x := ⟨_, rfl⟩
  obtain ⟨R, hR⟩ : ∃ x, P1 ++ D = x := ⟨_, rfl⟩
  have hl1 := congrArg List.length hP1
  simp at hl1
  have hJ : Lib.join [[119, 105, 116, 104, 100, 114, 97, 119], [97, 116], D] [32] = R := by rw [← hR, ← hP1]; simp [Lib.join_cons, Lib.joinTail]
  rw [hJ]
  have hc1 : ∀ W, (Op.stringOp .add ⟨#[119, 105, 116, 104, 100, 114, 97, 119]⟩ ⟨#[32, 97, 116, 32]⟩).run Tryd.prog W = .ok (.string (ba P1)) W := fun W => by rw [show (⟨#[119, 105, 116, 104, 100, 114, 97, 119]⟩ : ByteArray) = ba [119, 105, 116, 104, 100, 114, 97, 119] from rfl, show (⟨#[32, 97, 116, 32]⟩ : ByteArray) = ba [32, 97, 116, 32] from rfl, str_add _ _ (by decide) W, hP1]
  have hc2 : ∀ W, (Op.stringOp .add (ba P1) (ba D)).run Tryd.prog W = .ok (.string (ba R)) W := fun W => by rw [str_add _ _ (by omega) W, hR]
  clear hJ hR hP1 hl1 hd hD
  go_enter Tryd.func12, Tryd.ntmps12
  go_wp2_with (first
    | (go_at_call 10; refine Calls.mono (HP.out _) ?_; rintro e w1 ⟨rfl, hK⟩; have hk1 := Lib.hid (((Kp.refl NoB w).alloc _).and hK); have hv1 := Lib.hid ((Bk.fresh w 24 _).and hK); obtain ⟨x0, x1, x2, x3, x4⟩ := hv1.out.five; have hlt : w.heap.size < w1.heap.size := hv1.out.lt; have hne := Nat.ne_of_lt hlt; clear hK)
    | (go_at_call 32; (with_reducible refine Calls.mono (HI.out _) ?_); rintro e w2 ⟨rfl, hK⟩; have hk2 := Lib.hid ((hk1.out.alloc _).and hK); clear hK))
  go_ret
  exact ⟨rfl, hk2.out⟩

set_option maxRecDepth 100000 in
set_option maxHeartbeats 1600000 in
theorem rtext_31 (A : Option Addr) (m : Nat) (a : Int) (h0 : 0 ≤ a) (h1 : a ≤ 9223372036854775807) (w : World) : Calls Tryd.prog 12 #[.agg #[.int .i64 3, .int .i64 0, .int .i64 1, .slice A 0 m, .int .i64 a]] w (Stay (.string (ba (Lib.join [[114, 101, 115, 101, 116], [105, 112, 118, 52], [97, 116], Lib.decDigits a.toNat] [32]))) w) := by
  have HP := Lib.hid (fun W => rproper_any 3 0 1 A 0 m a W)
  rw [show properV 3 0 1 0 a = true by simp only [properV, decide_eq_true_eq]; simp [h0]] at HP
  have HI := Lib.hid (fun W => rdec_int a h0 h1 W)
  have hd := dec_len a h0 h1
  obtain ⟨D, hD⟩ : ∃ d, Lib.decDigits a.toNat = d := ⟨_, rfl⟩
  rw [hD] at HI hd ⊢
  obtain ⟨P1, hP1⟩ : ∃ x, ([114, 101, 115, 101, 116] ++ [32] : List UInt8) = x := ⟨_, rfl⟩
  obtain ⟨P2, hP2⟩ : ∃ x, P1 ++ [105, 112, 118, 52] = x := ⟨_, rfl⟩
  obtain ⟨P3, hP3⟩ : ∃ x, P2 ++ [32, 97, 116, 32] = x := ⟨_, rfl⟩
  obtain ⟨R, hR⟩ : ∃ x, P3 ++ D = x := ⟨_, rfl⟩
  have hl1 := congrArg List.length hP1
  have hl2 := congrArg List.length hP2
  have hl3 := congrArg List.length hP3
  simp at hl1 hl2 hl3
  have hJ : Lib.join [[114, 101, 115, 101, 116], [105, 112, 118, 52], [97, 116], D] [32] = R := by rw [← hR, ← hP3, ← hP2, ← hP1]; simp [Lib.join_cons, Lib.joinTail]
  rw [hJ]
  have hc1 : ∀ W, (Op.stringOp .add ⟨#[114, 101, 115, 101, 116]⟩ ⟨#[32]⟩).run Tryd.prog W = .ok (.string (ba P1)) W := fun W => by rw [show (⟨#[114, 101, 115, 101, 116]⟩ : ByteArray) = ba [114, 101, 115, 101, 116] from rfl, show (⟨#[32]⟩ : ByteArray) = ba [32] from rfl, str_add _ _ (by decide) W, hP1]
  have hc2 : ∀ W, (Op.stringOp .add (ba P1) ⟨#[105, 112, 118, 52]⟩).run Tryd.prog W = .ok (.string (ba P2)) W := fun W => by rw [show (⟨#[105, 112, 118, 52]⟩ : ByteArray) = ba [105, 112, 118, 52] from rfl, str_add _ _ (by simp; omega) W, hP2]
  have hc3 : ∀ W, (Op.stringOp .add (ba P2) ⟨#[32, 97, 116, 32]⟩).run Tryd.prog W = .ok (.string (ba P3)) W := fun W => by rw [show (⟨#[32, 97, 116, 32]⟩ : ByteArray) = ba [32, 97, 116, 32] from rfl, str_add _ _ (by simp; omega) W, hP3]
  have hc4 : ∀ W, (Op.stringOp .add (ba P3) (ba D)).run Tryd.prog W = .ok (.string (ba R)) W := fun W => by rw [str_add _ _ (by omega) W, hR]
  clear hJ hR hP1 hP2 hP3 hl1 hl2 hl3 hd hD
  go_enter Tryd.func12, Tryd.ntmps12
  go_wp2_with (first
    | (go_at_call 10; refine Calls.mono (HP.out _) ?_; rintro e w1 ⟨rfl, hK⟩; have hk1 := Lib.hid (((Kp.refl NoB w).alloc _).and hK); have hv1 := Lib.hid ((Bk.fresh w 24 _).and hK); obtain ⟨x0, x1, x2, x3, x4⟩ := hv1.out.five; have hlt : w.heap.size < w1.heap.size := hv1.out.lt; have hne := Nat.ne_of_lt hlt; clear hK)
    | (go_at_call 32; (with_reducible refine Calls.mono (HI.out _) ?_); rintro e w2 ⟨rfl, hK⟩; have hk2 := Lib.hid (((hk1.out.alloc _).alloc _).and hK); clear hK))
  go_ret
  exact ⟨rfl, hk2.out⟩

set_option maxRecDepth 100000 in
set_option maxHeartbeats 1600000 in
theorem rtext_32 (A : Option Addr) (m : Nat) (a : Int) (h0 : 0 ≤ a) (h1 : a ≤ 9223372036854775807) (w : World) : Calls Tryd.prog 12 #[.agg #[.int .i64 3, .int .i64 0, .int .i64 2, .slice A 0 m, .int .i64 a]] w (Stay (.string (ba (Lib.join [[114, 101, 115, 101, 116], [105, 112, 118, 54], [97, 116], Lib.decDigits a.toNat] [32]))) w) := by
  have HP := Lib.hid (fun W => rproper_any 3 0 2 A 0 m a W)
  rw [show properV 3 0 2 0 a = true by simp only [properV, decide_eq_true_eq]; simp [h0]] at HP
  have HI := Lib.hid (fun W => rdec_int a h0 h1 W)
  have hd := dec_len a h0 h1
  obtain ⟨D, hD⟩ : ∃ d, Lib.decDigits a.toNat = d := ⟨_, rfl⟩
  rw [hD] at HI hd ⊢
  obtain ⟨P1, hP1⟩ : ∃ x, ([114, 101, 115, 101, 116] ++ [32] : List UInt8) = x := ⟨_, rfl⟩
  obtain ⟨P2, hP2⟩ : ∃ x, P1 ++ [105, 112, 118, 54] = x := ⟨_, rfl⟩
  obtain ⟨P3, hP3⟩ : ∃ x, P2 ++ [32, 97, 116, 32] = x := ⟨_, rfl⟩
  obtain ⟨R, hR⟩ : ∃ x, P3 ++ D = x := ⟨_, rfl⟩
  have hl1 := congrArg List.length hP1
  have hl2 := congrArg List.length hP2
  have hl3 := congrArg List.length hP3
  simp at hl1 hl2 hl3
  have hJ : Lib.join [[114, 101, 115, 101, 116], [105, 112, 118, 54], [97, 116], D] [32] = R := by rw [← hR, ← hP3, ← hP2, ← hP1]; simp [Lib.join_cons, Lib.joinTail]
  rw [hJ]
  have hc1 : ∀ W, (Op.stringOp .add ⟨#[114, 101, 115, 101, 116]⟩ ⟨#[32]⟩).run Tryd.prog W = .ok (.string (ba P1)) W := fun W => by rw [show (⟨#[114, 101, 115, 101, 116]⟩ : ByteArray) = ba [114, 101, 115, 101, 116] from rfl, show (⟨#[32]⟩ : ByteArray) = ba [32] from rfl, str_add _ _ (by decide) W, hP1]
  have hc2 : ∀ W, (Op.stringOp .add (ba P1) ⟨#[105, 112, 118, 54]⟩).run Tryd.prog W = .ok (.string (ba P2)) W := fun W => by rw [show (⟨#[105, 112, 118, 54]⟩ : ByteArray) = ba [105, 112, 118, 54] from rfl, str_add _ _ (by simp; omega) W, hP2]
  have hc3 : ∀ W, (Op.stringOp .add (ba P2) ⟨#[32, 97, 116, 32]⟩).run Tryd.prog W = .ok (.string (ba P3)) W := fun W => by rw [show (⟨#[32, 97, 116, 32]⟩ : ByteArray) = ba [32, 97, 116, 32] from rfl, str_add _ _ (by simp; omega) W, hP3]
  have hc4 : ∀ W, (Op.stringOp .add (ba P3) (ba D)).run Tryd.prog W = .ok (.string (ba R)) W := fun W => by rw [str_add _ _ (by omega) W, hR]
  clear hJ hR hP1 hP2 hP3 hl1 hl2 hl3 hd hD
  go_enter Tryd.func12, Tryd.ntmps12
  go_wp2_with (first
    | (go_at_call 10; refine Calls.mono (HP.out _) ?_; rintro e w1 ⟨rfl, hK⟩; have hk1 := Lib.hid (((Kp.refl NoB w).alloc _).and hK); have hv1 := Lib.hid ((Bk.fresh w 24 _).and hK); obtain ⟨x0, x1, x2, x3, x4⟩ := hv1.out.five; have hlt : w.heap.size < w1.heap.size := hv1.out.lt; have hne := Nat.ne_of_lt hlt; clear hK)
    | (go_at_call 32; (with_reducible refine Calls.mono (HI.out _) ?_); rintro e w2 ⟨rfl, hK⟩; have hk2 := Lib.hid (((hk1.out.alloc _).alloc _).and hK); clear hK))
  go_ret
  exact ⟨rfl, hk2.out⟩

set_option maxRecDepth 100000 in
set_option maxHeartbeats 1600000 in
theorem rtext_4z (c s : Int) (A : Option Addr) (m : Nat) (a : Int) (xs : List Int) (hp : properV 4 c s xs.length a = true) (h1 : a ≤ 9223372036854775807) (w : World) (ha : Arr w A (bs xs)) (hb : IsB xs) (hn : xs.length ≤ 1000) (hx0 : xs.length = 0) : Calls Tryd.prog 12 #[.agg #[.int .i64 4, .int .i64 c, .int .i64 s, .slice A xs.length m, .int .i64 a]] w (Stay (.string (ba (Lib.join [[110, 111, 116, 105, 102, 121], Lib.decDigits c.toNat, Lib.decDigits s.toNat, [97, 116], Lib.decDigits a.toNat] [32]))) w) := by
  have HP := Lib.hid (fun W => rproper_any 4 c s A xs.length m a W)
  rw [hp] at HP
  simp only [properV, decide_eq_true_eq] at hp
  have hc : 1 ≤ c ∧ c ≤ 6 := by omega
  have hs : 0 ≤ s ∧ s ≤ 255 := by omega
  have h0 : 0 ≤ a := by omega
  have HI := Lib.hid (fun W => rdec_int a h0 h1 W)
  have HIc := Lib.hid (fun W => rdec_int c (by omega) (by omega) W)
  have HIs := Lib.hid (fun W => rdec_int s (by omega) (by omega) W)
  have HX := Lib.hid (fun W (k : Kp NoB w W) => rhex_stay A m xs W (ha.and k) hb (by omega))
  have hd := dec_len a h0 h1
  have hdc := dec_len c (by omega) (by omega)
  have hds := dec_len s (by omega) (by omega)
  have hdx : (hexL xs).length ≤ 2000 := by rw [hexL_length]; omega
  obtain ⟨D, hD⟩ : ∃ d, Lib.decDigits a.toNat = d := ⟨_, rfl⟩
  obtain ⟨C, hC⟩ : ∃ d, Lib.decDigits c.toNat = d := ⟨_, rfl⟩
  obtain ⟨E, hE⟩ : ∃ d, Lib.decDigits s.toNat = d := ⟨_, rfl⟩
  obtain ⟨X, hX⟩ : ∃ d, hexL xs = d := ⟨_, rfl⟩
  rw [hD] at HI hd ⊢
  rw [hC] at HIc hdc ⊢
  rw [hE] at HIs hds ⊢
  rw [hX] at HX hdx
  obtain ⟨n, hnn⟩ : ∃ n, xs.length = n := ⟨_, rfl⟩
  rw [hnn] at HP HX hx0 ⊢
  clear hD hC hE hX hp ha hb hn hnn
  obtain ⟨P1, hP1⟩ : ∃ x, ([110, 111, 116, 105, 102, 121] ++ [32] : List UInt8) = x := ⟨_, rfl⟩
  obtain ⟨P2, hP2⟩ : ∃ x, P1 ++ C = x := ⟨_, rfl⟩
  obtain ⟨P3, hP3⟩ : ∃ x, P2 ++ [32] = x := ⟨_, rfl⟩
  obtain ⟨P4, hP4⟩ : ∃ x, P3 ++ E = x := ⟨_, rfl⟩
  obtain ⟨P7, hP7⟩ : ∃ x, P4 ++ [32, 97, 116, 32] = x := ⟨_, rfl⟩
  obtain ⟨R, hR⟩ : ∃ x, P7 ++ D = x := ⟨_, rfl⟩
  have hlP1 := congrArg List.length hP1
  have hlP2 := congrArg List.length hP2
  have hlP3 := congrArg List.length hP3
  have hlP4 := congrArg List.length hP4
  have hlP7 := congrArg List.length hP7
  simp only [List.length_append, List.length_cons, List.length_nil] at hlP1 hlP2 hlP3 hlP4 hlP7
  have hJ : Lib.join [[110, 111, 116, 105, 102, 121], C, E, [97, 116], D] [32] = R := by rw [← hR, ← hP7, ← hP4, ← hP3, ← hP2, ← hP1]; simp [Lib.join_cons, Lib.joinTail]
  rw [hJ]
  have hc1 : ∀ W, (Op.stringOp .add ⟨#[110, 111, 116, 105, 102, 121]⟩ ⟨#[32]⟩).run Tryd.prog W = .ok (.string (ba P1)) W := fun W => by rw [show (⟨#[110, 111, 116, 105, 102, 121]⟩ : ByteArray) = ba [110, 111, 116, 105, 102, 121] from rfl, show (⟨#[32]⟩ : ByteArray) = ba [32] from rfl, str_add _ _ (by decide) W, hP1]
  have hc2 : ∀ W, (Op.stringOp .add (ba P1) (ba C)).run Tryd.prog W = .ok (.string (ba P2)) W := fun W => by rw [str_add _ _ (by omega) W, hP2]
  have hc3 : ∀ W, (Op.stringOp .add (ba P2) ⟨#[32]⟩).run Tryd.prog W = .ok (.string (ba P3)) W := fun W => by rw [show (⟨#[32]⟩ : ByteArray) = ba [32] from rfl, str_add _ _ (by simp only [List.length_cons, List.length_nil]; omega) W, hP3]
  have hc4 : ∀ W, (Op.stringOp .add (ba P3) (ba E)).run Tryd.prog W = .ok (.string (ba P4)) W := fun W => by rw [str_add _ _ (by omega) W, hP4]
  have hc7 : ∀ W, (Op.stringOp .add (ba P4) ⟨#[32, 97, 116, 32]⟩).run Tryd.prog W = .ok (.string (ba P7)) W := fun W => by rw [show (⟨#[32, 97, 116, 32]⟩ : ByteArray) = ba [32, 97, 116, 32] from rfl, str_add _ _ (by simp only [List.length_cons, List.length_nil]; omega) W, hP7]
  have hc8 : ∀ W, (Op.stringOp .add (ba P7) (ba D)).run Tryd.prog W = .ok (.string (ba R)) W := fun W => by rw [str_add _ _ (by omega) W, hR]
  clear hJ hR hP1 hlP1 hP2 hlP2 hP3 hlP3 hP4 hlP4 hP7 hlP7 hd hdc hds hdx
  subst hx0
  go_enter Tryd.func12, Tryd.ntmps12
  go_wp2_with (go_at_call 10; refine Calls.mono (HP.out _) ?_; rintro e w1 ⟨rfl, hK⟩; have hk1 := Lib.hid (((Kp.refl NoB w).alloc _).and hK); have hv1 := Lib.hid ((Bk.fresh w 24 _).and hK); obtain ⟨x0, x1, x2, x3, x4⟩ := hv1.out.five; have hlt : w.heap.size < w1.heap.size := hv1.out.lt; have hne := Nat.ne_of_lt hlt; clear hK)
  have hv1r := Lib.hid (hv1.out.alloc (.cells #[.string ⟨#[97, 99, 99, 101, 112, 116]⟩, .string ⟨#[100, 105, 115, 99, 97, 114, 100]⟩, .string ⟨#[119, 105, 116, 104, 100, 114, 97, 119]⟩, .string ⟨#[114, 101, 115, 101, 116]⟩, .string ⟨#[110, 111, 116, 105, 102, 121]⟩] 9))
  have hk1r := Lib.hid (hk1.out.alloc (.cells #[.string ⟨#[97, 99, 99, 101, 112, 116]⟩, .string ⟨#[100, 105, 115, 99, 97, 114, 100]⟩, .string ⟨#[119, 105, 116, 104, 100, 114, 97, 119]⟩, .string ⟨#[114, 101, 115, 101, 116]⟩, .string ⟨#[110, 111, 116, 105, 102, 121]⟩] 9))
  go_region_held3 (fun w' => w'.cell? ⟨w.heap.size, 0, none⟩ = some (.int .i64 4) ∧ w'.cell? ⟨w.heap.size, 1, none⟩ = some (.int .i64 c) ∧ w'.cell? ⟨w.heap.size, 2, none⟩ = some (.int .i64 s) ∧ w'.cell? ⟨w.heap.size, 3, none⟩ = some (.slice A 0 m) ∧ w'.cell? ⟨w.heap.size, 4, none⟩ = some (.int .i64 a)) (go_keep)
    (first
      | (go_at_call 32; (with_reducible refine Calls.mono (HIc.out _) ?_); rintro e w2 ⟨rfl, hK⟩; have hk2 := Lib.hid (hk1r.out.drew.and hK); have hv2 := Lib.hid (Bk.and (bk_drew hv1r.out) hK); clear x0 x1 x2 x3 x4 hK; obtain ⟨x0, x1, x2, x3, x4⟩ := hv2.out.five)
      | (go_at_call 32; (with_reducible refine Calls.mono (HIs.out _) ?_); rintro e w3 ⟨rfl, hK⟩; have hk3 := Lib.hid (hk2.out.and hK); have hv3 := Lib.hid (hv2.out.and hK); clear x0 x1 x2 x3 x4 hK; obtain ⟨x0, x1, x2, x3, x4⟩ := hv3.out.five))
  go_wp2_with (go_at_call 32; (with_reducible refine Calls.mono (HI.out _) ?_); rintro e w4 ⟨rfl, hK⟩; have hk4 := Lib.hid (hk3.out.and hK); clear hK)
  go_ret
  exact ⟨rfl, hk4.out⟩

set_option maxRecDepth 100000 in
set_option maxHeartbeats 1600000 in
theorem rtext_4x (c s : Int) (A : Option Addr) (m : Nat) (a : Int) (xs : List Int) (hp : properV 4 c s xs.length a = true) (h1 : a ≤ 9223372036854775807) (w : World) (ha : Arr w A (bs xs)) (hb : IsB xs) (hn : xs.length ≤ 1000) (hx0 : 0 < xs.length) : Calls Tryd.prog 12 #[.agg #[.int .i64 4, .int .i64 c, .int .i64 s, .slice A xs.length m, .int .i64 a]] w (Stay (.string (ba (Lib.join [[110, 111, 116, 105, 102, 121], Lib.decDigits c.toNat, Lib.decDigits s.toNat, hexL xs, [97, 116], Lib.decDigits a.toNat] [32]))) w) := by
  have HP := Lib.hid (fun W => rproper_any 4 c s A xs.length m a W)
  rw [hp] at HP
  simp only [properV, decide_eq_true_eq] at hp
  have hc : 1 ≤ c ∧ c ≤ 6 := by omega
  have hs : 0 ≤ s ∧ s ≤ 255 := by omega
  have h0 : 0 ≤ a := by omega
  have HI := Lib.hid (fun W => rdec_int a h0 h1 W)
  have HIc := Lib.hid (fun W => rdec_int c (by omega) (by omega) W)
  have HIs := Lib.hid (fun W => rdec_int s (by omega) (by omega) W)
  have HX := Lib.hid (fun W (k : Kp NoB w W) => rhex_stay A m xs W (ha.and k) hb (by omega))
  have hd := dec_len a h0 h1
  have hdc := dec_len c (by omega) (by omega)
  have hds := dec_len s (by omega) (by omega)
  have hdx : (hexL xs).length ≤ 2000 := by rw [hexL_length]; omega
  obtain ⟨D, hD⟩ : ∃ d, Lib.decDigits a.toNat = d := ⟨_, rfl⟩
  obtain ⟨C, hC⟩ : ∃ d, Lib.decDigits c.toNat = d := ⟨_, rfl⟩
  obtain ⟨E, hE⟩ : ∃ d, Lib.decDigits s.toNat = d := ⟨_, rfl⟩
  obtain ⟨X, hX⟩ : ∃ d, hexL xs = d := ⟨_, rfl⟩
  rw [hD] at HI hd ⊢
  rw [hC] at HIc hdc ⊢
  rw [hE] at HIs hds ⊢
  rw [hX] at HX hdx ⊢
  obtain ⟨n, hnn⟩ : ∃ n, xs.length = n := ⟨_, rfl⟩
  rw [hnn] at HP HX hx0 ⊢
  clear hD hC hE hX hp ha hb hn hnn
  obtain ⟨P1, hP1⟩ : ∃ x, ([110, 111, 116, 105, 102, 121] ++ [32] : List UInt8) = x := ⟨_, rfl⟩
  obtain ⟨P2, hP2⟩ : ∃ x, P1 ++ C = x := ⟨_, rfl⟩
  obtain ⟨P3, hP3⟩ : ∃ x, P2 ++ [32] = x := ⟨_, rfl⟩
  obtain ⟨P4, hP4⟩ : ∃ x, P3 ++ E = x := ⟨_, rfl⟩
  obtain ⟨P5, hP5⟩ : ∃ x, P4 ++ [32] = x := ⟨_, rfl⟩
  obtain ⟨P6, hP6⟩ : ∃ x, P5 ++ X = x := ⟨_, rfl⟩
  obtain ⟨P7, hP7⟩ : ∃ x, P6 ++ [32, 97, 116, 32] = x := ⟨_, rfl⟩
  obtain ⟨R, hR⟩ : ∃ x, P7 ++ D = x := ⟨_, rfl⟩
  have hlP1 := congrArg List.length hP1
  have hlP2 := congrArg List.length hP2
  have hlP3 := congrArg List.length hP3
  have hlP4 := congrArg List.length hP4
  have hlP5 := congrArg List.length hP5
  have hlP6 := congrArg List.length hP6
  have hlP7 := congrArg List.length hP7
  simp only [List.length_append, List.length_cons, List.length_nil] at hlP1 hlP2 hlP3 hlP4 hlP5 hlP6 hlP7
  have hJ : Lib.join [[110, 111, 116, 105, 102, 121], C, E, X, [97, 116], D] [32] = R := by rw [← hR, ← hP7, ← hP6, ← hP5, ← hP4, ← hP3, ← hP2, ← hP1]; simp [Lib.join_cons, Lib.joinTail]
  rw [hJ]
  have hc1 : ∀ W, (Op.stringOp .add ⟨#[110, 111, 116, 105, 102, 121]⟩ ⟨#[32]⟩).run Tryd.prog W = .ok (.string (ba P1)) W := fun W => by rw [show (⟨#[110, 111, 116, 105, 102, 121]⟩ : ByteArray) = ba [110, 111, 116, 105, 102, 121] from rfl, show (⟨#[32]⟩ : ByteArray) = ba [32] from rfl, str_add _ _ (by decide) W, hP1]
  have hc2 : ∀ W, (Op.stringOp .add (ba P1) (ba C)).run Tryd.prog W = .ok (.string (ba P2)) W := fun W => by rw [str_add _ _ (by omega) W, hP2]
  have hc3 : ∀ W, (Op.stringOp .add (ba P2) ⟨#[32]⟩).run Tryd.prog W = .ok (.string (ba P3)) W := fun W => by rw [show (⟨#[32]⟩ : ByteArray) = ba [32] from rfl, str_add _ _ (by simp only [List.length_cons, List.length_nil]; omega) W, hP3]
  have hc4 : ∀ W, (Op.stringOp .add (ba P3) (ba E)).run Tryd.prog W = .ok (.string (ba P4)) W := fun W => by rw [str_add _ _ (by omega) W, hP4]
  have hc5 : ∀ W, (Op.stringOp .add (ba P4) ⟨#[32]⟩).run Tryd.prog W = .ok (.string (ba P5)) W := fun W => by rw [show (⟨#[32]⟩ : ByteArray) = ba [32] from rfl, str_add _ _ (by simp only [List.length_cons, List.length_nil]; omega) W, hP5]
  have hc6 : ∀ W, (Op.stringOp .add (ba P5) (ba X)).run Tryd.prog W = .ok (.string (ba P6)) W := fun W => by rw [str_add _ _ (by omega) W, hP6]
  have hc7 : ∀ W, (Op.stringOp .add (ba P6) ⟨#[32, 97, 116, 32]⟩).run Tryd.prog W = .ok (.string (ba P7)) W := fun W => by rw [show (⟨#[32, 97, 116, 32]⟩ : ByteArray) = ba [32, 97, 116, 32] from rfl, str_add _ _ (by simp only [List.length_cons, List.length_nil]; omega) W, hP7]
  have hc8 : ∀ W, (Op.stringOp .add (ba P7) (ba D)).run Tryd.prog W = .ok (.string (ba R)) W := fun W => by rw [str_add _ _ (by omega) W, hR]
  clear hJ hR hP1 hlP1 hP2 hlP2 hP3 hlP3 hP4 hlP4 hP5 hlP5 hP6 hlP6 hP7 hlP7 hd hdc hds hdx
  have hx1 : (0 : Int) < n := by omega
  go_enter Tryd.func12, Tryd.ntmps12
  go_wp2_with (go_at_call 10; refine Calls.mono (HP.out _) ?_; rintro e w1 ⟨rfl, hK⟩; have hk1 := Lib.hid (((Kp.refl NoB w).alloc _).and hK); have hv1 := Lib.hid ((Bk.fresh w 24 _).and hK); obtain ⟨x0, x1, x2, x3, x4⟩ := hv1.out.five; have hlt : w.heap.size < w1.heap.size := hv1.out.lt; have hne := Nat.ne_of_lt hlt; clear hK)
  have hv1r := Lib.hid (hv1.out.alloc (.cells #[.string ⟨#[97, 99, 99, 101, 112, 116]⟩, .string ⟨#[100, 105, 115, 99, 97, 114, 100]⟩, .string ⟨#[119, 105, 116, 104, 100, 114, 97, 119]⟩, .string ⟨#[114, 101, 115, 101, 116]⟩, .string ⟨#[110, 111, 116, 105, 102, 121]⟩] 9))
  have hk1r := Lib.hid (hk1.out.alloc (.cells #[.string ⟨#[97, 99, 99, 101, 112, 116]⟩, .string ⟨#[100, 105, 115, 99, 97, 114, 100]⟩, .string ⟨#[119, 105, 116, 104, 100, 114, 97, 119]⟩, .string ⟨#[114, 101, 115, 101, 116]⟩, .string ⟨#[110, 111, 116, 105, 102, 121]⟩] 9))
  go_region_held3 (fun w' => w'.cell? ⟨w.heap.size, 0, none⟩ = some (.int .i64 4) ∧ w'.cell? ⟨w.heap.size, 1, none⟩ = some (.int .i64 c) ∧ w'.cell? ⟨w.heap.size, 2, none⟩ = some (.int .i64 s) ∧ w'.cell? ⟨w.heap.size, 3, none⟩ = some (.slice A n m) ∧ w'.cell? ⟨w.heap.size, 4, none⟩ = some (.int .i64 a)) (go_keep)
    (first
      | (go_at_call 32; (with_reducible refine Calls.mono (HIc.out _) ?_); rintro e w2 ⟨rfl, hK⟩; have hk2 := Lib.hid (hk1r.out.drew.and hK); have hv2 := Lib.hid (Bk.and (bk_drew hv1r.out) hK); clear x0 x1 x2 x3 x4 hK; obtain ⟨x0, x1, x2, x3, x4⟩ := hv2.out.five)
      | (go_at_call 32; (with_reducible refine Calls.mono (HIs.out _) ?_); rintro e w3 ⟨rfl, hK⟩; have hk3 := Lib.hid (hk2.out.and hK); have hv3 := Lib.hid (hv2.out.and hK); clear x0 x1 x2 x3 x4 hK; obtain ⟨x0, x1, x2, x3, x4⟩ := hv3.out.five))
  go_wp2_with (first
    | (go_at_call 33; (with_reducible refine Calls.mono (HX.out _ hk3.out) ?_); rintro e w4 ⟨rfl, hK⟩; have hk4 := Lib.hid (hk3.out.and hK); have hv4 := Lib.hid (hv3.out.and hK); clear x0 x1 x2 x3 x4 hK; obtain ⟨x0, x1, x2, x3, x4⟩ := hv4.out.five)
    | (go_at_call 32; (with_reducible refine Calls.mono (HI.out _) ?_); rintro e w5 ⟨rfl, hK⟩; have hk5 := Lib.hid (hk4.out.and hK); clear hK))
  go_ret
  exact ⟨rfl, hk5.out⟩

/-! ### the text of a verdict -/
def textV (k c s : Int) (xs : List Int) (a : Int) : List UInt8 :=
  if properV k c s xs.length a then
    (if k = 0 then namesF.getD 0 []
    else if k = 3 then Lib.join [namesF.getD 3 [], famF.getD s.toNat [], [97, 116], Lib.decDigits a.toNat] [32]
    else if k = 4 then (if xs.length = 0 then Lib.join [namesF.getD 4 [], Lib.decDigits c.toNat, Lib.decDigits s.toNat, [97, 116], Lib.decDigits a.toNat] [32] else Lib.join [namesF.getD 4 [], Lib.decDigits c.toNat, Lib.decDigits s.toNat, hexL xs, [97, 116], Lib.decDigits a.toNat] [32])
    else Lib.join [namesF.getD k.toNat [], [97, 116], Lib.decDigits a.toNat] [32])
  else []

theorem ftext_any (k c s : Int) (A : Option Addr) (m : Nat) (a : Int) (xs : List Int) (h1 : a ≤ 9223372036854775807) (w : World) (ld : Ld w) (ha : Arr w A (bs xs)) (hb : IsB xs) (hn : xs.length ≤ 1000) :
    Calls Tryd.prog 11 #[.agg #[.int .i64 k, .int .i64 c, .int .i64 s, .slice A xs.length m, .int .i64 a]] w (Stay (.string (ba (textV k c s xs a))) w) := by
  unfold textV
  cases hp : properV k c s xs.length a with
  | false => exact ftext_bad k c s A xs.length m a w hp
  | true =>
    have hq := hp
    simp only [properV, decide_eq_true_eq] at hq
    rcases hq with ⟨rfl, rfl, h, rfl, rfl⟩ | ⟨hk, rfl, h, rfl, h0⟩ | ⟨rfl, rfl, h, h3, h4, h0⟩ | ⟨rfl, h⟩
    · rw [h]; exact ftext_0 A m w ld
    · rw [h]
      rw [if_pos rfl, if_neg (by omega), if_neg (by omega), if_neg (by omega)]
      exact ftext_12 k hk A m a h0 h1 w ld
    · rw [h]
      exact ftext_3 s (by omega) A m a h0 h1 w ld
    · rw [if_pos rfl, if_neg (by decide), if_neg (by decide), if_pos rfl]
      by_cases hx : xs.length = 0
      · rw [if_pos hx]
        exact ftext_4z c s A m a xs hp h1 w ld ha hb hn hx
      · rw [if_neg hx]
        exact ftext_4x c s A m a xs hp h1 w ld ha hb hn (by omega)

theorem rtext_any (k c s : Int) (A : Option Addr) (m : Nat) (a : Int) (xs : List Int) (h1 : a ≤ 9223372036854775807) (w : World) (ha : Arr w A (bs xs)) (hb : IsB xs) (hn : xs.length ≤ 1000) :
    Calls Tryd.prog 12 #[.agg #[.int .i64 k, .int .i64 c, .int .i64 s, .slice A xs.length m, .int .i64 a]] w (Stay (.string (ba (textV k c s xs a))) w) := by
  unfold textV
  cases hp : properV k c s xs.length a with
  | false => exact rtext_bad k c s A xs.length m a w hp
  | true =>
    have hq := hp
    simp only [properV, decide_eq_true_eq] at hq
    rcases hq with ⟨rfl, rfl, h, rfl, rfl⟩ | ⟨hk, rfl, h, rfl, h0⟩ | ⟨rfl, rfl, h, h3, h4, h0⟩ | ⟨rfl, h⟩
    · rw [h]; exact rtext_0 A m w
    · rw [h]
      rcases hk with rfl | rfl
      · exact rtext_1 A m a h0 h1 w
      · exact rtext_2 A m a h0 h1 w
    · rw [h]
      rcases (show s = 1 ∨ s = 2 by omega) with rfl | rfl
      · exact rtext_31 A m a h0 h1 w
      · exact rtext_32 A m a h0 h1 w
    · rw [if_pos rfl, if_neg (by decide), if_neg (by decide), if_pos rfl]
      by_cases hx : xs.length = 0
      · rw [if_pos hx]
        exact rtext_4z c s A m a xs hp h1 w ha hb hn hx
      · rw [if_neg hx]
        exact rtext_4x c s A m a xs hp h1 w ha hb hn (by omega)

theorem text_ex : ba (textV 4 3 5 [1, 2] 30) = ⟨#[110, 111, 116, 105, 102, 121, 32, 51, 32, 53, 32, 48, 49, 48, 50, 32, 97, 116, 32, 51, 48]⟩ := by
  have e : textV 4 3 5 [1, 2] 30 = [110, 111, 116, 105, 102, 121, 32, 51, 32, 53, 32, 48, 49, 48, 50, 32, 97, 116, 32, 51, 48] := by decide +kernel
  rw [e]; rfl

theorem alive_any (w : World) (ld : Ld w) : Calls Tryd.prog 8 #[] w (Stay (.bool true) w) := by
  have HT := Lib.hid (fun W (k : Kp NoB w W) A h => ftext_any 4 3 5 A 2 30 [1, 2] (by decide) W (ld.and k) h (by intro x hx; simp at hx; omega) (by decide))
  rw [text_ex] at HT
  have HA := Lib.hid (Arr.lit w 5 (bs [1, 2]))
  clear ld
  go_enter Tryd.func8, Tryd.ntmps8
  go_wp2_with (go_at_call 11; refine Calls.mono (HT.out _ ((Kp.refl NoB w).alloc _) _ HA.out) ?_; rintro e w1 ⟨rfl, hK⟩; have hk1 := Lib.hid (((Kp.refl NoB w).alloc _).and hK); clear hK)
  go_ret
  exact ⟨rfl, hk1.out⟩

end Go.Proofs.YtknaogpkakdcoaaDoor
