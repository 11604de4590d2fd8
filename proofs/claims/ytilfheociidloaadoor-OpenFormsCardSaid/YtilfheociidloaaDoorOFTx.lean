/- The texts of an OPEN, of the package and of the reference. No condition but the table of powers of ten and the bounds that arguments have. -/
import Derived.Test.YtilfheociidloaaDoorOFoA
import Derived.Test.YtilfheociidloaaDoorStrJ
import Derived.Test.YtilfheociidloaaDoorRAddr
import Derived.Deep.RegionHeld3
import Derived.Deep.Cut
namespace Go.Proofs.YtilfheociidloaaDoor
open Go.RowKit
set_option linter.unusedVariables false
set_option linter.unusedSimpArgs false

/-- The text of an OPEN. -/
def textL (o : OpenI) : List UInt8 := [111, 112, 101, 110, 32, 97, 115, 32] ++ (Lib.decDigits o.sys.toNat ++ ([32, 104, 111, 108, 100, 32] ++ (Lib.decDigits o.hold.toNat ++ ([32, 105, 100, 32] ++ addrL o.id))))
def textO (o : OpenI) : List UInt8 := if validO o then textL o else []

theorem wrap_u64' (x : Int) (h0 : 0 ≤ x) (h1 : x < 4294967296) : IntKind.u64.wrap x = x := by
  simp [IntKind.wrap, IntKind.bits, IntKind.signed]
  omega

set_option maxRecDepth 100000 in
set_option maxHeartbeats 8000000 in
theorem otext_bad (o : OpenI) (A : Option Addr) (c : Nat) (cs : List Value) (w : World) (hb : o.B) (hx : CapL w o.caps cs) (ha : Arr w A cs) (hl : o.caps.length ≤ 1000000) (hf : (formC o.caps).length ≤ 100000) (hv : validO o = false) :
    Calls Tryd.prog 11 #[o.val A c] w (Stay (.string ⟨#[]⟩) w) := by
  have hk0 := (Kp.refl NoB w).alloc (.cells #[.int .u32 o.sys, .int .i64 o.hold, .int .u32 o.id, .slice A o.caps.length c] 33)
  have HV := Lib.hid (ovalid_any o A c cs _ hb (hx.and hk0) (ha.and hk0) hl hf)
  rw [hv] at HV
  obtain ⟨x1, x2, x3, x4, x5, x6, x7, x8, x9⟩ := (Bk.fresh w 33 #[.int .u32 o.sys, .int .i64 o.hold, .int .u32 o.id, .slice A o.caps.length c]).four
  have hk0 := Lib.hid hk0
  obtain ⟨s, h, i, caps⟩ := o
  unfold OpenI.val at HV ⊢
  simp only at HV x1 x2 x3 x4 hk0 ⊢
  obtain ⟨n, hn⟩ : ∃ n, caps.length = n := ⟨_, rfl⟩
  simp only [hn] at HV x1 x2 x3 x4 x5 x6 x7 x8 x9 hk0 ⊢
  clear hx ha hb hl hf hv hn
  go_enter Tryd.func11, Tryd.ntmps11
  go_wp2_with fail
  refine HV.out.mono ?_
  rintro e w1 ⟨rfl, hK1⟩
  go_wp2_with fail
  go_ret
  exact ⟨rfl, hk0.out.and hK1⟩

set_option maxRecDepth 100000 in
set_option maxHeartbeats 8000000 in
theorem rtext_bad (o : OpenI) (A : Option Addr) (c : Nat) (cs : List Value) (w : World) (hb : o.B) (hx : CapL w o.caps cs) (ha : Arr w A cs) (hl : o.caps.length ≤ 1000000) (hf : (formC o.caps).length ≤ 100000) (hv : validO o = false) :
    Calls Tryd.prog 12 #[o.val A c] w (Stay (.string ⟨#[]⟩) w) := by
  have hk0 := (Kp.refl NoB w).alloc (.cells #[.int .u32 o.sys, .int .i64 o.hold, .int .u32 o.id, .slice A o.caps.length c] 25)
  have HV := Lib.hid (rvalid17_any o A c cs _ hb (hx.and hk0) (ha.and hk0) hl hf)
  rw [hv] at HV
  obtain ⟨x1, x2, x3, x4, x5, x6, x7, x8, x9⟩ := (Bk.fresh w 25 #[.int .u32 o.sys, .int .i64 o.hold, .int .u32 o.id, .slice A o.caps.length c]).four
  have hk0 := Lib.hid hk0
  obtain ⟨s, h, i, caps⟩ := o
  unfold OpenI.val at HV ⊢
  simp only at HV x1 x2 x3 x4 hk0 ⊢
  obtain ⟨n, hn⟩ : ∃ n, caps.length = n := ⟨_, rfl⟩
  simp only [hn] at HV x1 x2 x3 x4 x5 x6 x7 x8 x9 hk0 ⊢
  clear hx ha hb hl hf hv hn
  go_enter Tryd.func12, Tryd.ntmps12
  go_wp2_with fail
  refine HV.out.mono ?_
  rintro e w1 ⟨rfl, hK1⟩
  go_wp2_with fail
  go_ret
  exact ⟨rfl, hk0.out.and hK1⟩

theorem join6 (a b c : List UInt8) : Lib.join [[111, 112, 101, 110, 32, 97, 115], a, [104, 111, 108, 100], b, [105, 100], c] [32] = [111, 112, 101, 110, 32, 97, 115, 32] ++ (a ++ ([32, 104, 111, 108, 100, 32] ++ (b ++ ([32, 105, 100, 32] ++ c)))) := by
  simp [Lib.join_cons, Lib.joinTail]

set_option maxRecDepth 100000 in
set_option maxHeartbeats 8000000 in
theorem otext_good (o : OpenI) (A : Option Addr) (c : Nat) (cs : List Value) (w : World) (hb : o.B) (hx : CapL w o.caps cs) (ha : Arr w A cs) (hl : o.caps.length ≤ 1000000) (ht : Tb w) (hv : validO o = true) :
    Calls Tryd.prog 11 #[o.val A c] w (Stay (.string (ba (textL o))) w) := by
  have hk0 := (Kp.refl NoB w).alloc (.cells #[.int .u32 o.sys, .int .i64 o.hold, .int .u32 o.id, .slice A o.caps.length c] 33)
  have hB0 := Lib.hid (Bk.fresh w 33 #[.int .u32 o.sys, .int .i64 o.hold, .int .u32 o.id, .slice A o.caps.length c])
  have hv' := hv
  simp only [validO, Bool.and_eq_true, decide_eq_true_eq] at hv'
  obtain ⟨⟨⟨⟨⟨v1, v2⟩, v3⟩, v4⟩, v5⟩, v6⟩ := hv'
  have HV := Lib.hid (ovalid_any o A c cs _ hb (hx.and hk0) (ha.and hk0) hl (by omega))
  rw [hv] at HV
  have hk0 := Lib.hid hk0
  obtain ⟨⟨s0, s1⟩, ⟨h0, h1⟩, ⟨i0, i1⟩⟩ := hb
  simp only [timedB, decide_eq_true_eq] at v5
  have HF := Lib.hid (fun W (k : Kp NoB w W) => (show Calls Tryd.prog 28 #[.int .u64 o.sys, .int .i64 10] W (Stay (.string (ba (Lib.decDigits o.sys.toNat))) W) by
    have := fu10_any o.sys.toNat (by omega) W (ht.and k)
    rw [show ((o.sys.toNat : Nat) : Int) = o.sys by omega] at this
    exact this))
  have HI := Lib.hid (fun W (k : Kp NoB w W) => (show Calls Tryd.prog 29 #[.int .i64 o.hold] W (Stay (.string (ba (Lib.decDigits o.hold.toNat))) W) by
    have := itoa_any o.hold (by omega) (by omega) W (ht.and k)
    rw [itoa_dec _ (by omega)] at this
    exact this))
  have HA := Lib.hid (fun W (k : Kp NoB w W) => address_any o.id i0 (by omega) W (ht.and k))
  have hd1 := dec_short o.sys.toNat (by omega)
  have hd2 := dec_short o.hold.toNat (by omega)
  have hd3 := addr_short o.id
  have hu := wrap_u64' o.sys s0 (by omega)
  obtain ⟨s, h, i, caps⟩ := o
  unfold OpenI.val at HV ⊢
  unfold textL
  simp only at HV HF HI HA hB0 hk0 hd1 hd2 hd3 hu ⊢
  clear hx ha hv v1 v2 v3 v4 v5 v6 s0 s1 h0 h1 i0 i1 ht hl
  obtain ⟨n, hn⟩ : ∃ n, caps.length = n := ⟨_, rfl⟩
  obtain ⟨d1, e1⟩ : ∃ n, Lib.decDigits s.toNat = n := ⟨_, rfl⟩
  obtain ⟨d2, e2⟩ : ∃ n, Lib.decDigits h.toNat = n := ⟨_, rfl⟩
  obtain ⟨d3, e3⟩ : ∃ n, addrL i = n := ⟨_, rfl⟩
  simp only [hn, e1, e2, e3] at HV HF HI HA hB0 hk0 hd1 hd2 hd3 ⊢
  clear hn e1 e2 e3
  rw [← join6]
  have HJ := Lib.hid (fun W => join_any W.heap.size 6 (some ⟨W.heap.size, 0, none⟩) [[111, 112, 101, 110, 32, 97, 115], d1, [104, 111, 108, 100], d2, [105, 100], d3] 32 (W.alloc (.cells #[.string ⟨#[111, 112, 101, 110, 32, 97, 115]⟩, .string (ba d1), .string ⟨#[104, 111, 108, 100]⟩, .string (ba d2), .string ⟨#[105, 100]⟩, .string (ba d3)] 9))
    (own_lit W W.heap.size 9 [strV [111, 112, 101, 110, 32, 97, 115], strV d1, strV [104, 111, 108, 100], strV d2, strV [105, 100], strV d3] (Nat.le_refl _) (by simp [maxLen])) (by simp) (by
      rw [join6]
      simp only [List.length_append, List.length_cons, List.length_nil]
      omega))
  obtain ⟨R, hR⟩ : ∃ R, Lib.join [[111, 112, 101, 110, 32, 97, 115], d1, [104, 111, 108, 100], d2, [105, 100], d3] [32] = R := ⟨_, rfl⟩
  rw [hR] at HJ ⊢
  obtain ⟨b1, eb1⟩ : ∃ n, ba d1 = n := ⟨_, rfl⟩
  obtain ⟨b2, eb2⟩ : ∃ n, ba d2 = n := ⟨_, rfl⟩
  obtain ⟨b3, eb3⟩ : ∃ n, ba d3 = n := ⟨_, rfl⟩
  obtain ⟨bR, ebR⟩ : ∃ n, ba R = n := ⟨_, rfl⟩
  simp only [eb1, eb2, eb3, ebR, List.length_cons, List.length_nil] at HF HI HA HJ ⊢
  clear hR eb1 eb2 eb3 ebR hd1 hd2 hd3
  obtain ⟨x1, x2, x3, x4, x5, x6, x7, x8, x9⟩ := hB0.out.four
  go_enter Tryd.func11, Tryd.ntmps11
  go_wp2_with fail
  refine HV.out.mono ?_
  rintro e w1 ⟨rfl, hK1⟩
  have k1 := Lib.hid (hk0.out.and hK1)
  have b1' := Lib.hid (hB0.out.and hK1)
  clear hK1 x1 x2 x3 x4 x5 x6 x7 x8 x9
  obtain ⟨x1, x2, x3, x4, x5, x6, x7, x8, x9⟩ := b1'.out.four
  go_upto_region 3 with fail
  go_region_held3 (fun w' => w'.cell? ⟨w.heap.size, 0, none⟩ = some (.int .u32 s) ∧ w'.cell? ⟨w.heap.size, 1, none⟩ = some (.int .i64 h) ∧ w'.cell? ⟨w.heap.size, 2, none⟩ = some (.int .u32 i)) (go_keep)
    (first
      | (go_at_call 27; refine (HJ.out w4).mono ?_; rintro e w5 ⟨rfl, hK5⟩; have k5 := Lib.hid ((k4.out.alloc _).and hK5); have c5 := Lib.hid ((c4.out.alloc _).and hK5); clear hK5; clear x1 x2 x3 x4 x5 x6 x7 x8 x9; obtain ⟨x1, x2, x3, x4, x5, x6, x7, x8, x9⟩ := c5.out.four)
      | (go_at_call 30; refine (HA.out _ k3.out).mono ?_; rintro e w4 ⟨rfl, hK4⟩; have k4 := Lib.hid (k3.out.and hK4); have c4 := Lib.hid (c3.out.and hK4); clear hK4; clear x1 x2 x3 x4 x5 x6 x7 x8 x9; obtain ⟨x1, x2, x3, x4, x5, x6, x7, x8, x9⟩ := c4.out.four)
      | (go_at_call 29; refine (HI.out _ k2.out).mono ?_; rintro e w3 ⟨rfl, hK3⟩; have k3 := Lib.hid (k2.out.and hK3); have c3 := Lib.hid (c2.out.and hK3); clear hK3; clear x1 x2 x3 x4 x5 x6 x7 x8 x9; obtain ⟨x1, x2, x3, x4, x5, x6, x7, x8, x9⟩ := c3.out.four)
      | (go_at_call 28; refine (HF.out _ (k1.out.drew)).mono ?_; rintro e w2 ⟨rfl, hK2⟩; have k2 := Lib.hid ((k1.out.drew).and hK2); have c2 := Lib.hid ((b1'.out.drewN 1).and hK2); clear hK2; clear x1 x2 x3 x4 x5 x6 x7 x8 x9; obtain ⟨x1, x2, x3, x4, x5, x6, x7, x8, x9⟩ := c2.out.four))
  go_wp2_with fail
  go_ret
  exact ⟨rfl, k5.out⟩

set_option maxRecDepth 100000 in
set_option maxHeartbeats 8000000 in
theorem rtext_good (o : OpenI) (A : Option Addr) (c : Nat) (cs : List Value) (w : World) (hb : o.B) (hx : CapL w o.caps cs) (ha : Arr w A cs) (hl : o.caps.length ≤ 1000000) (hv : validO o = true) :
    Calls Tryd.prog 12 #[o.val A c] w (Stay (.string (ba (textL o))) w) := by
  have hk0 := (Kp.refl NoB w).alloc (.cells #[.int .u32 o.sys, .int .i64 o.hold, .int .u32 o.id, .slice A o.caps.length c] 25)
  have hB0 := Lib.hid (Bk.fresh w 25 #[.int .u32 o.sys, .int .i64 o.hold, .int .u32 o.id, .slice A o.caps.length c])
  have hv' := hv
  simp only [validO, Bool.and_eq_true, decide_eq_true_eq] at hv'
  obtain ⟨⟨⟨⟨⟨v1, v2⟩, v3⟩, v4⟩, v5⟩, v6⟩ := hv'
  have HV := Lib.hid (rvalid17_any o A c cs _ hb (hx.and hk0) (ha.and hk0) hl (by omega))
  rw [hv] at HV
  have hk0 := Lib.hid hk0
  obtain ⟨⟨s0, s1⟩, ⟨h0, h1⟩, ⟨i0, i1⟩⟩ := hb
  simp only [timedB, decide_eq_true_eq] at v5
  have HF := Lib.hid (fun W => (show Calls Tryd.prog 31 #[.int .i64 o.sys] W (Stay (.string (ba (Lib.decDigits o.sys.toNat))) W) by
    have := rdec_stay o.sys.toNat (by omega) W
    rw [show ((o.sys.toNat : Nat) : Int) = o.sys by omega] at this
    exact this))
  have HI := Lib.hid (fun W => (show Calls Tryd.prog 31 #[.int .i64 o.hold] W (Stay (.string (ba (Lib.decDigits o.hold.toNat))) W) by
    have := rdec_stay o.hold.toNat (by omega) W
    rw [show ((o.hold.toNat : Nat) : Int) = o.hold by omega] at this
    exact this))
  have HA := Lib.hid (fun W => raddress_any o.id i0 (by omega) W)
  have hd1 := dec_short o.sys.toNat (by omega)
  have hd2 := dec_short o.hold.toNat (by omega)
  have hd3 := addr_short o.id
  have hu : IntKind.i64.wrap o.sys = o.sys := IntWalk.i64_in _ (by omega)
  obtain ⟨s, h, i, caps⟩ := o
  unfold OpenI.val at HV ⊢
  unfold textL
  simp only at HV HF HI HA hB0 hk0 hd1 hd2 hd3 hu ⊢
  clear hx ha hv v1 v2 v3 v4 v5 v6 s0 s1 h0 h1 i0 i1 hl
  obtain ⟨n, hn⟩ : ∃ n, caps.length = n := ⟨_, rfl⟩
  obtain ⟨d1, e1⟩ : ∃ n, Lib.decDigits s.toNat = n := ⟨_, rfl⟩
  obtain ⟨d2, e2⟩ : ∃ n, Lib.decDigits h.toNat = n := ⟨_, rfl⟩
  obtain ⟨d3, e3⟩ : ∃ n, addrL i = n := ⟨_, rfl⟩
  simp only [hn, e1, e2, e3] at HV HF HI HA hB0 hk0 hd1 hd2 hd3 ⊢
  clear hn e1 e2 e3
  have hadd : ∀ (x y : List UInt8), x.length ≤ 1000 → y.length ≤ 1000 → ∀ W, (Op.stringOp .add (ba x) (ba y)).run Tryd.prog W = .ok (.string (ba (x ++ y))) W := fun x y hx hy W => by
    rw [run_string_add_sum W _ _ (by rw [ba_size, ba_size]; omega), ba_app]
  have q1 := hadd [111, 112, 101, 110, 32, 97, 115, 32] d1 (by decide) (by omega)
  have q2 := hadd ([111, 112, 101, 110, 32, 97, 115, 32] ++ d1) [32, 104, 111, 108, 100, 32] (by rw [List.length_append]; simp only [List.length_cons, List.length_nil]; omega) (by decide)
  have q3 := hadd ([111, 112, 101, 110, 32, 97, 115, 32] ++ d1 ++ [32, 104, 111, 108, 100, 32]) d2 (by simp only [List.length_append, List.length_cons, List.length_nil]; omega) (by omega)
  have q4 := hadd ([111, 112, 101, 110, 32, 97, 115, 32] ++ d1 ++ [32, 104, 111, 108, 100, 32] ++ d2) [32, 105, 100, 32] (by simp only [List.length_append, List.length_cons, List.length_nil]; omega) (by decide)
  have q5 := hadd ([111, 112, 101, 110, 32, 97, 115, 32] ++ d1 ++ [32, 104, 111, 108, 100, 32] ++ d2 ++ [32, 105, 100, 32]) d3 (by simp only [List.length_append, List.length_cons, List.length_nil]; omega) (by omega)
  have hE : [111, 112, 101, 110, 32, 97, 115, 32] ++ (d1 ++ ([32, 104, 111, 108, 100, 32] ++ (d2 ++ ([32, 105, 100, 32] ++ d3)))) = [111, 112, 101, 110, 32, 97, 115, 32] ++ d1 ++ [32, 104, 111, 108, 100, 32] ++ d2 ++ [32, 105, 100, 32] ++ d3 := by simp only [List.append_assoc]
  rw [hE]
  have c1 : ba [111, 112, 101, 110, 32, 97, 115, 32] = ⟨#[111, 112, 101, 110, 32, 97, 115, 32]⟩ := rfl
  have c2 : ba [32, 104, 111, 108, 100, 32] = ⟨#[32, 104, 111, 108, 100, 32]⟩ := rfl
  have c3 : ba [32, 105, 100, 32] = ⟨#[32, 105, 100, 32]⟩ := rfl
  obtain ⟨b1, eb1⟩ : ∃ n, ba d1 = n := ⟨_, rfl⟩
  obtain ⟨b2, eb2⟩ : ∃ n, ba d2 = n := ⟨_, rfl⟩
  obtain ⟨b3, eb3⟩ : ∃ n, ba d3 = n := ⟨_, rfl⟩
  obtain ⟨s1, es1⟩ : ∃ n, ba ([111, 112, 101, 110, 32, 97, 115, 32] ++ d1) = n := ⟨_, rfl⟩
  obtain ⟨s2, es2⟩ : ∃ n, ba ([111, 112, 101, 110, 32, 97, 115, 32] ++ d1 ++ [32, 104, 111, 108, 100, 32]) = n := ⟨_, rfl⟩
  obtain ⟨s3, es3⟩ : ∃ n, ba ([111, 112, 101, 110, 32, 97, 115, 32] ++ d1 ++ [32, 104, 111, 108, 100, 32] ++ d2) = n := ⟨_, rfl⟩
  obtain ⟨s4, es4⟩ : ∃ n, ba ([111, 112, 101, 110, 32, 97, 115, 32] ++ d1 ++ [32, 104, 111, 108, 100, 32] ++ d2 ++ [32, 105, 100, 32]) = n := ⟨_, rfl⟩
  obtain ⟨s5, es5⟩ : ∃ n, ba ([111, 112, 101, 110, 32, 97, 115, 32] ++ d1 ++ [32, 104, 111, 108, 100, 32] ++ d2 ++ [32, 105, 100, 32] ++ d3) = n := ⟨_, rfl⟩
  rw [c1, eb1, es1] at q1
  rw [es1, c2, es2] at q2
  rw [es2, eb2, es3] at q3
  rw [es3, c3, es4] at q4
  rw [es4, eb3, es5] at q5
  rw [es5]
  rw [eb1] at HF
  rw [eb2] at HI
  rw [eb3] at HA
  clear c1 c2 c3 eb1 eb2 eb3 es1 es2 es3 es4 es5 hE hadd hd1 hd2 hd3
  obtain ⟨x1, x2, x3, x4, x5, x6, x7, x8, x9⟩ := hB0.out.four
  go_enter Tryd.func12, Tryd.ntmps12
  go_wp2_with fail
  refine HV.out.mono ?_
  rintro e w1 ⟨rfl, hK1⟩
  have k1 := Lib.hid (hk0.out.and hK1)
  have b1' := Lib.hid (hB0.out.and hK1)
  clear hK1 x1 x2 x3 x4 x5 x6 x7 x8 x9
  obtain ⟨x1, x2, x3, x4, x5, x6, x7, x8, x9⟩ := b1'.out.four
  go_upto_region 3 with fail
  go_region_held3 (fun w' => w'.cell? ⟨w.heap.size, 0, none⟩ = some (.int .u32 s) ∧ w'.cell? ⟨w.heap.size, 1, none⟩ = some (.int .i64 h) ∧ w'.cell? ⟨w.heap.size, 2, none⟩ = some (.int .u32 i)) (go_keep)
    (first
      | (go_at_call 32; refine (HA.out _).mono ?_; rintro e w4 ⟨rfl, hK4⟩; have k4 := Lib.hid (k3.out.and hK4); have c4 := Lib.hid (c3.out.and hK4); clear hK4; clear x1 x2 x3 x4 x5 x6 x7 x8 x9; obtain ⟨x1, x2, x3, x4, x5, x6, x7, x8, x9⟩ := c4.out.four)
      | (go_at_call 31; (with_reducible refine Calls.mono (HI.out _) ?_); rintro e w3 ⟨rfl, hK3⟩; have k3 := Lib.hid (k2.out.and hK3); have c3 := Lib.hid (c2.out.and hK3); clear hK3; clear x1 x2 x3 x4 x5 x6 x7 x8 x9; obtain ⟨x1, x2, x3, x4, x5, x6, x7, x8, x9⟩ := c3.out.four)
      | (go_at_call 31; (with_reducible refine Calls.mono (HF.out _) ?_); rintro e w2 ⟨rfl, hK2⟩; have k2 := Lib.hid ((k1.out.drew).and hK2); have c2 := Lib.hid ((b1'.out.drewN 1).and hK2); clear hK2; clear x1 x2 x3 x4 x5 x6 x7 x8 x9; obtain ⟨x1, x2, x3, x4, x5, x6, x7, x8, x9⟩ := c2.out.four))
  go_wp2_with fail
  go_ret
  exact ⟨rfl, k4.out⟩

/-- The texts, whole. -/
theorem otext_any (o : OpenI) (A : Option Addr) (c : Nat) (cs : List Value) (w : World) (hb : o.B) (hx : CapL w o.caps cs) (ha : Arr w A cs) (hl : o.caps.length ≤ 1000000) (hf : (formC o.caps).length ≤ 100000) (ht : Tb w) :
    Calls Tryd.prog 11 #[o.val A c] w (Stay (.string (ba (textO o))) w) := by
  cases hv : validO o with
  | false =>
    unfold textO
    rw [hv]
    exact otext_bad o A c cs w hb hx ha hl hf hv
  | true =>
    unfold textO
    rw [hv]
    exact otext_good o A c cs w hb hx ha hl ht hv
theorem rtext_any (o : OpenI) (A : Option Addr) (c : Nat) (cs : List Value) (w : World) (hb : o.B) (hx : CapL w o.caps cs) (ha : Arr w A cs) (hl : o.caps.length ≤ 1000000) (hf : (formC o.caps).length ≤ 100000) :
    Calls Tryd.prog 12 #[o.val A c] w (Stay (.string (ba (textO o))) w) := by
  cases hv : validO o with
  | false =>
    unfold textO
    rw [hv]
    exact rtext_bad o A c cs w hb hx ha hl hf hv
  | true =>
    unfold textO
    rw [hv]
    exact rtext_good o A c cs w hb hx ha hl hv

end Go.Proofs.YtilfheociidloaaDoor
