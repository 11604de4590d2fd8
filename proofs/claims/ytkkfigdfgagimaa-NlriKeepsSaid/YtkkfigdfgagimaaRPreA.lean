/- The reference's prefixes: bit, most, Valid: contracts by walking the Go text. -/
import Derived.Test.YtkkfigdfgagimaaPreC
import Derived.IntWalk
namespace Go.Proofs.Ytkkfigdfgagimaa
open Go.RowKit
set_option linter.unusedVariables false
set_option linter.unusedSimpArgs false

/-- Bit i of an address. -/
def bitI (a : List Int) (i : Nat) : Int := a.getD (i / 8) 0 / 2 ^ (7 - i % 8) % 2

theorem wraps_i64 (n : Int) (h₀ : 0 ≤ n) (h₁ : n < 2 ^ 63) : IntKind.i64.wrap n = n := IntWalk.i64_in _ (by omega)
theorem shr_bd (y : Int) (k : Nat) (h : 0 ≤ y ∧ y < 256) : 0 ≤ y / 2 ^ k ∧ y / 2 ^ k < 256 := by
  have hp : (0 : Int) < 2 ^ k := Int.pow_pos (by decide)
  exact ⟨Int.ediv_nonneg h.1 (Int.le_of_lt hp), by have := Int.ediv_le_self (2 ^ k) h.1; omega⟩
theorem bit_and (z : Int) (h0 : 0 ≤ z) (h1 : z < 256) : bits .and .i64 (wrap64 z) 1 = z % 2 := by
  rw [show wrap64 z = z by unfold wrap64; omega]
  exact bits_mask .i64 63 (by decide) wraps_i64 1 (by decide) z h0 (by omega)
set_option maxRecDepth 100000 in
set_option maxHeartbeats 4000000 in
theorem rbit_any (a : List Int) (i : Nat) (w : World) (hi : i < 128) (ha : a.length = 16) (hB : IsB a) :
    Calls Try.prog 66 #[adV a, .int .i64 i] w (Stay (.int .i64 (bitI a i)) w) := by
  have hb := hB.getD (i / 8)
  have HB0 := Lib.hid (Bk.fresh w 27 (bs a).toArray)
  have hc := HB0.out.cell (i / 8)
  have hg : (bs a).toArray[i / 8]? = some (.int .u8 (a.getD (i / 8) 0)) := by
    rw [List.getElem?_toArray]
    exact bs_get a (i / 8) (by omega)
  rw [hg] at hc
  unfold bitI adV
  obtain ⟨y, hy⟩ : ∃ y, a.getD (i / 8) 0 = y := ⟨_, rfl⟩
  rw [hy] at hc hb ⊢
  obtain ⟨cs, hcs⟩ : ∃ cs, (bs a).toArray = cs := ⟨_, rfl⟩
  rw [hcs] at HB0 hc ⊢
  clear hcs hy hg
  go_enter Try.func66, Try.ntmps66
  go_wp2_with fail
  go_ret
  refine ⟨?_, (Kp.refl _ _).alloc _⟩
  have hz := shr_bd y (7 - i % 8) hb
  rw [← bit_and _ hz.1 hz.2]
  rfl

/-! ### Plain: masks by bits -/
theorem byte_mask : ∀ y < 256, ∀ k < 9, maskB ((k : Nat) : Int) ((y : Nat) : Int) = (y : Int) ↔ ∀ i < 8, k ≤ i → (y : Int) / 2 ^ (7 - i) % 2 = 0 := by decide +kernel
theorem maskB_low (k : Int) (y : Int) (h : k ≤ 0) : maskB k y = maskB 0 y := by unfold maskB; rw [if_pos h, if_pos (by decide)]
theorem maskB_high (k : Int) (y : Int) (h : 8 ≤ k) : maskB k y = maskB 8 y := by unfold maskB; rw [if_neg (by omega), if_neg (by omega), if_neg (by decide), if_neg (by decide)]
theorem maskB_bits (k y : Int) (h0 : 0 ≤ y) (h1 : y < 256) : maskB k y = y ↔ ∀ i : Nat, i < 8 → k ≤ (i : Int) → y / 2 ^ (7 - i) % 2 = 0 := by
  obtain ⟨n, rfl⟩ := Int.eq_ofNat_of_zero_le h0
  have hn : n < 256 := by omega
  rcases Int.lt_or_le k 0 with hk | hk
  · rw [maskB_low k _ (by omega)]
    have := byte_mask n hn 0 (by decide)
    refine ⟨fun h i hi _ => this.1 h i hi (by omega), fun h => this.2 (fun i hi _ => h i hi (by omega))⟩
  · rcases Int.lt_or_le k 8 with h8 | h8
    · obtain ⟨m, rfl⟩ := Int.eq_ofNat_of_zero_le hk
      have := byte_mask n hn m (by omega)
      refine ⟨fun h i hi hm => this.1 h i hi (by omega), fun h => this.2 (fun i hi hm => h i hi (by omega))⟩
    · rw [maskB_high k _ h8]
      have := byte_mask n hn 8 (by decide)
      refine ⟨fun h i hi hm => by omega, fun h => this.2 (fun i hi hm => by omega)⟩
theorem maskL_get (len : Int) (a : List Int) (j : Nat) (hj : j < 16) : (maskL len a).getD j 0 = maskB (len - 8 * (j : Int)) (a.getD j 0) := by
  unfold maskL mkTo
  simp [List.getD, hj]
theorem ext16 {a b : List Int} (ha : a.length = 16) (hb : b.length = 16) (h : ∀ j < 16, a.getD j 0 = b.getD j 0) : a = b := by
  refine List.ext_getElem (by omega) (fun j h1 h2 => ?_)
  have := h j (by omega)
  simpa [List.getD, h1, h2] using this
theorem maskL_iff (len : Int) (a : List Int) (ha : a.length = 16) (hB : IsB a) : maskL len a = a ↔ ∀ i : Nat, i < 128 → len ≤ (i : Int) → bitI a i = 0 := by
  constructor
  · intro h i hi hl
    have hj : i / 8 < 16 := by omega
    have hb := hB.getD (i / 8)
    have h2 := maskL_get len a (i / 8) hj
    rw [h] at h2
    exact (maskB_bits _ _ hb.1 hb.2).1 h2.symm (i % 8) (by omega) (by omega)
  · intro h
    refine ext16 (mkTo_length _ _ _) ha (fun j hj => ?_)
    have hb := hB.getD j
    rw [maskL_get len a j hj]
    refine (maskB_bits _ _ hb.1 hb.2).2 (fun i hi hl => ?_)
    have := h (8 * j + i) (by omega) (by omega)
    unfold bitI at this
    rwa [show (8 * j + i) / 8 = j by omega, show (8 * j + i) % 8 = i by omega] at this

def mostI (fam : Int) : Int := if fam = 1 then 32 else if fam = 2 then 128 else -1
theorem ranged_most (fam len : Int) : rangedB fam len = decide (0 ≤ len ∧ len ≤ mostI fam) := by
  unfold rangedB mostI widI
  by_cases h1 : fam = 1
  · simp [h1]
  · by_cases h2 : fam = 2
    · simp [h2]
    · simp [h1, h2]
      omega

theorem rmost_any (fam : Int) (w : World) : Calls Try.prog 60 #[.int .i64 fam] w (fun e w' => e = .returned (.int .i64 (mostI fam)) ∧ w' = w) := by
  unfold mostI
  by_cases h1 : fam = 1
  · rw [if_pos h1]
    go_enter Try.func60, Try.ntmps60
    go_wp2_with fail
    go_ret
    exact ⟨rfl, rfl⟩
  · rw [if_neg h1]
    by_cases h2 : fam = 2
    · rw [if_pos h2]
      go_enter Try.func60, Try.ntmps60
      go_wp2_with fail
      go_ret
      exact ⟨rfl, rfl⟩
    · rw [if_neg h2]
      go_enter Try.func60, Try.ntmps60
      go_wp2_with fail
      go_ret
      exact ⟨rfl, rfl⟩
theorem most_bd (fam : Int) : -1 ≤ mostI fam ∧ mostI fam ≤ 128 := by
  unfold mostI
  split
  · omega
  · split <;> omega

set_option maxRecDepth 100000 in
set_option maxHeartbeats 4000000 in
theorem rvalid_any (p : PreI) (w : World) (hB : p.B) : Calls Try.prog 64 #[p.val] w (Stay (.bool (validP p)) w) := by
  have HM := Lib.hid (fun w => rmost_any p.fam w)
  have hmb := most_bd p.fam
  obtain ⟨hfam, hlen, ha, hab⟩ := hB
  have hbit := fun (i : Nat) (hi : i < 128) (w : World) => rbit_any p.addr i w hi ha hab
  have HI := Lib.hid (show (Try.prog.info? 27).map (·.size) = some (bs p.addr).length by rw [bs_length, ha]; exact (size_of infoAd).2)
  have HPR := Lib.hid (fun (W : World) (b : Nat) (h : Bk W b 29 (preC p).toArray) => h.pre)
  have hmask := maskL_iff p.len p.addr ha hab
  unfold validP
  rw [ranged_most]
  unfold adV at hbit
  unfold PreI.val
  obtain ⟨fam, len, a⟩ := p
  simp only at *
  have HBIT := Lib.hid hbit
  have HMK := Lib.hid hmask
  clear hbit hmask hfam ha hab
  obtain ⟨cs, hcs⟩ : ∃ cs, (preC ⟨fam, len, a⟩).toArray = cs := ⟨_, rfl⟩
  rw [hcs] at HPR ⊢
  obtain ⟨ba, hba⟩ : ∃ ba, bs a = ba := ⟨_, rfl⟩
  rw [hba] at HPR HBIT HI
  obtain ⟨mo, hmo⟩ : ∃ mo, mostI fam = mo := ⟨_, rfl⟩
  rw [hmo] at HM hmb ⊢
  have HB0 := Lib.hid (Bk.fresh w 29 cs)
  obtain ⟨x1, x2, x3⟩ := HPR.out _ _ HB0.out
  have HX3 := Lib.hid x3
  clear hcs hba hmo x3
  by_cases h0 : len < 0
  · rw [decide_eq_false (by omega), Bool.false_and]
    go_enter Try.func64, Try.ntmps64
    go_wp2_with fail
    go_quiet (fail)
    go_wp2_with fail
    go_ret
    exact ⟨rfl, ((Kp.refl _ _).alloc _).drewN _⟩
  · by_cases h1 : mo < len
    · rw [decide_eq_false (by omega), Bool.false_and]
      go_enter Try.func64, Try.ntmps64
      go_wp2_with fail
      go_quiet ((go_at_call 60; exact Calls.quiet_of_same (HM.out _)))
      go_wp2_with fail
      go_ret
      exact ⟨rfl, ((Kp.refl _ _).alloc _).drewN _⟩
    · rw [decide_eq_true (by omega), Bool.true_and]
      obtain ⟨L, rfl⟩ := Int.eq_ofNat_of_zero_le (show 0 ≤ len by omega)
      obtain ⟨R, hR⟩ : ∃ R, decide (maskL (L : Int) a = a) = R := ⟨_, rfl⟩
      rw [hR]
      have HRR := Lib.hid hR
      have hL : L ≤ 128 := by omega
      clear hR
      go_enter Try.func64, Try.ntmps64
      go_wp2_with fail
      go_quiet ((go_at_call 60; exact Calls.quiet_of_same (HM.out _)))
      go_wp2_with fail
      have HBQ := Lib.hid (HB0.out.drewN nq)
      have HK0 := Lib.hid (((Kp.refl NoB w).alloc (.cells cs 29)).drewN nq)
      obtain ⟨W0, hW0⟩ : ∃ W0, (w.alloc (.cells cs 29)).drewN nq = W0 := ⟨_, rfl⟩
      rw [hW0] at HBQ HK0 ⊢
      clear hW0 x1 x2 HX3 HB0
      go_loopw [3] (fun i wr => ∃ j : Nat, L ≤ j ∧ j ≤ 128 ∧ i = .int .i64 j ∧ Hid (∀ k : Nat, k < j → L ≤ k → bitI a k = 0) ∧ Hid (Bk wr w.heap.size 29 cs) ∧ Hid (Kp NoB w wr)) (fun i _ => 128 - (intOf i).toNat)
      case atStart => exact ⟨L, Nat.le_refl _, hL, rfl, Lib.hid (fun k h1 h2 => by omega), HBQ, HK0⟩
      case round =>
        obtain ⟨j, hj0, hj1, rfl, HU, HBW, HKW⟩ := hrel
        by_cases hlt : j < 128
        · obtain ⟨-, -, z3⟩ := HPR.out _ _ HBW.out
          have HX := Lib.hid z3
          have HBT := Lib.hid (HBIT.out j hlt)
          obtain ⟨bt, hbt⟩ : ∃ bt, bitI a j = bt := ⟨_, rfl⟩
          have HBB := Lib.hid hbt
          rw [hbt] at HBT
          clear z3 hbt
          by_cases hz : bt = 0
          · have hz' : (bt != 0) = false := by simp [hz]
            have HZ := Lib.hid hz
            clear hz
            go_wp2_with (first
              | (refine wpList_load_mid rfl 27 (.tmp 21) rfl w.heap.size 2 rfl ba _ HX.out Try.underlying27 rfl HI.out ?_)
              | (go_at_call 66; (with_reducible refine (HBT.out _).mono ?_); rintro e w2 ⟨rfl, hK2⟩; have HB2 := Lib.hid (HBW.out.and hK2); replace hK2 := Lib.hid hK2))
            go_roundw
            case rel =>
              refine ⟨j + 1, by omega, by omega, by go_num, Lib.hid (fun k h1 h2 => ?_), HB2, Lib.hid (HKW.out.and hK2.out)⟩
              rcases Nat.lt_or_ge k j with h3 | h3
              · exact HU.out k h3 h2
              · obtain rfl : k = j := by omega
                rw [HBB.out, HZ.out]
            case measure => simp [intOf]; omega
          · have hz' : (bt != 0) = true := by simp [hz]
            have HZ := Lib.hid hz
            clear hz
            go_wp2_with (first
              | (refine wpList_load_mid rfl 27 (.tmp 21) rfl w.heap.size 2 rfl ba _ HX.out Try.underlying27 rfl HI.out ?_)
              | (go_at_call 66; (with_reducible refine (HBT.out _).mono ?_); rintro e w2 ⟨rfl, hK2⟩; replace hK2 := Lib.hid hK2))
            go_ret
            have hd : R = false := by rw [← HRR.out]; exact decide_eq_false (fun h => HZ.out (by rw [← HBB.out]; exact HMK.out.1 h j hlt (by omega)))
            rw [hd]
            exact ⟨rfl, HKW.out.and hK2.out⟩
        · have hj : j = 128 := by omega
          subst hj
          go_wp2_with fail
          go_ret
          have hd : R = true := by rw [← HRR.out]; exact decide_eq_true (HMK.out.2 (fun i hi hl => HU.out i hi (by omega)))
          rw [hd]
          exact ⟨rfl, HKW.out⟩

end Go.Proofs.Ytkkfigdfgagimaa
