/- The reference's Has. No condition but the bounds that arguments have. -/
import Derived.Test.YtkhonebedoemoaaDoorComC
namespace Go.Proofs.YtkhonebedoemoaaDoor
open Go.RowKit
set_option linter.unusedVariables false
set_option linter.unusedSimpArgs false

/-- Group number q of some numbers. -/
def chunkN (g : Nat) (xs : List Int) (q : Nat) : List Int := (xs.drop (q * g)).take g
/-- Have the numbers a group ys? -/
def hasL (g : Nat) (xs ys : List Int) : Bool := (List.range (xs.length / g)).any (fun q => decide (chunkN g xs q = ys))
theorem hasL_yes {g : Nat} {xs ys : List Int} {q : Nat} (hq : q < xs.length / g) (h : chunkN g xs q = ys) : hasL g xs ys = true := by
  unfold hasL
  rw [List.any_eq_true]
  exact ⟨q, List.mem_range.2 hq, by simpa using h⟩
theorem hasL_no {g : Nat} {xs ys : List Int} (h : ∀ q, q < xs.length / g → chunkN g xs q ≠ ys) : hasL g xs ys = false := by
  unfold hasL
  rw [List.any_eq_false]
  intro q hq
  simpa using h q (List.mem_range.1 hq)
set_option maxRecDepth 100000 in
set_option maxHeartbeats 3200000 in
theorem rhas_any (z : AtI) (ok : z.Ok) (xs ys : List Int) (A : Option Addr) (c : Nat) (w : World) (hx : InUs w z.L z.ln z.lc xs) (hy : Arr w A (us ys)) (hl : z.ln ≤ 100000) :
    Calls Tryd.prog 10 #[z.val, .slice A ys.length c] w (Stay (.bool (validC z && hasL (grp z.t) xs ys)) w) := by
  have HV := Lib.hid (fun W => rvalid_any z ok W)
  have HG := Lib.hid (fun W => rgroup_any z.t W)
  have hb0 := Bk.fresh w 28 z.cs
  cases hv : validC z with
  | false =>
    rw [hv] at HV
    rw [Bool.false_and]
    have HB0 := Lib.hid hb0
    have HK0 := Lib.hid ((Kp.refl NoB w).alloc (.cells z.cs 28))
    obtain ⟨m, hm⟩ : ∃ m, ys.length = m := ⟨_, rfl⟩
    rw [hm]
    clear hm hx hy hl hv ok HG hb0
    unfold AtI.val AtI.cs at *
    go_enter Tryd.func10, Tryd.ntmps10
    go_wp2_with (go_at_call 20; (with_reducible refine Calls.mono (HV.out _) ?_); rintro e w1 ⟨rfl, hK⟩; have hk1 := Lib.hid (HK0.out.and hK); clear hK)
    go_ret
    exact ⟨rfl, hk1.out⟩
  | true =>
    rw [hv] at HV
    rw [Bool.true_and]
    have hg1 : 0 < grp z.t ∧ z.ln % grp z.t = 0 := by
      unfold validC at hv
      simp only [Bool.and_eq_true, decide_eq_true_eq] at hv
      exact ⟨hv.1.1.1, hv.1.2⟩
    have hg3 : grp z.t ≤ 3 := by unfold grp; split <;> (try split) <;> (try split) <;> omega
    obtain ⟨G, hG⟩ : ∃ g, grp z.t = g := ⟨_, rfl⟩
    rw [hG] at HG hg1 hg3 ⊢
    obtain ⟨hln, hlc, hcm, hax, hiu⟩ := hx
    unfold maxLen at hcm
    have HB0 := Lib.hid hb0
    have HK0 := Lib.hid ((Kp.refl NoB w).alloc (.cells z.cs 28))
    have HSM := Lib.hid (fun W i (k : Kp NoB w W) (hi : i + G ≤ z.ln) => (show Calls Tryd.prog 29 #[.slice (cutA z.L i z.lc) G (z.lc - i), .slice A ys.length c] W (Stay (.bool (decide ((xs.drop i).take G = ys))) W) by
      have h1 : Arr W (cutA z.L i z.lc) (us ((xs.drop i).take G)) := by
        have := ((hax.and k).drop (n := i) (c := z.lc) (by simp [us]; omega)).take G
        simpa [us, List.map_take, List.map_drop] using this
      have h2 := usame_any (cutA z.L i z.lc) A (z.lc - i) c ((xs.drop i).take G) ys W h1 (hy.and k) (by simp; omega)
      rw [show ((xs.drop i).take G).length = G by simp; omega] at h2
      exact h2))
    obtain ⟨m, hm⟩ : ∃ m, ys.length = m := ⟨_, rfl⟩
    rw [hm] at HSM
    rw [hm]
    obtain ⟨N, hN⟩ : ∃ q, z.ln / G = q := ⟨_, rfl⟩
    have hNG : N * G = z.ln := by rw [← hN]; exact Nat.div_mul_cancel (Nat.dvd_of_mod_eq_zero hg1.2)
    have HLN := Lib.hid hln
    have HNN := Lib.hid hN
    clear hm hax hy hv ok hb0 hln hN hiu
    unfold AtI.val AtI.cs at *
    go_enter Tryd.func10, Tryd.ntmps10
    go_wp2_with (first
      | (go_at_call 20; (with_reducible refine Calls.mono (HV.out _) ?_); rintro e w1 ⟨rfl, hK⟩; have hk1 := Lib.hid (HK0.out.and hK); have hb1 := Lib.hid (HB0.out.and hK); obtain ⟨x0, x1, x2, x3, x4, x5, x6, x7, x8⟩ := Bk.attr (z := z) hb1.out; clear hK)
      | (go_at_call 25; (with_reducible refine Calls.mono (HG.out _) ?_); rintro e w2 ⟨rfl, hK⟩; have hk2 := Lib.hid (hk1.out.and hK); have hb2 := Lib.hid (hb1.out.and hK); clear hK x0 x1 x2 x3 x4 x5 x6 x7 x8))
    go_loopw [6] (fun i wr => ∃ q : Nat, q ≤ N ∧ i = .int .i64 (q * G : Nat) ∧ Hid (Kp NoB w wr) ∧ Hid (Bk wr w.heap.size 28 z.cs) ∧ Hid (∀ p, p < q → chunkN G xs p ≠ ys)) (fun i _ => z.ln - (intOf i).toNat)
    case atStart => exact ⟨0, Nat.zero_le _, by simp, hk2, hb2, Lib.hid (fun p hp => absurd hp (Nat.not_lt_zero p))⟩
    case round =>
      clear hk1 hk2 hb1 hb2
      obtain ⟨q, hq, rfl, HK, HB, HP⟩ := hrel
      obtain ⟨x0, x1, x2, x3, x4, x5, x6, x7, x8⟩ := Bk.attr (z := z) HB.out
      by_cases hlt : q < N
      · have hqi : q * G + G ≤ z.ln := by
          have h9 := Nat.mul_le_mul_right G (show q + 1 ≤ N from hlt)
          rw [Nat.succ_mul] at h9
          omega
        have hqs : (q + 1) * G = q * G + G := Nat.succ_mul q G
        have hch : chunkN G xs q = (xs.drop (q * G)).take G := rfl
        have HQS := Lib.hid hqs
        obtain ⟨I, hI⟩ : ∃ I, q * G = I := ⟨_, rfl⟩
        rw [hI] at hqi hch HQS ⊢
        have hlt2 : (I : Int) < z.ln := by omega
        obtain ⟨b, hb⟩ : ∃ b, decide ((xs.drop I).take G = ys) = b := ⟨_, rfl⟩
        have HS := Lib.hid (fun W (k : Kp NoB w W) => (show Calls Tryd.prog 29 #[.slice (z.L.map (fun x => x.add I)) G (z.lc - I), .slice A m c] W (Stay (.bool b) W) by rw [← hb, show z.L.map (fun x => x.add I) = cutA z.L I z.lc by unfold cutA; rw [if_neg (by omega)]]; exact HSM.out W I k hqi))
        have HCH := Lib.hid hch
        have HBB := Lib.hid hb
        clear hch hb hqs hI
        cases b
        · go_wp2_with (go_at_call 29; (with_reducible refine Calls.mono (HS.out _ HK.out) ?_); rintro e w3 ⟨rfl, hK⟩; have hk3 := Lib.hid (HK.out.and hK); have hb3 := Lib.hid (HB.out.and hK); clear hK x0 x1 x2 x3 x4 x5 x6 x7 x8; obtain ⟨x0, x1, x2, x3, x4, x5, x6, x7, x8⟩ := Bk.attr (z := z) hb3.out)
          go_roundw
          case rel => exact ⟨q + 1, by omega, by rw [HQS.out]; go_num, hk3, hb3, Lib.hid (fun p hp => by
            rcases Nat.lt_or_ge p q with h9 | h9
            · exact HP.out p h9
            · have hpq : p = q := by omega
              rw [hpq, HCH.out]
              have := HBB.out
              simpa using this)⟩
          case measure =>
            simp [intOf]
            omega
        · have HR := Lib.hid (show hasL G xs ys = true from hasL_yes (q := q) (by rw [HLN.out, HNN.out]; exact hlt) (by rw [HCH.out]; simpa using HBB.out))
          rw [HR.out]
          go_wp2_with (go_at_call 29; (with_reducible refine Calls.mono (HS.out _ HK.out) ?_); rintro e w3 ⟨rfl, hK⟩; have hk3 := Lib.hid (HK.out.and hK); clear hK)
          go_ret
          exact ⟨rfl, hk3.out⟩
      · have hqn : q = N := by omega
        have HR := Lib.hid (show hasL G xs ys = false from hasL_no (fun p hp => HP.out p (by rw [HLN.out, HNN.out] at hp; omega)))
        obtain ⟨I, hI⟩ : ∃ I, q * G = I := ⟨_, rfl⟩
        have hIn : I = z.ln := by rw [← hI, hqn, hNG]
        rw [hI]
        have hlt2 : ¬ (I : Int) < z.ln := by omega
        clear hI hqn hNG
        go_wp2
        go_ret
        exact ⟨by rw [HR.out]; rfl, HK.out⟩

end Go.Proofs.YtkhonebedoemoaaDoor
