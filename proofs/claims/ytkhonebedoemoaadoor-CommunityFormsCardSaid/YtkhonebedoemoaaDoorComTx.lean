/- The reference's form and Text. No condition but the bounds that arguments have. -/
import Derived.Test.YtkhonebedoemoaaDoorComY
import Derived.Test.YtkhonebedoemoaaDoorROf
import Derived.Deep.RegionHeld3
namespace Go.Proofs.YtkhonebedoemoaaDoor
open Go.RowKit
set_option linter.unusedVariables false
set_option linter.unusedSimpArgs false

theorem str_add (s : List UInt8) (t : List UInt8) (h : s.length + t.length ≤ 100000) (w : World) : (Op.stringOp .add (ba s) (ba t)).run Tryd.prog w = .ok (.string (ba (s ++ t))) w := by
  rw [run_string_add_sum w _ _ (by rw [ba_size, ba_size]; omega), ba_app]
theorem rdec_int (n : Int) (h0 : 0 ≤ n) (h1 : n < 4294967296) (w : World) : Calls Tryd.prog 54 #[.int .i64 n] w (Stay (.string (ba (decL n))) w) := by
  have h := rdec_stay n.toNat (by omega) w
  rw [show ((n.toNat : Nat) : Int) = n by omega] at h
  exact h
theorem decL_len (n : Int) (h0 : 0 ≤ n) (h1 : n < 4294967296) : (decL n).length ≤ 20 := dec_short n.toNat (by omega)

set_option maxRecDepth 100000 in
set_option maxHeartbeats 3200000 in
theorem rform_8 (A : Option Addr) (c : Nat) (x : Int) (hx : 0 ≤ x ∧ x < 4294967296) (w : World) (ha : Arr w A (us [x])) :
    Calls Tryd.prog 41 #[.int .i64 8, .slice A 1 c] w (Stay (.string (ba (gtextC 8 [x]))) w) := by
  obtain ⟨ad, rfl, hc⟩ := ha.at (j := 0) (u := .int .u32 x) rfl
  rw [add_zero] at hc
  have h1 := rdec_int (x / 65536) (by omega) (by omega)
  have h2 := rdec_int (x % 65536) (by omega) (by omega)
  have l1 := decL_len (x / 65536) (by omega) (by omega)
  have l2 := decL_len (x % 65536) (by omega) (by omega)
  have hg : gtextC 8 [x] = decL (x / 65536) ++ [58] ++ decL (x % 65536) := by simp [gtextC, Lib.join_cons, Lib.joinTail]
  rw [hg]
  obtain ⟨D, hD⟩ : ∃ d, decL (x / 65536) = d := ⟨_, rfl⟩
  obtain ⟨E, hE⟩ : ∃ d, decL (x % 65536) = d := ⟨_, rfl⟩
  rw [hD] at h1 l1 ⊢
  rw [hE] at h2 l2 ⊢
  obtain ⟨P, hP⟩ : ∃ p, D ++ [58] = p := ⟨_, rfl⟩
  have lp := congrArg List.length hP
  rw [List.length_append, List.length_singleton] at lp
  obtain ⟨R, hR⟩ : ∃ p, P ++ E = p := ⟨_, rfl⟩
  have hc1 : ∀ W, (Op.stringOp .add (ba D) ⟨#[58]⟩).run Tryd.prog W = .ok (.string (ba P)) W := fun W => by
    rw [show (⟨#[58]⟩ : ByteArray) = ba [58] from rfl, str_add _ _ (by rw [List.length_singleton]; omega) W, hP]
  have hc2 : ∀ W, (Op.stringOp .add (ba P) (ba E)).run Tryd.prog W = .ok (.string (ba R)) W := fun W => by
    rw [str_add _ _ (by omega) W, hR]
  rw [hP, hR]
  have HI1 := Lib.hid h1
  have HI2 := Lib.hid h2
  have hq : x.tdiv 65536 = x / 65536 := Int.tdiv_eq_ediv_of_nonneg hx.1
  have hm : x.tmod 65536 = x % 65536 := Int.tmod_eq_emod_of_nonneg hx.1
  have w1 : IntKind.i64.wrap (x / 65536) = x / 65536 := wrap_i64 _ (by omega) (by omega)
  have w2 : IntKind.i64.wrap (x % 65536) = x % 65536 := wrap_i64 _ (by omega) (by omega)
  have w3 : wrap64 (x / 65536) = x / 65536 := Go.IntWalk.wrap64_in _ ⟨by omega, by omega⟩
  have w4 : wrap64 (x % 65536) = x % 65536 := Go.IntWalk.wrap64_in _ ⟨by omega, by omega⟩
  have w5 : IntKind.u32.wrap (x / 65536) = x / 65536 := by simp [IntKind.wrap, IntKind.bits, IntKind.signed]; omega
  have w6 : IntKind.u32.wrap (x % 65536) = x % 65536 := by simp [IntKind.wrap, IntKind.bits, IntKind.signed]; omega
  clear h1 h2 hg hD hE hP hR l1 l2 lp ha hx
  go_enter Tryd.func41, Tryd.ntmps41
  go_wp2
  go_region_held3 (fun w' => w'.cell? ad = some (.int .u32 x)) (go_keep)
    (first
      | (go_at_call 54; (with_reducible refine Calls.mono (HI1.out _) ?_); rintro e w2 ⟨rfl, hK⟩; have hk2 := Lib.hid ((Kp.refl NoB w).drew.and hK); have hc' := hK.cell (p := ad) hc (fun q => q); clear hc; have hc := hc'; clear hc' hK)
      | (go_at_call 54; (with_reducible refine Calls.mono (HI2.out _) ?_); rintro e w3 ⟨rfl, hK⟩; have hk3 := Lib.hid (hk2.out.and hK); have hc' := hK.cell (p := ad) hc (fun q => q); clear hc; have hc := hc'; clear hc' hK))
  go_wp2
  go_ret
  exact ⟨rfl, hk3.out⟩

set_option maxRecDepth 100000 in
set_option maxHeartbeats 3200000 in
theorem rform_10 (A : Option Addr) (c : Nat) (x : Int) (hx : 0 ≤ x ∧ x < 4294967296) (w : World) (ha : Arr w A (us [x])) :
    Calls Tryd.prog 41 #[.int .i64 10, .slice A 1 c] w (Stay (.string (ba (gtextC 10 [x]))) w) := by
  obtain ⟨ad, rfl, hc⟩ := ha.at (j := 0) (u := .int .u32 x) rfl
  rw [add_zero] at hc
  have HA := Lib.hid (fun W => raddress_any x hx.1 hx.2 W)
  have hg : gtextC 10 [x] = addrL x := rfl
  rw [hg]
  obtain ⟨D, hD⟩ : ∃ d, addrL x = d := ⟨_, rfl⟩
  rw [hD] at HA ⊢
  clear hg hD ha hx
  go_enter Tryd.func41, Tryd.ntmps41
  go_wp2_with (go_at_call 55; (with_reducible refine Calls.mono (HA.out _) ?_); rintro e w2 ⟨rfl, hK⟩; have hk2 := Lib.hid hK; clear hK)
  go_ret
  exact ⟨rfl, hk2.out⟩

/-- The first numbers of a group, joined. -/
def jnL (l : List Int) : List UInt8 := Lib.join (l.map decL) [58]
theorem jnL_step (l : List Int) (j : Nat) (x : Int) (h : l[j]? = some x) : jnL (l.take (j + 1)) = jnL (l.take j) ++ (if j = 0 then [] else [58]) ++ decL x := by
  unfold jnL
  cases l with
  | nil => cases h
  | cons y r =>
    cases j with
    | zero =>
      cases h
      simp [Lib.join_cons, Lib.joinTail, Lib.join_nil]
    | succ j =>
      rw [List.take_succ_cons, List.map_cons, Lib.join_cons, List.take_succ_cons, List.map_cons, Lib.join_cons, if_neg (by omega), List.map_take, List.map_take]
      rw [Lib.joinTail_take_succ [58] (r.map decL) j (decL x) (by rw [List.getElem?_map, show r[j]? = some x from h]; rfl)]
      simp [List.append_assoc]
theorem jnL_len (l : List Int) (hu : IsU l) : (jnL l).length ≤ l.length * 21 := by
  have := join_len 58 20 (l.map decL) (fun y hy => by
    obtain ⟨x, hx, rfl⟩ := List.mem_map.1 hy
    have := hu x hx
    exact decL_len x this.1 this.2)
  rw [List.length_map] at this
  exact this

set_option maxRecDepth 100000 in
set_option maxHeartbeats 3200000 in
theorem rform_n (k : Int) (h8 : k ≠ 8) (h10 : k ≠ 10) (A : Option Addr) (c : Nat) (l : List Int) (hu : IsU l) (hl3 : l.length ≤ 3) (w : World) (ha : Arr w A (us l)) :
    Calls Tryd.prog 41 #[.int .i64 k, .slice A l.length c] w (Stay (.string (ba (gtextC k l))) w) := by
  have hg : gtextC k l = jnL l := by unfold gtextC; rw [if_neg h10, if_neg h8]; rfl
  rw [hg]
  have HX := Lib.hid (fun W (kk : Kp NoB w W) j (hj : j < l.length) => (show ∃ ad x, A = some ad ∧ l[j]? = some x ∧ W.cell? (ad.add j) = some (.int .u32 x) ∧ 0 ≤ x ∧ x < 4294967296 by
    obtain ⟨ad, e, hc⟩ := (ha.and kk).at (j := j) (u := .int .u32 l[j]) (by simp [us, hj])
    have hb := hu l[j] (List.getElem_mem hj)
    exact ⟨ad, l[j], e, List.getElem?_eq_getElem hj, hc, hb.1, hb.2⟩))
  have HT := Lib.hid (fun j => jnL_len (l.take j) (fun x hx => hu x (List.mem_of_mem_take hx)))
  have HF : Hid (l.take l.length = l) := Lib.hid (List.take_length ..)
  have HST := Lib.hid (fun j x (h : l[j]? = some x) => jnL_step l j x h)
  obtain ⟨n, hn⟩ : ∃ n, l.length = n := ⟨_, rfl⟩
  have hn3 : n ≤ 3 := by omega
  rw [hn] at HX HF ⊢
  have e8 : (k == 8) = false := by simpa using h8
  have e10 : (k == 10) = false := by simpa using h10
  clear hg hu ha hl3 hn
  go_enter Tryd.func41, Tryd.ntmps41
  go_wp2
  go_loopw [5, 6] (fun v i wr => ∃ (j : Nat), j ≤ n ∧ i = .int .i64 j ∧ v = .string (ba (jnL (l.take j))) ∧ Hid (Kp NoB w wr)) (fun _ i _ => n - (intOf i).toNat)
  case atStart => exact ⟨0, Nat.zero_le _, rfl, rfl, Lib.hid (Kp.refl _ _)⟩
  case round =>
    obtain ⟨j, hj, rfl, rfl, HK⟩ := hrel
    try rw [e8, e10]
    by_cases hlt : j < n
    · obtain ⟨ad, x, hA, hxj, hc, h0, h1⟩ := HX.out _ HK.out j hlt
      have hs := HST.out j x hxj
      have hl := HT.out j
      rw [List.length_take] at hl
      have hl2 : (jnL (l.take j)).length ≤ 100 := by
        have : min j l.length ≤ 3 := by omega
        omega
      have hd := decL_len x h0 h1
      have HD := Lib.hid (fun W => rdec_int x h0 h1 W)
      have hwx : wrap64 x = x := Go.IntWalk.wrap64_in _ ⟨by omega, by omega⟩
      obtain ⟨D, hD⟩ : ∃ d, decL x = d := ⟨_, rfl⟩
      obtain ⟨T, hT⟩ : ∃ t, jnL (l.take (j + 1)) = t := ⟨_, rfl⟩
      obtain ⟨s, hS⟩ : ∃ t, jnL (l.take j) = t := ⟨_, rfl⟩
      rw [hD] at hs hd HD
      rw [hT, hS] at hs
      rw [hS] at hl2
      rw [hS]
      have HT' := Lib.hid hT
      rw [hA]
      by_cases hj0 : j = 0
      · subst hj0
        rw [if_pos rfl, List.append_nil] at hs
        have hc3 : ∀ W, (Op.stringOp .add (ba s) (ba D)).run Tryd.prog W = .ok (.string (ba T)) W := fun W => by rw [str_add _ _ (by omega) W, hs]
        rw [add_zero] at hc
        clear hs hl hl2 hd hD hT hS h0 h1 hxj
        go_wp2_with (go_at_call 54; (with_reducible refine Calls.mono (HD.out _) ?_); rintro e w2 ⟨rfl, hK⟩; have hk2 := Lib.hid (HK.out.and hK); clear hK)
        go_roundw
        case rel => exact ⟨0 + 1, by omega, by go_num, by rw [HT'.out], hk2⟩
        case measure => simp [intOf]; omega
      · rw [if_neg hj0] at hs
        obtain ⟨P, hP⟩ : ∃ p, s ++ [58] = p := ⟨_, rfl⟩
        have lp := congrArg List.length hP
        rw [List.length_append, List.length_singleton] at lp
        rw [hP] at hs
        have hc1 : ∀ W, (Op.stringOp .add (ba s) ⟨#[58]⟩).run Tryd.prog W = .ok (.string (ba P)) W := fun W => by
          rw [show (⟨#[58]⟩ : ByteArray) = ba [58] from rfl, str_add _ _ (by rw [List.length_singleton]; omega) W, hP]
        have hc2 : ∀ W, (Op.stringOp .add (ba P) (ba D)).run Tryd.prog W = .ok (.string (ba T)) W := fun W => by rw [str_add _ _ (by omega) W, hs]
        have hjp : (0 : Int) < (j : Int) := by omega
        clear hs hl hl2 hd hD hT hS h0 h1 hxj hP lp
        go_wp2_with (go_at_call 54; (with_reducible refine Calls.mono (HD.out _) ?_); rintro e w2 ⟨rfl, hK⟩; have hk2 := Lib.hid (HK.out.and hK); clear hK)
        go_roundw
        case rel => exact ⟨j + 1, by omega, by go_num, by rw [HT'.out], hk2⟩
        case measure => simp [intOf]; omega
    · have hjz : j = n := by omega
      subst hjz
      rw [HF.out]
      go_wp2
      go_ret
      exact ⟨rfl, HK.out⟩

/-- The text of a group, by the reference. -/
theorem rform_any (k : Int) (A : Option Addr) (c : Nat) (l : List Int) (hu : IsU l) (hk : 0 < grp k) (hl : l.length = grp k) (w : World) (ha : Arr w A (us l)) :
    Calls Tryd.prog 41 #[.int .i64 k, .slice A l.length c] w (Stay (.string (ba (gtextC k l))) w) := by
  have h3 : l.length ≤ 3 := by rw [hl]; unfold grp; (repeat' split) <;> omega
  by_cases h8 : k = 8
  · subst h8
    match l, hl with
    | [x], _ => exact rform_8 A c x (hu x (by simp)) w ha
  · by_cases h10 : k = 10
    · subst h10
      match l, hl with
      | [x], _ => exact rform_10 A c x (hu x (by simp)) w ha
    · exact rform_n k h8 h10 A c l hu h3 w ha

theorem rtext_bad (z : AtI) (ok : z.Ok) (w : World) (hv : validC z = false) : Calls Tryd.prog 23 #[z.val] w (Stay (.string ⟨#[]⟩) w) := by
  have HV := Lib.hid (fun W => rvalid_any z ok W)
  rw [hv] at HV
  unfold AtI.val AtI.cs at *
  go_enter Tryd.func23, Tryd.ntmps23
  go_wp2_with (go_at_call 20; (with_reducible refine Calls.mono (HV.out _) ?_); rintro e w1 ⟨rfl, hK⟩; have hk1 := Lib.hid (((Kp.refl NoB w).alloc _).and hK); clear hK)
  go_ret
  exact ⟨rfl, hk1.out⟩

/-- The text of the first groups. -/
def jtL (z : AtI) (G : Nat) (xs : List Int) (j : Nat) : List UInt8 := Lib.join (nameL z.t :: textsC z.t G xs j) [32]
theorem jtL_step (z : AtI) (G : Nat) (xs : List Int) (j : Nat) : jtL z G xs (j + 1) = jtL z G xs j ++ [32] ++ gtextC z.t (chunkN G xs j) := by
  unfold jtL
  rw [textsC_succ, Lib.join_cons, Lib.join_cons]
  simp [Lib.joinTail]

set_option maxRecDepth 100000 in
set_option maxHeartbeats 8000000 in
theorem rtext_good (z : AtI) (ok : z.Ok) (xs : List Int) (w : World) (hx : InUs w z.L z.ln z.lc xs) (hl : z.ln ≤ 300) (hv : validC z = true) :
    Calls Tryd.prog 23 #[z.val] w (Stay (.string (ba (textC z xs))) w) := by
  have HV := Lib.hid (fun W => rvalid_any z ok W)
  rw [hv] at HV
  have hv' := hv
  unfold validC at hv'
  simp only [Bool.and_eq_true, decide_eq_true_eq] at hv'
  obtain ⟨⟨⟨hg0, hn0⟩, hmod⟩, -⟩ := hv'
  have HG := Lib.hid (fun W => rgroup_any z.t W)
  have HNA := Lib.hid (fun W => rname_any z.t (grp_pos hg0) W)
  have hNe : numG z = z.ln / grp z.t := by unfold numG; rw [if_pos hv]
  have htx : textC z xs = jtL z (grp z.t) xs (numG z) := by unfold textC jtL; rw [if_pos hv]
  rw [htx]
  have hg3 : grp z.t ≤ 3 := by unfold grp; (repeat' split) <;> omega
  have HF0 := fun (l : List Int) (hu : IsU l) (hll : l.length = grp z.t) A c W (h : Arr W A (us l)) => rform_any z.t A c l hu hg0 hll W h
  obtain ⟨N, hN⟩ : ∃ N, numG z = N := ⟨_, rfl⟩
  obtain ⟨G, hG⟩ : ∃ g, grp z.t = g := ⟨_, rfl⟩
  rw [hG] at HG hg0 hmod hg3 hNe HF0
  rw [hN] at hNe ⊢
  rw [hG]
  have hNG : N * G = z.ln := by rw [hNe]; exact Nat.div_mul_cancel (Nat.dvd_of_mod_eq_zero hmod)
  have hNl : N ≤ 300 := by rw [hNe]; exact Nat.le_trans (Nat.div_le_self _ _) hl
  have HCK := Lib.hid (fun j (hj : j < N) => (show (chunkN G xs j).length = G from chunk_len (by rw [hx.1, ← hNG]; exact Nat.mul_le_mul_right G hj)))
  have HIU := Lib.hid (fun j => (show IsU (chunkN G xs j) from fun x hx' => hx.2.2.2.2 x (List.mem_of_mem_drop (List.mem_of_mem_take hx'))))
  have HF := Lib.hid (fun j (hj : j < N) W (k : Kp NoB w W) => (show Calls Tryd.prog 41 #[.int .i64 z.t, .slice (z.L.map (fun x => x.add (j * G))) G (z.lc - j * G)] W (Stay (.string (ba (gtextC z.t (chunkN G xs j)))) W) by
    have h := HF0 (chunkN G xs j) (HIU.out j) (HCK.out j hj) (z.L.map (fun x => x.add (j * G))) (z.lc - j * G) W (chunk_arr G j (hx.2.2.2.1.and k))
    rw [HCK.out j hj] at h
    exact h))
  have HLN := Lib.hid (fun j (hj : j ≤ N) => (show (jtL z G xs j).length ≤ 301 * 201 by
    have := join_len 32 200 (nameL z.t :: textsC z.t G xs j) (fun y hy => by
      rcases List.mem_cons.1 hy with rfl | hy
      · exact name_short z.t
      · obtain ⟨q, hq, rfl⟩ := List.mem_map.1 hy
        exact gtext_short z.t _ (HIU.out q) (by rw [HCK.out q (by have := List.mem_range.1 hq; omega)]; exact hg3))
    have h2 : (nameL z.t :: textsC z.t G xs j).length ≤ 301 := by simp only [textsC, List.length_cons, List.length_map, List.length_range]; omega
    have h3 := Nat.mul_le_mul_right (200 + 1) h2
    exact Nat.le_trans this h3))
  have HLD := Lib.hid (fun j (hj : j < N) => (show (gtextC z.t (chunkN G xs j)).length ≤ 200 from gtext_short z.t _ (HIU.out j) (by rw [HCK.out j hj]; exact hg3)))
  have HST := Lib.hid (fun j => jtL_step z G xs j)
  have HS0 : Hid (jtL z G xs 0 = nameL z.t) := Lib.hid (by unfold jtL textsC; simp [Lib.join_one])
  have hlc := hx.2.1
  have hcm := hx.2.2.1
  unfold maxLen at hcm
  clear hx hv hN hG hNe htx HF0 hmod HCK HIU ok
  have HB := Lib.hid (Bk.fresh w 28 z.cs)
  unfold AtI.val at HV ⊢
  unfold AtI.cs at HV ⊢
  go_enter Tryd.func23, Tryd.ntmps23
  go_wp2_with (first
    | (go_at_call 20; (with_reducible refine Calls.mono (HV.out _) ?_); rintro e w1 ⟨rfl, hK⟩; have hk1 := Lib.hid (((Kp.refl NoB w).alloc _).and hK); have bz1 := Lib.hid (HB.out.and hK); obtain ⟨x0, x1, x2, x3, x4, x5, x6, x7, x8⟩ := bz1.out.attr; clear hK)
    | (go_at_call 40; (with_reducible refine Calls.mono (HNA.out _) ?_); rintro e w2 ⟨rfl, hK⟩; have hk2 := Lib.hid (hk1.out.and hK); have bz2 := Lib.hid (bz1.out.and hK); clear x0 x1 x2 x3 x4 x5 x6 x7 x8; obtain ⟨x0, x1, x2, x3, x4, x5, x6, x7, x8⟩ := bz2.out.attr; clear hK)
    | (go_at_call 25; (with_reducible refine Calls.mono (HG.out _) ?_); rintro e w3 ⟨rfl, hK⟩; have hk3 := Lib.hid (hk2.out.and hK); have bz3 := Lib.hid (bz2.out.and hK); clear x0 x1 x2 x3 x4 x5 x6 x7 x8 hK))
  go_loopw [3, 5] (fun v i wr => ∃ (j : Nat), j ≤ N ∧ i = .int .i64 (j * G : Nat) ∧ v = .string (ba (jtL z G xs j)) ∧ Hid (Kp NoB w wr) ∧ Hid (Bk wr w.heap.size 28 z.cs)) (fun _ i _ => z.ln - (intOf i).toNat)
  case atStart => exact ⟨0, Nat.zero_le _, by simp, by rw [HS0.out]; rfl, hk3, bz3⟩
  case round =>
    obtain ⟨j, hj, rfl, rfl, hk, bz⟩ := hrel
    obtain ⟨x0, x1, x2, x3, x4, x5, x6, x7, x8⟩ := bz.out.attr
    by_cases hlt : j < N
    · have hqi : j * G + G ≤ z.ln := by
        have h9 := Nat.mul_le_mul_right G (show j + 1 ≤ N from hlt)
        rw [Nat.succ_mul] at h9
        omega
      have HQS := Lib.hid (Nat.succ_mul j G)
      have HFJ := Lib.hid (HF.out j hlt)
      have hs := HST.out j
      have hls := HLN.out j hj
      have hld := HLD.out j hlt
      obtain ⟨D, hD⟩ : ∃ d, gtextC z.t (chunkN G xs j) = d := ⟨_, rfl⟩
      obtain ⟨T, hT⟩ : ∃ t, jtL z G xs (j + 1) = t := ⟨_, rfl⟩
      obtain ⟨s, hS⟩ : ∃ t, jtL z G xs j = t := ⟨_, rfl⟩
      rw [hD] at hs hld HFJ
      rw [hT, hS] at hs
      rw [hS] at hls
      rw [hS]
      have HT' := Lib.hid hT
      obtain ⟨P, hP⟩ : ∃ p, s ++ [32] = p := ⟨_, rfl⟩
      have lp := congrArg List.length hP
      rw [List.length_append, List.length_singleton] at lp
      rw [hP] at hs
      have hc1 : ∀ W, (Op.stringOp .add (ba s) ⟨#[32]⟩).run Tryd.prog W = .ok (.string (ba P)) W := fun W => by
        rw [show (⟨#[32]⟩ : ByteArray) = ba [32] from rfl, str_add _ _ (by rw [List.length_singleton]; omega) W, hP]
      have hc2 : ∀ W, (Op.stringOp .add (ba P) (ba D)).run Tryd.prog W = .ok (.string (ba T)) W := fun W => by rw [str_add _ _ (by omega) W, hs]
      obtain ⟨I, hI⟩ : ∃ I, j * G = I := ⟨_, rfl⟩
      rw [hI] at hqi HQS HFJ ⊢
      have hlt2 : (I : Int) < z.ln := by omega
      clear hs hls hld hD hT hS hP lp
      go_wp2
      -- REGION
      refine wp_region_noPanic ?_
      refine wp_region_held_drew (S := (fun w' => w'.cell? ⟨w.heap.size, 0, none⟩ = some (.int .i64 z.t) ∧ w'.cell? ⟨w.heap.size, 5, none⟩ = some (.slice z.L z.ln z.lc))) (by kernel_rfl) ?_ (fun hHeld => ?_)
      · exact ⟨x0, x5⟩
      refine wpAnyH_take (i := 0) (oi := ⟨some 23, _, _, _, _, _⟩) (v := ?_) rfl (by kernel_rfl) (by kernel_rfl) (by kernel_rfl) (fun _ _ _ h => h) (Or.inl ⟨by rfl, fun w hSw => ?_⟩) (by assumption) ?_
      rotate_left
      · (try dsimp only at hSw)
        go_simp
        try with_reducible rfl
      try simp only [Act.put, List.setIfInBounds_toArray, List.set_cons_zero, List.set_cons_succ]
      refine wpAnyH_take (i := 1) (oi := ⟨some 24, _, _, _, _, _⟩) (v := ?_) rfl (by kernel_rfl) (by kernel_rfl) (by kernel_rfl) (fun _ _ _ h => h) (Or.inl ⟨by rfl, fun w hSw => ?_⟩) (by assumption) ?_
      rotate_left
      · (try dsimp only at hSw)
        go_simp
        try with_reducible rfl
      try simp only [Act.put, List.setIfInBounds_toArray, List.set_cons_zero, List.set_cons_succ]
      refine wpAnyH_take (i := 2) (oi := ⟨some 25, _, _, _, _, _⟩) (v := ?_) rfl (by kernel_rfl) (by kernel_rfl) (by kernel_rfl) (fun _ _ _ h => h) (Or.inl ⟨by rfl, fun w hSw => ?_⟩) (by assumption) ?_
      rotate_left
      · (try dsimp only at hSw)
        go_simp
        try with_reducible rfl
      try simp only [Act.put, List.setIfInBounds_toArray, List.set_cons_zero, List.set_cons_succ]
      refine wpAnyH_take (i := 3) (oi := ⟨some 26, _, _, _, _, _⟩) (v := ?_) rfl (by kernel_rfl) (by kernel_rfl) (by kernel_rfl) (fun _ _ _ h => h) (Or.inl ⟨by rfl, fun w hSw => ?_⟩) (by assumption) ?_
      rotate_left
      · (try dsimp only at hSw)
        go_simp
        try with_reducible rfl
      try simp only [Act.put, List.setIfInBounds_toArray, List.set_cons_zero, List.set_cons_succ]
      refine wpAnyH_take (i := 4) (oi := ⟨some 27, _, _, _, _, _⟩) (v := ?_) rfl (by kernel_rfl) (by kernel_rfl) (by kernel_rfl) (fun _ _ _ h => h) (Or.inl ⟨by rfl, fun w hSw => ?_⟩) (by assumption) ?_
      rotate_left
      · (try dsimp only at hSw)
        go_simp
        try with_reducible rfl
      try simp only [Act.put, List.setIfInBounds_toArray, List.set_cons_zero, List.set_cons_succ]
      refine wpAnyH_take (i := 5) (oi := ⟨some 28, _, _, _, _, _⟩) (v := ?_) rfl (by kernel_rfl) (by kernel_rfl) (by kernel_rfl) (fun _ _ _ h => h) (Or.inl ⟨by rfl, fun w hSw => ?_⟩) (by assumption) ?_
      rotate_left
      · (try dsimp only at hSw)
        go_simp
        try with_reducible rfl
      try simp only [Act.put, List.setIfInBounds_toArray, List.set_cons_zero, List.set_cons_succ]
      refine wpAnyH_take (i := 6) (oi := ⟨some 29, _, _, _, _, _⟩) (v := ?_) rfl (by kernel_rfl) (by kernel_rfl) (by kernel_rfl) (fun _ _ _ h => h) (Or.inl ⟨by rfl, fun w hSw => ?_⟩) (by assumption) ?_
      rotate_left
      · (try dsimp only at hSw)
        go_simp
        try with_reducible rfl
      try simp only [Act.put, List.setIfInBounds_toArray, List.set_cons_zero, List.set_cons_succ]
      refine wpAnyH_take (i := 7) (oi := ⟨some 30, _, _, _, _, _⟩) (v := ?_) rfl (by kernel_rfl) (by kernel_rfl) (by kernel_rfl) (fun _ _ _ h => h) (Or.inl ⟨by rfl, fun w hSw => ?_⟩) (by assumption) ?_
      rotate_left
      · (try dsimp only at hSw)
        go_simp
        try with_reducible rfl
      try simp only [Act.put, List.setIfInBounds_toArray, List.set_cons_zero, List.set_cons_succ]
      refine wpAnyH_take (i := 8) (oi := ⟨some 31, _, _, _, _, _⟩) (v := ?_) rfl (by kernel_rfl) (by kernel_rfl) (by kernel_rfl) (fun _ _ _ h => h) (Or.inl ⟨by rfl, fun w hSw => ?_⟩) (by assumption) ?_
      rotate_left
      · (try dsimp only at hSw)
        go_simp
        try with_reducible rfl
      try simp only [Act.put, List.setIfInBounds_toArray, List.set_cons_zero, List.set_cons_succ]
      refine wpAnyH_take (i := 9) (oi := ⟨some 32, _, _, _, _, _⟩) (v := ?_) rfl (by kernel_rfl) (by kernel_rfl) (by kernel_rfl) (fun _ _ _ h => h) (Or.inl ⟨by rfl, fun w hSw => ?_⟩) (by assumption) ?_
      rotate_left
      · (try dsimp only at hSw)
        go_simp
        try with_reducible rfl
      try simp only [Act.put, List.setIfInBounds_toArray, List.set_cons_zero, List.set_cons_succ]
      refine wpAnyH_take (i := 10) (oi := ⟨some 33, _, _, _, _, _⟩) (v := .slice (z.L.map (fun x => x.add I)) G (z.lc - I)) rfl (by kernel_rfl) (by kernel_rfl) (by kernel_rfl) (fun _ _ _ h => h) (Or.inl ⟨by rfl, fun w hSw => exec_slice rfl rfl rfl rfl (hslW z.L z.ln z.lc I G hg0 hqi hlc (by omega) _)⟩) (by assumption) ?_
      try simp only [Act.put, List.setIfInBounds_toArray, List.set_cons_zero, List.set_cons_succ]
      refine wpAnyH_ready (rs := [11]) (by kernel_rfl) (by simp) ?_
      refine AllReadyH.cons (o := ⟨some 34, _, _, _, _, _⟩) rfl (fun K hK => ?_) AllReadyH.nil
      go_simp
      (with_reducible refine Calls.mono (HFJ.out _ hk.out.drew) ?_)
      rintro e w4 ⟨rfl, hK4⟩
      have hk4 := Lib.hid (hk.out.drew.and hK4)
      have bz4 := Lib.hid ((bk_drew bz.out).and hK4)
      clear x0 x1 x2 x3 x4 x5 x6 x7 x8 hK4
      obtain ⟨x0, x1, x2, x3, x4, x5, x6, x7, x8⟩ := Bk.attr (z := z) bz4.out
      refine hK.out _ _ ?_ (fun hHeld => ?_)
      · (try dsimp only)
        exact ⟨x0, x5⟩
      clear hK K
      try simp only [Act.put, List.setIfInBounds_toArray, List.set_cons_zero, List.set_cons_succ]
      refine wpAnyH_take (i := 12) (oi := ⟨some 35, _, _, _, _, _⟩) (v := ?_) rfl (by kernel_rfl) (by kernel_rfl) (by kernel_rfl) (fun _ _ _ h => h) (Or.inl ⟨by rfl, fun w hSw => ?_⟩) (by assumption) ?_
      rotate_left
      · (try dsimp only at hSw)
        go_simp
        try with_reducible rfl
      try simp only [Act.put, List.setIfInBounds_toArray, List.set_cons_zero, List.set_cons_succ]
      refine wpAnyH_ready (rs := [13]) (by kernel_rfl) (by simp) ?_
      refine AllReadyH.cons (o := ⟨some 3, _, _, _, _, _⟩) rfl (fun K hK => ?_) AllReadyH.nil
      go_simp
      refine hK.out _ _ ?_ (fun hHeld => ?_)
      · (try dsimp only)
        exact ⟨x0, x5⟩
      clear hK K
      try simp only [Act.put, List.setIfInBounds_toArray, List.set_cons_zero, List.set_cons_succ]
      refine wpAnyH_done (by kernel_rfl) ?_ _
      refine NoPanic.normal ?_
      -- END
      go_wp2
      go_roundw
      case rel => exact ⟨j + 1, by omega, by rw [HQS.out]; go_num, by rw [HT'.out], hk4, bz4⟩
      case measure => simp [intOf]; omega
    · have hjz : j = N := by omega
      subst hjz
      rw [hNG]
      clear x0 x1 x2 x3 x4 x6 x7 x8
      go_wp2
      go_ret
      exact ⟨rfl, hk.out⟩

theorem rtext_any (z : AtI) (ok : z.Ok) (xs : List Int) (w : World) (hx : InUs w z.L z.ln z.lc xs) (hl : z.ln ≤ 300) :
    Calls Tryd.prog 23 #[z.val] w (Stay (.string (ba (textC z xs))) w) := by
  cases hv : validC z with
  | false =>
    have h : textC z xs = [] := by unfold textC; rw [if_neg (by rw [hv]; decide)]
    rw [h]
    exact rtext_bad z ok w hv
  | true => exact rtext_good z ok xs w hx hl hv

end Go.Proofs.YtkhonebedoemoaaDoor
