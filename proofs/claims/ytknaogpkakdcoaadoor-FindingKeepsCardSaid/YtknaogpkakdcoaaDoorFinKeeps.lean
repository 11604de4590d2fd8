/- FindingKeeps' walk. Printed by wip/tools/finkeeps.py. No condition but the listed tables' content. -/
import Derived.Test.YtknaogpkakdcoaaDoorFinP
import Derived.Test.YtknaogpkakdcoaaDoorFinLogs
import Derived.Deep.RegionHeld3
namespace Go.Proofs.YtknaogpkakdcoaaDoor
open Go.RowKit
set_option linter.unusedVariables false
set_option linter.unusedSimpArgs false

theorem filter_key : ∀ (xs ys : List ArgV), xs.map key = ys.map key → (xs.filter errZ).map key = (ys.filter errZ).map key
  | [], [], _ => rfl
  | [], y :: ys, h => by cases h
  | x :: xs, [], h => by cases h
  | x :: xs, y :: ys, h => by
    rw [List.map_cons, List.map_cons] at h
    injection h with h1 h2
    have := filter_key xs ys h2
    have hk := (like_key h1).1
    have he : errZ x = errZ y := by unfold errZ; rw [hk]
    by_cases h3 : errZ x = true
    · rw [List.filter_cons_of_pos h3, List.filter_cons_of_pos (by rw [← he]; exact h3), List.map_cons, List.map_cons, h1, this]
    · rw [List.filter_cons_of_neg h3, List.filter_cons_of_neg (by rw [← he]; exact h3), this]
/-- A cell stays where another cell of its block is written. -/
theorem cell_off {w : World} {g a b : Nat} {u v : Value} (h : w.cell? ⟨g, a, none⟩ = some v) (hab : b ≠ a) : (w.setCell ⟨g, b, none⟩ u).cell? ⟨g, a, none⟩ = some v := by
  have := World.cell?_setCell_other (w := w) (v := u) (a := ⟨g, b, none⟩) (b := ⟨g, a, none⟩) (by intro q; injection q with _ q _; exact hab q)
  exact this.trans h
theorem fldZ (w : World) : (Instr.field 24 (.agg #[.int .i64 0, .int .i64 0, .int .i64 0, .slice none 0 0, .int .i64 0]) 0).run Tryd.prog w = .ok (.int .i64 0) w := by kernel_rfl
theorem fz_none (b : Nat) : ¬ FZ (.slice none 0 0) [] b := fun q => q.elim (fun e => nomatch e) (fun ⟨z, hz, _⟩ => nomatch hz)
def ArgV.cs' (k c s : Int) (A : Option Addr) (n m : Nat) (a : Int) : List Value := [.int .i64 k, .int .i64 c, .int .i64 s, .slice A n m, .int .i64 a]
theorem ArgV.cs'_one (k c s : Int) (A : Option Addr) (n m : Nat) (a : Int) : ∀ u ∈ ArgV.cs' k c s A n m a, u.oneCell' = true := fun u hu => by
  simp [ArgV.cs'] at hu
  rcases hu with rfl | rfl | rfl | rfl | rfl <;> rfl

set_option maxRecDepth 100000 in
set_option maxHeartbeats 8000000 in
theorem fkeeps_few (A : Option Addr) (n c : Nat) (xs : List ArgV) (w : World) (hx : InVs w A n c xs) (ld : Ld w) (hfew : fewB xs = true) :
    Calls Tryd.prog 7 #[.slice A n c] w fun e w' => e = .returned (.bool true) ∧ Kp NoB w w' := by
  obtain ⟨hn, hc1, hc2, hA, hI⟩ := hx
  obtain ⟨i0, hi, hz0, hz1, hz2⟩ := info_parts infoV5
  obtain ⟨iu, hu, hu0, hu1, hu2⟩ := info_parts infoU8
  have g1 := hfew
  unfold fewB at g1
  simp only [Bool.and_eq_true, decide_eq_true_eq, List.all_eq_true] at g1
  have hq : ∀ x ∈ xs, Arr w x.A (bs x.d) ∧ x.d.length ≤ 1000 ∧ IsB x.d := fun z hz => ⟨(hI z hz).1.2.2.2.1, by have := g1.1 z hz; omega, (hI z hz).1.2.2.2.2⟩
  have HAL := Lib.hid (fun W (k : Kp NoB w W) => alive_any W (ld.and k))
  have HNW := Lib.hid (new_any w)
  have HFW := Lib.hid (fun W (k : Kp NoB w W) => (show Calls Tryd.prog 13 #[.slice A n c] W (Stay (.bool true) W) by have := few_any A c xs W (hA.and k) (by omega); rwa [hfew, hn] at this))
  have HER := Lib.hid (fun W (k : Kp NoB w W) => (show Calls Tryd.prog 22 #[.slice A n c] W (JoinedV W (xs.filter errZ)) by have := errors_any A c xs W (hA.and k) (by omega); rwa [hn] at this))
  have hn50 : n ≤ 50 := by have := g1.2; omega
  have HA := Lib.hid hA
  have HQ := Lib.hid hq
  have HN := Lib.hid hn
  clear hA hI hn hq g1 hfew ld hc1 hc2
  go_enter Tryd.func7, Tryd.ntmps7
  go_wp2_with (first
    | (go_at_call 21; (with_reducible refine Calls.mono HNW.out ?_); rintro e w0 ⟨rfl, rfl⟩)
    | (go_at_call 13; (with_reducible refine Calls.mono (HFW.out _ ((Kp.refl _ _).alloc _)) ?_); rintro e w1 ⟨rfl, hK⟩; have k1 := Lib.hid (((Kp.refl NoB w).alloc _).and hK); have L1 := Lib.hid ((logS_new w).and hK); clear hK))
  go_loopw [4, 28] (fun v i wr => ∃ (j : Nat) (A' : Option Addr) (c' : Nat), j ≤ n ∧ i = .int .i64 j ∧ v = .slice A' j c' ∧ Hid (∃ zs', zs'.length = j ∧ zs'.map key = (xs.take j).map key ∧ ZRow w.heap.size wr (.slice A' j c') zs' ∧ (∀ z ∈ zs', OwnB wr z.A z.d) ∧ ¬ FZ (.slice A' j c') zs' w.heap.size) ∧ Hid (LogS w.heap.size wr w.heap.size (.slice none 0 0) []) ∧ Hid (Kp NoB w wr)) (fun _ i _ => n - (intOf i).toNat)
  case atStart => exact ⟨0, none, 0, Nat.zero_le _, rfl, rfl, Lib.hid ⟨[], rfl, rfl, ZRow.nil _ _, (fun z hz => nomatch hz), fun q => q.elim (fun e => nomatch e) (fun ⟨z, hz, _⟩ => nomatch hz)⟩, L1, k1⟩
  case round =>
    clear L1 k1
    obtain ⟨j, A', c', hj, rfl, rfl, HZ, HL, HK⟩ := hrel
    obtain ⟨zs', hl', hm', hr', ho', hf'⟩ := HZ.out
    by_cases hlt : j < n
    · have hjl : j < xs.length := by rw [HN.out]; exact hlt
      have hdz := HQ.out _ (List.getElem_mem hjl)
      have hst : (xs.take (j + 1)).map key = (xs.take j).map key ++ [key xs[j]] := by rw [List.take_succ_eq_append_getElem hjl, List.map_append]; rfl
      obtain ⟨ad, rfl, x0, x1, x2, x3, x4⟩ := vs_at (HA.out.and HK.out) hjl
      obtain ⟨z, hz⟩ : ∃ z, xs[j] = z := ⟨_, rfl⟩
      rw [hz] at x0 x1 x2 x3 x4 hdz hst
      obtain ⟨k, cc, s, dd, ZA, zm, za⟩ := z
      simp only at x0 x1 x2 x3 x4 hdz
      obtain ⟨dn, hdn⟩ : ∃ q, dd.length = q := ⟨_, rfl⟩
      rw [hdn] at x3
      have hdn1 : dn ≤ 1000 := by have := hdz.2.1; omega
      have hk0 := ((Kp.refl NoB wr).alloc (.cells #[.int .i64 k, .int .i64 cc, .int .i64 s, .slice ZA dn zm, .int .i64 za] 24)).drew
      have hk1 := (((Kp.refl NoB wr).alloc (.cells #[.int .i64 k, .int .i64 cc, .int .i64 s, .slice ZA dn zm, .int .i64 za] 24)).alloc (.cells #[] 5)).drew
      have HK1 := Lib.hid hk1
      have HV0 := Lib.hid (bk_drew (Bk.fresh wr 24 #[.int .i64 k, .int .i64 cc, .int .i64 s, .slice ZA dn zm, .int .i64 za]))
      have HV1 := Lib.hid (bk_drew ((Bk.fresh wr 24 #[.int .i64 k, .int .i64 cc, .int .i64 s, .slice ZA dn zm, .int .i64 za]).alloc (.cells #[] 5)))
      have HMD := Lib.hid (show ((wr.alloc (.cells #[.int .i64 k, .int .i64 cc, .int .i64 s, .slice ZA dn zm, .int .i64 za] 24)).alloc (.cells #[] 5)).drew.ownsRow (wr.heap.size + 1) 5 1 (.slice (some ⟨wr.heap.size + 1, 0, none⟩) 0 0) 0 [] from by
        have := World.ownsRow_made (e := 5) (size := 1) (base := wr.heap.size + 1) (wr.alloc (.cells #[.int .i64 k, .int .i64 cc, .int .i64 s, .slice ZA dn zm, .int .i64 za] 24)) #[] 0 (by rw [World.size_alloc]; exact Nat.le_refl _) (Nat.zero_le _) rfl
        rw [World.size_alloc] at this
        exact this)
      have HBL := Lib.hid (show (bs dd).length = dn * 1 by rw [bs_length, hdn, Nat.mul_one])
      have HZA := Lib.hid (hdz.1.and (HK.out.and hk1))
      have HOW := Lib.hid (fun W (q : Kp NoB wr W) => (show W.ownsRow w.heap.size 24 5 (.slice A' j c') j (flatZ zs') by have := (hr'.and q).row; rwa [hl'] at this))
      have HNB := Lib.hid (show ¬ some wr.heap.size = (Value.slice A' j c').ownBlock from fun q => by have := (hr'.lt _ (.inl q)).2; omega)
      have HST := Lib.hid hst
      have HL' := Lib.hid hl'
      have HM' := Lib.hid hm'
      have HR' := Lib.hid hr'
      have HO' := Lib.hid ho'
      have HF' := Lib.hid hf'
      have HDN := Lib.hid hdn
      have HDZ := Lib.hid hdz.2
      clear hz hdz hst hk0 hk1 hl' hm' hr' ho' hf' HZ hdn
      go_wp2
      refine wp_region_noPanic ?_
      refine wp_region_held_drew (S := (fun w' => w'.cell? ⟨wr.heap.size, 0, none⟩ = some (.int .i64 k) ∧ w'.cell? ⟨wr.heap.size, 1, none⟩ = some (.int .i64 cc) ∧ w'.cell? ⟨wr.heap.size, 2, none⟩ = some (.int .i64 s) ∧ w'.cell? ⟨wr.heap.size, 3, none⟩ = some (.slice ZA dn zm) ∧ w'.cell? ⟨wr.heap.size, 4, none⟩ = some (.int .i64 za))) (by kernel_rfl) ?_ (fun hHeld => ?_)
      · exact HV0.out.five
      refine wpAnyH_take (i := 0) (oi := ⟨some 32, _, _, _, _, _⟩) (v := ?_) rfl (by kernel_rfl) (by kernel_rfl) (by kernel_rfl) (fun _ _ _ h => h) (Or.inl ⟨by rfl, fun w hSw => ?_⟩) (by assumption) ?_
      rotate_left
      · (try dsimp only at hSw)
        go_simp
        try with_reducible rfl
      try simp only [Act.put, List.setIfInBounds_toArray, List.set_cons_zero, List.set_cons_succ]
      refine wpAnyH_take (i := 1) (oi := ⟨some 33, _, _, _, _, _⟩) (v := ?_) rfl (by kernel_rfl) (by kernel_rfl) (by kernel_rfl) (fun _ _ _ h => h) (Or.inl ⟨by rfl, fun w hSw => ?_⟩) (by assumption) ?_
      rotate_left
      · (try dsimp only at hSw)
        go_simp
        try with_reducible rfl
      try simp only [Act.put, List.setIfInBounds_toArray, List.set_cons_zero, List.set_cons_succ]
      refine wpAnyH_take (i := 2) (oi := ⟨some 34, _, _, _, _, _⟩) (v := ?_) rfl (by kernel_rfl) (by kernel_rfl) (by kernel_rfl) (fun _ _ _ h => h) (Or.inl ⟨by rfl, fun w hSw => ?_⟩) (by assumption) ?_
      rotate_left
      · (try dsimp only at hSw)
        go_simp
        try with_reducible rfl
      try simp only [Act.put, List.setIfInBounds_toArray, List.set_cons_zero, List.set_cons_succ]
      refine wpAnyH_take (i := 3) (oi := ⟨some 35, _, _, _, _, _⟩) (v := ?_) rfl (by kernel_rfl) (by kernel_rfl) (by kernel_rfl) (fun _ _ _ h => h) (Or.inl ⟨by rfl, fun w hSw => ?_⟩) (by assumption) ?_
      rotate_left
      · (try dsimp only at hSw)
        go_simp
        try with_reducible rfl
      try simp only [Act.put, List.setIfInBounds_toArray, List.set_cons_zero, List.set_cons_succ]
      refine wpAnyH_take (i := 4) (oi := ⟨some 36, _, _, _, _, _⟩) (v := ?_) rfl (by kernel_rfl) (by kernel_rfl) (by kernel_rfl) (fun _ _ _ h => h) (Or.inl ⟨by rfl, fun w hSw => ?_⟩) (by assumption) ?_
      rotate_left
      · (try dsimp only at hSw)
        go_simp
        try with_reducible rfl
      try simp only [Act.put, List.setIfInBounds_toArray, List.set_cons_zero, List.set_cons_succ]
      refine wpAnyH_take (i := 5) (oi := ⟨some 37, _, _, _, _, _⟩) (v := ?_) rfl (by kernel_rfl) (by kernel_rfl) (by kernel_rfl) (fun _ _ _ h => h) (Or.inl ⟨by rfl, fun w hSw => ?_⟩) (by assumption) ?_
      rotate_left
      · (try dsimp only at hSw)
        go_simp
        try with_reducible rfl
      try simp only [Act.put, List.setIfInBounds_toArray, List.set_cons_zero, List.set_cons_succ]
      refine wpAnyH_take (i := 6) (oi := ⟨some 38, _, _, _, _, _⟩) (v := ?_) rfl (by kernel_rfl) (by kernel_rfl) (by kernel_rfl) (fun _ _ _ h => h) (Or.inl ⟨by rfl, fun w hSw => ?_⟩) (by assumption) ?_
      rotate_left
      · (try dsimp only at hSw)
        go_simp
        try with_reducible rfl
      try simp only [Act.put, List.setIfInBounds_toArray, List.set_cons_zero, List.set_cons_succ]
      refine wpAnyH_take (i := 8) (oi := ⟨some 40, _, _, _, _, _⟩) (v := ?_) rfl (by kernel_rfl) (by kernel_rfl) (by kernel_rfl) (fun _ _ _ h => h) (Or.inl ⟨by rfl, fun w hSw => ?_⟩) (by assumption) ?_
      rotate_left
      · (try dsimp only at hSw)
        go_simp
        try with_reducible rfl
      try simp only [Act.put, List.setIfInBounds_toArray, List.set_cons_zero, List.set_cons_succ]
      refine wpAnyH_take (i := 9) (oi := ⟨some 41, _, _, _, _, _⟩) (v := ?_) rfl (by kernel_rfl) (by kernel_rfl) (by kernel_rfl) (fun _ _ _ h => h) (Or.inl ⟨by rfl, fun w hSw => ?_⟩) (by assumption) ?_
      rotate_left
      · (try dsimp only at hSw)
        go_simp
        try with_reducible rfl
      try simp only [Act.put, List.setIfInBounds_toArray, List.set_cons_zero, List.set_cons_succ]
      refine wpAnyH_take (i := 11) (oi := ⟨some 43, _, _, _, _, _⟩) (v := ?_) rfl (by kernel_rfl) (by kernel_rfl) (by kernel_rfl) (fun _ _ _ h => h) (Or.inl ⟨by rfl, fun w hSw => ?_⟩) (by assumption) ?_
      rotate_left
      · (try dsimp only at hSw)
        go_simp
        try with_reducible rfl
      try simp only [Act.put, List.setIfInBounds_toArray, List.set_cons_zero, List.set_cons_succ]
      refine wpAnyH_take (i := 12) (oi := ⟨some 44, _, _, _, _, _⟩) (v := ?_) rfl (by kernel_rfl) (by kernel_rfl) (by kernel_rfl) (fun _ _ _ h => h) (Or.inl ⟨by rfl, fun w hSw => ?_⟩) (by assumption) ?_
      rotate_left
      · (try dsimp only at hSw)
        go_simp
        try with_reducible rfl
      try simp only [Act.put, List.setIfInBounds_toArray, List.set_cons_zero, List.set_cons_succ]
      refine wpAnyH_ready (rs := [7]) (by kernel_rfl) (by simp) ?_
      refine AllReadyH.cons (o := ⟨some 39, _, _, _, _, _⟩) rfl (fun K hK => ?_) AllReadyH.nil
      go_simp
      go_simp
      refine hK.out _ _ ?_ (fun hHeld => ?_)
      · (try dsimp only)
        first | exact HV1.out.five | exact v1.out.five | exact (v1.out.alloc _).five | exact v2.out.five | go_keep
      clear hK K
      try simp only [Act.put, List.setIfInBounds_toArray, List.set_cons_zero, List.set_cons_succ]
      refine wpAnyH_ready (rs := [10]) (by kernel_rfl) (by simp) ?_
      refine AllReadyH.cons (o := ⟨some 42, _, _, _, _, _⟩) rfl (fun K hK => ?_) AllReadyH.nil
      rw [if_pos (by rfl)]
      refine wp_appb (wr.heap.size + 1) (by rw [World.size_drew, World.size_alloc, World.size_alloc]; omega) (.tmp 39) (.tmp 41) 22 rfl 5 iu (.int .u8 0) 1 1 Tryd.underlying22 hu hu0 hu1 hu2 rfl (by decide) (.slice (some ⟨wr.heap.size + 1, 0, none⟩) 0 0) 0 [] rfl HMD.out ZA dn zm (bs dd) rfl HBL.out HZA.out (bs_one dd) (by omega) (by decide) dn (by omega) ?_
      intro A1 c1 w1 hown hg _
      have O1 := Lib.hid hown
      have k1 := Lib.hid (HK1.out.grown hg (fun b hb => .inl (by have hb2 : wr.heap.size + 1 = b := Option.some.inj hb; omega)))
      have v1 := Lib.hid (HV1.out.keep (Kp.of_grown hg) (fun q => by have q2 : wr.heap.size = wr.heap.size + 1 := Option.some.inj q; omega))
      clear hown hg
      refine hK.out _ _ ?_ (fun hHeld => ?_)
      · (try dsimp only)
        first | exact HV1.out.five | exact v1.out.five | exact (v1.out.alloc _).five | exact v2.out.five | go_keep
      clear hK K
      try simp only [Act.put, List.setIfInBounds_toArray, List.set_cons_zero, List.set_cons_succ]
      refine wpAnyH_take (i := 13) (oi := ⟨some 45, _, _, _, _, _⟩) (v := ?_) rfl (by kernel_rfl) (by kernel_rfl) (by kernel_rfl) (fun _ _ _ h => h) (Or.inl ⟨by rfl, fun w hSw => ?_⟩) (by assumption) ?_
      rotate_left
      · (try dsimp only at hSw)
        go_simp
        try with_reducible rfl
      try simp only [Act.put, List.setIfInBounds_toArray, List.set_cons_zero, List.set_cons_succ]
      refine wpAnyH_ready (rs := [14]) (by kernel_rfl) (by simp) ?_
      refine AllReadyH.cons (o := ⟨some 46, _, _, _, _, _⟩) rfl (fun K hK => ?_) AllReadyH.nil
      go_simp
      refine hK.out _ _ ?_ (fun hHeld => ?_)
      · (try dsimp only)
        first | exact HV1.out.five | exact v1.out.five | exact (v1.out.alloc _).five | exact v2.out.five | go_keep
      clear hK K
      try simp only [Act.put, List.setIfInBounds_toArray, List.set_cons_zero, List.set_cons_succ]
      refine wpAnyH_ready (rs := [15]) (by kernel_rfl) (by simp) ?_
      refine AllReadyH.cons (o := ⟨some 47, _, _, _, _, _⟩) rfl (fun K hK => ?_) AllReadyH.nil
      rw [if_pos (by rfl)]
      refine wp_appb w.heap.size (Nat.le_trans HK.out.size (k1.out.alloc _).size) (.tmp 32) (.tmp 46) 29 rfl 24 i0 (.agg zeroZ.cs.toArray) 5 56 Tryd.underlying29 hi hz0 hz1 hz2 rfl (by decide) (.slice A' j c') j (flatZ zs') rfl (HOW.out _ (k1.out.alloc _)) (some ⟨w1.heap.size, 0, none⟩) 1 1 (ArgV.cs' k cc s A1 dn c1 za) rfl rfl (Arr.lit w1 _ _) (ArgV.cs'_one _ _ _ _ _ _ _) (by omega) (by decide) (j + 1) rfl ?_
      intro A2 c2 w2 hown hg hor
      have O2 := Lib.hid hown
      have G2 := Lib.hid hg
      have R2 := Lib.hid hor
      have v2 := Lib.hid ((v1.out.alloc _).keep (Kp.of_grown hg) HNB.out)
      clear hown hg hor
      refine hK.out _ _ ?_ (fun hHeld => ?_)
      · (try dsimp only)
        first | exact HV1.out.five | exact v1.out.five | exact (v1.out.alloc _).five | exact v2.out.five | go_keep
      clear hK K
      try simp only [Act.put, List.setIfInBounds_toArray, List.set_cons_zero, List.set_cons_succ]
      refine wpAnyH_ready (rs := [16]) (by kernel_rfl) (by simp) ?_
      refine AllReadyH.cons (o := ⟨some 4, _, _, _, _, _⟩) rfl (fun K hK => ?_) AllReadyH.nil
      go_simp
      refine hK.out _ _ ?_ (fun hHeld => ?_)
      · (try dsimp only)
        first | exact HV1.out.five | exact v1.out.five | exact (v1.out.alloc _).five | exact v2.out.five | go_keep
      clear hK K
      try simp only [Act.put, List.setIfInBounds_toArray, List.set_cons_zero, List.set_cons_succ]
      refine wpAnyH_done (by kernel_rfl) ?_ _
      refine NoPanic.normal ?_
      go_wp2
      go_roundw
      case rel =>
        have hnew : ∀ ad, A1 = some ad → wr.heap.size + 1 ≤ ad.block := fun ad e => own_base O1.out ad.block (by subst e; rfl)
        have hf : dd ≠ [] → ∀ ad, A1 = some ad → w.heap.size ≤ ad.block ∧ some ad.block ≠ (Value.slice A' j c').ownBlock := fun hd ad e => by
          have q1 := hnew ad e
          have q3 := HK.out.size
          refine ⟨by omega, fun q => ?_⟩
          have := (HR'.out.lt _ (.inl q)).2
          omega
        have hcs : ArgV.cs ⟨k, cc, s, dd, A1, c1, za⟩ = ArgV.cs' k cc s A1 dn c1 za := by
          unfold ArgV.cs ArgV.cs'
          simp only [HDN.out]
        refine ⟨j + 1, A2, c2, by omega, by go_num, rfl, Lib.hid ⟨zs' ++ [⟨k, cc, s, dd, A1, c1, za⟩], by rw [List.length_append, HL'.out]; rfl, by rw [HST.out, List.map_append, HM'.out]; rfl, ?_, ?_, ?_⟩, Lib.hid ?_, Lib.hid ?_⟩
        · exact (HR'.out.and (k1.out.alloc _)).snoc HL'.out G2.out (by rw [hcs]; exact O2.out) R2.out ⟨(Arr.of_own O1.out).alloc _, HDZ.out⟩ hf
        · refine ownB_snoc (fun y hy => (HO'.out y hy).keep (k1.out.alloc _) (fun _ _ _ q => q)) ((ownB_of O1.out).keep ((Kp.refl NoB w1).alloc _) (fun _ _ _ q => q)) G2.out (fun y hy => ?_)
          rcases List.mem_append.1 hy with hy | hy
          · exact fun hd ad' e => (HR'.out.far y hy hd ad' e).2
          · rw [List.mem_singleton] at hy
            subst hy
            exact fun hd ad' e => (hf hd ad' e).2
        · intro q
          rcases FZ.snoc (v := .slice A' j c') (zs := zs') (z := ⟨k, cc, s, dd, A1, c1, za⟩) R2.out (K := wr.heap.size) (k1.out.alloc _).size (fun hd ad e => Nat.le_of_succ_le (hnew ad e)) _ q with q | q
          · exact HF'.out q
          · have := HL.out.bk.lt
            omega
        · refine (HL.out.and (k1.out.alloc _)).keep (Kp.of_grown G2.out) (fun b hb q => ?_)
          rcases q with q | q
          · subst q
            exact HF'.out (.inl hb)
          · exact fz_none b q
        · exact (HK.out.and (k1.out.alloc _)).grown G2.out (fun b hb => .inl (own_base (HOW.out wr (Kp.refl _ _)) b hb))
      case measure => simp [intOf]; omega
    · have hj' : n = j := by omega
      subst hj'
      rw [List.take_of_length_le (by rw [HN.out]; omega)] at hm'
      have hfl : ∀ b, FL w.heap.size (.slice none 0 0) [] b → b = w.heap.size := fun b hb => hb.elim id (fun q => absurd q (fz_none b))
      have HADD := Lib.hid (show Calls Tryd.prog 23 #[.pointer (some ⟨w.heap.size, 0, none⟩), .slice A' n c'] wr _ by
        have := add_any w.heap.size w.heap.size none 0 0 [] A' c' zs' wr HL.out rfl (hr'.vs hl') hr'.dat (fun hne ad e q => by
          have q2 := hfl _ q
          exact hf' (.inl (by rw [e, ← q2]; rfl))) (fun x hx hd ad e q => by
          have q2 := hfl _ q
          exact hf' (.inr ⟨x, hx, hd, ad, e, q2⟩)) (by omega) HK.out.size
        rw [hl'] at this
        exact this)
      have HR' := Lib.hid hr'
      have HL' := Lib.hid hl'
      have HM' := Lib.hid hm'
      have HO' := Lib.hid ho'
      have HF' := Lib.hid hf'
      have HFL := Lib.hid hfl
      clear hr' hl' hm' ho' hf' hfl HZ
      go_wp2_with (go_at_call 23; (with_reducible refine Calls.mono HADD.out ?_); rintro e w1 ⟨Al, nl, cl, zsl, rfl, hadd⟩; have HAD := Lib.hid hadd; clear hadd)
      have HLN := Lib.hid HAD.out.1
      have HKEY := Lib.hid (show zsl.map key = (xs.filter errZ).map key by rw [HAD.out.2.1, List.nil_append]; exact filter_key _ _ HM'.out)
      have HLE := Lib.hid (show (xs.filter errZ).length = nl by have := congrArg List.length HKEY.out; rw [List.length_map, List.length_map, HLN.out] at this; exact this.symm)
      have hnl : nl ≤ 50 := by
        have h1 := List.length_filter_le errZ xs
        have h2 := HLE.out
        have h3 := HN.out
        omega
      obtain ⟨F, hff, hfi⟩ : ∃ F : Nat → Prop, (∀ b, ¬ F b → w.heap.size ≤ b ∧ ¬ FL w.heap.size (.slice Al nl cl) zsl b) ∧ (∀ b, w.heap.size ≤ b → ¬ FL w.heap.size (.slice Al nl cl) zsl b → ¬ F b) :=
        ⟨fun b => b < w.heap.size ∨ FL w.heap.size (.slice Al nl cl) zsl b, fun b h => ⟨Nat.not_lt.1 (fun q => h (.inl q)), fun q => h (.inr q)⟩, fun b h1 h2 q => q.elim (fun q => absurd q (Nat.not_lt.2 h1)) h2⟩
      have HFF := Lib.hid hff
      have HFI := Lib.hid hfi
      have HL0a := Lib.hid HAD.out.2.2.1
      have HK0a := Lib.hid (HK.out.trans HAD.out.2.2.2.1 (fun b hb q => by have := HFL.out b q; omega))
      have HW0a := Lib.hid (show 0 < n → ∃ g, A' = some ⟨g, 0, none⟩ ∧ WRow w1 F g n from fun h0 => WRow.of (HR'.out.keep HAD.out.2.2.2.1 (fun b hb q => HF'.out (by rw [← HFL.out b hb]; exact q))) HL'.out (fun z hz => (HO'.out z hz).keep HAD.out.2.2.2.1 (fun hd ad e q => HF'.out (.inr ⟨z, hz, hd, ad, e, HFL.out _ q⟩))) h0 (fun b hb => HFI.out b (HR'.out.lt b hb).1 (fun q => by
        rcases HAD.out.2.2.2.2 b q with q2 | q2
        · exact HF'.out (by rw [← HFL.out b q2]; exact hb)
        · have := (HR'.out.lt b hb).2
          omega)))
      clear HADD HAD HR' HL' HM' HO' HF' HFL HL HK hff hfi
      go_loopw [54] (fun i wr => ∃ j : Nat, j ≤ n ∧ i = .int .i64 j ∧ Hid (0 < n → ∃ g, A' = some ⟨g, 0, none⟩ ∧ WRow wr F g n) ∧ Hid (LogS w.heap.size wr w.heap.size (.slice Al nl cl) zsl) ∧ Hid (Kp NoB w wr)) (fun i _ => n - (intOf i).toNat)
      case atStart => exact ⟨0, Nat.zero_le _, rfl, HW0a, HL0a, HK0a⟩
      case round =>
        clear HW0a HL0a HK0a
        obtain ⟨j, hj, rfl, HW, HL, HK⟩ := hrel
        by_cases hlt : j < n
        · obtain ⟨g, e, hw⟩ := HW.out (by omega)
          subst e
          obtain ⟨k, a, A2, d, m, x0, x4, x3, hdw, f0, f4⟩ := hw.at hlt
          have HWW := Lib.hid hw
          have hd1 := hdw.1
          have HNF := Lib.hid (HFF.out g hw.nf)
          clear hw hdw HW
          go_wp2
          go_loopw [71] (fun i wq => ∃ q : Nat, q ≤ d ∧ i = .int .i64 q ∧ Hid (WRow wq F g n) ∧ Hid (wq.cell? ⟨g, j * 5 + 3, none⟩ = some (.slice A2 d m)) ∧ Hid (LogS w.heap.size wq w.heap.size (.slice Al nl cl) zsl) ∧ Hid (Kp NoB w wq)) (fun i _ => d - (intOf i).toNat)
          case atStart =>
            refine ⟨0, Nat.zero_le _, rfl, Lib.hid (HWW.out.setI (j * 5 + 4) (by omega) _), Lib.hid ?_, Lib.hid (HL.out.keep ((Kp.refl (fun b => b = g) wr).setCell (p := ⟨g, j * 5 + 4, none⟩) (fun _ => rfl) _) (fun b hb => by subst hb; exact HNF.out.2)), Lib.hid (HK.out.setCell (p := ⟨g, j * 5 + 4, none⟩) (fun q => absurd q (Nat.not_lt.2 HNF.out.1)) _)⟩
            exact cell_off x3 (by omega)
          case round =>
            clear x0 x4 x3 f0 f4 HWW HL HK
            obtain ⟨q, hq, rfl, HW, HC, HL, HK⟩ := hrel
            by_cases hlt2 : q < d
            · obtain ⟨k', a', A3, d3, m3, y0, y4, y3, hdw, -, -⟩ := HW.out.at hlt
              have e3 := HC.out
              rw [y3] at e3
              injection e3 with e3
              injection e3 with e3 e4 e5
              subst e3 e4 e5
              obtain ⟨h, cur, e, hb, hfh, hhg, hcc⟩ := hdw.2 (by omega)
              subst e
              obtain ⟨x, hxx⟩ := hcc q hlt2
              have z0 : wr.cell? ⟨h, q, none⟩ = some (.int .u8 x) := by rw [hb.cell]; exact hxx
              have z1 := hb.frozen q
              have HB := Lib.hid hb
              have HHG := Lib.hid hhg
              have HFH := Lib.hid (HFF.out h hfh)
              clear y0 y4 hdw hb hfh hhg hcc hxx
              go_wp2
              go_roundw
              case rel => exact ⟨q + 1, by omega, by go_num, Lib.hid (HW.out.setD HB.out HHG.out q _), Lib.hid (((Kp.refl (fun b => b = h) _).setCell (p := ⟨h, q, none⟩) (fun _ => rfl) _).cell HC.out (fun e => HHG.out e.symm)), Lib.hid (HL.out.keep ((Kp.refl (fun b => b = h) _).setCell (p := ⟨h, q, none⟩) (fun _ => rfl) _) (fun b hb => by subst hb; exact HFH.out.2)), Lib.hid (HK.out.setCell (p := ⟨h, q, none⟩) (fun q => absurd q (Nat.not_lt.2 HFH.out.1)) _)⟩
              case measure => simp [intOf]; omega
            · go_wp2
              go_roundw
              case rel => exact ⟨j + 1, by omega, by go_num, Lib.hid (fun _ => ⟨g, rfl, HW.out⟩), HL, HK⟩
              case measure => simp [intOf]; omega
        · have HALL := Lib.hid (fun W (h : LogS w.heap.size W w.heap.size (.slice Al nl cl) zsl) => all_own w.heap.size w.heap.size Al nl cl zsl W h HLN.out (by omega))
          clear HW
          go_wp2_with (go_at_call 25; (with_reducible refine Calls.mono (HALL.out _ HL.out) ?_); rintro e w2 ⟨A4, c4, zs4, rfl, hall, hown⟩; have H4 := Lib.hid hall; have O4 := Lib.hid hown; clear hall hown)
          have HW0b := Lib.hid (show 0 < nl → ∃ g, A4 = some ⟨g, 0, none⟩ ∧ WRow w2 F g nl from fun h0 => WRow.of H4.out.2.2.1 H4.out.1 O4.out h0 (fun b hb => HFI.out b (Nat.le_trans HK.out.size (H4.out.2.2.1.lt b hb).1) (fun q => by have h1 := (H4.out.2.2.1.lt b hb).1; have h2 := (HL.out.lt b q).2; omega)))
          have HL0b := Lib.hid (HL.out.and H4.out.2.2.2)
          have HK0b := Lib.hid (HK.out.and H4.out.2.2.2)
          clear H4 O4 HL HK
          go_loopw [90] (fun i wr => ∃ j : Nat, j ≤ nl ∧ i = .int .i64 j ∧ Hid (0 < nl → ∃ g, A4 = some ⟨g, 0, none⟩ ∧ WRow wr F g nl) ∧ Hid (LogS w.heap.size wr w.heap.size (.slice Al nl cl) zsl) ∧ Hid (Kp NoB w wr)) (fun i _ => nl - (intOf i).toNat)
          case atStart => exact ⟨0, Nat.zero_le _, rfl, HW0b, HL0b, HK0b⟩
          case round =>
            clear HW0b HL0b HK0b
            obtain ⟨j, hj, rfl, HW, HL, HK⟩ := hrel
            by_cases hlt : j < nl
            · obtain ⟨g, e, hw⟩ := HW.out (by omega)
              subst e
              obtain ⟨k, a, A2, d, m, x0, x4, x3, hdw, f0, f4⟩ := hw.at hlt
              have HWW := Lib.hid hw
              have hd1 := hdw.1
              have HNF := Lib.hid (HFF.out g hw.nf)
              clear hw hdw HW
              go_wp2
              go_loopw [107] (fun i wq => ∃ q : Nat, q ≤ d ∧ i = .int .i64 q ∧ Hid (WRow wq F g nl) ∧ Hid (wq.cell? ⟨g, j * 5 + 3, none⟩ = some (.slice A2 d m)) ∧ Hid (LogS w.heap.size wq w.heap.size (.slice Al nl cl) zsl) ∧ Hid (Kp NoB w wq)) (fun i _ => d - (intOf i).toNat)
              case atStart =>
                refine ⟨0, Nat.zero_le _, rfl, Lib.hid (HWW.out.setI (j * 5) (by omega) _), Lib.hid ?_, Lib.hid (HL.out.keep ((Kp.refl (fun b => b = g) wr).setCell (p := ⟨g, j * 5, none⟩) (fun _ => rfl) _) (fun b hb => by subst hb; exact HNF.out.2)), Lib.hid (HK.out.setCell (p := ⟨g, j * 5, none⟩) (fun q => absurd q (Nat.not_lt.2 HNF.out.1)) _)⟩
                exact cell_off x3 (by omega)
              case round =>
                clear x0 x4 x3 f0 f4 HWW HL HK
                obtain ⟨q, hq, rfl, HW, HC, HL, HK⟩ := hrel
                by_cases hlt2 : q < d
                · obtain ⟨k', a', A3, d3, m3, y0, y4, y3, hdw, -, -⟩ := HW.out.at hlt
                  have e3 := HC.out
                  rw [y3] at e3
                  injection e3 with e3
                  injection e3 with e3 e4 e5
                  subst e3 e4 e5
                  obtain ⟨h, cur, e, hb, hfh, hhg, hcc⟩ := hdw.2 (by omega)
                  subst e
                  obtain ⟨x, hxx⟩ := hcc q hlt2
                  have z0 : wr.cell? ⟨h, q, none⟩ = some (.int .u8 x) := by rw [hb.cell]; exact hxx
                  have z1 := hb.frozen q
                  have HB := Lib.hid hb
                  have HHG := Lib.hid hhg
                  have HFH := Lib.hid (HFF.out h hfh)
                  clear y0 y4 hdw hb hfh hhg hcc hxx
                  go_wp2
                  go_roundw
                  case rel => exact ⟨q + 1, by omega, by go_num, Lib.hid (HW.out.setD HB.out HHG.out q _), Lib.hid (((Kp.refl (fun b => b = h) _).setCell (p := ⟨h, q, none⟩) (fun _ => rfl) _).cell HC.out (fun e => HHG.out e.symm)), Lib.hid (HL.out.keep ((Kp.refl (fun b => b = h) _).setCell (p := ⟨h, q, none⟩) (fun _ => rfl) _) (fun b hb => by subst hb; exact HFH.out.2)), Lib.hid (HK.out.setCell (p := ⟨h, q, none⟩) (fun q => absurd q (Nat.not_lt.2 HFH.out.1)) _)⟩
                  case measure => simp [intOf]; omega
                · go_wp2
                  go_roundw
                  case rel => exact ⟨j + 1, by omega, by go_num, Lib.hid (fun _ => ⟨g, rfl, HW.out⟩), HL, HK⟩
                  case measure => simp [intOf]; omega
            · have HE2 := Lib.hid (fun W (k : Kp NoB w W) => (show Calls Tryd.prog 22 #[.slice A n c] W (fun e w' => ∃ A6 c6, e = .returned (.slice A6 nl c6) ∧ VsL w' A6 (xs.filter errZ) ∧ Kp NoB W w') by have := HER.out W k; unfold JoinedV at this; rwa [HLE.out] at this))
              have HEQ := Lib.hid (fun W W0 A5 c5 zs5 A6 c6 (k : Kp NoB w W) (h : AllM W0 zsl nl W A5 c5 zs5) (h6 : VsL W A6 (xs.filter errZ)) => equal_any A5 A6 c5 c6 nl zs5 (xs.filter errZ) W (h.2.2.1.vs h.1) h6 (h.2.1.trans HKEY.out) HLE.out (by omega) (fun x hx => ⟨(h.2.2.1.dat x hx).1, (h.2.2.1.dat x hx).2.2⟩) (fun x hx => (HQ.out x (List.mem_filter.1 hx).1).1.and k))
              have HWN := Lib.hid worst_nil
              unfold ArgV.val at HWN
              simp only [zeroZ] at HWN
              have hfld := fldZ
              have HLA := Lib.hid HL.out
              clear HW HL
              go_wp2_with (first
                | (go_at_call 8; (with_reducible refine Calls.mono (HAL.out _ HK.out) ?_); rintro e w5 ⟨rfl, hK⟩; have k5 := Lib.hid (HK.out.and hK); have L5 := Lib.hid (HLA.out.and hK); clear hK)
                | (go_at_call 25; (with_reducible refine Calls.mono (HALL.out _ L5.out) ?_); rintro e w6 ⟨A5, c5, zs5, rfl, hall, -⟩; have H6 := Lib.hid hall; have k6 := Lib.hid (k5.out.and hall.2.2.2); clear hall)
                | (go_at_call 22; (with_reducible refine Calls.mono (HE2.out _ k6.out) ?_); rintro e w7 ⟨A6, c6, rfl, hv, hK⟩; have V7 := Lib.hid hv; have H7 : Hid (AllM w5 zsl nl w7 A5 c5 zs5) := Lib.hid ⟨H6.out.1, H6.out.2.1, H6.out.2.2.1.and hK, H6.out.2.2.2.and hK⟩; have k7 := Lib.hid (k6.out.and hK); clear hK hv)
                | (go_at_call 24; (with_reducible refine Calls.mono (HEQ.out _ _ A5 c5 zs5 A6 c6 k7.out H7.out V7.out) ?_); rintro e w8 ⟨rfl, hK⟩; have k8 := Lib.hid (k7.out.and hK); clear hK)
                | (go_at_call 23; (with_reducible refine Calls.mono (add_nil A n c _) ?_); rintro e w9 ⟨rfl, hK⟩; have k9 := Lib.hid (k8.out.and hK); clear hK)
                | (go_at_call 25; (with_reducible refine Calls.mono (all_nil _) ?_); rintro e w10 ⟨rfl, hK⟩; have k10 := Lib.hid (k9.out.and hK); clear hK)
                | (go_at_call 26; (with_reducible refine Calls.mono (count_nil 0 _) ?_); rintro e w11 ⟨rfl, hK⟩; have k11 := Lib.hid (k10.out.and hK); clear hK)
                | (go_at_call 27; (with_reducible refine Calls.mono (HWN.out _) ?_); rintro e w12 ⟨rfl, hK⟩; have k12 := Lib.hid (k11.out.and hK); clear hK))
              go_ret
              exact ⟨by simp, k12.out⟩

set_option maxRecDepth 100000 in
set_option maxHeartbeats 4000000 in
theorem fkeeps_row (A : Option Addr) (n c : Nat) (xs : List ArgV) (w : World) (hx : InVs w A n c xs) (ld : Ld w) :
    Calls Tryd.prog 7 #[.slice A n c] w fun e w' => e = .returned (.bool true) ∧ Kp NoB w w' := by
  cases hfew : fewB xs with
  | true => exact fkeeps_few A n c xs w hx ld hfew
  | false =>
    obtain ⟨hn, hc1, hc2, hA, hI⟩ := hx
    have HAL := Lib.hid (fun W (k : Kp NoB w W) => alive_any W (ld.and k))
    have HNW := Lib.hid (new_any w)
    have HFW := Lib.hid (fun W (k : Kp NoB w W) => (show Calls Tryd.prog 13 #[.slice A n c] W (Stay (.bool false) W) by have := few_any A c xs W (hA.and k) (by omega); rwa [hfew, hn] at this))
    clear hA hI hn hfew ld hc1 hc2
    go_enter Tryd.func7, Tryd.ntmps7
    go_wp2_with (first
      | (go_at_call 21; (with_reducible refine Calls.mono HNW.out ?_); rintro e w0 ⟨rfl, rfl⟩)
      | (go_at_call 13; (with_reducible refine Calls.mono (HFW.out _ ((Kp.refl _ _).alloc _)) ?_); rintro e w1 ⟨rfl, hK⟩; have k1 := Lib.hid (((Kp.refl NoB w).alloc _).and hK); clear hK)
      | (go_at_call 8; (with_reducible refine Calls.mono (HAL.out _ k1.out) ?_); rintro e w2 ⟨rfl, hK⟩; have k2 := Lib.hid (k1.out.and hK); clear hK))
    go_ret
    exact ⟨rfl, k2.out⟩

end Go.Proofs.YtknaogpkakdcoaaDoor
