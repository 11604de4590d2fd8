/- The reference's Fold. No condition but the bounds that arguments have. -/
import Derived.Test.YtknaogpkakdcoaaDoorFinG
namespace Go.Proofs.YtknaogpkakdcoaaDoor
open Go.RowKit
set_option linter.unusedVariables false
set_option linter.unusedSimpArgs false

/-! ### plain words -/
/-- Is nothing worse than this? -/
def bestZ (zs : List ArgV) (m : ArgV) : Bool := zs.all (fun y => !wsZ y m)
/-- The first verdict that nothing is worse than. -/
def rfoldZ (zs : List ArgV) : ArgV := (zs.find? (bestZ zs)).getD zeroZ
theorem wsZ_iff (x y : ArgV) : wsZ x y = true ↔ (y.k < x.k ∨ x.k = y.k ∧ x.a < y.a) := by simp [wsZ, worseV]
theorem wsZ_off (x y : ArgV) : wsZ x y = false ↔ ¬ (y.k < x.k ∨ x.k = y.k ∧ x.a < y.a) := by simp [wsZ, worseV]
/-- What the fold holds: it lies in the list, nothing before it is as bad, nothing is worse. -/
theorem minZ_law (m : ArgV) (zs : List ArgV) : ∃ p q, m :: zs = p ++ minZ m zs :: q ∧ (∀ y ∈ p, wsZ (minZ m zs) y = true) ∧ (∀ y ∈ m :: zs, wsZ y (minZ m zs) = false) := by
  induction zs generalizing m with
  | nil => exact ⟨[], [], rfl, by simp, by
      intro y hy
      rw [List.mem_singleton] at hy
      subst hy
      rw [wsZ_off]
      show ¬ (y.k < y.k ∨ y.k = y.k ∧ y.a < y.a)
      omega⟩
  | cons x zs ih =>
    have e : minZ m (x :: zs) = minZ (if wsZ x m then x else m) zs := rfl
    rw [e]
    by_cases h : wsZ x m = true
    · rw [if_pos h]
      obtain ⟨p, q, h1, h2, h3⟩ := ih x
      have hx : wsZ (minZ x zs) m = true := by
        have hxx := h3 x (.head _)
        rw [wsZ_iff] at h ⊢
        rw [wsZ_off] at hxx
        omega
      refine ⟨m :: p, q, by rw [h1]; rfl, ?_, ?_⟩
      · intro y hy
        rcases List.mem_cons.1 hy with rfl | hy
        · exact hx
        · exact h2 y hy
      · intro y hy
        rcases List.mem_cons.1 hy with rfl | hy
        · rw [wsZ_iff] at hx
          rw [wsZ_off]
          omega
        · exact h3 y hy
    · rw [if_neg h]
      obtain ⟨p, q, h1, h2, h3⟩ := ih m
      have h' : wsZ x m = false := by simpa using h
      have hx : wsZ x (minZ m zs) = false := by
        have hm := h3 m (.head _)
        rw [wsZ_off] at h' hm ⊢
        omega
      cases p with
      | nil =>
        have e0 : m = minZ m zs := (List.cons.inj h1).1
        refine ⟨[], x :: zs, by rw [← e0]; rfl, by simp, ?_⟩
        intro y hy
        rcases List.mem_cons.1 hy with rfl | hy
        · exact h3 _ (.head _)
        · rcases List.mem_cons.1 hy with rfl | hy
          · exact hx
          · exact h3 y (.tail _ hy)
      | cons p0 p =>
        obtain ⟨e0, e1⟩ := List.cons.inj h1
        subst e0
        have hm : wsZ (minZ m zs) m = true := h2 m (.head _)
        have hx2 : wsZ (minZ m zs) x = true := by
          rw [wsZ_iff] at hm ⊢
          rw [wsZ_off] at h'
          omega
        refine ⟨m :: x :: p, q, by rw [List.cons_append, List.cons_append]; exact congrArg (fun l => m :: x :: l) e1, ?_, ?_⟩
        · intro y hy
          rcases List.mem_cons.1 hy with rfl | hy
          · exact hm
          · rcases List.mem_cons.1 hy with rfl | hy
            · exact hx2
            · exact h2 y (.tail _ hy)
        · intro y hy
          rcases List.mem_cons.1 hy with rfl | hy
          · exact h3 _ (.head _)
          · rcases List.mem_cons.1 hy with rfl | hy
            · exact hx
            · exact h3 y (.tail _ hy)
theorem rfold_eq (zs : List ArgV) : rfoldZ zs = foldZ zs := by
  cases zs with
  | nil => rfl
  | cons m zs =>
    show _ = minZ m zs
    obtain ⟨p, q, h1, h2, h3⟩ := minZ_law m zs
    have hb : bestZ (m :: zs) (minZ m zs) = true := by
      unfold bestZ
      rw [List.all_eq_true]
      intro y hy
      rw [h3 y hy]
      rfl
    have hp : ∀ y ∈ p, ¬ bestZ (m :: zs) y = true := by
      intro y hy hh
      unfold bestZ at hh
      rw [List.all_eq_true] at hh
      have := hh (minZ m zs) (by rw [h1]; simp)
      rw [h2 y hy] at this
      exact absurd this (by decide)
    unfold rfoldZ
    have hf : (m :: zs).find? (bestZ (m :: zs)) = some (minZ m zs) := by
      rw [List.find?_eq_some_iff_append]
      exact ⟨hb, p, q, h1, fun y hy => by simpa using hp y hy⟩
    rw [hf]
    rfl
theorem best_step (zs : List ArgV) (m : ArgV) (q : Nat) (hq : q < zs.length) : bestZ (zs.take (q + 1)) m = (bestZ (zs.take q) m && !wsZ zs[q] m) := by
  unfold bestZ
  rw [List.take_succ_eq_append_getElem hq, List.all_append]
  simp
theorem rfold_at (zs : List ArgV) (j : Nat) (hj : j < zs.length) (h : ∀ y ∈ zs.take j, bestZ zs y = false) (hb : bestZ zs zs[j] = true) : rfoldZ zs = zs[j] := by
  unfold rfoldZ
  have hf : zs.find? (bestZ zs) = some zs[j] := by
    rw [List.find?_eq_some_iff_append]
    refine ⟨hb, zs.take j, zs.drop (j + 1), ?_, fun y hy => by rw [h y hy]; rfl⟩
    rw [← List.drop_eq_getElem_cons hj, List.take_append_drop]
  rw [hf]
  rfl
theorem rfold_none (zs : List ArgV) (h : ∀ y ∈ zs, bestZ zs y = false) : rfoldZ zs = zeroZ := by
  unfold rfoldZ
  rw [List.find?_eq_none.2 (fun y hy => by rw [h y hy]; simp)]
  rfl

set_option maxRecDepth 100000 in
set_option maxHeartbeats 3200000 in
theorem rfold_any (A : Option Addr) (c : Nat) (zs : List ArgV) (w : World) (h : VsL w A zs) (hn : zs.length ≤ 1000) :
    Calls Tryd.prog 20 #[.slice A zs.length c] w (Stay (rfoldZ zs).val w) := by
  have HA := Lib.hid h
  clear h
  obtain ⟨n, hnn⟩ : ∃ n, zs.length = n := ⟨_, rfl⟩
  have HN := Lib.hid hnn
  rw [hnn] at hn ⊢
  have HZ0 := Lib.hid (Bk.fresh w 24 zeroZ.cs.toArray)
  obtain ⟨R, hR⟩ : ∃ R, rfoldZ zs = R := ⟨_, rfl⟩
  have HR := Lib.hid hR
  rw [hR]
  clear hnn hR
  go_enter Tryd.func20, Tryd.ntmps20
  go_wp2
  go_loopw [3] (fun i wr => ∃ j : Nat, j ≤ n ∧ i = .int .i64 j ∧ Hid (Kp NoB w wr) ∧ Hid (Bk wr w.heap.size 24 zeroZ.cs.toArray) ∧ Hid (∀ y ∈ zs.take j, bestZ zs y = false)) (fun i _ => n - (intOf i).toNat)
  case atStart => exact ⟨0, Nat.zero_le _, rfl, Lib.hid ((Kp.refl _ _).alloc _), HZ0, Lib.hid (by intro y hy; exact absurd hy (by simp))⟩
  case round =>
    obtain ⟨j, hj, rfl, HK, HZ, HB⟩ := hrel
    by_cases hlt : j < n
    · have hjl : j < zs.length := by rw [HN.out]; exact hlt
      obtain ⟨m, hm⟩ : ∃ z, zs[j] = z := ⟨_, rfl⟩
      have HM := Lib.hid hm
      clear hm
      go_wp2
      go_loopw [4, 5] (fun b i wq => ∃ q : Nat, q ≤ n ∧ i = .int .i64 q ∧ b = .bool (bestZ (zs.take q) m) ∧ Hid (Kp NoB w wq) ∧ Hid (Bk wq w.heap.size 24 zeroZ.cs.toArray)) (fun _ i _ => n - (intOf i).toNat)
      case atStart => exact ⟨0, Nat.zero_le _, rfl, rfl, HK, HZ⟩
      case round =>
        obtain ⟨q, hq, rfl, rfl, HKq, HZq⟩ := hrel
        by_cases hlt2 : q < n
        · have hql : q < zs.length := by rw [HN.out]; exact hlt2
          have hst := best_step zs m q hql
          obtain ⟨ad, e, hca⟩ := vs_cells (HA.out.and HKq.out) hql
          obtain ⟨ad', e', hcb⟩ := vs_cells (HA.out.and HKq.out) hjl
          subst e
          cases e'
          rw [HM.out] at hcb
          obtain ⟨z, hz⟩ : ∃ z, zs[q] = z := ⟨_, rfl⟩
          rw [hz] at hst hca
          obtain ⟨x, hx⟩ : ∃ x, bestZ (zs.take q) m = x := ⟨_, rfl⟩
          rw [hx] at hst ⊢
          have HS := Lib.hid hst
          clear hst hx hz
          cases x
          · clear hca hcb
            go_wp2
            refine wp_region_noPanic ?_
            refine wp_region_held_drew (S := (fun _ => True)) (by kernel_rfl) ?_ (fun hHeld => ?_)
            · exact trivial
            refine wpAnyH_take (i := 0) (oi := ⟨some 18, _, _, _, _, _⟩) (v := ?_) rfl (by kernel_rfl) (by kernel_rfl) (by kernel_rfl) (fun _ _ _ h => h) (Or.inl ⟨by rfl, fun w hSw => ?_⟩) (by assumption) ?_
            rotate_left
            · (try dsimp only at hSw)
              go_simp
              try with_reducible rfl
            try simp only [Act.put, List.setIfInBounds_toArray, List.set_cons_zero, List.set_cons_succ]
            refine wpAnyH_take (i := 1) (oi := ⟨some 19, _, _, _, _, _⟩) (v := ?_) rfl (by kernel_rfl) (by kernel_rfl) (by kernel_rfl) (fun _ _ _ h => h) (Or.inl ⟨by rfl, fun w hSw => ?_⟩) (by assumption) ?_
            rotate_left
            · (try dsimp only at hSw)
              go_simp
              try with_reducible rfl
            try simp only [Act.put, List.setIfInBounds_toArray, List.set_cons_zero, List.set_cons_succ]
            refine wpAnyH_take (i := 2) (oi := ⟨some 20, _, _, _, _, _⟩) (v := undef) rfl (by kernel_rfl) (by kernel_rfl) (by kernel_rfl) (fun _ _ _ h => h) (Or.inr ⟨rfl, rfl⟩) (by assumption) ?_
            try simp only [Act.put, List.setIfInBounds_toArray, List.set_cons_zero, List.set_cons_succ]
            refine wpAnyH_take (i := 3) (oi := ⟨some 21, _, _, _, _, _⟩) (v := undef) rfl (by kernel_rfl) (by kernel_rfl) (by kernel_rfl) (fun _ _ _ h => h) (Or.inr ⟨rfl, rfl⟩) (by assumption) ?_
            try simp only [Act.put, List.setIfInBounds_toArray, List.set_cons_zero, List.set_cons_succ]
            refine wpAnyH_take (i := 4) (oi := ⟨some 22, _, _, _, _, _⟩) (v := undef) rfl (by kernel_rfl) (by kernel_rfl) (by kernel_rfl) (fun _ _ _ h => h) (Or.inr ⟨rfl, rfl⟩) (by assumption) ?_
            try simp only [Act.put, List.setIfInBounds_toArray, List.set_cons_zero, List.set_cons_succ]
            refine wpAnyH_take (i := 5) (oi := ⟨some 23, _, _, _, _, _⟩) (v := undef) rfl (by kernel_rfl) (by kernel_rfl) (by kernel_rfl) (fun _ _ _ h => h) (Or.inr ⟨rfl, rfl⟩) (by assumption) ?_
            try simp only [Act.put, List.setIfInBounds_toArray, List.set_cons_zero, List.set_cons_succ]
            refine wpAnyH_take (i := 6) (oi := ⟨some 24, _, _, _, _, _⟩) (v := undef) rfl (by kernel_rfl) (by kernel_rfl) (by kernel_rfl) (fun _ _ _ h => h) (Or.inr ⟨rfl, rfl⟩) (by assumption) ?_
            try simp only [Act.put, List.setIfInBounds_toArray, List.set_cons_zero, List.set_cons_succ]
            refine wpAnyH_take (i := 7) (oi := ⟨some 25, _, _, _, _, _⟩) (v := undef) rfl (by kernel_rfl) (by kernel_rfl) (by kernel_rfl) (fun _ _ _ h => h) (Or.inr ⟨rfl, rfl⟩) (by assumption) ?_
            try simp only [Act.put, List.setIfInBounds_toArray, List.set_cons_zero, List.set_cons_succ]
            refine wpAnyH_take (i := 8) (oi := ⟨some 26, _, _, _, _, _⟩) (v := undef) rfl (by kernel_rfl) (by kernel_rfl) (by kernel_rfl) (fun _ _ _ h => h) (Or.inr ⟨rfl, rfl⟩) (by assumption) ?_
            try simp only [Act.put, List.setIfInBounds_toArray, List.set_cons_zero, List.set_cons_succ]
            refine wpAnyH_take (i := 9) (oi := ⟨some 27, _, _, _, _, _⟩) (v := undef) rfl (by kernel_rfl) (by kernel_rfl) (by kernel_rfl) (fun _ _ _ h => h) (Or.inr ⟨rfl, rfl⟩) (by assumption) ?_
            try simp only [Act.put, List.setIfInBounds_toArray, List.set_cons_zero, List.set_cons_succ]
            refine wpAnyH_take (i := 10) (oi := ⟨some 28, _, _, _, _, _⟩) (v := undef) rfl (by kernel_rfl) (by kernel_rfl) (by kernel_rfl) (fun _ _ _ h => h) (Or.inr ⟨rfl, rfl⟩) (by assumption) ?_
            try simp only [Act.put, List.setIfInBounds_toArray, List.set_cons_zero, List.set_cons_succ]
            refine wpAnyH_take (i := 11) (oi := ⟨some 29, _, _, _, _, _⟩) (v := undef) rfl (by kernel_rfl) (by kernel_rfl) (by kernel_rfl) (fun _ _ _ h => h) (Or.inr ⟨rfl, rfl⟩) (by assumption) ?_
            try simp only [Act.put, List.setIfInBounds_toArray, List.set_cons_zero, List.set_cons_succ]
            refine wpAnyH_take (i := 12) (oi := ⟨some 30, _, _, _, _, _⟩) (v := ?_) rfl (by kernel_rfl) (by kernel_rfl) (by kernel_rfl) (fun _ _ _ h => h) (Or.inl ⟨by rfl, fun w hSw => ?_⟩) (by assumption) ?_
            rotate_left
            · (try dsimp only at hSw)
              go_simp
              try with_reducible rfl
            try simp only [Act.put, List.setIfInBounds_toArray, List.set_cons_zero, List.set_cons_succ]
            refine wpAnyH_ready (rs := [13]) (by kernel_rfl) (by simp) ?_
            refine AllReadyH.cons (o := ⟨some 4, _, _, _, _, _⟩) rfl (fun K hK => ?_) AllReadyH.nil
            go_simp
            refine hK.out _ _ ?_ (fun hHeld => ?_)
            · (try dsimp only)
              all_goals exact trivial
            clear hK K
            try simp only [Act.put, List.setIfInBounds_toArray, List.set_cons_zero, List.set_cons_succ]
            refine wpAnyH_done (by kernel_rfl) ?_ _
            refine NoPanic.normal ?_
            go_wp2
            go_roundw
            case rel => exact ⟨q + 1, by omega, by go_num, by rw [HS.out]; rfl, Lib.hid HKq.out.drew, Lib.hid (bk_drew HZq.out)⟩
            case measure => simp [intOf]; omega
          · obtain ⟨V, hV⟩ : ∃ V, wsZ z m = V := ⟨_, rfl⟩
            rw [hV] at HS
            have HW := Lib.hid (fun W => (show Calls Tryd.prog 15 #[.agg #[.int .i64 z.k, .int .i64 z.c, .int .i64 z.s, .slice z.A z.d.length z.m, .int .i64 z.a], .agg #[.int .i64 m.k, .int .i64 m.c, .int .i64 m.s, .slice m.A m.d.length m.m, .int .i64 m.a]] W (Stay (.bool V) W) by rw [← hV]; exact rworse_any _ _ _ _ _ _ _ _ _ _ _ _ _ _ W))
            clear hV
            obtain ⟨x0, x1, x2, x3, x4⟩ := hca
            obtain ⟨y0, y1, y2, y3, y4⟩ := hcb
            go_wp2
            go_region_held3 (fun w' => w'.cell? (ad.add (q * 5)) = some (.int .i64 z.k) ∧ w'.cell? ⟨(ad.add (q * 5)).block, (ad.add (q * 5)).off + 1, none⟩ = some (.int .i64 z.c) ∧ w'.cell? ⟨(ad.add (q * 5)).block, (ad.add (q * 5)).off + 2, none⟩ = some (.int .i64 z.s) ∧ w'.cell? ⟨(ad.add (q * 5)).block, (ad.add (q * 5)).off + 3, none⟩ = some (.slice z.A z.d.length z.m) ∧ w'.cell? ⟨(ad.add (q * 5)).block, (ad.add (q * 5)).off + 4, none⟩ = some (.int .i64 z.a) ∧ w'.cell? (ad.add (j * 5)) = some (.int .i64 m.k) ∧ w'.cell? ⟨(ad.add (j * 5)).block, (ad.add (j * 5)).off + 1, none⟩ = some (.int .i64 m.c) ∧ w'.cell? ⟨(ad.add (j * 5)).block, (ad.add (j * 5)).off + 2, none⟩ = some (.int .i64 m.s) ∧ w'.cell? ⟨(ad.add (j * 5)).block, (ad.add (j * 5)).off + 3, none⟩ = some (.slice m.A m.d.length m.m) ∧ w'.cell? ⟨(ad.add (j * 5)).block, (ad.add (j * 5)).off + 4, none⟩ = some (.int .i64 m.a)) (go_keep)
              ((go_at_call 15; (with_reducible refine Calls.mono (HW.out _) ?_); rintro e w2 ⟨rfl, hK⟩; have hk2 := Lib.hid (HKq.out.drew.and hK); have hz2 := Lib.hid (Bk.and (show Bk (World.drew _) _ _ _ from HZq.out) hK); replace x0 := hK.cell (show World.cell? (World.drew _) _ = _ from x0) (fun q => q); replace x1 := hK.cell (show World.cell? (World.drew _) _ = _ from x1) (fun q => q); replace x2 := hK.cell (show World.cell? (World.drew _) _ = _ from x2) (fun q => q); replace x3 := hK.cell (show World.cell? (World.drew _) _ = _ from x3) (fun q => q); replace x4 := hK.cell (show World.cell? (World.drew _) _ = _ from x4) (fun q => q); replace y0 := hK.cell (show World.cell? (World.drew _) _ = _ from y0) (fun q => q); replace y1 := hK.cell (show World.cell? (World.drew _) _ = _ from y1) (fun q => q); replace y2 := hK.cell (show World.cell? (World.drew _) _ = _ from y2) (fun q => q); replace y3 := hK.cell (show World.cell? (World.drew _) _ = _ from y3) (fun q => q); replace y4 := hK.cell (show World.cell? (World.drew _) _ = _ from y4) (fun q => q); clear hK))
            go_wp2
            go_roundw
            case rel => exact ⟨q + 1, by omega, by go_num, by rw [HS.out]; simp, hk2, hz2⟩
            case measure => simp [intOf]; omega
        · have hq' : q = n := by omega
          have ht : zs.take q = zs := List.take_of_length_le (by rw [HN.out]; omega)
          rw [ht]
          obtain ⟨x, hx⟩ : ∃ x, bestZ zs m = x := ⟨_, rfl⟩
          rw [hx]
          have HX := Lib.hid hx
          clear hx ht
          cases x
          · go_wp2
            go_roundw
            case rel =>
              refine ⟨j + 1, by omega, by go_num, HKq, HZq, Lib.hid ?_⟩
              intro y hy
              rw [List.take_succ_eq_append_getElem hjl, List.mem_append, List.mem_singleton, HM.out] at hy
              rcases hy with hy | rfl
              · exact HB.out y hy
              · exact HX.out
            case measure => simp [intOf]; omega
          · obtain ⟨ad, e, hcb⟩ := vs_cells (HA.out.and HKq.out) hjl
            subst e
            rw [HM.out] at hcb
            obtain ⟨y0, y1, y2, y3, y4⟩ := hcb
            obtain ⟨z0, z1, z2, z3, z4⟩ := HZq.out.five
            have f0 := HZq.out.frozen 0
            have f1 := HZq.out.frozen 1
            have f2 := HZq.out.frozen 2
            have f3 := HZq.out.frozen 3
            have f4 := HZq.out.frozen 4
            have hRR := Lib.hid (show m = R by rw [← HR.out, rfold_at zs j hjl HB.out (by rw [HM.out]; exact HX.out), HM.out])
            go_wp2
            refine bodyPost_ret (v := m.val) (results_cell_row (fn := Tryd.f20) rfl _ _ w.heap.size 24 _ (0, 0) _ rfl (set5 HZq.out _ _ _ _ _) Tryd.underlying24 rfl (by kernel_rfl)) rfl ⟨by rw [hRR.out], kp5 HKq.out (Nat.le_refl _) _ _ _ _ _⟩
    · have hj' : j = n := by omega
      have ht : zs.take j = zs := List.take_of_length_le (by rw [HN.out]; omega)
      rw [ht] at HB
      have hRR := Lib.hid (show zeroZ = R by rw [← HR.out, rfold_none zs HB.out])
      clear ht
      obtain ⟨z0, z1, z2, z3, z4⟩ := HZ.out.five
      have f0 := HZ.out.frozen 0
      have f1 := HZ.out.frozen 1
      have f2 := HZ.out.frozen 2
      have f3 := HZ.out.frozen 3
      have f4 := HZ.out.frozen 4
      go_wp2
      refine bodyPost_ret (v := zeroZ.val) (results_cell_row (fn := Tryd.f20) rfl _ _ w.heap.size 24 _ (0, 0) _ rfl (set5 HZ.out _ _ _ _ _) Tryd.underlying24 rfl (by kernel_rfl)) rfl ⟨by rw [hRR.out], kp5 HK.out (Nat.le_refl _) _ _ _ _ _⟩

end Go.Proofs.YtknaogpkakdcoaaDoor
