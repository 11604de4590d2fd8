/- Chapter 8: lists of attributes; find with the two closures of Merge. No condition but the bounds that arguments have. -/
import Derived.Test.YtnjdkcnafjkckaaDoorAggT
import Derived.Test.YtnjdkcnafjkckaaDoorAggForms
namespace Go.Proofs.YtnjdkcnafjkckaaDoor
open Go.RowKit
set_option linter.unusedVariables false
set_option linter.unusedSimpArgs false

/-- The cells of an attribute, as a list. -/
def AtF (z : AtI) : List Value := z.cs.toList
/-- A list of attributes. -/
def AtsL (w : World) (A : Option Addr) (zs : List AtI) : Prop := Sl (Flat AtF) 9 w A zs
theorem AtsL.and {w w' : World} {A : Option Addr} {zs : List AtI} (h : AtsL w A zs) (k : Kp NoB w w') : AtsL w' A zs := Flat.and h k
theorem ats_at {w : World} {A : Option Addr} {zs : List AtI} (h : AtsL w A zs) {j : Nat} (hj : j < zs.length) : ∃ ad, A = some ad ∧ w.cell? (ad.add (j * 9)) = some (.int .i64 zs[j].t) ∧
    w.cell? ⟨(ad.add (j * 9)).block, (ad.add (j * 9)).off + 1, none⟩ = some (.bool zs[j].p) ∧ w.cell? ⟨(ad.add (j * 9)).block, (ad.add (j * 9)).off + 2, none⟩ = some (.int .u32 zs[j].n) ∧
    w.cell? ⟨(ad.add (j * 9)).block, (ad.add (j * 9)).off + 3, none⟩ = some (.int .u32 zs[j].m) ∧ w.cell? ⟨(ad.add (j * 9)).block, (ad.add (j * 9)).off + 4, none⟩ = some (.slice zs[j].S zs[j].sn zs[j].sc) ∧
    w.cell? ⟨(ad.add (j * 9)).block, (ad.add (j * 9)).off + 5, none⟩ = some (.slice zs[j].L zs[j].ln zs[j].lc) ∧ w.cell? ⟨(ad.add (j * 9)).block, (ad.add (j * 9)).off + 6, none⟩ = some (.slice zs[j].B zs[j].bn zs[j].bc) ∧
    w.cell? ⟨(ad.add (j * 9)).block, (ad.add (j * 9)).off + 7, none⟩ = some (.int .i64 zs[j].f) ∧ w.cell? ⟨(ad.add (j * 9)).block, (ad.add (j * 9)).off + 8, none⟩ = some (.slice zs[j].R zs[j].rn zs[j].rc) := by
  obtain ⟨ad, cs, e, _, hcs, hc⟩ := h.at (List.getElem?_eq_getElem hj)
  have hcs' : cs = AtF zs[j] := hcs
  subst hcs'
  have g := fun i (hi : 0 < i) v (hv : (AtF zs[j])[i]? = some v) => (by have := hc i v hv; rwa [add_field ad (j * 9) i hi] at this : w.cell? ⟨(ad.add (j * 9)).block, (ad.add (j * 9)).off + i, none⟩ = some v)
  exact ⟨ad, e, hc 0 _ rfl, g 1 (by decide) _ rfl, g 2 (by decide) _ rfl, g 3 (by decide) _ rfl, g 4 (by decide) _ rfl, g 5 (by decide) _ rfl, g 6 (by decide) _ rfl, g 7 (by decide) _ rfl, g 8 (by decide) _ rfl⟩

/-- What find returns. -/
def findV (p : AtI → Bool) (zs : List AtI) : Value := .tuple #[((zs.find? p).getD (mkG 0 0 0)).val, .bool (zs.find? p).isSome]
theorem find_step (p : AtI → Bool) (zs : List AtI) (j : Nat) (hj : j < zs.length) : (zs.drop j).find? p = if p zs[j] then some zs[j] else (zs.drop (j + 1)).find? p := by
  rw [List.drop_eq_getElem_cons hj, List.find?_cons]
  cases p zs[j] <;> rfl

theorem clo1_any (z : AtI) (ok : z.Ok) (w : World) : Calls Tryd.prog 29 #[z.val] w (Stay (.bool (!validG 4 z)) w) := by
  have HV := Lib.hid (fun W => gvalid_any 4 z ok W)
  obtain ⟨V, hV⟩ : ∃ V, validG 4 z = V := ⟨_, rfl⟩
  rw [hV] at HV ⊢
  clear hV
  unfold AtI.val AtI.cs at *
  go_enter Tryd.func29, Tryd.ntmps29
  go_wp2_with (go_at_call 16; refine Calls.mono (HV.out _) ?_; rintro e w1 ⟨rfl, hK⟩; have hk1 := Lib.hid (((Kp.refl NoB w).alloc _).and hK); clear hK)
  go_ret
  exact ⟨rfl, hk1.out⟩

theorem clo2_any (z : AtI) (k : Int) (b : Nat) (w : World) (hb : w.cell? ⟨b, 0, none⟩ = some (.int .i64 k)) : Calls Tryd.prog 31 #[z.val, .pointer (some ⟨b, 0, none⟩)] w (Stay (.bool (z.t == k)) w) := by
  have hb1 := fun o => ((Kp.refl NoB w).alloc o).cell hb (fun q => q)
  unfold AtI.val AtI.cs at *
  go_enter Tryd.func31, Tryd.ntmps31
  go_wp2
  all_goals
    go_ret
    exact ⟨by simp_all, (Kp.refl _ _).alloc _⟩

set_option maxRecDepth 100000 in
set_option maxHeartbeats 1600000 in
theorem find1_any (p : AtI → Bool) (A : Option Addr) (c : Nat) (zs : List AtI) (w : World) (h : AtsL w A zs) (hn : zs.length ≤ 1000)
    (HP : ∀ z ∈ zs, ∀ W, Kp NoB w W → Calls Tryd.prog 29 #[z.val] W (Stay (.bool (p z)) W)) :
    Calls Tryd.prog 28 #[.slice A zs.length c, .func (.func 29) #[] #[]] w (Stay (findV p zs) w) := by
  have HA := Lib.hid h
  have HC := Lib.hid HP
  clear h HP
  obtain ⟨n, hnn⟩ : ∃ n, zs.length = n := ⟨_, rfl⟩
  have HN := Lib.hid hnn
  rw [hnn] at hn ⊢
  clear hnn
  go_enter Tryd.func28, Tryd.ntmps28
  go_wp2
  go_loopw [10] (fun i wr => ∃ j : Nat, j ≤ n ∧ i = .int .i64 j ∧ Hid (Kp NoB w wr) ∧ Hid (Bk wr w.heap.size 30 (mkG 0 0 0).cs) ∧ Hid (zs.find? p = (zs.drop j).find? p)) (fun i _ => n - (intOf i).toNat)
  case atStart => exact ⟨0, Nat.zero_le _, rfl, Lib.hid ((Kp.refl _ _).alloc _), Lib.hid (Bk.fresh _ _ _), Lib.hid rfl⟩
  case round =>
    obtain ⟨j, hj, rfl, HK, HZ, HD⟩ := hrel
    by_cases hlt : j < n
    · have hjl : j < zs.length := by rw [HN.out]; exact hlt
      obtain ⟨ad, rfl, x0, x1, x2, x3, x4, x5, x6, x7, x8⟩ := ats_at (HA.out.and HK.out) hjl
      have hd := find_step p zs j hjl
      have hc := HC.out _ (List.getElem_mem hjl)
      obtain ⟨z, hz⟩ : ∃ z, zs[j] = z := ⟨_, rfl⟩
      rw [hz] at x0 x1 x2 x3 x4 x5 x6 x7 x8 hd hc
      have HCz := Lib.hid hc
      have HDz := Lib.hid hd
      have hzl : w.heap.size < wr.heap.size := HZ.out.lt
      have hne : ¬ w.heap.size = wr.heap.size := Nat.ne_of_lt hzl
      clear hz hd hc
      obtain ⟨V, hV⟩ : ∃ V, p z = V := ⟨_, rfl⟩
      rw [hV] at HCz HDz
      unfold AtI.val AtI.cs at HCz
      cases V
      · go_wp2_with (go_at_call 29; refine Calls.mono (HCz.out _ (HK.out.alloc _)) ?_; rintro e w2 ⟨rfl, hK2⟩; have hk2 := Lib.hid ((HK.out.alloc _).and hK2); have hz2 := Lib.hid ((HZ.out.alloc _).and hK2); clear hK2)
        go_roundw
        case rel => exact ⟨j + 1, by omega, by go_num, hk2, hz2, Lib.hid (HD.out.trans (by rw [HDz.out]; rfl))⟩
        case measure => simp [intOf]; omega
      · have HT := Lib.hid (show findV p zs = .tuple #[z.val, .bool true] by unfold findV; rw [HD.out, HDz.out]; rfl)
        rw [HT.out]
        go_wp2_with (go_at_call 29; refine Calls.mono (HCz.out _ (HK.out.alloc _)) ?_; rintro e w2 ⟨rfl, hK2⟩; have hk2 := Lib.hid ((HK.out.alloc _).and hK2); have hz2 := Lib.hid ((HZ.out.alloc _).and hK2); have hy2 := Lib.hid ((Bk.fresh wr 30 z.cs).and hK2); clear hK2; obtain ⟨y0, y1, y2, y3, y4, y5, y6, y7, y8⟩ := hy2.out.attr; have f0 := hz2.out.frozen 0; have f1 := hz2.out.frozen 1; have f2 := hz2.out.frozen 2; have f3 := hz2.out.frozen 3; have f4 := hz2.out.frozen 4; have f5 := hz2.out.frozen 5; have f6 := hz2.out.frozen 6; have f7 := hz2.out.frozen 7; have f8 := hz2.out.frozen 8; obtain ⟨z0, z1, z2, z3, z4, z5, z6, z7, z8⟩ := attrMG hz2.out)
        refine bodyPost_ret (v := .tuple #[z.val, .bool true]) (results_row_tmp (fn := Tryd.f28) rfl _ _ w.heap.size 30 z.cs (0, 0) _ rfl (set9 hz2.out _ _ _ _ _ _ _ _ _) Tryd.underlying30 rfl (by kernel_rfl)) rfl ⟨rfl, kp9 hk2.out (Nat.le_refl _) _ _ _ _ _ _ _ _ _⟩
    · have hj' : j = n := by omega
      have HT := Lib.hid (show findV p zs = .tuple #[(mkG 0 0 0).val, .bool false] by unfold findV; rw [HD.out, List.drop_eq_nil_of_le (by rw [HN.out]; omega)]; rfl)
      obtain ⟨z0, z1, z2, z3, z4, z5, z6, z7, z8⟩ := attrMG HZ.out
      have f0 := HZ.out.frozen 0
      have f1 := HZ.out.frozen 1
      have f2 := HZ.out.frozen 2
      have f3 := HZ.out.frozen 3
      have f4 := HZ.out.frozen 4
      have f5 := HZ.out.frozen 5
      have f6 := HZ.out.frozen 6
      have f7 := HZ.out.frozen 7
      have f8 := HZ.out.frozen 8
      go_wp2
      refine bodyPost_ret (v := .tuple #[(mkG 0 0 0).val, .bool false]) (results_row_tmp (fn := Tryd.f28) rfl _ _ w.heap.size 30 (mkG 0 0 0).cs (0, 0) _ rfl (set9 HZ.out _ _ _ _ _ _ _ _ _) Tryd.underlying30 rfl (by kernel_rfl)) rfl ⟨by rw [HT.out], kp9 HK.out (Nat.le_refl _) _ _ _ _ _ _ _ _ _⟩

set_option maxRecDepth 100000 in
set_option maxHeartbeats 1600000 in
theorem find2_any (p : AtI → Bool) (A : Option Addr) (c : Nat) (zs : List AtI) (b : Nat) (w : World) (h : AtsL w A zs) (hn : zs.length ≤ 1000)
    (HP : ∀ z ∈ zs, ∀ W, Kp NoB w W → Calls Tryd.prog 31 #[z.val, .pointer (some ⟨b, 0, none⟩)] W (Stay (.bool (p z)) W)) :
    Calls Tryd.prog 28 #[.slice A zs.length c, .func (.func 31) #[] #[.pointer (some ⟨b, 0, none⟩)]] w (Stay (findV p zs) w) := by
  have HA := Lib.hid h
  have HC := Lib.hid HP
  clear h HP
  obtain ⟨n, hnn⟩ : ∃ n, zs.length = n := ⟨_, rfl⟩
  have HN := Lib.hid hnn
  rw [hnn] at hn ⊢
  clear hnn
  go_enter Tryd.func28, Tryd.ntmps28
  go_wp2
  go_loopw [10] (fun i wr => ∃ j : Nat, j ≤ n ∧ i = .int .i64 j ∧ Hid (Kp NoB w wr) ∧ Hid (Bk wr w.heap.size 30 (mkG 0 0 0).cs) ∧ Hid (zs.find? p = (zs.drop j).find? p)) (fun i _ => n - (intOf i).toNat)
  case atStart => exact ⟨0, Nat.zero_le _, rfl, Lib.hid ((Kp.refl _ _).alloc _), Lib.hid (Bk.fresh _ _ _), Lib.hid rfl⟩
  case round =>
    obtain ⟨j, hj, rfl, HK, HZ, HD⟩ := hrel
    by_cases hlt : j < n
    · have hjl : j < zs.length := by rw [HN.out]; exact hlt
      obtain ⟨ad, rfl, x0, x1, x2, x3, x4, x5, x6, x7, x8⟩ := ats_at (HA.out.and HK.out) hjl
      have hd := find_step p zs j hjl
      have hc := HC.out _ (List.getElem_mem hjl)
      obtain ⟨z, hz⟩ : ∃ z, zs[j] = z := ⟨_, rfl⟩
      rw [hz] at x0 x1 x2 x3 x4 x5 x6 x7 x8 hd hc
      have HCz := Lib.hid hc
      have HDz := Lib.hid hd
      have hzl : w.heap.size < wr.heap.size := HZ.out.lt
      have hne : ¬ w.heap.size = wr.heap.size := Nat.ne_of_lt hzl
      clear hz hd hc
      obtain ⟨V, hV⟩ : ∃ V, p z = V := ⟨_, rfl⟩
      rw [hV] at HCz HDz
      unfold AtI.val AtI.cs at HCz
      cases V
      · go_wp2_with (go_at_call 31; refine Calls.mono (HCz.out _ (HK.out.alloc _)) ?_; rintro e w2 ⟨rfl, hK2⟩; have hk2 := Lib.hid ((HK.out.alloc _).and hK2); have hz2 := Lib.hid ((HZ.out.alloc _).and hK2); clear hK2)
        go_roundw
        case rel => exact ⟨j + 1, by omega, by go_num, hk2, hz2, Lib.hid (HD.out.trans (by rw [HDz.out]; rfl))⟩
        case measure => simp [intOf]; omega
      · have HT := Lib.hid (show findV p zs = .tuple #[z.val, .bool true] by unfold findV; rw [HD.out, HDz.out]; rfl)
        rw [HT.out]
        go_wp2_with (go_at_call 31; refine Calls.mono (HCz.out _ (HK.out.alloc _)) ?_; rintro e w2 ⟨rfl, hK2⟩; have hk2 := Lib.hid ((HK.out.alloc _).and hK2); have hz2 := Lib.hid ((HZ.out.alloc _).and hK2); have hy2 := Lib.hid ((Bk.fresh wr 30 z.cs).and hK2); clear hK2; obtain ⟨y0, y1, y2, y3, y4, y5, y6, y7, y8⟩ := hy2.out.attr; have f0 := hz2.out.frozen 0; have f1 := hz2.out.frozen 1; have f2 := hz2.out.frozen 2; have f3 := hz2.out.frozen 3; have f4 := hz2.out.frozen 4; have f5 := hz2.out.frozen 5; have f6 := hz2.out.frozen 6; have f7 := hz2.out.frozen 7; have f8 := hz2.out.frozen 8; obtain ⟨z0, z1, z2, z3, z4, z5, z6, z7, z8⟩ := attrMG hz2.out)
        refine bodyPost_ret (v := .tuple #[z.val, .bool true]) (results_row_tmp (fn := Tryd.f28) rfl _ _ w.heap.size 30 z.cs (0, 0) _ rfl (set9 hz2.out _ _ _ _ _ _ _ _ _) Tryd.underlying30 rfl (by kernel_rfl)) rfl ⟨rfl, kp9 hk2.out (Nat.le_refl _) _ _ _ _ _ _ _ _ _⟩
    · have hj' : j = n := by omega
      have HT := Lib.hid (show findV p zs = .tuple #[(mkG 0 0 0).val, .bool false] by unfold findV; rw [HD.out, List.drop_eq_nil_of_le (by rw [HN.out]; omega)]; rfl)
      obtain ⟨z0, z1, z2, z3, z4, z5, z6, z7, z8⟩ := attrMG HZ.out
      have f0 := HZ.out.frozen 0
      have f1 := HZ.out.frozen 1
      have f2 := HZ.out.frozen 2
      have f3 := HZ.out.frozen 3
      have f4 := HZ.out.frozen 4
      have f5 := HZ.out.frozen 5
      have f6 := HZ.out.frozen 6
      have f7 := HZ.out.frozen 7
      have f8 := HZ.out.frozen 8
      go_wp2
      refine bodyPost_ret (v := .tuple #[(mkG 0 0 0).val, .bool false]) (results_row_tmp (fn := Tryd.f28) rfl _ _ w.heap.size 30 (mkG 0 0 0).cs (0, 0) _ rfl (set9 HZ.out _ _ _ _ _ _ _ _ _) Tryd.underlying30 rfl (by kernel_rfl)) rfl ⟨by rw [HT.out], kp9 HK.out (Nat.le_refl _) _ _ _ _ _ _ _ _ _⟩

end Go.Proofs.YtnjdkcnafjkckaaDoor
