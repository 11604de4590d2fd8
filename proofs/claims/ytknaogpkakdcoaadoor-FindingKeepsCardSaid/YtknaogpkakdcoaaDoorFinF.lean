/- Package finding: Fold (slices.MinFunc at its closure, clone). No condition but the bounds that arguments have. -/
import Derived.Test.YtknaogpkakdcoaaDoorFinE
import Derived.Test.YtknaogpkakdcoaaDoorFinTexts
import Derived.Laws.Rows
import Derived.Laws.CopyOwn
namespace Go.Proofs.YtknaogpkakdcoaaDoor
open Go.RowKit
set_option linter.unusedVariables false
set_option linter.unusedSimpArgs false

/-! ### plain words -/
def wsZ (x y : ArgV) : Bool := worseV x.k x.a y.k y.a
def zeroZ : ArgV := ⟨0, 0, 0, [], none, 0, 0⟩
def minZ (m : ArgV) (zs : List ArgV) : ArgV := zs.foldl (fun m x => if wsZ x m then x else m) m
/-- The worst of some verdicts, the first of equals. -/
def foldZ : List ArgV → ArgV
  | [] => zeroZ
  | z :: zs => minZ z zs
theorem minZ_snoc (m : ArgV) (zs : List ArgV) (x : ArgV) : minZ m (zs ++ [x]) = if wsZ x (minZ m zs) then x else minZ m zs := by
  unfold minZ
  rw [List.foldl_append]
  rfl
theorem foldZ_step (zs : List ArgV) (j : Nat) (h0 : 0 < j) (hj : j < zs.length) : foldZ (zs.take (j + 1)) = if wsZ zs[j] (foldZ (zs.take j)) then zs[j] else foldZ (zs.take j) := by
  rw [List.take_succ_eq_append_getElem hj]
  match hz : zs.take j with
  | [] =>
    have := congrArg List.length hz
    rw [List.length_take, List.length_nil] at this
    omega
  | z :: r => exact minZ_snoc z r _
theorem minZ_mem (m : ArgV) (zs : List ArgV) : minZ m zs = m ∨ minZ m zs ∈ zs := by
  induction zs generalizing m with
  | nil => exact .inl rfl
  | cons x zs ih =>
    have e : minZ m (x :: zs) = minZ (if wsZ x m then x else m) zs := rfl
    rw [e]
    rcases ih (if wsZ x m then x else m) with h | h
    · rw [h]
      split
      · exact .inr (.head _)
      · exact .inl rfl
    · exact .inr (.tail _ h)
theorem foldZ_mem (zs : List ArgV) (h : zs ≠ []) : foldZ zs ∈ zs := by
  cases zs with
  | nil => exact absurd rfl h
  | cons z zs =>
    rcases minZ_mem z zs with h | h
    · show minZ z zs ∈ z :: zs
      rw [h]
      exact .head _
    · exact .tail _ h

/-- A verdict's cells at an address. -/
def CellsZ (w : World) (a : Addr) (z : ArgV) : Prop := w.cell? a = some (.int .i64 z.k) ∧ w.cell? ⟨a.block, a.off + 1, none⟩ = some (.int .i64 z.c) ∧ w.cell? ⟨a.block, a.off + 2, none⟩ = some (.int .i64 z.s) ∧ w.cell? ⟨a.block, a.off + 3, none⟩ = some (.slice z.A z.d.length z.m) ∧ w.cell? ⟨a.block, a.off + 4, none⟩ = some (.int .i64 z.a)
theorem CellsZ.keep {w w' : World} {a : Addr} {z : ArgV} (h : CellsZ w a z) (k : Kp NoB w w') : CellsZ w' a z := by
  obtain ⟨h0, h1, h2, h3, h4⟩ := h
  exact ⟨k.cell h0 (fun q => q), k.cell (p := ⟨a.block, a.off + 1, none⟩) h1 (fun q => q), k.cell (p := ⟨a.block, a.off + 2, none⟩) h2 (fun q => q), k.cell (p := ⟨a.block, a.off + 3, none⟩) h3 (fun q => q), k.cell (p := ⟨a.block, a.off + 4, none⟩) h4 (fun q => q)⟩
theorem vs_cells {w : World} {A : Option Addr} {zs : List ArgV} (h : VsL w A zs) {j : Nat} (hj : j < zs.length) : ∃ ad, A = some ad ∧ CellsZ w (ad.add (j * 5)) zs[j] := by
  obtain ⟨ad, e, h0, h1, h2, h3, h4⟩ := vs_at h hj
  exact ⟨ad, e, h0, h1, h2, h3, h4⟩

/-! ### the closure -/
def cmpZ (x y : ArgV) : Int := if wsZ x y then -1 else if wsZ y x then 1 else 0
set_option maxRecDepth 100000 in
set_option maxHeartbeats 1600000 in
theorem fold1_any (x y : ArgV) (w : World) : Calls Tryd.prog 38 #[x.val, y.val] w (Stay (.int .i64 (cmpZ x y)) w) := by
  obtain ⟨k, c, s, d, A, m, a⟩ := x
  obtain ⟨k', c', s', d', A', m', a'⟩ := y
  have H1 := Lib.hid (fun n n' W => fworse_any k c s A n m a k' c' s' A' n' m' a' W)
  have H2 := Lib.hid (fun n n' W => fworse_any k' c' s' A' n m' a' k c s A n' m a W)
  unfold cmpZ wsZ ArgV.val
  simp only
  obtain ⟨X, hX⟩ : ∃ x, worseV k a k' a' = x := ⟨_, rfl⟩
  obtain ⟨Y, hY⟩ : ∃ x, worseV k' a' k a = x := ⟨_, rfl⟩
  rw [hX] at H1 ⊢
  rw [hY] at H2 ⊢
  clear hX hY
  obtain ⟨n, hn⟩ : ∃ n, d.length = n := ⟨_, rfl⟩
  obtain ⟨n', hn'⟩ : ∃ n, d'.length = n := ⟨_, rfl⟩
  rw [hn, hn']
  replace H1 := Lib.hid (H1.out n n')
  replace H2 := Lib.hid (H2.out n' n)
  clear hn hn'
  cases X
  · cases Y
    all_goals
      go_enter Tryd.func38, Tryd.ntmps38
      go_wp2_with (first
        | (go_at_call 14; (with_reducible refine Calls.mono (H1.out _) ?_); rintro e w1 ⟨rfl, hK⟩; have hk1 := Lib.hid ((((Kp.refl NoB w).alloc _).alloc _).and hK); obtain ⟨x0, x1, x2, x3, x4⟩ := (((Bk.fresh w 24 _).alloc _).and hK).five; obtain ⟨y0, y1, y2, y3, y4⟩ := ((Bk.second w _ 24 _).and hK).five; clear hK)
        | (go_at_call 14; (with_reducible refine Calls.mono (H2.out _) ?_); rintro e w2 ⟨rfl, hK⟩; have hk2 := Lib.hid (hk1.out.and hK); clear hK))
      go_ret
      exact ⟨rfl, hk2.out⟩
  · go_enter Tryd.func38, Tryd.ntmps38
    go_wp2_with (go_at_call 14; (with_reducible refine Calls.mono (H1.out _) ?_); rintro e w1 ⟨rfl, hK⟩; have hk1 := Lib.hid ((((Kp.refl NoB w).alloc _).alloc _).and hK); clear hK)
    go_ret
    exact ⟨rfl, hk1.out⟩

/-- A whole verdict laid into its block. -/
theorem set5 {w : World} {b : Nat} {t : TypeId} {u0 u1 u2 u3 u4 : Value} (h : Bk w b t #[u0, u1, u2, u3, u4]) (v0 v1 v2 v3 v4 : Value) :
    Bk (((((w.setCell ⟨b, 0, none⟩ v0).setCell ⟨b, 1, none⟩ v1).setCell ⟨b, 2, none⟩ v2).setCell ⟨b, 3, none⟩ v3).setCell ⟨b, 4, none⟩ v4) b t #[v0, v1, v2, v3, v4] := by
  have h2 := ((((h.set 0 v0).set 1 v1).set 2 v2).set 3 v3).set 4 v4
  simp only [List.setIfInBounds_toArray, List.set_cons_zero, List.set_cons_succ] at h2
  exact h2
theorem far5 {w : World} {b c : Nat} {t : TypeId} {cs : Array Value} (h : Bk w c t cs) (hne : c ≠ b) (v0 v1 v2 v3 v4 : Value) :
    Bk (((((w.setCell ⟨b, 0, none⟩ v0).setCell ⟨b, 1, none⟩ v1).setCell ⟨b, 2, none⟩ v2).setCell ⟨b, 3, none⟩ v3).setCell ⟨b, 4, none⟩ v4) c t cs :=
  ((((h.far hne v0).far hne v1).far hne v2).far hne v3).far hne v4
theorem kp5 {w0 w : World} {b : Nat} (h : Kp NoB w0 w) (hb : w0.heap.size ≤ b) (v0 v1 v2 v3 v4 : Value) : Kp NoB w0 (((((w.setCell ⟨b, 0, none⟩ v0).setCell ⟨b, 1, none⟩ v1).setCell ⟨b, 2, none⟩ v2).setCell ⟨b, 3, none⟩ v3).setCell ⟨b, 4, none⟩ v4) :=
  ((((h.setCell (fun q => absurd q (Nat.not_lt.2 hb)) v0).setCell (fun q => absurd q (Nat.not_lt.2 hb)) v1).setCell (fun q => absurd q (Nat.not_lt.2 hb)) v2).setCell (fun q => absurd q (Nat.not_lt.2 hb)) v3).setCell (fun q => absurd q (Nat.not_lt.2 hb)) v4

set_option maxRecDepth 100000 in
set_option maxHeartbeats 3200000 in
theorem minFunc_any (A : Option Addr) (c : Nat) (zs : List ArgV) (w : World) (h : VsL w A zs) (h0 : 0 < zs.length) (hn : zs.length ≤ 1000) :
    Calls Tryd.prog 37 #[.slice A zs.length c, .func (.func 38) #[] #[]] w (Stay (foldZ zs).val w) := by
  have HA := Lib.hid h
  clear h
  obtain ⟨ad, rfl, x0, x1, x2, x3, x4⟩ := vs_at HA.out h0
  have hf1 : foldZ (zs.take 1) = zs[0] := by
    rw [List.take_succ_eq_append_getElem h0]
    rfl
  obtain ⟨z0, hz0⟩ : ∃ z, zs[0] = z := ⟨_, rfl⟩
  rw [hz0] at x0 x1 x2 x3 x4 hf1
  rw [show (0 : Nat) * 5 = 0 from rfl, add_zero] at x0 x1 x2 x3 x4
  have HF1 := Lib.hid hf1
  obtain ⟨n, hnn⟩ : ∃ n, zs.length = n := ⟨_, rfl⟩
  have HN := Lib.hid hnn
  rw [hnn] at hn h0 ⊢
  have h0' : ¬ (n : Int) < 1 := by omega
  have h0'' : (0 : Int) < n := by omega
  have HZ0 := Lib.hid (Bk.fresh w 24 zeroZ.cs.toArray)
  have HM0 := Lib.hid (Bk.second w (.cells zeroZ.cs.toArray 24) 24 z0.cs.toArray)
  have la : ad.block < w.heap.size := World.block_lt_of_cell? w _ x0
  have na := Nat.ne_of_lt la
  clear hnn hf1 hz0
  go_enter Tryd.func37, Tryd.ntmps37
  go_wp2
  go_loopw [6] (fun i wr => ∃ j : Nat, 1 ≤ j ∧ j ≤ n ∧ i = .int .i64 j ∧ Hid (Kp NoB w wr) ∧ Hid (Bk wr w.heap.size 24 zeroZ.cs.toArray) ∧ Hid (Bk wr (w.heap.size + 1) 24 (foldZ (zs.take j)).cs.toArray)) (fun i _ => n - (intOf i).toNat)
  case atStart => exact ⟨1, Nat.le_refl _, h0, rfl, Lib.hid (((Kp.refl _ _).alloc _).alloc _), Lib.hid (HZ0.out.alloc _), Lib.hid (by rw [HF1.out]; exact HM0.out)⟩
  case round =>
    obtain ⟨j, hj1, hj, rfl, HK, HZ, HM⟩ := hrel
    clear x0 x1 x2 x3 x4
    by_cases hlt : j < n
    · have hjl : j < zs.length := by rw [HN.out]; exact hlt
      obtain ⟨ad', e, hca⟩ := vs_cells (HA.out.and HK.out) hjl
      cases e
      have hst := foldZ_step zs j (by omega) hjl
      obtain ⟨z, hz⟩ : ∃ z, zs[j] = z := ⟨_, rfl⟩
      obtain ⟨y, hy⟩ : ∃ y, foldZ (zs.take j) = y := ⟨_, rfl⟩
      rw [hz, hy] at hst
      rw [hz] at hca
      rw [hy] at HM
      have HS := Lib.hid hst
      have CA := Lib.hid hca
      have hc := fun W => fold1_any z y W
      obtain ⟨x0, x1, x2, x3, x4⟩ := hca
      obtain ⟨y0, y1, y2, y3, y4⟩ := HM.out.five
      clear hz hy hst
      obtain ⟨V, hV⟩ : ∃ V, wsZ z y = V := ⟨_, rfl⟩
      rw [hV] at HS
      cases V
      · obtain ⟨q, hq, hq0⟩ : ∃ q, cmpZ z y = q ∧ ¬ q < 0 := ⟨_, rfl, by unfold cmpZ; rw [hV]; simp only [Bool.false_eq_true, if_false]; split <;> decide⟩
        rw [hq] at hc
        have HCz := Lib.hid hc
        clear hc hq hV
        unfold ArgV.val at HCz
        go_wp2
        go_region_held3 (fun w' => w'.cell? (ad.add (j * 5)) = some (.int .i64 z.k) ∧ w'.cell? ⟨(ad.add (j * 5)).block, (ad.add (j * 5)).off + 1, none⟩ = some (.int .i64 z.c) ∧ w'.cell? ⟨(ad.add (j * 5)).block, (ad.add (j * 5)).off + 2, none⟩ = some (.int .i64 z.s) ∧ w'.cell? ⟨(ad.add (j * 5)).block, (ad.add (j * 5)).off + 3, none⟩ = some (.slice z.A z.d.length z.m) ∧ w'.cell? ⟨(ad.add (j * 5)).block, (ad.add (j * 5)).off + 4, none⟩ = some (.int .i64 z.a) ∧ w'.cell? ⟨w.heap.size + 1, 0, none⟩ = some (.int .i64 y.k) ∧ w'.cell? ⟨w.heap.size + 1, 1, none⟩ = some (.int .i64 y.c) ∧ w'.cell? ⟨w.heap.size + 1, 2, none⟩ = some (.int .i64 y.s) ∧ w'.cell? ⟨w.heap.size + 1, 3, none⟩ = some (.slice y.A y.d.length y.m) ∧ w'.cell? ⟨w.heap.size + 1, 4, none⟩ = some (.int .i64 y.a)) (go_keep)
          ((go_at_call 38; (with_reducible refine Calls.mono (HCz.out _) ?_); rintro e w2 ⟨rfl, hK⟩; have hk2 := Lib.hid (HK.out.drew.and hK); have hz2 := Lib.hid (Bk.and (show Bk (World.drew _) _ _ _ from HZ.out) hK); have hm2 := Lib.hid (Bk.and (show Bk (World.drew _) _ _ _ from HM.out) hK); have ca2 := Lib.hid (show CellsZ w2 (ad.add (j * 5)) z from CA.out.keep (show Kp NoB wr w2 from (Kp.refl NoB wr).drew.and hK)); clear x0 x1 x2 x3 x4 y0 y1 y2 y3 y4 hK; obtain ⟨x0, x1, x2, x3, x4⟩ := ca2.out; obtain ⟨y0, y1, y2, y3, y4⟩ := hm2.out.five; have f0 := hm2.out.frozen 0; have f1 := hm2.out.frozen 1; have f2 := hm2.out.frozen 2; have f3 := hm2.out.frozen 3; have f4 := hm2.out.frozen 4))
        go_wp2
        go_roundw
        case rel => exact ⟨j + 1, by omega, by omega, by go_num, hk2, hz2, Lib.hid (by rw [HS.out]; exact hm2.out)⟩
        case measure => simp [intOf]; omega
      · obtain hq : cmpZ z y = -1 := by unfold cmpZ; rw [hV]; rfl
        rw [hq] at hc
        have HCz := Lib.hid hc
        clear hc hq hV
        unfold ArgV.val at HCz
        go_wp2
        go_region_held3 (fun w' => w'.cell? (ad.add (j * 5)) = some (.int .i64 z.k) ∧ w'.cell? ⟨(ad.add (j * 5)).block, (ad.add (j * 5)).off + 1, none⟩ = some (.int .i64 z.c) ∧ w'.cell? ⟨(ad.add (j * 5)).block, (ad.add (j * 5)).off + 2, none⟩ = some (.int .i64 z.s) ∧ w'.cell? ⟨(ad.add (j * 5)).block, (ad.add (j * 5)).off + 3, none⟩ = some (.slice z.A z.d.length z.m) ∧ w'.cell? ⟨(ad.add (j * 5)).block, (ad.add (j * 5)).off + 4, none⟩ = some (.int .i64 z.a) ∧ w'.cell? ⟨w.heap.size + 1, 0, none⟩ = some (.int .i64 y.k) ∧ w'.cell? ⟨w.heap.size + 1, 1, none⟩ = some (.int .i64 y.c) ∧ w'.cell? ⟨w.heap.size + 1, 2, none⟩ = some (.int .i64 y.s) ∧ w'.cell? ⟨w.heap.size + 1, 3, none⟩ = some (.slice y.A y.d.length y.m) ∧ w'.cell? ⟨w.heap.size + 1, 4, none⟩ = some (.int .i64 y.a)) (go_keep)
          ((go_at_call 38; (with_reducible refine Calls.mono (HCz.out _) ?_); rintro e w2 ⟨rfl, hK⟩; have hk2 := Lib.hid (HK.out.drew.and hK); have hz2 := Lib.hid (Bk.and (show Bk (World.drew _) _ _ _ from HZ.out) hK); have hm2 := Lib.hid (Bk.and (show Bk (World.drew _) _ _ _ from HM.out) hK); have ca2 := Lib.hid (show CellsZ w2 (ad.add (j * 5)) z from CA.out.keep (show Kp NoB wr w2 from (Kp.refl NoB wr).drew.and hK)); clear x0 x1 x2 x3 x4 y0 y1 y2 y3 y4 hK; obtain ⟨x0, x1, x2, x3, x4⟩ := ca2.out; obtain ⟨y0, y1, y2, y3, y4⟩ := hm2.out.five; have f0 := hm2.out.frozen 0; have f1 := hm2.out.frozen 1; have f2 := hm2.out.frozen 2; have f3 := hm2.out.frozen 3; have f4 := hm2.out.frozen 4))
        go_wp2
        go_roundw
        case rel => exact ⟨j + 1, by omega, by omega, by go_num, Lib.hid (kp5 hk2.out (Nat.le_succ _) _ _ _ _ _), Lib.hid (far5 hz2.out (Nat.ne_of_lt (Nat.lt_succ_self _)) _ _ _ _ _), Lib.hid (by rw [HS.out]; exact set5 hm2.out _ _ _ _ _)⟩
        case measure => simp [intOf]; omega
    · have hj' : j = n := by omega
      have ht : zs.take j = zs := List.take_of_length_le (by rw [HN.out]; omega)
      rw [ht] at HM
      obtain ⟨y, hy⟩ : ∃ y, foldZ zs = y := ⟨_, rfl⟩
      have HY := Lib.hid hy
      rw [hy] at HM
      clear hy ht
      obtain ⟨y0, y1, y2, y3, y4⟩ := HM.out.five
      obtain ⟨z0', z1, z2, z3, z4⟩ := HZ.out.five
      have f0 := HZ.out.frozen 0
      have f1 := HZ.out.frozen 1
      have f2 := HZ.out.frozen 2
      have f3 := HZ.out.frozen 3
      have f4 := HZ.out.frozen 4
      go_wp2
      refine bodyPost_ret (v := y.val) (results_cell_row (fn := Tryd.f37) rfl _ _ w.heap.size 24 _ (0, 0) _ rfl (set5 HZ.out _ _ _ _ _) Tryd.underlying24 rfl (by kernel_rfl)) rfl ⟨by rw [HY.out], kp5 HK.out (Nat.le_refl _) _ _ _ _ _⟩

end Go.Proofs.YtknaogpkakdcoaaDoor
