/- basic.Valid: its contract. No condition but the bounds that arguments have. -/
import Derived.Test.YthgcfoednhdbcaaDoorBasC
import Derived.Deep.RegionHeld3
import Derived.Laws.EntriesVeiled
namespace Go.Proofs.YthgcfoednhdbcaaDoor
open Go.RowKit
set_option linter.unusedVariables false
set_option linter.unusedSimpArgs false

/-- A type's number of bytes, greatest number and kind of an error. -/
def wdO (k : Int) : Option (Int × Int × Int) :=
  if k = 1 then some (1, 2, 2) else if k = 3 ∨ k = 4 ∨ k = 5 ∨ k = 9 then some (4, 4294967295, 2) else if k = 6 then some (0, 0, 1) else none

theorem zeroRow (w : World) : (zeroValue 51).run Tryd.prog w = .ok (.agg #[.int .i64 0, .int .u32 0, .int .i64 0, .nilFunc]) w := by kernel_rfl
theorem wf_i64 (k : Int) (h : -9223372036854775808 ≤ k ∧ k ≤ 9223372036854775807) : (Lit.int .i64 k).wf = true := by
  simp [Lit.wf, IntKind.min, IntKind.max, IntKind.signed, IntKind.bits]
  omega

theorem rowsF_some (v1 v3 v4 v5 v9 : Value) {k a m c : Int} (h : wdO k = some (a, m, c)) : ∃ v, rowsF v1 v3 v4 v5 v9 k = some (rowV a m c v) ∧
    (k = 1 ∧ v = v1 ∨ k = 3 ∧ v = v3 ∨ k = 4 ∧ v = v4 ∨ k = 5 ∧ v = v5 ∨ k = 9 ∧ v = v9 ∨ k = 6 ∧ v = .func (.func 41) #[] #[]) := by
  unfold wdO at h
  split at h
  · rename_i h1
    subst h1
    cases h
    exact ⟨v1, rfl, .inl ⟨rfl, rfl⟩⟩
  · split at h
    · rename_i h1
      cases h
      rcases h1 with rfl | rfl | rfl | rfl
      · exact ⟨_, rfl, .inr (.inl ⟨rfl, rfl⟩)⟩
      · exact ⟨_, rfl, .inr (.inr (.inl ⟨rfl, rfl⟩))⟩
      · exact ⟨_, rfl, .inr (.inr (.inr (.inl ⟨rfl, rfl⟩)))⟩
      · exact ⟨_, rfl, .inr (.inr (.inr (.inr (.inl ⟨rfl, rfl⟩))))⟩
    · split at h
      · rename_i h1
        subst h1
        cases h
        exact ⟨_, rfl, .inr (.inr (.inr (.inr (.inr ⟨rfl, rfl⟩))))⟩
      · cases h
theorem rowsF_none (v1 v3 v4 v5 v9 : Value) {k : Int} (h : wdO k = none) : rowsF v1 v3 v4 v5 v9 k = none := by
  unfold wdO at h
  unfold rowsF
  split at h
  · cases h
  · split at h
    · cases h
    · split at h
      · cases h
      · rename_i h1 h2 h3
        simp only [not_or] at h2
        rw [if_neg h1, if_neg h2.1, if_neg h2.2.1, if_neg h2.2.2.1, if_neg h2.2.2.2, if_neg h3]

/-- A row's closure, whatever it is. -/
theorem RowsAt.form {w : World} {b : Nat} {v1 v3 v4 v5 v9 : Value} (h : RowsAt w b v1 v3 v4 v5 v9) {k a m c : Int} (hk : wdO k = some (a, m, c)) :
    ∃ F X Y, rowsF v1 v3 v4 v5 v9 k = some (.agg #[.int .i64 a, .int .u32 m, .int .i64 c, .func F X Y]) := by
  obtain ⟨v, h1, h2⟩ := rowsF_some v1 v3 v4 v5 v9 hk
  rw [h1]
  unfold rowV
  rcases h2 with ⟨_, rfl⟩ | ⟨_, rfl⟩ | ⟨_, rfl⟩ | ⟨_, rfl⟩ | ⟨_, rfl⟩ | ⟨_, rfl⟩
  · obtain ⟨B, C, rfl, _⟩ := h.c1; exact ⟨_, _, _, rfl⟩
  · obtain ⟨B, C, rfl, _⟩ := h.c3; exact ⟨_, _, _, rfl⟩
  · obtain ⟨B, C, rfl, _⟩ := h.c4; exact ⟨_, _, _, rfl⟩
  · obtain ⟨B, C, rfl, _⟩ := h.c5; exact ⟨_, _, _, rfl⟩
  · obtain ⟨B, C, rfl, _⟩ := h.c9; exact ⟨_, _, _, rfl⟩
  · exact ⟨_, _, _, rfl⟩
theorem RowsAt.look_some {w : World} {b : Nat} {v1 v3 v4 v5 v9 : Value} (h : RowsAt w b v1 v3 v4 v5 v9) {k a m c : Int} (hk : wdO k = some (a, m, c)) (wk : -9223372036854775808 ≤ k ∧ k ≤ 9223372036854775807) :
    ∃ F X Y, ∀ W, Kp NoB w W → (Instr.lookup 52 (.map (some b)) (.int .i64 k) true).run Tryd.prog W = .ok (.tuple #[.agg #[.int .i64 a, .int .u32 m, .int .i64 c, .func F X Y], .bool true]) W := by
  obtain ⟨F, X, Y, hf⟩ := h.form hk
  refine ⟨F, X, Y, fun W hK => ?_⟩
  rw [(h.and hK).map.look Tryd.underlying3 Tryd.underlying52 (zeroRow W) (wf_i64 k wk), hf]
  rfl
theorem RowsAt.look_none {w : World} {b : Nat} {v1 v3 v4 v5 v9 : Value} (h : RowsAt w b v1 v3 v4 v5 v9) {k : Int} (hk : wdO k = none) (wk : -9223372036854775808 ≤ k ∧ k ≤ 9223372036854775807) :
    ∀ W, Kp NoB w W → (Instr.lookup 52 (.map (some b)) (.int .i64 k) true).run Tryd.prog W = .ok (.tuple #[.agg #[.int .i64 0, .int .u32 0, .int .i64 0, .nilFunc], .bool false]) W := by
  intro W hK
  rw [(h.and hK).map.look Tryd.underlying3 Tryd.underlying52 (zeroRow W) (wf_i64 k wk), rowsF_none _ _ _ _ _ hk]
  rfl

/-- Is the type handled here? -/
def hasB (k : Int) : Bool := (wdO k).isSome

theorem has_any (k : Int) (wk : -9223372036854775808 ≤ k ∧ k ≤ 9223372036854775807) (w : World) : Calls Tryd.prog 24 #[.int .i64 k] w (Stay (.bool (hasB k)) w) := by
  unfold hasB
  cases hk : wdO k with
  | none =>
    go_enter Tryd.func24, Tryd.ntmps24
    go_wp2_with (go_at_call 32; refine (rows_any _).mono ?_; rintro e w1 ⟨b, v1, v3, v4, v5, v9, rfl, hR, hK⟩; have hl := hR.look_none hk wk w1 (Kp.refl _ _))

    go_ret
    exact ⟨rfl, hK.alloc _⟩
  | some r =>
    obtain ⟨a, m, c⟩ := r
    go_enter Tryd.func24, Tryd.ntmps24
    go_wp2_with (go_at_call 32; refine (rows_any _).mono ?_; rintro e w1 ⟨b, v1, v3, v4, v5, v9, rfl, hR, hK⟩; obtain ⟨F, X, Y, hl'⟩ := hR.look_some hk wk; have hl := hl' w1 (Kp.refl _ _); clear hl')
    go_ret
    exact ⟨rfl, hK.alloc _⟩

/-- basic.Valid. -/
def validA (z : AtI) : Bool := match wdO z.t with
  | none => false
  | some (_, m, _) => plainB z [z.n] && decide (z.n ≤ m)

theorem bk_drew {w : World} {b : Nat} {t : TypeId} {cs : Array Value} (h : Bk w b t cs) : Bk w.drew b t cs := h
theorem bk_second_drew (w : World) (o : Obj) (t : TypeId) (cs : Array Value) : Bk (((w.alloc o).drew).alloc (.cells cs t)) (w.heap.size + 1) t cs := Bk.second w o t cs
theorem arm_a {w w1 : World} {z : AtI} (hK : Kp NoB ((w.alloc (.cells z.cs 28)).drew) w1) : Bk w1 w.heap.size 28 z.cs ∧ w.heap.size < w1.heap.size ∧ Kp NoB w w1 := by
  have h := Bk.and (bk_drew (Bk.fresh w 28 z.cs)) hK
  exact ⟨h, h.lt, (((Kp.refl NoB w).alloc _).drew).and hK⟩
theorem arm_b {w w1 : World} {z : AtI} {t : TypeId} {cs : Array Value} (hK : Kp NoB (((w.alloc (.cells z.cs 28)).drew).alloc (.cells cs t)) w1) : Bk w1 w.heap.size 28 z.cs ∧ Bk w1 (w.heap.size + 1) t cs ∧ w.heap.size + 1 < w1.heap.size ∧ Kp NoB w w1 := by
  have h := Bk.and (Bk.alloc (bk_drew (Bk.fresh w 28 z.cs)) (.cells cs t)) hK
  have h2 := Bk.and (bk_second_drew w (.cells z.cs 28) t cs) hK
  exact ⟨h, h2, h2.lt, ((((Kp.refl NoB w).alloc _).drew).alloc _).and hK⟩
theorem kp_row4 {w w1 : World} (h : Kp NoB w w1) (a b c d : Value) : Kp NoB w ((((w1.setCell ⟨w.heap.size + 1, 0, none⟩ a).setCell ⟨w.heap.size + 1, 1, none⟩ b).setCell ⟨w.heap.size + 1, 2, none⟩ c).setCell ⟨w.heap.size + 1, 3, none⟩ d) :=
  (((h.setCell (fun q => absurd q (by simp)) a).setCell (fun q => absurd q (by simp)) b).setCell (fun q => absurd q (by simp)) c).setCell (fun q => absurd q (by simp)) d
theorem arr_one {W : World} {b : Nat} {v : Value} (h : W.cell? ⟨b, 0, none⟩ = some v) : Arr W (some ⟨b, 0, none⟩) [v] := fun _ =>
  ⟨_, rfl, fun j u hu => by
    match j, hu with
    | 0, hu => cases hu; exact h
    | j + 1, hu => cases hu⟩
theorem plain_one (z : AtI) (ok : z.Ok) (A : Option Addr) (w : World) (ha : Arr w A [.int .u32 z.n]) :
    Calls Tryd.prog 10 #[.agg #[.int .i64 z.t, .bool z.p, .int .u32 z.n, .int .u32 z.m, .slice z.S z.sn z.sc, .slice z.L z.ln z.lc, .slice z.B z.bn z.bc, .int .i64 z.f, .slice z.R z.rn z.rc], .slice A 1 1] w (Stay (.bool (plainB z [z.n])) w) :=
  plain_any z ok A 1 [z.n] w ha (by simp)

set_option maxRecDepth 100000 in
set_option maxHeartbeats 4000000 in
theorem valid_none (z : AtI) (ok : z.Ok) (hk : wdO z.t = none) (w : World) : Calls Tryd.prog 22 #[z.val] w (Stay (.bool false) w) := by
  unfold AtI.val AtI.cs
  have wk := ok.t
  go_enter Tryd.func22, Tryd.ntmps22
  go_wp2
  go_region_held3 (fun w' => w'.cell? ⟨w.heap.size, 0, none⟩ = some (.int .i64 z.t) ∧ w'.cell? ⟨w.heap.size, 1, none⟩ = some (.bool z.p) ∧ w'.cell? ⟨w.heap.size, 2, none⟩ = some (.int .u32 z.n) ∧ w'.cell? ⟨w.heap.size, 3, none⟩ = some (.int .u32 z.m) ∧ w'.cell? ⟨w.heap.size, 4, none⟩ = some (.slice z.S z.sn z.sc) ∧ w'.cell? ⟨w.heap.size, 5, none⟩ = some (.slice z.L z.ln z.lc) ∧ w'.cell? ⟨w.heap.size, 6, none⟩ = some (.slice z.B z.bn z.bc) ∧ w'.cell? ⟨w.heap.size, 7, none⟩ = some (.int .i64 z.f) ∧ w'.cell? ⟨w.heap.size, 8, none⟩ = some (.slice z.R z.rn z.rc)) (go_keep)
    (first
      | (go_at_call 32; refine (rows_any _).mono ?_; rintro e w1 ⟨b, v1, v3, v4, v5, v9, rfl, hR, hK⟩; obtain ⟨hbA, hlt, hkw⟩ := arm_a (z := z) hK; have hl := hR.look_none hk wk w1 (Kp.refl _ _); have hl2 := hR.look_none hk wk (w1.alloc (.cells #[.int .i64 0, .int .u32 0, .int .i64 0, .nilFunc] 51)) ((Kp.refl _ _).alloc _); have hne := Nat.ne_of_lt hlt; obtain ⟨x0, x1, x2, x3, x4, x5, x6, x7, x8⟩ := hbA.attr)
      | (go_at_call 32; refine (rows_any _).mono ?_; rintro e w1 ⟨b, v1, v3, v4, v5, v9, rfl, hR, hK⟩; obtain ⟨hbA, hbR, hlt, hkw⟩ := arm_b (z := z) hK; have hl := hR.look_none hk wk w1 (Kp.refl _ _); obtain ⟨x0, x1, x2, x3, x4, x5, x6, x7, x8⟩ := hbA.attr; have r0 := hbR.cell 0; have r1 := hbR.cell 1; have r2 := hbR.cell 2; have r3 := hbR.cell 3; have f0 := hbR.frozen 0; have f1 := hbR.frozen 1; have f2 := hbR.frozen 2; have f3 := hbR.frozen 3))
  all_goals
    go_wp2
    go_ret
    first | exact ⟨rfl, hkw.alloc _⟩ | exact ⟨rfl, kp_row4 hkw _ _ _ _⟩

theorem row4_m {w w1 : World} {t : TypeId} (h : Bk w1 (w.heap.size + 1) t #[.int .i64 0, .int .u32 0, .int .i64 0, .nilFunc]) (a m c : Int) (F : Fn) (X Y : Array Value) (o : Obj) :
    (((((w1.setCell ⟨w.heap.size + 1, 0, none⟩ (.int .i64 a)).setCell ⟨w.heap.size + 1, 1, none⟩ (.int .u32 m)).setCell ⟨w.heap.size + 1, 2, none⟩ (.int .i64 c)).setCell ⟨w.heap.size + 1, 3, none⟩ (.func F X Y)).alloc o).cell? ⟨w.heap.size + 1, 1, none⟩ = some (.int .u32 m) :=
  (((((h.set 0 (.int .i64 a)).set 1 (.int .u32 m)).set 2 (.int .i64 c)).set 3 (.func F X Y)).alloc o).cell 1

theorem row4_n {w w1 : World} {t : TypeId} {z : AtI} (h : Bk w1 w.heap.size t z.cs) (a b c d : Value) (o : Obj) :
    (((((w1.setCell ⟨w.heap.size + 1, 0, none⟩ a).setCell ⟨w.heap.size + 1, 1, none⟩ b).setCell ⟨w.heap.size + 1, 2, none⟩ c).setCell ⟨w.heap.size + 1, 3, none⟩ d).alloc o).cell? ⟨w.heap.size, 2, none⟩ = some (.int .u32 z.n) :=
  (((((h.far (by simp) a).far (by simp) b).far (by simp) c).far (by simp) d).alloc o).cell 2
theorem new_b (w1 : World) (p q r s : Addr) (a b c d : Value) (v : Value) (t : TypeId) :
    (((((w1.setCell p a).setCell q b).setCell r c).setCell s d).alloc (.cells #[v] t)).cell? ⟨w1.heap.size, 0, none⟩ = some v := by
  have h := Bk.fresh ((((w1.setCell p a).setCell q b).setCell r c).setCell s d) t #[v]
  have e : ((((w1.setCell p a).setCell q b).setCell r c).setCell s d).heap.size = w1.heap.size := by simp
  rw [e] at h
  exact h.cell 0

set_option maxRecDepth 100000 in
set_option maxHeartbeats 800000 in
theorem valid_some (z : AtI) (ok : z.Ok) (a m c : Int) (hk : wdO z.t = some (a, m, c)) (w : World) : Calls Tryd.prog 22 #[z.val] w (Stay (.bool (plainB z [z.n] && decide (z.n ≤ m))) w) := by
  unfold AtI.val AtI.cs
  have wk := ok.t
  have HP := Lib.hid (fun A W ha => plain_one z ok A W ha)
  obtain ⟨P, hP⟩ : ∃ P, plainB z [z.n] = P := ⟨_, rfl⟩
  rw [hP] at HP ⊢
  go_enter Tryd.func22, Tryd.ntmps22
  go_wp2
  go_region_held3 (fun w' => w'.cell? ⟨w.heap.size, 0, none⟩ = some (.int .i64 z.t) ∧ w'.cell? ⟨w.heap.size, 1, none⟩ = some (.bool z.p) ∧ w'.cell? ⟨w.heap.size, 2, none⟩ = some (.int .u32 z.n) ∧ w'.cell? ⟨w.heap.size, 3, none⟩ = some (.int .u32 z.m) ∧ w'.cell? ⟨w.heap.size, 4, none⟩ = some (.slice z.S z.sn z.sc) ∧ w'.cell? ⟨w.heap.size, 5, none⟩ = some (.slice z.L z.ln z.lc) ∧ w'.cell? ⟨w.heap.size, 6, none⟩ = some (.slice z.B z.bn z.bc) ∧ w'.cell? ⟨w.heap.size, 7, none⟩ = some (.int .i64 z.f) ∧ w'.cell? ⟨w.heap.size, 8, none⟩ = some (.slice z.R z.rn z.rc)) (go_keep)
    (first
      | (go_at_call 32; refine (rows_any _).mono ?_; rintro e w1 ⟨b, v1, v3, v4, v5, v9, rfl, hR, hK⟩; obtain ⟨hbA, hlt, hkw⟩ := arm_a (z := z) hK; obtain ⟨F, X, Y, hl'⟩ := hR.look_some hk wk; have hl := hl' w1 (Kp.refl _ _); have hl2 := hl' (w1.alloc (.cells #[.int .i64 0, .int .u32 0, .int .i64 0, .nilFunc] 51)) ((Kp.refl _ _).alloc _); clear hl'; have hne := Nat.ne_of_lt hlt; obtain ⟨x0, x1, x2, x3, x4, x5, x6, x7, x8⟩ := hbA.attr)
      | (go_at_call 32; refine (rows_any _).mono ?_; rintro e w1 ⟨b, v1, v3, v4, v5, v9, rfl, hR, hK⟩; obtain ⟨hbA, hbR, hlt, hkw⟩ := arm_b (z := z) hK; obtain ⟨F, X, Y, hl'⟩ := hR.look_some hk wk; have hl := hl' w1 (Kp.refl _ _); clear hl'; obtain ⟨x0, x1, x2, x3, x4, x5, x6, x7, x8⟩ := hbA.attr; have r0 := hbR.cell 0; have r1 := hbR.cell 1; have r2 := hbR.cell 2; have r3 := hbR.cell 3; have f0 := hbR.frozen 0; have f1 := hbR.frozen 1; have f2 := hbR.frozen 2; have f3 := hbR.frozen 3))
  · go_wp2_with (go_at_call 10; refine Calls.mono (HP.out _ _ ?_) ?_; (refine arr_one ?_; go_keep); rintro e w2 ⟨rfl, hK2⟩; have n2 : w2.cell? ⟨w.heap.size, 2, none⟩ = some (.int .u32 z.n) := (hK2.cell (by go_keep) (fun q => q)); have m2 : w2.cell? ⟨w1.heap.size, 1, none⟩ = some (.int .u32 m) := (hK2.cell (by go_keep) (fun q => q)); have hk2 := Lib.hid (((hkw.alloc _).alloc _).and hK2); clear hK2)
    all_goals
      go_ret
      refine ⟨congrArg Ending.returned (show Value.bool _ = Value.bool _ from congrArg Value.bool ?_), hk2.out⟩
      simp_all
  · go_wp2_with (go_at_call 10; refine Calls.mono (HP.out _ _ ?_) ?_; (refine arr_one ?_; go_keep); rintro e w2 ⟨rfl, hK2⟩; have n2 : w2.cell? ⟨w.heap.size, 2, none⟩ = some (.int .u32 z.n) := (hK2.cell (by go_keep) (fun q => q)); have m2 : w2.cell? ⟨w1.heap.size, 1, none⟩ = some (.int .u32 m) := (hK2.cell (by go_keep) (fun q => q)); have hk2 := Lib.hid (((hkw.alloc _).alloc _).and hK2); clear hK2)
    all_goals
      go_ret
      refine ⟨congrArg Ending.returned (show Value.bool _ = Value.bool _ from congrArg Value.bool ?_), hk2.out⟩
      simp_all
  · go_wp2_with ((go_at_call 10; refine Calls.mono (HP.out _ _ ?_) ?_; exact arr_one (new_b _ _ _ _ _ _ _ _ _ _ _); rintro e w2 ⟨rfl, hK2⟩; have n2 : w2.cell? ⟨w.heap.size, 2, none⟩ = some (.int .u32 z.n) := hK2.cell (row4_n hbA _ _ _ _ _) (fun q => q); have m2 : w2.cell? ⟨w.heap.size + 1, 1, none⟩ = some (.int .u32 m) := hK2.cell (row4_m hbR a m c F X Y _) (fun q => q); have hk2 := Lib.hid (((kp_row4 hkw _ _ _ _).alloc _).and hK2); clear hK2))
    all_goals
      go_ret
      refine ⟨congrArg Ending.returned (show Value.bool _ = Value.bool _ from congrArg Value.bool ?_), hk2.out⟩
      simp_all

theorem valid_any (z : AtI) (ok : z.Ok) (w : World) : Calls Tryd.prog 22 #[z.val] w (Stay (.bool (validA z)) w) := by
  unfold validA
  cases hk : wdO z.t with
  | none => exact valid_none z ok hk w
  | some r => obtain ⟨a, m, c⟩ := r; exact valid_some z ok a m c hk w

end Go.Proofs.YthgcfoednhdbcaaDoor
