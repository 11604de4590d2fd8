/- Package community: of. No condition but the bounds that arguments have. -/
import Derived.Test.YtkhonebedoemoaaDoorComE
namespace Go.Proofs.YtkhonebedoemoaaDoor
open Go.RowKit
set_option linter.unusedVariables false
set_option linter.unusedSimpArgs false

theorem splice_us3 (l : List Int) (h : l.length ≤ 3) : splice [Value.int .u32 0, .int .u32 0, .int .u32 0, .int .i64 0] 0 (us l) = [.int .u32 (l.getD 0 0), .int .u32 (l.getD 1 0), .int .u32 (l.getD 2 0), .int .i64 0] := by
  match l, h with
  | [], _ => rfl
  | [x], _ => rfl
  | [x, y], _ => rfl
  | [x, y, u], _ => rfl
/-- A group, as a value. -/
def grpV (l : List Int) : Value := .agg #[.int .u32 ((l.take 3).getD 0 0), .int .u32 ((l.take 3).getD 1 0), .int .u32 ((l.take 3).getD 2 0), .int .i64 (min 3 l.length : Nat)]

set_option maxRecDepth 100000 in
set_option maxHeartbeats 1600000 in
theorem of_any (A : Option Addr) (c : Nat) (l : List Int) (w : World) (ha : Arr w A (us l)) (hl : l.length ≤ 100000) : Calls Tryd.prog 30 #[.slice A l.length c] w (Stay (grpV l) w) := by
  unfold grpV
  have h3 : (l.take 3).length ≤ 3 := by rw [List.length_take]; omega
  have hsp := splice_us3 (l.take 3) h3
  have hus : (us (l.take 3)).length = min 3 l.length := by simp [us]
  have hA := Lib.hid (show Arr w A (us (l.take 3)) by have := ha.take 3; simpa [us, List.map_take] using this)
  have hO := Lib.hid (us_one (l.take 3))
  have HG := Lib.hid (Bk.fresh w 50 #[.int .u32 0, .int .u32 0, .int .u32 0, .int .i64 0])
  obtain ⟨q0, hq0⟩ : ∃ q, (l.take 3).getD 0 0 = q := ⟨_, rfl⟩
  obtain ⟨q1, hq1⟩ : ∃ q, (l.take 3).getD 1 0 = q := ⟨_, rfl⟩
  obtain ⟨q2, hq2⟩ : ∃ q, (l.take 3).getD 2 0 = q := ⟨_, rfl⟩
  rw [hq0, hq1, hq2] at hsp ⊢
  obtain ⟨n, hn⟩ : ∃ n, l.length = n := ⟨_, rfl⟩
  rw [hn] at hus hl ⊢
  obtain ⟨m, hm⟩ : ∃ m, min 3 n = m := ⟨_, rfl⟩
  have hm3 : m ≤ 3 := by omega
  have HMN := Lib.hid hm
  rw [hm] at hus ⊢
  have HSP := Lib.hid hsp
  have HUS := Lib.hid hus
  clear hsp hus ha hq0 hq1 hq2 hn h3 hm
  go_enter Tryd.func30, Tryd.ntmps30
  go_wp2_with (refine wpList_copy_splice rfl (.tmp 4) (.tmp 5) 24 24 rfl 22 Tryd.underlying24 (by kernel_rfl) _ A 3 3 n c rfl rfl w.heap.size 0 [.int .u32 0, .int .u32 0, .int .u32 0, .int .i64 0] 50 HG.out (us (l.take 3)) (by rw [HUS.out, ← HMN.out]; exact Nat.min_comm 3 n) (fun hp => ⟨rfl, by obtain ⟨ad, e, hc⟩ := (hA.out.alloc _) (by intro e; rw [e] at hp; exact absurd hp (by decide)); exact ⟨ad, e, hc⟩⟩) (by rw [HUS.out]; show 0 + m ≤ 4; omega) hO.out w.heap.size _ (Below.refl _ _) (Nat.le_refl _) ?_; intro w1 hB1 hbel; have hk1 := Lib.hid (((Kp.refl NoB w).alloc (.cells #[.int .u32 0, .int .u32 0, .int .u32 0, .int .i64 0] 50)).new (b := w.heap.size) (⟨hbel.os, hbel.tape, hbel.output, hbel.size, fun k hk hne => hbel.block k (by simp at hk; unfold OnB at hne; omega)⟩ : Kp (OnB w.heap.size) _ w1) (Nat.le_refl _)); have hb1 : Hid (Bk w1 w.heap.size 50 #[.int .u32 q0, .int .u32 q1, .int .u32 q2, .int .i64 0]) := Lib.hid (by have := hB1.out; rw [HSP.out] at this; exact this); clear hbel hB1; rw [HUS.out]; have x0 : w1.cell? ⟨w.heap.size, 0, none⟩ = some (.int .u32 q0) := hb1.out.cell 0; have x1 : w1.cell? ⟨w.heap.size, 1, none⟩ = some (.int .u32 q1) := hb1.out.cell 1; have x2 : w1.cell? ⟨w.heap.size, 2, none⟩ = some (.int .u32 q2) := hb1.out.cell 2; have x3 : w1.cell? ⟨w.heap.size, 3, none⟩ = some (.int .i64 0) := hb1.out.cell 3; have f0 := hb1.out.frozen 0; have f1 := hb1.out.frozen 1; have f2 := hb1.out.frozen 2; have f3 := hb1.out.frozen 3)
  have hb6 := ((((hb1.out.set 3 (.int .i64 (m : Nat))).set 0 (.int .u32 q0)).set 1 (.int .u32 q1)).set 2 (.int .u32 q2)).set 3 (.int .i64 (m : Nat))
  simp only [List.setIfInBounds_toArray, List.set_cons_zero, List.set_cons_succ] at hb6
  have hlt : ∀ o : Nat, ∀ q : (⟨w.heap.size, o, none⟩ : Addr).block < w.heap.size, NoB (⟨w.heap.size, o, none⟩ : Addr).block := fun o q => absurd q (Nat.lt_irrefl w.heap.size)
  have hk6 := ((((hk1.out.setCell (p := ⟨w.heap.size, 3, none⟩) (hlt 3) (.int .i64 (m : Nat))).setCell (p := ⟨w.heap.size, 0, none⟩) (hlt 0) (.int .u32 q0)).setCell (p := ⟨w.heap.size, 1, none⟩) (hlt 1) (.int .u32 q1)).setCell (p := ⟨w.heap.size, 2, none⟩) (hlt 2) (.int .u32 q2)).setCell (p := ⟨w.heap.size, 3, none⟩) (hlt 3) (.int .i64 (m : Nat))
  refine bodyPost_ret (v := .agg #[.int .u32 q0, .int .u32 q1, .int .u32 q2, .int .i64 (m : Nat)]) (results_cell_row (fn := Tryd.f30) rfl _ _ w.heap.size 50 _ (0, 0) _ rfl hb6 Tryd.underlying50 rfl (by kernel_rfl)) rfl ⟨rfl, hk6⟩

end Go.Proofs.YtkhonebedoemoaaDoor
