/- The rows of package basic: a map from types to rows with closures; what 'named' makes. No condition. -/
import Derived.Test.YthgcfoednhdbcaaDoorMapV
import Derived.Test.YthgcfoednhdbcaaDoorNotP
import Derived.Test.YthgcfoednhdbcaaDoorProg
import Derived.KernelRfl
namespace Go.Proofs.YthgcfoednhdbcaaDoor
open Go.RowKit Go.Maps
set_option linter.unusedVariables false
set_option linter.unusedSimpArgs false

/-- The closure over the cells of blocks B and C. -/
def clo (B C : Nat) : Value := .func (.func 44) #[] #[.pointer (some ⟨B, 0, none⟩), .pointer (some ⟨C, 0, none⟩)]
/-- v is a closure over the string s and the function F; its cells lie from block b0 on. -/
def CloP (w : World) (b0 : Nat) (s : ByteArray) (F v : Value) : Prop := ∃ B C, v = clo B C ∧ b0 ≤ B ∧ b0 ≤ C ∧ w.cell? ⟨B, 0, none⟩ = some (.string s) ∧ w.cell? ⟨C, 0, none⟩ = some F
theorem CloP.keep {S : Nat → Prop} {w w' : World} {b0 : Nat} {s : ByteArray} {F v : Value} (h : CloP w b0 s F v) (k : Kp S w w') (hs : ∀ b, b0 ≤ b → ¬ S b) : CloP w' b0 s F v := by
  obtain ⟨B, C, h1, h2, h3, h4, h5⟩ := h
  exact ⟨B, C, h1, h2, h3, k.cell h4 (hs _ h2), k.cell h5 (hs _ h3)⟩
theorem CloP.and {w w' : World} {b0 : Nat} {s : ByteArray} {F v : Value} (h : CloP w b0 s F v) (k : Kp NoB w w') : CloP w' b0 s F v := h.keep k (fun _ _ q => q)
theorem CloP.low {w : World} {b0 b1 : Nat} {s : ByteArray} {F v : Value} (h : CloP w b0 s F v) (k : b1 ≤ b0) : CloP w b1 s F v := by
  obtain ⟨B, C, h1, h2, h3, h4⟩ := h
  exact ⟨B, C, h1, by omega, by omega, h4⟩

theorem named_any (s : ByteArray) (g : FuncId) (w : World) :
    Calls Tryd.prog 39 #[.string s, .func (.func g) #[] #[]] w fun e w' => ∃ B C, e = .returned (.func (.func 44) #[] #[.pointer (some ⟨B, 0, none⟩), .pointer (some ⟨C, 0, none⟩)]) ∧ CloP w' w.heap.size s (.func (.func g) #[] #[]) (clo B C) ∧ Kp NoB w w' := by
  go_enter Tryd.func39, Tryd.ntmps39
  go_wp2
  go_ret
  refine ⟨w.heap.size, w.heap.size + 1, by simp, ⟨w.heap.size, w.heap.size + 1, rfl, Nat.le_refl _, Nat.le_succ _, ?_, ?_⟩, ((Kp.refl _ _).alloc _).alloc _⟩
  · exact ((Bk.fresh w _ _).alloc _).cell 0
  · exact (Bk.second w _ _ _).cell 0

/-- A row. -/
def rowV (a b c : Int) (v : Value) : Value := .agg #[.int .i64 a, .int .u32 b, .int .i64 c, v]
/-- The rows, with these closures. -/
def rowsF (v1 v3 v4 v5 v9 : Value) : Int → Option Value := fun k =>
  if k = 1 then some (rowV 1 2 2 v1) else if k = 3 then some (rowV 4 4294967295 2 v3) else if k = 4 then some (rowV 4 4294967295 2 v4) else if k = 5 then some (rowV 4 4294967295 2 v5)
  else if k = 9 then some (rowV 4 4294967295 2 v9) else if k = 6 then some (rowV 0 0 1 (.func (.func 41) #[] #[])) else none
def rowsU (v1 v3 v4 v5 v9 : Value) : Int → Option Value :=
  updV (updV (updV (updV (updV (updV (fun _ => none) 1 (rowV 1 2 2 v1)) 3 (rowV 4 4294967295 2 v3)) 4 (rowV 4 4294967295 2 v4)) 5 (rowV 4 4294967295 2 v5)) 9 (rowV 4 4294967295 2 v9)) 6 (rowV 0 0 1 (.func (.func 41) #[] #[]))
theorem rowsU_eq (v1 v3 v4 v5 v9 : Value) : rowsU v1 v3 v4 v5 v9 = rowsF v1 v3 v4 v5 v9 := by
  funext k
  by_cases h1 : k = 1
  · subst h1; rfl
  by_cases h3 : k = 3
  · subst h3; rfl
  by_cases h4 : k = 4
  · subst h4; rfl
  by_cases h5 : k = 5
  · subst h5; rfl
  by_cases h9 : k = 9
  · subst h9; rfl
  by_cases h6 : k = 6
  · subst h6; rfl
  simp [rowsU, rowsF, updV, h1, h3, h4, h5, h6, h9]

def sOrigin : ByteArray := ⟨#[111, 114, 105, 103, 105, 110]⟩
def sNexthop : ByteArray := ⟨#[110, 101, 120, 116, 104, 111, 112]⟩
def sMed : ByteArray := ⟨#[109, 101, 100]⟩
def sLocal : ByteArray := ⟨#[108, 111, 99, 97, 108, 112, 114, 101, 102]⟩
def sOriginator : ByteArray := ⟨#[111, 114, 105, 103, 105, 110, 97, 116, 111, 114]⟩

/-- What rows returns. -/
structure RowsAt (w : World) (b : Nat) (v1 v3 v4 v5 v9 : Value) : Prop where
  map : MapV Tryd.prog 3 w b 6 (rowsF v1 v3 v4 v5 v9)
  c1 : CloP w 0 sOrigin (.func (.func 40) #[] #[]) v1
  c3 : CloP w 0 sNexthop (.func (.func 12) #[] #[]) v3
  c4 : CloP w 0 sMed (.func (.func 28) #[] #[]) v4
  c5 : CloP w 0 sLocal (.func (.func 28) #[] #[]) v5
  c9 : CloP w 0 sOriginator (.func (.func 12) #[] #[]) v9
theorem RowsAt.and {w w' : World} {b : Nat} {v1 v3 v4 v5 v9 : Value} (h : RowsAt w b v1 v3 v4 v5 v9) (k : Kp NoB w w') : RowsAt w' b v1 v3 v4 v5 v9 :=
  ⟨h.map.and k, h.c1.and k, h.c3.and k, h.c4.and k, h.c5.and k, h.c9.and k⟩
def RowsM (w : World) (e : Ending) (w' : World) : Prop := ∃ b v1 v3 v4 v5 v9, e = .returned (.map (some b)) ∧ RowsAt w' b v1 v3 v4 v5 v9 ∧ Kp NoB w w'

/-- Closures, the youngest in front. -/
def CloL (w : World) (b0 : Nat) : List (ByteArray × FuncId × Value) → Prop
  | [] => True
  | x :: r => CloP w b0 x.1 (.func (.func x.2.1) #[] #[]) x.2.2 ∧ CloL w b0 r
theorem CloL.keep {S : Nat → Prop} {w w' : World} {b0 : Nat} (k : Kp S w w') (hs : ∀ b, b0 ≤ b → ¬ S b) : ∀ l, CloL w b0 l → CloL w' b0 l
  | [], _ => trivial
  | _ :: r, h => ⟨h.1.keep k hs, CloL.keep k hs r h.2⟩

set_option maxRecDepth 100000 in
set_option maxHeartbeats 4000000 in
theorem rows_any (w : World) : Calls Tryd.prog 32 #[] w (RowsM w) := by
  have hmm := @run_makeMap Tryd.prog
  have hm := MapV.made w Tryd.prog 3
  have hk := (Kp.refl NoB w).alloc (.map #[] 0)
  have hc : CloL (w.alloc (.map #[] 0)) (w.heap.size + 1) [] := trivial
  go_enter Tryd.func32, Tryd.ntmps32
  go_wp2_with (first
    | (go_at_call 39; refine (named_any _ _ _).mono ?_; rintro e w1 ⟨B, C, rfl, hc1, hk1⟩; have hm2 := hm.and hk1; have hc2 : CloL _ (_ + 1) (_ :: _) := (⟨hc1.low (by have := hm.lt; omega), hc.keep hk1 (fun _ _ q => q)⟩ : CloL w1 (w.heap.size + 1) ((_, _, clo B C) :: _)); have hk2 := hk.and hk1; clear hm hc hk hc1 hk1; have hm := hm2; have hc := hc2; have hk := hk2; clear hm2 hc2 hk2)
    | (refine wpList_insV hk rfl (.tmp 1) _ _ 52 rfl Tryd.underlying3 Tryd.underlying52 hm (by decide) (Nat.le_refl _) _ _ rfl rfl rfl (by decide) ?_; intro w1 hm1 hk1 hk3; have hc1 := hc.keep hk3 (fun b hb e => by unfold OnB at e; omega); clear hm hk hc hk3; have hm := hm1; have hk := hk1; have hc := hc1; clear hm1 hk1 hc1))
  go_ret
  obtain ⟨c9, c5, c4, c3, c1, -⟩ := hc
  refine ⟨_, _, _, _, _, _, rfl, ⟨?_, c1.low (Nat.zero_le _), c3.low (Nat.zero_le _), c4.low (Nat.zero_le _), c5.low (Nat.zero_le _), c9.low (Nat.zero_le _)⟩, hk⟩
  rw [← rowsU_eq]
  exact hm

end Go.Proofs.YthgcfoednhdbcaaDoor
