/- The cursor's cut: its contracts. -/
import Derived.Test.YtjcmgfegnngjjaaDoorMem
import Derived.Test.YtjcmgfegnngjjaaDoorPlain
import Derived.Test.YtjcmgfegnngjjaaDoorProg
import Derived.KernelRfl
import Derived.Deep.QuietTactic
import Derived.BigQuiet
import Derived.WalkSpells
namespace Go.Proofs.YtjcmgfegnngjjaaDoor
open Go.RowKit
set_option linter.unusedVariables false
set_option linter.unusedSimpArgs false

/-- What 'cut' leaves where it succeeds: the cursor in block b has moved on by k; what it had in front is handed back. -/
def CutYes (b T : Nat) (A : Option Addr) (n c t k : Nat) (w : World) (e : Ending) (w' : World) : Prop :=
  e = .returned (.tuple #[.agg #[.slice A k k, .int .i64 t], .bool true]) ∧ Bk w' b T #[.slice (cutA A k c) (n - k) (c - k), .int .i64 (t + k : Int)] ∧ Kp (OnB b) w w'

theorem cutYes_of (b T : Nat) (A : Option Addr) (n c t k : Nat) (w : World) (hB : Bk w b T #[.slice A n c, .int .i64 t]) (o1 o2 : Obj) (v0 : Value) (h0 : v0 = .slice (cutA A k c) (n - k) (c - k)) (e : Ending) (he : e = .returned (.tuple #[.agg #[.slice A k k, .int .i64 t], .bool true])) :
    CutYes b T A n c t k w e ((((w.setCell ⟨b, 0, none⟩ v0).setCell ⟨b, 1, none⟩ (.int .i64 (t + k : Int))).alloc o1).alloc o2).drew.drew := by
  subst h0
  refine ⟨he, ?_, ?_⟩
  · exact Bk.alloc (Bk.alloc ((hB.set 0 _).set 1 _) o1) o2
  · exact ((((((Kp.refl (OnB b) w).setCell (p := ⟨b, 0, none⟩) (fun _ => rfl) _).setCell (p := ⟨b, 1, none⟩) (fun _ => rfl) _).alloc o1).alloc o2).drew).drew

set_option maxHeartbeats 1000000 in
theorem cut_yes (b T : Nat) (A : Option Addr) (n c t k : Nat) (w : World) (hB : Bk w b T #[.slice A n c, .int .i64 t])
    (hk : k ≤ n) (hn : n ≤ c) (hc : c ≤ 9223372036854775807) (ht : t + n ≤ 140737488355328) :
    Calls Tryd.prog 75 #[.pointer (some ⟨b, 0, none⟩), .int .i64 k] w (CutYes b T A n c t k w) := by
  have h0 := hB.cell 0
  have h1 := hB.cell 1
  have f0 := hB.frozen 0
  have f1 := hB.frozen 1
  have hb := hB.lt
  have hfin := cutYes_of b T A n c t k w hB
  have H := Lib.hid hfin
  clear hfin hB
  go_enter Tryd.func75, Tryd.ntmps75
  go_wp2
  go_region
  go_wp2
  go_region
  go_wp2
  all_goals refine bodyPost_ret (v := .tuple #[.agg #[.slice A k k, .int .i64 t], .bool true]) (by simp [results, Tryd.results75, go_sem]) rfl ?_
  · have hck : c = k := by assumption
    subst hck
    exact H.out _ _ _ (by simp [cutA]) _ rfl
  · have hck : ¬ c = k := by assumption
    exact H.out _ _ _ (by simp [cutA, hck]) _ rfl

/-- What 'cut' leaves where it fails: nothing has moved. -/
def CutNo (w : World) (e : Ending) (w' : World) : Prop :=
  e = .returned (.tuple #[.agg #[.slice none 0 0, .int .i64 0], .bool false]) ∧ Kp NoB w w'

set_option maxHeartbeats 1000000 in
theorem cut_no (b T : Nat) (A : Option Addr) (n c t : Nat) (k : Int) (w : World) (hB : Bk w b T #[.slice A n c, .int .i64 t]) (hk : k < 0 ∨ (n : Int) < k) :
    Calls Tryd.prog 75 #[.pointer (some ⟨b, 0, none⟩), .int .i64 k] w (CutNo w) := by
  have h0 := hB.cell 0
  have h1 := hB.cell 1
  have f0 := hB.frozen 0
  have f1 := hB.frozen 1
  have hb := hB.lt
  clear hB
  rcases hk with hk | hk
  all_goals
    go_enter Tryd.func75, Tryd.ntmps75
    go_wp2
    all_goals refine bodyPost_ret (v := .tuple #[.agg #[.slice none 0 0, .int .i64 0], .bool false]) (by simp [results, Tryd.results75, go_sem]) rfl ?_
    all_goals exact ⟨rfl, (Kp.refl _ _).alloc _⟩

end Go.Proofs.YtjcmgfegnngjjaaDoor
