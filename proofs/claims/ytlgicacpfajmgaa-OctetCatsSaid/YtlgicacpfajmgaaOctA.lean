/- What package octet's functions do to memory, and what they return: contracts by walking the Go text, each under the conditions that it names. -/
import Derived.Test.YtlgicacpfajmgaaMem
import Derived.Test.YtlgicacpfajmgaaPlain
import Derived.Test.YtlgicacpfajmgaaProg
import Derived.KernelRfl
import Derived.Deep.QuietTactic
import Derived.BigQuiet
import Derived.WalkSpells
namespace Go.Proofs.Ytlgicacpfajmgaa
open Go.RowKit
set_option linter.unusedVariables false
set_option linter.unusedSimpArgs false

theorem infoU8 : (Try.prog.info? 5).map (fun i => (i.zero, i.size, i.bytes)) = some (some (.int .u8 0), 1, 1) := by kernel_rfl

/-- What 'slices.Clone' leaves. -/
def Cloned (w : World) (xs : List Int) (e : Ending) (w' : World) : Prop :=
  ∃ A' c', e = .returned (.slice A' xs.length c') ∧ w'.ownsRow w.heap.size 5 1 (.slice A' xs.length c') xs.length (bs xs) ∧ Kp NoB w w'

set_option maxHeartbeats 400000 in
/-- slices.Clone of bytes: the same bytes in a row of their own. -/
theorem clone_any (A : Option Addr) (c : Nat) (xs : List Int) (w : World) (hn : xs.length ≤ 140737488355328) (ha : Arr w A (bs xs)) :
    Calls Try.prog 14 #[.slice A xs.length c] w (Cloned w xs) := by
  obtain ⟨i0, hi, hz0, hz1, hz2⟩ := info_parts infoU8
  cases A with
  | none =>
    have hx : xs = [] := by
      rcases Classical.em (xs = []) with h | h
      · exact h
      · obtain ⟨ad, e, _⟩ := ha (by simpa [bs] using h)
        cases e
    subst hx
    clear hi hz0 hz1 hz2
    have hnil := fun (w : World) n c => Lib.run_eql_slice_nil (P := Try.prog) w 23 5 none n c 0 0 Try.underlying23
    go_enter Try.func14, Try.ntmps14
    go_wp2
    go_ret
    exact ⟨none, 0, rfl, World.ownsRow_nil _ _ _ _, Kp.refl _ _⟩
  | some ad =>
    have hnil := fun (w : World) n c => Lib.run_eql_slice_nil (P := Try.prog) w 23 5 (some ad) n c 0 0 Try.underlying23
    go_enter Try.func14, Try.ntmps14
    go_wp2_with (at_builtin; refine wpList_app ((Kp.refl NoB w).alloc _) rfl (.tmp 5) (.tmp 6) 23 rfl 5 i0 (.int .u8 0) 1 1 Try.underlying23 hi hz0 hz1 hz2 rfl (by decide) _ _ _ rfl (World.ownsRow_made w #[] 0 (Nat.le_refl _) (Nat.zero_le _) rfl) (some ad) xs.length c (bs xs) rfl (by simp [bs]) (ha.alloc _) (bs_one xs) (by omega) (by decide) xs.length (by omega) ?_; intro A' c' w1 hown hk hg hat; clear hg hat)
    go_ret
    exact ⟨A', c', rfl, hown, hk⟩

/-- slices.Clone of nil is nil. -/
theorem clone_nil (n c : Nat) (w : World) : Calls Try.prog 14 #[.slice none n c] w (Stay (.slice none 0 0) w) := by
  have hnil := fun (w : World) n c => Lib.run_eql_slice_nil (P := Try.prog) w 23 5 none n c 0 0 Try.underlying23
  go_enter Try.func14, Try.ntmps14
  go_wp2
  go_ret
  exact ⟨rfl, Kp.refl _ _⟩

/-- What 'cut' leaves where it succeeds: the cursor in block b has moved on by k; what it had in front is handed back. -/
def CutYes (b T : Nat) (A : Option Addr) (n c t k : Nat) (w : World) (e : Ending) (w' : World) : Prop :=
  e = .returned (.tuple #[.agg #[.slice A k k, .int .i64 t], .bool true]) ∧ Bk w' b T #[.slice (cutA A k c) (n - k) (c - k), .int .i64 (t + k : Int)] ∧ Kp (OnB b) w w'

theorem cutYes_of (b T : Nat) (A : Option Addr) (n c t k : Nat) (w : World) (hB : Bk w b T #[.slice A n c, .int .i64 t]) (o1 o2 : Obj) (v0 : Value) (h0 : v0 = .slice (cutA A k c) (n - k) (c - k)) (e : Ending) (he : e = .returned (.tuple #[.agg #[.slice A k k, .int .i64 t], .bool true])) :
    CutYes b T A n c t k w e ((((w.setCell ⟨b, 0, none⟩ v0).setCell ⟨b, 1, none⟩ (.int .i64 (t + k : Int))).alloc o1).alloc o2).drew.drew := by
  subst h0
  refine ⟨he, ?_, ?_⟩
  · exact Bk.alloc (Bk.alloc ((hB.set 0 _).set 1 _) o1) o2
  · exact ((((((Kp.refl (OnB b) w).setCell (p := ⟨b, 0, none⟩) (fun _ => rfl) _).setCell (p := ⟨b, 1, none⟩) (fun _ => rfl) _).alloc o1).alloc o2).drew).drew

set_option maxHeartbeats 1000000 in
theorem cut_yes (b T : Nat) (A : Option Addr) (n c t k : Nat) (w : World) (hB : Bk w b T #[.slice A n c, .int .i64 t])
    (hk : k ≤ n) (hn : n ≤ c) (hc : c ≤ 9223372036854775807) (ht : t + n ≤ 140737488355328) :
    Calls Try.prog 26 #[.pointer (some ⟨b, 0, none⟩), .int .i64 k] w (CutYes b T A n c t k w) := by
  have h0 := hB.cell 0
  have h1 := hB.cell 1
  have f0 := hB.frozen 0
  have f1 := hB.frozen 1
  have hb := hB.lt
  have hfin := cutYes_of b T A n c t k w hB
  have H := Lib.hid hfin
  clear hfin hB
  go_enter Try.func26, Try.ntmps26
  go_wp2
  go_region
  go_wp2
  go_region
  go_wp2
  all_goals refine bodyPost_ret (v := .tuple #[.agg #[.slice A k k, .int .i64 t], .bool true]) (by simp [results, Try.results26, go_sem]) rfl ?_
  · have hck : c = k := by assumption
    subst hck
    exact H.out _ _ _ (by simp [cutA]) _ rfl
  · have hck : ¬ c = k := by assumption
    exact H.out _ _ _ (by simp [cutA, hck]) _ rfl

/-- What 'cut' leaves where it fails: nothing has moved. -/
def CutNo (w : World) (e : Ending) (w' : World) : Prop :=
  e = .returned (.tuple #[.agg #[.slice none 0 0, .int .i64 0], .bool false]) ∧ Kp NoB w w'

set_option maxHeartbeats 1000000 in
theorem cut_no (b T : Nat) (A : Option Addr) (n c t : Nat) (k : Int) (w : World) (hB : Bk w b T #[.slice A n c, .int .i64 t]) (hk : k < 0 ∨ (n : Int) < k) :
    Calls Try.prog 26 #[.pointer (some ⟨b, 0, none⟩), .int .i64 k] w (CutNo w) := by
  have h0 := hB.cell 0
  have h1 := hB.cell 1
  have f0 := hB.frozen 0
  have f1 := hB.frozen 1
  have hb := hB.lt
  clear hB
  rcases hk with hk | hk
  all_goals
    go_enter Try.func26, Try.ntmps26
    go_wp2
    all_goals refine bodyPost_ret (v := .tuple #[.agg #[.slice none 0 0, .int .i64 0], .bool false]) (by simp [results, Try.results26, go_sem]) rfl ?_
    all_goals exact ⟨rfl, (Kp.refl _ _).alloc _⟩

end Go.Proofs.Ytlgicacpfajmgaa
