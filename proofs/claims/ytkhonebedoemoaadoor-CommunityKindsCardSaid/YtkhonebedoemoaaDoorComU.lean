/- slices.Clone of numbers; Unique of both sides, whole, and a second time. No condition but the bounds that arguments have. -/
import Derived.Test.YtkhonebedoemoaaDoorComT
namespace Go.Proofs.YtkhonebedoemoaaDoor
open Go.RowKit
set_option linter.unusedVariables false
set_option linter.unusedSimpArgs false

/-- What slices.Clone of numbers leaves. -/
def UCloned (w : World) (xs : List Int) (e : Ending) (w' : World) : Prop :=
  ∃ A' c', e = .returned (.slice A' xs.length c') ∧ w'.ownsRow w.heap.size 22 1 (.slice A' xs.length c') xs.length (us xs) ∧ Kp NoB w w'
set_option maxHeartbeats 400000 in
theorem uclone_any (A : Option Addr) (c : Nat) (xs : List Int) (w : World) (hn : xs.length ≤ 1000000) (ha : Arr w A (us xs)) :
    Calls Tryd.prog 13 #[.slice A xs.length c] w (UCloned w xs) := by
  obtain ⟨i0, hi, hz0, hz1, hz2⟩ := info_parts infoU
  cases A with
  | none =>
    have hx : xs = [] := by
      rcases Classical.em (xs = []) with h | h
      · exact h
      · obtain ⟨ad, e, _⟩ := ha (by simpa [us] using h)
        cases e
    subst hx
    clear hi hz0 hz1 hz2
    have hnil := fun (w : World) n c => Lib.run_eql_slice_nil (P := Tryd.prog) w 24 22 none n c 0 0 Tryd.underlying24
    go_enter Tryd.func13, Tryd.ntmps13
    go_wp2
    go_ret
    exact ⟨none, 0, rfl, World.ownsRow_nil _ _ _ _, Kp.refl _ _⟩
  | some ad =>
    have hnil := fun (w : World) n c => Lib.run_eql_slice_nil (P := Tryd.prog) w 24 22 (some ad) n c 0 0 Tryd.underlying24
    go_enter Tryd.func13, Tryd.ntmps13
    go_wp2_with (at_builtin; refine wpList_app ((Kp.refl NoB w).alloc _) rfl (.tmp 5) (.tmp 6) 24 rfl 22 i0 (.int .u32 0) 1 4 Tryd.underlying24 hi hz0 hz1 hz2 rfl (by decide) _ _ _ rfl (World.ownsRow_made w #[] 0 (Nat.le_refl _) (Nat.zero_le _) rfl) (some ad) xs.length c (us xs) rfl (by simp [us]) (ha.alloc _) (us_one xs) (by omega) (by decide) xs.length (by omega) ?_; intro A' c' w1 hown hk hg hat; clear hg hat)
    go_ret
    exact ⟨A', c', rfl, hown, hk⟩

/-- What Unique returns: type, Partial, list. -/
def uK (z : AtI) : Int := if validC z = true then z.t else 0
def uP (z : AtI) : Bool := if validC z = true then z.p else false
def uL (z : AtI) (xs : List Int) : List Int := if validC z = true then uniqL z xs else []
theorem cuniq_any (z : AtI) (ok : z.Ok) (xs : List Int) (w : World) (hx : InUs w z.L z.ln z.lc xs) (hl : z.ln ≤ 1000) :
    Calls Tryd.prog 12 #[z.val] w (UniqR w (uK z) (uP z) (uL z xs)) := by
  unfold uK uP uL
  cases hv : validC z with
  | false =>
    simp only [Bool.false_eq_true, if_false]
    exact (cuniq_bad z ok w hv).mono fun e w' ⟨h1, h2⟩ => ⟨none, 0, h1, World.ownsRow_nil _ _ _ _, h2⟩
  | true =>
    simp only [if_true]
    exact cuniq_good z ok xs w hx hl hv
theorem runiq_any (z : AtI) (ok : z.Ok) (xs : List Int) (w : World) (hx : InUs w z.L z.ln z.lc xs) (hl : z.ln ≤ 1000) :
    Calls Tryd.prog 15 #[z.val] w (UniqR w (uK z) (uP z) (uL z xs)) := by
  unfold uK uP uL
  cases hv : validC z with
  | false =>
    simp only [Bool.false_eq_true, if_false]
    exact (runiq_bad z ok w hv).mono fun e w' ⟨h1, h2⟩ => ⟨none, 0, h1, World.ownsRow_nil _ _ _ _, h2⟩
  | true =>
    simp only [if_true]
    exact runiq_good z ok xs w hx hl hv
theorem uK_ok {z : AtI} (ok : z.Ok) : -9223372036854775808 ≤ uK z ∧ uK z ≤ 9223372036854775807 := by
  unfold uK
  split
  · exact ok.t
  · omega
theorem uL_facts {z : AtI} {xs : List Int} (hx : xs.length = z.ln) (hu : IsU xs) : (uL z xs).length ≤ z.ln ∧ IsU (uL z xs) := by
  unfold uL
  split
  · rename_i hv
    obtain ⟨_, _, _, _, hF⟩ := uniq_facts hv hx hu
    exact ⟨hF.le, hF.u⟩
  · exact ⟨Nat.zero_le _, fun x h => nomatch h⟩
/-- A second time nothing changes. -/
theorem uniq_again {z : AtI} {xs : List Int} (hx : xs.length = z.ln) (hu : IsU xs) (A : Option Addr) (c : Nat) :
    uK (zU (uK z) (uP z) A (uL z xs).length c) = uK z ∧ uP (zU (uK z) (uP z) A (uL z xs).length c) = uP z ∧ uL (zU (uK z) (uP z) A (uL z xs).length c) (uL z xs) = uL z xs := by
  cases hv : validC z with
  | false =>
    have e1 : uK z = 0 := by unfold uK; rw [if_neg (by rw [hv]; decide)]
    have e2 : uP z = false := by unfold uP; rw [if_neg (by rw [hv]; decide)]
    have e3 : uL z xs = [] := by unfold uL; rw [if_neg (by rw [hv]; decide)]
    rw [e1, e2, e3]
    have hb : validC (zU 0 false A ([] : List Int).length c) = false := by simp [validC, zU, grp]
    unfold uK uP uL
    rw [hb]
    exact ⟨rfl, rfl, rfl⟩
  | true =>
    obtain ⟨hg, hmod, hn, hN, hF⟩ := uniq_facts hv hx hu
    have e1 : uK z = z.t := by unfold uK; rw [if_pos hv]
    have e2 : uP z = z.p := by unfold uP; rw [if_pos hv]
    have e3 : uL z xs = uniqL z xs := by unfold uL; rw [if_pos hv]
    rw [e1, e2, e3]
    have hb : validC (zU z.t z.p A (uniqL z xs).length c) = true := zU_valid z.p A c hg hF.pos hF.mod
    unfold uK uP uL
    rw [if_pos hb, if_pos hb, if_pos hb]
    refine ⟨rfl, rfl, ?_⟩
    have hnum : numG (zU z.t z.p A (uniqL z xs).length c) = (uniqL z xs).length / grp z.t := by unfold numG; rw [if_pos hb]; rfl
    show (uqL (grp z.t) (uniqL z xs) (numG (zU z.t z.p A (uniqL z xs).length c))).flatten = _
    rw [hnum]
    have ht := uq_twice hg xs
    simp only at ht
    have hU : uniqL z xs = (uqL (grp z.t) xs (xs.length / grp z.t)).flatten := by unfold uniqL; rw [hN]
    rw [hU, ht]

/-- Same of two attributes of one list. -/
theorem usame2 (k : Int) (p : Bool) (A B : Option Addr) (c d : Nat) (l : List Int) (w : World) (hl : l.length ≤ 100000) (ha : Arr w A (us l)) (hb : Arr w B (us l)) :
    Calls Tryd.prog 14 #[(zU k p A l.length c).val, (zU k p B l.length d).val] w (Stay (.bool true) w) :=
  gsame_any (zU k p A l.length c) (zU k p B l.length d) l w rfl rfl rfl rfl rfl rfl hl ha hb (by simp [zU, AtI.rest, AtI.bare]) (by simp [zU, AtI.rest, AtI.bare])

end Go.Proofs.YtkhonebedoemoaaDoor
