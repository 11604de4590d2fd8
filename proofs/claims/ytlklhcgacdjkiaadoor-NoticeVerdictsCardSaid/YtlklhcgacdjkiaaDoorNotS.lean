/- NOTIFICATIONs: Same of both sides: contracts. No condition. -/
import Derived.Test.YtlklhcgacdjkiaaDoorNotA
import Derived.Test.YtlklhcgacdjkiaaDoorStr
import Derived.Test.YtlklhcgacdjkiaaDoorBEq
namespace Go.Proofs.YtlklhcgacdjkiaaDoor
open Go.RowKit
set_option linter.unusedVariables false
set_option linter.unusedSimpArgs false

/-- Are two NOTIFICATIONs the same? -/
def eqN (c s : Int) (d : List Int) (c' s' : Int) (d' : List Int) : Bool := decide (c = c') && decide (s = s') && decide (d = d')
theorem eqN_refl (c s : Int) (d : List Int) : eqN c s d c s d = true := by simp [eqN]

theorem bequal_q (A B : Option Addr) (c d : Nat) (xs ys : List Int) (w : World) (ha : Arr w A (bs xs)) (hb : Arr w B (bs ys)) (hx : IsB xs) (hy : IsB ys) :
    Calls Tryd.prog 34 #[.slice A xs.length c, .slice B ys.length d] w fun e w' => e = .returned (.bool (decide (xs = ys))) ∧ w = w' := (beq_any A B c d xs ys w ha hb hx hy).mono fun _ _ h => ⟨h.1, h.2.symm⟩
theorem rsame_q (A B : Option Addr) (c d : Nat) (xs ys : List Int) (w : World) (ha : Arr w A (bs xs)) (hb : Arr w B (bs ys)) (hx : IsB xs) (hy : IsB ys) :
    Calls Tryd.prog 28 #[.slice A xs.length c, .slice B ys.length d] w fun e w' => e = .returned (.bool (decide (xs = ys))) ∧ w = w' := (rsame_any A B c d xs ys w ha hb hx hy).mono fun _ _ h => ⟨h.1, h.2.symm⟩

set_option maxRecDepth 100000 in
set_option maxHeartbeats 2000000 in
theorem nsame_any (c s : Int) (d : List Int) (A : Option Addr) (m : Nat) (c' s' : Int) (d' : List Int) (A' : Option Addr) (m' : Nat) (w : World) (ha : Arr w A (bs d)) (hb : IsB d) (ha' : Arr w A' (bs d')) (hb' : IsB d') :
    Calls Tryd.prog 19 #[.agg #[.int .i64 c, .int .i64 s, .slice A d.length m], .agg #[.int .i64 c', .int .i64 s', .slice A' d'.length m']] w (Stay (.bool (eqN c s d c' s' d')) w) := by
  have HE := Lib.hid (fun w' (k : Kp NoB w w') => bequal_q A A' m m' d d' w' (ha.and k) (ha'.and k) hb hb')
  have hk0 := Lib.hid (((Kp.refl NoB w).alloc (.cells #[.int .i64 c, .int .i64 s, .slice A d.length m] 32)).alloc (.cells #[.int .i64 c', .int .i64 s', .slice A' d'.length m'] 32))
  by_cases h1 : c = c'
  · subst h1
    by_cases h2 : s = s'
    · subst h2
      have HQ : Hid (eqN c s d c s d' = decide (d = d')) := Lib.hid (by simp [eqN])
      obtain ⟨b, hbb⟩ : ∃ b, decide (d = d') = b := ⟨_, rfl⟩
      rw [hbb] at HE HQ
      clear hbb ha hb ha' hb'
      go_enter Tryd.func19, Tryd.ntmps19
      go_wp2_with (go_at_call 34; refine (HE.out _ hk0.out).mono ?_; rintro e w1 ⟨rfl, rfl⟩)
      go_ret
      exact ⟨by rw [HQ.out]; rfl, hk0.out⟩
    · have HQ : Hid (eqN c s d c s' d' = false) := Lib.hid (by simp [eqN, h2])
      have h2' : (s == s') = false := by simp [h2]
      clear h2 ha hb ha' hb'
      go_enter Tryd.func19, Tryd.ntmps19
      go_wp2
      go_ret
      exact ⟨by rw [HQ.out]; rfl, hk0.out⟩
  · have HQ : Hid (eqN c s d c' s' d' = false) := Lib.hid (by simp [eqN, h1])
    have h1' : (c == c') = false := by simp [h1]
    clear h1 ha hb ha' hb'
    go_enter Tryd.func19, Tryd.ntmps19
    go_wp2
    go_ret
    exact ⟨by rw [HQ.out]; rfl, hk0.out⟩

set_option maxRecDepth 100000 in
set_option maxHeartbeats 2000000 in
theorem rnsame_any (c s : Int) (d : List Int) (A : Option Addr) (m : Nat) (c' s' : Int) (d' : List Int) (A' : Option Addr) (m' : Nat) (w : World) (ha : Arr w A (bs d)) (hb : IsB d) (ha' : Arr w A' (bs d')) (hb' : IsB d') :
    Calls Tryd.prog 14 #[.agg #[.int .i64 c, .int .i64 s, .slice A d.length m], .agg #[.int .i64 c', .int .i64 s', .slice A' d'.length m']] w (Stay (.bool (eqN c s d c' s' d')) w) := by
  have HE := Lib.hid (fun w' (k : Kp NoB w w') => rsame_q A A' m m' d d' w' (ha.and k) (ha'.and k) hb hb')
  have hk0 := Lib.hid (((Kp.refl NoB w).alloc (.cells #[.int .i64 c, .int .i64 s, .slice A d.length m] 35)).alloc (.cells #[.int .i64 c', .int .i64 s', .slice A' d'.length m'] 35))
  by_cases h1 : c = c'
  · subst h1
    by_cases h2 : s = s'
    · subst h2
      have HQ : Hid (eqN c s d c s d' = decide (d = d')) := Lib.hid (by simp [eqN])
      obtain ⟨b, hbb⟩ : ∃ b, decide (d = d') = b := ⟨_, rfl⟩
      rw [hbb] at HE HQ
      clear hbb ha hb ha' hb'
      go_enter Tryd.func14, Tryd.ntmps14
      go_wp2_with (go_at_call 28; refine (HE.out _ hk0.out).mono ?_; rintro e w1 ⟨rfl, rfl⟩)
      go_ret
      exact ⟨by rw [HQ.out]; rfl, hk0.out⟩
    · have HQ : Hid (eqN c s d c s' d' = false) := Lib.hid (by simp [eqN, h2])
      have h2' : (s == s') = false := by simp [h2]
      clear h2 ha hb ha' hb'
      go_enter Tryd.func14, Tryd.ntmps14
      go_wp2
      go_ret
      exact ⟨by rw [HQ.out]; rfl, hk0.out⟩
  · have HQ : Hid (eqN c s d c' s' d' = false) := Lib.hid (by simp [eqN, h1])
    have h1' : (c == c') = false := by simp [h1]
    clear h1 ha hb ha' hb'
    go_enter Tryd.func14, Tryd.ntmps14
    go_wp2
    go_ret
    exact ⟨by rw [HQ.out]; rfl, hk0.out⟩

end Go.Proofs.YtlklhcgacdjkiaaDoor
