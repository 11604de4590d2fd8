/- More on own rows and readers: two rows of different element types are apart; Number of one byte. No condition. -/
import Derived.Test.YtjcmgfegnngjjaaDoorRd
import Derived.Test.YtjcmgfegnngjjaaDoorNum
namespace Go.Proofs.YtjcmgfegnngjjaaDoor
open Go.RowKit
set_option linter.unusedVariables false
set_option linter.unusedSimpArgs false

theorem own_two {w : World} {base base' n m s s' : Nat} {e t : TypeId} {v u : Value} {xs ys : List Value} (h : w.ownsRow base e s v n xs) (k : w.ownsRow base' t s' u m ys) (hne : e ≠ t) : ∀ b, v.ownBlock = some b → ¬ some b = u.ownBlock := by
  intro b hb hq
  rcases k.2 with ⟨rfl, _⟩ | ⟨g, cap, cur, rfl, _, hh, _⟩
  · cases hq
  · rcases h.2 with ⟨rfl, _⟩ | ⟨g', cap', cur', rfl, _, hh', _⟩
    · cases hb
    · have h1 : g' = b := by injection hb
      have h2 : b = g := by injection hq
      subst h1 h2
      rw [hh] at hh'
      injection hh' with hh'
      injection hh' with _ hh' _
      exact hne hh'.symm
/-- A row's block is no block that is known whole and has another element type. -/
theorem own_bk {w : World} {base n size b : Nat} {e t : TypeId} {v : Value} {xs : List Value} {cs : Array Value} (h : w.ownsRow base e size v n xs) (hB : Bk w b t cs) (ht : t ≠ e) : ¬ some b = v.ownBlock := by
  rcases h.2 with ⟨rfl, _⟩ | ⟨g, cap, cur, rfl, hg, hh, _⟩
  · intro h; cases h
  · intro h
    have : b = g := by injection h
    subst this
    unfold Bk at hB
    rw [hh] at hB
    injection hB with hB
    injection hB with _ hB _
    exact ht hB.symm
theorem own_le {w : World} {base base' n s : Nat} {e : TypeId} {v : Value} {xs : List Value} (h : w.ownsRow base e s v n xs) (hb : base' ≤ base) : w.ownsRow base' e s v n xs :=
  ⟨h.1, h.2.imp id (fun ⟨g, cap, cur, hv, hg, hr⟩ => ⟨g, cap, cur, hv, Nat.le_trans hb hg, hr⟩)⟩
theorem own_ge {w : World} {base n s : Nat} {e : TypeId} {v : Value} {xs : List Value} (h : w.ownsRow base e s v n xs) {k : Nat} (hk : k < base) : ¬ some k = v.ownBlock := fun hq => by
  have := own_base h k hq.symm
  omega
theorem Rd.old {w : World} {q r : Nat} {ys : List Int} {t : Nat} (h : Rd w q r ys t) : ∃ q', q' < w.heap.size ∧ Rd w q' r ys t := by
  by_cases hy : ys = []
  · refine ⟨r, h.lt, ?_⟩
    obtain ⟨A, c, hB, h1, h2, h3, h4, h5, h6⟩ := h
    exact ⟨A, c, hB, h1, h2, h3, fun hn => absurd hy hn, h5, h6⟩
  · exact ⟨q, h.lt_q hy, h⟩

/-- One number was read. -/
def NumIs1 (r : Nat) (v : Int) (ys : List Int) (t q : Nat) (w : World) (e : Ending) (w' : World) : Prop := e = .returned (.tuple #[.int .u32 v, .bool true]) ∧ Rd w' q r ys t ∧ Kp (OnB r) w w'
theorem num1_yes (w : World) (q r : Nat) (y : Int) (ys : List Int) (t : Nat) (h : Rd w q r (y :: ys) t) : Calls Tryd.prog 70 #[.pointer (some ⟨r, 0, none⟩), .int .i64 1] w (NumIs1 r y ys (t + 1) q w) := by
  refine (number_yes w q r (y :: ys) t 1 h (by decide) (by decide) (by simp)).mono fun e w' ⟨h1, h2, h3⟩ => ⟨?_, h2, h3⟩
  rw [h1]
  simp [big]
theorem num1_no (w : World) (q r t : Nat) (h : Rd w q r [] t) : Calls Tryd.prog 70 #[.pointer (some ⟨r, 0, none⟩), .int .i64 1] w (Stay (.tuple #[.int .u32 0, .bool false]) w) :=
  number_short w q r [] t 1 h (by decide) (by decide) (by decide)

end Go.Proofs.YtjcmgfegnngjjaaDoor
