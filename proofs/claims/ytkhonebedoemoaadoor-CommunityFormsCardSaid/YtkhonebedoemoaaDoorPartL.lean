/- Lists of byte strings that a call builds: PartB, PartL. No condition. -/
import Derived.Test.YtkhonebedoemoaaDoorCat0
import Derived.Test.YtkhonebedoemoaaDoorRow2
namespace Go.Proofs.YtkhonebedoemoaaDoor
open Go.RowKit
set_option linter.unusedVariables false

/-- A part: bytes that lay there when the call began, or a block of bytes of its own. -/
def PartB (w wr : World) (ys : List Int) (u : Value) : Prop := ∃ A c, u = .slice A ys.length c ∧ ys.length ≤ c ∧ c ≤ maxLen ∧ IsB ys ∧ (Arr w A (bs ys) ∨ ∃ b cs, A = some ⟨b, 0, none⟩ ∧ Bk wr b 5 cs ∧ cs.toList = bs ys)
theorem PartB.byE {w wr : World} {ys : List Int} {u : Value} (h : PartB w wr ys u) (k : Kp NoB w wr) : ByE wr ys [u] := by
  obtain ⟨A, c, rfl, h1, h2, h3, h4⟩ := h
  refine ⟨A, c, rfl, h1, h2, ?_, h3⟩
  rcases h4 with h4 | ⟨b, cs, rfl, h5, h6⟩
  · exact h4.and k
  · have := Arr.of_bk h5 cs.toList.length
    rwa [List.take_length, h6] at this
theorem PartB.keep {w wr w2 : World} {S : Nat → Prop} {ys : List Int} {u : Value} (h : PartB w wr ys u) (k : Kp S wr w2) (hs : ∀ b cs, Bk wr b 5 cs → ¬ S b) : PartB w w2 ys u := by
  obtain ⟨A, c, rfl, h1, h2, h3, h4⟩ := h
  refine ⟨A, c, rfl, h1, h2, h3, h4.imp id (fun ⟨b, cs, e, h5, h6⟩ => ⟨b, cs, e, h5.keep k (hs b cs h5), h6⟩)⟩
/-- Cells that are byte strings, one each. -/
def PartL (w wr : World) (xss : List (List Int)) (cs : List Value) : Prop := cs.length = xss.length ∧ ∀ (k : Nat) (ys : List Int), xss[k]? = some ys → ∃ u, cs[k]? = some u ∧ PartB w wr ys u
theorem PartL.nil (w wr : World) : PartL w wr [] [] := ⟨rfl, fun k ys h => by simp at h⟩
theorem PartL.keep {w wr w2 : World} {S : Nat → Prop} {xss : List (List Int)} {cs : List Value} (h : PartL w wr xss cs) (k : Kp S wr w2) (hs : ∀ b cs, Bk wr b 5 cs → ¬ S b) : PartL w w2 xss cs :=
  ⟨h.1, fun i ys hi => by obtain ⟨u, h1, h2⟩ := h.2 i ys hi; exact ⟨u, h1, h2.keep k hs⟩⟩
theorem PartL.snoc {w wr : World} {xss : List (List Int)} {cs : List Value} (h : PartL w wr xss cs) {ys : List Int} {u : Value} (hu : PartB w wr ys u) : PartL w wr (xss ++ [ys]) (cs ++ [u]) := by
  refine ⟨by simp [h.1], fun k zs hk => ?_⟩
  rcases Nat.lt_trichotomy k xss.length with hj | hj | hj
  · rw [List.getElem?_append_left hj] at hk
    obtain ⟨u', h1, h2⟩ := h.2 k zs hk
    exact ⟨u', by rw [List.getElem?_append_left (by rw [h.1]; omega)]; exact h1, h2⟩
  · subst hj
    simp at hk
    subst hk
    exact ⟨u, by rw [List.getElem?_append_right (by rw [h.1]; omega), h.1]; simp, hu⟩
  · rw [List.getElem?_eq_none (by simp; omega)] at hk
    simp at hk
theorem PartL.sl {w wr : World} {xss : List (List Int)} {cs : List Value} (h : PartL w wr xss cs) (k : Kp NoB w wr) {A : Option Addr} (ha : Arr wr A cs) : Sl ByE 1 wr A xss := fun hn => by
  obtain ⟨ad, e, hc⟩ := ha (by rintro rfl; have := h.1; simp at this; exact hn (List.eq_nil_of_length_eq_zero this.symm))
  refine ⟨ad, e, fun j ys hj => ?_⟩
  obtain ⟨u, h1, h2⟩ := h.2 j ys hj
  refine ⟨[u], rfl, h2.byE k, fun i v hv => ?_⟩
  obtain rfl : i = 0 := by have := (List.getElem?_eq_some_iff.1 hv).1; simp at this; omega
  simp at hv
  subst hv
  rw [Nat.mul_one, Nat.add_zero]
  exact hc j _ h1
/-- A row's block is no block of another element type. -/
theorem own_ne {w : World} {base n size b : Nat} {e t : TypeId} {v : Value} {xs : List Value} {cs : Array Value} (h : w.ownsRow base e size v n xs) (hB : Bk w b t cs) (ht : t ≠ e) : ¬ some b = v.ownBlock := by
  rcases h.2 with ⟨rfl, _⟩ | ⟨g, cap, cur, rfl, hg, hh, _⟩
  · intro h; cases h
  · intro h
    have : b = g := by injection h
    subst this
    unfold Bk at hB
    rw [hh] at hB
    injection hB with hB
    injection hB with _ hB _
    exact ht hB.symm

theorem infoByS : (Tryd.prog.info? 25).map (fun i => (i.zero, i.size, i.bytes)) = some (some (.slice none 0 0), 1, 24) := by kernel_rfl


/-! ### Parts that are rows of the call's own -/
def OwnB (w wr : World) (ys : List Int) (u : Value) : Prop := ∃ A c, u = .slice A ys.length c ∧ IsB ys ∧ wr.ownsRow w.heap.size 5 1 (.slice A ys.length c) ys.length (bs ys)
/-- A turn of memory that spares every row of bytes of the call's own. -/
def Spares (w wr : World) (S : Nat → Prop) : Prop := ∀ v n xs, wr.ownsRow w.heap.size 5 1 v n xs → ∀ b, v.ownBlock = some b → ¬ S b
theorem spares_no (w wr : World) : Spares w wr NoB := fun _ _ _ _ _ _ q => q
theorem spares_own {w wr : World} {base n s : Nat} {t : TypeId} {u : Value} {ys : List Value} (k : wr.ownsRow base t s u n ys) (hne : 5 ≠ t) : Spares w wr (fun b => some b = u.ownBlock) := fun _ _ _ h => own_two h k hne
theorem OwnB.byE {w wr : World} {ys : List Int} {u : Value} (h : OwnB w wr ys u) : ByE wr ys [u] := by
  obtain ⟨A, c, rfl, h1, h2⟩ := h
  obtain ⟨A', c', e, q1, q2, q3⟩ := own_form h2
  injection e with e1 _ e2
  subst e1 e2
  exact ⟨_, _, rfl, q1, q2, q3, h1⟩
theorem OwnB.keep {w wr w2 : World} {S : Nat → Prop} {ys : List Int} {u : Value} (h : OwnB w wr ys u) (k : Kp S wr w2) (hs : Spares w wr S) : OwnB w w2 ys u := by
  obtain ⟨A, c, rfl, h1, h2⟩ := h
  exact ⟨A, c, rfl, h1, k.own h2 (hs _ _ _ h2)⟩
def OwnL (w wr : World) (xss : List (List Int)) (cs : List Value) : Prop := cs.length = xss.length ∧ ∀ (k : Nat) (ys : List Int), xss[k]? = some ys → ∃ u, cs[k]? = some u ∧ OwnB w wr ys u
theorem OwnL.nil (w wr : World) : OwnL w wr [] [] := ⟨rfl, fun k ys h => by simp at h⟩
theorem OwnL.keep {w wr w2 : World} {S : Nat → Prop} {xss : List (List Int)} {cs : List Value} (h : OwnL w wr xss cs) (k : Kp S wr w2) (hs : Spares w wr S) : OwnL w w2 xss cs :=
  ⟨h.1, fun i ys hi => by obtain ⟨u, h1, h2⟩ := h.2 i ys hi; exact ⟨u, h1, h2.keep k hs⟩⟩
theorem OwnL.and {w wr w2 : World} {xss : List (List Int)} {cs : List Value} (h : OwnL w wr xss cs) (k : Kp NoB wr w2) : OwnL w w2 xss cs := h.keep k (spares_no _ _)
theorem OwnL.snoc {w wr : World} {xss : List (List Int)} {cs : List Value} (h : OwnL w wr xss cs) {ys : List Int} {u : Value} (hu : OwnB w wr ys u) : OwnL w wr (xss ++ [ys]) (cs ++ [u]) := by
  refine ⟨by simp [h.1], fun k zs hk => ?_⟩
  rcases Nat.lt_trichotomy k xss.length with hj | hj | hj
  · rw [List.getElem?_append_left hj] at hk
    obtain ⟨u', h1, h2⟩ := h.2 k zs hk
    exact ⟨u', by rw [List.getElem?_append_left (by rw [h.1]; omega)]; exact h1, h2⟩
  · subst hj
    simp at hk
    subst hk
    exact ⟨u, by rw [List.getElem?_append_right (by rw [h.1]; omega), h.1]; simp, hu⟩
  · rw [List.getElem?_eq_none (by simp; omega)] at hk
    simp at hk
theorem OwnL.sl {w wr : World} {xss : List (List Int)} {cs : List Value} (h : OwnL w wr xss cs) {A : Option Addr} (ha : Arr wr A cs) : Sl ByE 1 wr A xss := fun hn => by
  obtain ⟨ad, e, hc⟩ := ha (by rintro rfl; have := h.1; simp at this; exact hn (List.eq_nil_of_length_eq_zero this.symm))
  refine ⟨ad, e, fun j ys hj => ?_⟩
  obtain ⟨u, h1, h2⟩ := h.2 j ys hj
  refine ⟨[u], rfl, h2.byE, fun i v hv => ?_⟩
  obtain rfl : i = 0 := by have := (List.getElem?_eq_some_iff.1 hv).1; simp at this; omega
  simp at hv
  subst hv
  rw [Nat.mul_one, Nat.add_zero]
  exact hc j _ h1

end Go.Proofs.YtkhonebedoemoaaDoor
