/- capability.Bytes: its contract by walking the Go text. -/
import Derived.Test.YtjcmgfegnngjjaaDoorCapB
import Derived.IntWalk
namespace Go.Proofs.YtjcmgfegnngjjaaDoor
open Go.RowKit
set_option linter.unusedVariables false
set_option linter.unusedSimpArgs false

/-- The parts of the form, and the form. -/
def partsC (xs : List CapI) : List (List Int) := xs.flatMap (fun x => [[x.code, (x.data.length : Int)], x.data])
def formC (xs : List CapI) : List Int := xs.flatMap (fun x => x.code :: (x.data.length : Int) :: x.data)
theorem partsC_len (xs : List CapI) : (partsC xs).length = 2 * xs.length := by
  induction xs with
  | nil => rfl
  | cons x xs ih => simp only [partsC, List.flatMap_cons, List.length_append, List.length_cons, List.length_nil] at ih ⊢; omega
theorem cat_parts (xs : List CapI) : catL (partsC xs) = formC xs := by
  induction xs with
  | nil => rfl
  | cons x xs ih => simp only [catL, partsC, formC, List.flatMap_cons, List.flatten_append] at ih ⊢; rw [ih]; simp
theorem take_snocC (xs : List CapI) (j : Nat) (x : CapI) (h : xs[j]? = some x) : xs.take (j + 1) = xs.take j ++ [x] := by
  obtain ⟨h1, h2⟩ := List.getElem?_eq_some_iff.1 h
  rw [List.take_succ_eq_append_getElem h1, h2]
theorem parts_snoc (xs : List CapI) (j : Nat) (x : CapI) (h : xs[j]? = some x) : partsC (xs.take (j + 1)) = partsC (xs.take j) ++ [[x.code, (x.data.length : Int)], x.data] := by
  rw [take_snocC xs j x h]
  simp [partsC, List.flatMap_append]
theorem form_snoc (xs : List CapI) (j : Nat) (x : CapI) (h : xs[j]? = some x) : formC (xs.take (j + 1)) = formC (xs.take j) ++ x.code :: (x.data.length : Int) :: x.data := by
  rw [take_snocC xs j x h]
  simp [formC]

/-- A part: bytes that lay there when the call began, or a block of bytes of its own. -/
def PartB (w wr : World) (ys : List Int) (u : Value) : Prop := ∃ A c, u = .slice A ys.length c ∧ ys.length ≤ c ∧ c ≤ maxLen ∧ IsB ys ∧ (Arr w A (bs ys) ∨ ∃ b cs, A = some ⟨b, 0, none⟩ ∧ Bk wr b 5 cs ∧ cs.toList = bs ys)
theorem PartB.byE {w wr : World} {ys : List Int} {u : Value} (h : PartB w wr ys u) (k : Kp NoB w wr) : ByE wr ys [u] := by
  obtain ⟨A, c, rfl, h1, h2, h3, h4⟩ := h
  refine ⟨A, c, rfl, h1, h2, ?_, h3⟩
  rcases h4 with h4 | ⟨b, cs, rfl, h5, h6⟩
  · exact h4.and k
  · have := Arr.of_bk h5 cs.toList.length
    rwa [List.take_length, h6] at this
theorem PartB.keep {w wr w2 : World} {S : Nat → Prop} {ys : List Int} {u : Value} (h : PartB w wr ys u) (k : Kp S wr w2) (hs : ∀ b cs, Bk wr b 5 cs → ¬ S b) : PartB w w2 ys u := by
  obtain ⟨A, c, rfl, h1, h2, h3, h4⟩ := h
  refine ⟨A, c, rfl, h1, h2, h3, h4.imp id (fun ⟨b, cs, e, h5, h6⟩ => ⟨b, cs, e, h5.keep k (hs b cs h5), h6⟩)⟩
/-- Cells that are byte strings, one each. -/
def PartL (w wr : World) (xss : List (List Int)) (cs : List Value) : Prop := cs.length = xss.length ∧ ∀ (k : Nat) (ys : List Int), xss[k]? = some ys → ∃ u, cs[k]? = some u ∧ PartB w wr ys u
theorem PartL.nil (w wr : World) : PartL w wr [] [] := ⟨rfl, fun k ys h => by simp at h⟩
theorem PartL.keep {w wr w2 : World} {S : Nat → Prop} {xss : List (List Int)} {cs : List Value} (h : PartL w wr xss cs) (k : Kp S wr w2) (hs : ∀ b cs, Bk wr b 5 cs → ¬ S b) : PartL w w2 xss cs :=
  ⟨h.1, fun i ys hi => by obtain ⟨u, h1, h2⟩ := h.2 i ys hi; exact ⟨u, h1, h2.keep k hs⟩⟩
theorem PartL.snoc {w wr : World} {xss : List (List Int)} {cs : List Value} (h : PartL w wr xss cs) {ys : List Int} {u : Value} (hu : PartB w wr ys u) : PartL w wr (xss ++ [ys]) (cs ++ [u]) := by
  refine ⟨by simp [h.1], fun k zs hk => ?_⟩
  rcases Nat.lt_trichotomy k xss.length with hj | hj | hj
  · rw [List.getElem?_append_left hj] at hk
    obtain ⟨u', h1, h2⟩ := h.2 k zs hk
    exact ⟨u', by rw [List.getElem?_append_left (by rw [h.1]; omega)]; exact h1, h2⟩
  · subst hj
    simp at hk
    subst hk
    exact ⟨u, by rw [List.getElem?_append_right (by rw [h.1]; omega), h.1]; simp, hu⟩
  · rw [List.getElem?_eq_none (by simp; omega)] at hk
    simp at hk
theorem PartL.sl {w wr : World} {xss : List (List Int)} {cs : List Value} (h : PartL w wr xss cs) (k : Kp NoB w wr) {A : Option Addr} (ha : Arr wr A cs) : Sl ByE 1 wr A xss := fun hn => by
  obtain ⟨ad, e, hc⟩ := ha (by rintro rfl; have := h.1; simp at this; exact hn (List.eq_nil_of_length_eq_zero this.symm))
  refine ⟨ad, e, fun j ys hj => ?_⟩
  obtain ⟨u, h1, h2⟩ := h.2 j ys hj
  refine ⟨[u], rfl, h2.byE k, fun i v hv => ?_⟩
  obtain rfl : i = 0 := by have := (List.getElem?_eq_some_iff.1 hv).1; simp at this; omega
  simp at hv
  subst hv
  rw [Nat.mul_one, Nat.add_zero]
  exact hc j _ h1
/-- A row's block is no block of another element type. -/
theorem own_ne {w : World} {base n size b : Nat} {e t : TypeId} {v : Value} {xs : List Value} {cs : Array Value} (h : w.ownsRow base e size v n xs) (hB : Bk w b t cs) (ht : t ≠ e) : ¬ some b = v.ownBlock := by
  rcases h.2 with ⟨rfl, _⟩ | ⟨g, cap, cur, rfl, hg, hh, _⟩
  · intro h; cases h
  · intro h
    have : b = g := by injection h
    subst this
    unfold Bk at hB
    rw [hh] at hB
    injection hB with hB
    injection hB with _ hB _
    exact ht hB.symm

theorem infoByS : (Tryd.prog.info? 43).map (fun i => (i.zero, i.size, i.bytes)) = some (some (.slice none 0 0), 1, 24) := by kernel_rfl

/-- What Bytes leaves where it succeeds. -/
def Formed (w : World) (xs : List Int) (e : Ending) (w' : World) : Prop := ∃ A c, e = .returned (.tuple #[.slice A xs.length c, .bool true]) ∧ w'.ownsRow w.heap.size 5 1 (.slice A xs.length c) xs.length (bs xs) ∧ Kp NoB w w'
theorem formed_of {w w' w1 : World} {xs : List Int} {A : Option Addr} {c : Nat} (h : w'.ownsRow w1.heap.size 5 1 (.slice A xs.length c) xs.length (bs xs)) (k1 : Kp NoB w w1) (k : Kp NoB w1 w') (e : Ending) (he : e = .returned (.tuple #[.slice A xs.length c, .bool true])) : Formed w xs e w' :=
  ⟨A, c, he, ⟨h.1, h.2.imp id (fun ⟨g, cap, cur, hv, hg, hr⟩ => ⟨g, cap, cur, hv, Nat.le_trans k1.size hg, hr⟩)⟩, k1.and k⟩

end Go.Proofs.YtjcmgfegnngjjaaDoor
