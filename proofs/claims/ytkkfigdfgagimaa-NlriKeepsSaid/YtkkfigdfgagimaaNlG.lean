/- Package nlri: Read: its contract by walking the Go text. -/
import Derived.Test.YtkkfigdfgagimaaNlF
import Derived.Test.YtkkfigdfgagimaaAtL
import Derived.Test.YtkkfigdfgagimaaNewO
namespace Go.Proofs.Ytkkfigdfgagimaa
open Go.RowKit
set_option linter.unusedVariables false
set_option linter.unusedSimpArgs false

/-- The routes of some bytes, at offset t, or the offset of the fault (with fuel). -/
def readN (fam : Int) (add : Bool) : Nat → List Int → Nat → Option (List RtI) × Int
  | 0, _, _ => (some [], -1)
  | f + 1, ys, t => if ys = [] then (some [], -1) else
    match readR fam add ys with
    | none => (none, t)
    | some (x, k) => match readN fam add f (ys.drop k) (t + k) with
      | (some l, e) => (some (x :: l), e)
      | (none, e) => (none, e)
def readL (fam : Int) (add : Bool) (ys : List Int) : Option (List RtI) × Int := readN fam add ys.length ys 0
theorem readR_good {fam : Int} {add : Bool} {ys : List Int} {x : RtI} {k : Nat} (hp : readR fam add ys = some (x, k)) (hB : IsB ys) (hf : -9223372036854775808 ≤ fam ∧ fam ≤ 9223372036854775807) : x.B ∧ 1 ≤ k ∧ k ≤ ys.length := by
  unfold readR at hp
  cases add with
  | false =>
    simp only [Bool.false_eq_true, if_false] at hp
    rcases h : readP fam ys with _ | ⟨p, k'⟩
    · simp [h] at hp
    · simp [h] at hp
      obtain ⟨rfl, rfl⟩ := hp
      have := readP_good h hB hf
      exact ⟨⟨by simp, this.1⟩, this.2.2.2⟩
  | true =>
    simp only [if_true] at hp
    split at hp
    · cases hp
    · rename_i h4
      rcases h : readP fam (ys.drop 4) with _ | ⟨p, k'⟩
      · simp [h] at hp
      · simp [h] at hp
        obtain ⟨rfl, rfl⟩ := hp
        have := readP_good h (hB.drop 4) hf
        have hb := big_bound (ys.take 4) (hB.take 4)
        have h44 : (ys.take 4).length = 4 := by rw [List.length_take]; omega
        rw [h44] at hb
        have hl := this.2.2.2.2
        rw [List.length_drop] at hl
        exact ⟨⟨⟨hb.1, by have := hb.2; simp at this; simp only; omega⟩, this.1⟩, by omega, by omega⟩
theorem readN_fuel (fam : Int) (add : Bool) (hf : -9223372036854775808 ≤ fam ∧ fam ≤ 9223372036854775807) : ∀ (f g : Nat) (ys : List Int) (t : Nat), ys.length ≤ f → ys.length ≤ g → IsB ys → readN fam add f ys t = readN fam add g ys t := by
  intro f
  induction f with
  | zero =>
    intro g ys t h1 h2 hB
    have : ys = [] := List.eq_nil_of_length_eq_zero (by omega)
    subst this
    cases g <;> simp [readN]
  | succ f ih =>
    intro g ys t h1 h2 hB
    by_cases hy : ys = []
    · subst hy
      cases g <;> simp [readN]
    · have hl : 0 < ys.length := List.length_pos_iff.2 hy
      cases g with
      | zero => omega
      | succ g =>
        rw [readN, readN, if_neg hy, if_neg hy]
        rcases h : readR fam add ys with _ | ⟨x, k⟩
        · rfl
        · have := readR_good h hB hf
          simp only
          rw [ih g (ys.drop k) (t + k) (by rw [List.length_drop]; omega) (by rw [List.length_drop]; omega) (hB.drop k)]

/-- Where reading stands: the routes xs are read; zs is left, at offset t. -/
def ReadSt (fam : Int) (add : Bool) (ys : List Int) (xs : List RtI) (zs : List Int) (t : Nat) : Prop :=
  xs.length + zs.length ≤ ys.length ∧ IsB zs ∧ (∀ x ∈ xs, x.B) ∧ readL fam add ys = (match readN fam add zs.length zs t with | (some l, e) => (some (xs ++ l), e) | (none, e) => (none, e))
theorem ReadSt.start (fam : Int) (add : Bool) (ys : List Int) (hB : IsB ys) : ReadSt fam add ys [] ys 0 := by
  refine ⟨by simp, hB, by simp, ?_⟩
  unfold readL
  rcases readN fam add ys.length ys 0 with ⟨_ | l, e⟩ <;> rfl
theorem ReadSt.done {fam : Int} {add : Bool} {ys : List Int} {xs : List RtI} {t : Nat} (h : ReadSt fam add ys xs [] t) : readL fam add ys = (some xs, -1) := by
  rw [h.2.2.2]
  simp [readN]
theorem ReadSt.fail {fam : Int} {add : Bool} {ys : List Int} {xs : List RtI} {zs : List Int} {t : Nat} (h : ReadSt fam add ys xs zs t) (hz : zs ≠ []) (hr : readR fam add zs = none) : readL fam add ys = (none, (t : Int)) := by
  rw [h.2.2.2]
  have hl : 0 < zs.length := List.length_pos_iff.2 hz
  obtain ⟨n, hn⟩ : ∃ n, zs.length = n + 1 := ⟨zs.length - 1, by omega⟩
  rw [hn, readN, if_neg hz, hr]
theorem ReadSt.step {fam : Int} {add : Bool} {ys : List Int} {xs : List RtI} {zs : List Int} {t : Nat} (h : ReadSt fam add ys xs zs t) (hf : -9223372036854775808 ≤ fam ∧ fam ≤ 9223372036854775807) (hz : zs ≠ []) {x : RtI} {k : Nat} (hr : readR fam add zs = some (x, k)) : ReadSt fam add ys (xs ++ [x]) (zs.drop k) (t + k) := by
  obtain ⟨h1, h2, h3, h4⟩ := h
  have hg := readR_good hr h2 hf
  refine ⟨by simp; omega, h2.drop k, ?_, ?_⟩
  · intro y hy
    rcases List.mem_append.1 hy with hy | hy
    · exact h3 y hy
    · simp at hy; subst hy; exact hg.1
  · rw [h4]
    have hl : 0 < zs.length := List.length_pos_iff.2 hz
    obtain ⟨n, hn⟩ : ∃ n, zs.length = n + 1 := ⟨zs.length - 1, by omega⟩
    rw [hn, readN, if_neg hz, hr]
    simp only
    rw [readN_fuel fam add hf n (zs.drop k).length (zs.drop k) (t + k) (by rw [List.length_drop]; omega) (Nat.le_refl _) (h2.drop k)]
    rcases readN fam add (zs.drop k).length (zs.drop k) (t + k) with ⟨_ | l, e⟩
    · rfl
    · simp

/-- Rows end to end. -/
def flatE {α : Type} (enc : α → List Value) (xs : List α) : List Value := xs.flatMap enc
theorem flatE_length {α : Type} {enc : α → List Value} {sz : Nat} (xs : List α) (h : ∀ x ∈ xs, (enc x).length = sz) : (flatE enc xs).length = xs.length * sz := by
  induction xs with
  | nil => simp [flatE]
  | cons x xs ih =>
    have h1 := ih (fun y hy => h y (by simp [hy]))
    have h2 := h x (by simp)
    simp only [flatE, List.flatMap_cons, List.length_append, List.length_cons] at h1 ⊢
    rw [h1, h2, Nat.succ_mul]
    omega
theorem flatE_get {α : Type} {enc : α → List Value} {sz : Nat} : ∀ (xs : List α), (∀ x ∈ xs, (enc x).length = sz) → ∀ (j : Nat) (x : α), xs[j]? = some x → ∀ i u, (enc x)[i]? = some u → (flatE enc xs)[j * sz + i]? = some u
  | [], _, j, x, h, _, _, _ => by simp at h
  | y :: ys, hs, 0, x, h, i, u, hu => by
    simp at h
    subst h
    simp only [flatE, List.flatMap_cons, Nat.zero_mul, Nat.zero_add]
    rw [List.getElem?_append_left (List.getElem?_eq_some_iff.1 hu).1]
    exact hu
  | y :: ys, hs, j + 1, x, h, i, u, hu => by
    have hy := hs y (by simp)
    simp only [flatE, List.flatMap_cons]
    rw [List.getElem?_append_right (by rw [hy, Nat.succ_mul]; omega), hy, show (j + 1) * sz + i - sz = j * sz + i by rw [Nat.succ_mul]; omega]
    exact flatE_get ys (fun z hz => hs z (by simp [hz])) j x (by simpa using h) i u hu
theorem sl_of_arr {α : Type} {enc : α → List Value} {sz : Nat} {w : World} {A : Option Addr} {xs : List α} (h : Arr w A (flatE enc xs)) (hs : ∀ x ∈ xs, (enc x).length = sz) (h0 : 0 < sz) : Sl (Flat enc) sz w A xs := fun hn => by
  obtain ⟨ad, e, hc⟩ := h (by
    intro he
    have hl := flatE_length xs hs
    rw [he] at hl
    have : 0 < xs.length := List.length_pos_iff.2 hn
    have := Nat.mul_pos this h0
    simp at hl
    omega)
  exact ⟨ad, e, fun j x hx => ⟨enc x, hs x (List.mem_of_getElem? hx), rfl, fun i u hu => hc _ u (flatE_get xs hs j x hx i u hu)⟩⟩
theorem flatE_snoc {α : Type} (enc : α → List Value) (xs : List α) (x : α) : flatE enc (xs ++ [x]) = flatE enc xs ++ enc x := by simp [flatE]
theorem rtL_of_own {w : World} {base : Nat} {A : Option Addr} {c : Nat} {xs : List RtI} (h : w.ownsRow base 31 19 (.slice A xs.length c) xs.length (flatE rtC xs)) (hB : ∀ x ∈ xs, x.B) : RtL w A xs := ⟨sl_of_arr (Arr.of_own h) (fun x hx => rtC_length (hB x hx).2.2.2.1) (by decide), hB⟩

def lenV : Value → Nat
  | .slice _ n _ => n
  | _ => 0

/-- What Read leaves. -/
def NReadYes (xs : List RtI) (w : World) (e : Ending) (w' : World) : Prop := ∃ A c, e = .returned (.tuple #[.slice A xs.length c, .int .i64 (-1)]) ∧ w'.ownsRow w.heap.size 31 19 (.slice A xs.length c) xs.length (flatE rtC xs) ∧ Kp NoB w w'
def NReadAny (o : Option (List RtI) × Int) (w : World) (e : Ending) (w' : World) : Prop := match o with
  | (some xs, _) => NReadYes xs w e w'
  | (none, t) => e = .returned (.tuple #[.slice none 0 0, .int .i64 t]) ∧ Kp NoB w w'

end Go.Proofs.Ytkkfigdfgagimaa
