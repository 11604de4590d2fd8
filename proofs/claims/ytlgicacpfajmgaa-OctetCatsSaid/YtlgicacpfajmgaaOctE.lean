/- Readers' numbers for every width; that the examples of chapter 1 hold. -/
import Derived.Test.YtlgicacpfajmgaaOctB
import Derived.Test.YtlgicacpfajmgaaOctC
import Derived.Test.YtlgicacpfajmgaaOctD
namespace Go.Proofs.Ytlgicacpfajmgaa
open Go.RowKit
set_option linter.unusedVariables false
set_option linter.unusedSimpArgs false

/-- Is there a number of k bytes in front? -/
def numB (k : Int) (ys : List Int) : Bool := decide (1 ≤ k ∧ k ≤ 4 ∧ k ≤ (ys.length : Int))
/-- The number of k bytes in front, or 0. -/
def numV (k : Int) (ys : List Int) : Int := if numB k ys then big (ys.take k.toNat) else 0
/-- How many bytes it takes. -/
def numN (k : Int) (ys : List Int) : Nat := if numB k ys then k.toNat else 0

def NumAny (w : World) (q r : Nat) (ys : List Int) (t : Nat) (k : Int) (e : Ending) (w' : World) : Prop :=
  e = .returned (.tuple #[.int .u32 (numV k ys), .bool (numB k ys)]) ∧ Rd w' q r (ys.drop (numN k ys)) (t + numN k ys) ∧ Kp (OnB r) w w'

theorem numAny_no {w w' : World} {q r : Nat} {ys : List Int} {t : Nat} {k : Int} {e : Ending} (h : Rd w q r ys t) (hf : numB k ys = false) (hs : Stay (.tuple #[.int .u32 0, .bool false]) w e w') : NumAny w q r ys t k e w' := by
  obtain ⟨rfl, hK⟩ := hs
  refine ⟨by simp [numV, hf], by simpa [numN, hf] using h.and hK, hK.wide _⟩

theorem number_any (w : World) (q r : Nat) (ys : List Int) (t : Nat) (k : Int) (h : Rd w q r ys t) :
    Calls Try.prog 11 #[.pointer (some ⟨r, 0, none⟩), .int .i64 k] w (NumAny w q r ys t k) := by
  by_cases hk : k < 1 ∨ 4 < k
  · exact (number_range w _ k hk).mono fun _ _ hs => numAny_no h (by simp [numB]; omega) hs
  · by_cases hl : (ys.length : Int) < k
    · exact (number_short w q r ys t k h (by omega) (by omega) hl).mono fun _ _ hs => numAny_no h (by simp [numB]; omega) hs
    · obtain ⟨n, rfl⟩ := Int.eq_ofNat_of_zero_le (show 0 ≤ k by omega)
      refine (number_yes w q r ys t n h (by omega) (by omega) (by omega)).mono fun _ _ hs => ?_
      have hb : numB n ys = true := by simp [numB]; omega
      obtain ⟨rfl, hR, hK⟩ := hs
      refine ⟨by simp [numV, hb], by simpa [numN, hb] using hR, hK⟩

theorem number_no (w : World) (q r : Nat) (ys : List Int) (t : Nat) (k : Int) (h : Rd w q r ys t) (hf : numB k ys = false) :
    Calls Try.prog 11 #[.pointer (some ⟨r, 0, none⟩), .int .i64 k] w (Stay (.tuple #[.int .u32 0, .bool false]) w) := by
  by_cases hk : k < 1 ∨ 4 < k
  · exact number_range w _ k hk
  · by_cases hl : (ys.length : Int) < k
    · exact number_short w q r ys t k h (by omega) (by omega) hl
    · exfalso
      simp [numB] at hf
      omega

/-- A reader after a step of which only that is told: it is a reader still. -/
def Some (w : World) (q r : Nat) (e : Ending) (w' : World) : Prop := (∃ v, e = .returned v) ∧ ∃ ys t, Rd w' q r ys t ∧ Kp (OnB r) w w'

theorem number_some (w : World) (q r : Nat) (ys : List Int) (t : Nat) (k : Int) (h : Rd w q r ys t) :
    Calls Try.prog 11 #[.pointer (some ⟨r, 0, none⟩), .int .i64 k] w (Some w q r) :=
  (number_any w q r ys t k h).mono fun _ _ ⟨he, hR, hK⟩ => ⟨⟨_, he⟩, _, _, hR, hK⟩

theorem take_some (w : World) (q r : Nat) (ys : List Int) (t : Nat) (k : Int) (h : Rd w q r ys t) :
    Calls Try.prog 15 #[.pointer (some ⟨r, 0, none⟩), .int .i64 k] w (Some w q r) := by
  by_cases hk : k < 0 ∨ (ys.length : Int) < k
  · exact (take_no w q r ys t k h hk).mono fun _ _ ⟨he, hK⟩ => ⟨⟨_, he⟩, _, _, h.and hK, hK.wide _⟩
  · obtain ⟨n, rfl⟩ := Int.eq_ofNat_of_zero_le (show 0 ≤ k by omega)
    exact (take_yes w q r ys t n h (by omega)).mono fun _ _ ⟨A, c, he, _, hR, hK⟩ => ⟨⟨_, he⟩, _, _, hR, hK⟩

/-! ### The examples -/

/-- The two bytes of 258, read again behind a reader's step. -/
theorem two_bytes {w w1 w2 w3 : World} {A : Option Addr} {c r : Nat} {o : Obj} (hown : w1.ownsRow w.heap.size 5 1 (.slice A 2 c) 2 (bs (putL 2 258))) (hr : (w1.alloc o).heap.size ≤ r) (hK2 : Kp NoB (w1.alloc o) w2) (hK3 : Kp (OnB r) w2 w3) :
    ∃ g, A = some ⟨g, 0, none⟩ ∧ w3.cell? ⟨g, 0, none⟩ = some (.int .u8 1) ∧ w3.cell? ⟨g, 1, none⟩ = some (.int .u8 2) := by
  have hlt := hown.lt
  have hA := Arr.of_own hown
  rcases hown.2 with ⟨he, _⟩ | ⟨g, cap, cur, hv, _⟩
  · injection he with _ h2 _; cases h2
  · injection hv with hv _ _
    subst hv
    obtain ⟨ad, e, hc⟩ := hA (by simp [putL_2, bs])
    cases e
    have hg := (hlt g rfl).2
    have hk : ∀ j u, (bs (putL 2 258))[j]? = some u → w3.cell? ⟨g, 0 + j, none⟩ = some u := fun j u hu => by
      have h1 := hc j u hu
      rw [add_none] at h1
      refine hK3.cell (hK2.cell ((World.cell?_alloc_lt w1 o _ ?_).trans h1) (fun q => q)) ?_
      · exact hg
      · intro hq
        have hq' : g = r := hq
        rw [World.size_alloc] at hr
        omega
    exact ⟨g, rfl, hk 0 _ (by simp [putL_2, bs]), hk 1 _ (by simp [putL_2, bs])⟩

set_option maxHeartbeats 1000000 in
theorem alive_any (w : World) : Calls Try.prog 12 #[] w (Stay (.bool true) w) := by
  have hput := put_yes2 258 w (by decide) (by decide)
  have HP := Lib.hid hput
  clear hput
  go_enter Try.func12, Try.ntmps12
  go_wp2_with (go_at_call 8; refine HP.out.mono ?_; rintro e w1 ⟨A, c, rfl, hown, hK1⟩)
  go_wp2_with (go_at_call 10; refine (new_any _ 4 [7, 8, 9, 10] _ (by decide) (Arr.lit w1 5 (bs [7, 8, 9, 10])) (by intro x hx; simp at hx; omega)).mono ?_; rintro e w2 ⟨q, r, rfl, hr, _, _, hR, hK2⟩)
  go_wp2_with (go_at_call 15; refine (take_yes _ q r _ 0 3 hR (by decide)).mono ?_; rintro e w3 ⟨A3, c3, rfl, _, hR3, hK3⟩; obtain ⟨g, rfl, hc0, hc1⟩ := two_bytes hown hr hK2 hK3)
  go_wp2_with (first
    | (go_at_call 16; refine (at_any _ q r _ _ hR3).mono ?_; rintro e w4 ⟨rfl, hK4⟩)
    | (go_at_call 17; refine (left_any _ q r _ _ (hR3.and hK4)).mono ?_; rintro e w5 ⟨rfl, hK5⟩))
  go_ret
  have hs := hK1.size
  rw [World.size_alloc] at hr
  exact ⟨rfl, ((((hK1.alloc _).and hK2).new hK3 (by omega)).and hK4).and hK5⟩

end Go.Proofs.Ytlgicacpfajmgaa
