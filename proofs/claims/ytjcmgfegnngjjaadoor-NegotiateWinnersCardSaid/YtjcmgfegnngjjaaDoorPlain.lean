/- Plain words on lists of bytes and numbers: no program, no memory. No condition. -/
import Derived.Laws.BitsLemmas
namespace Go.Proofs.YtjcmgfegnngjjaaDoor
open Go

/-- All are bytes. -/
def IsB (xs : List Int) : Prop := ∀ x ∈ xs, 0 ≤ x ∧ x < 256
theorem IsB.nil : IsB [] := fun x h => by simp at h
theorem IsB.take {xs : List Int} (h : IsB xs) (n : Nat) : IsB (xs.take n) := fun x hx => h x (List.mem_of_mem_take hx)
theorem IsB.drop {xs : List Int} (h : IsB xs) (n : Nat) : IsB (xs.drop n) := fun x hx => h x (List.mem_of_mem_drop hx)
theorem IsB.append {xs ys : List Int} (h : IsB xs) (k : IsB ys) : IsB (xs ++ ys) := fun x hx => by
  rcases List.mem_append.1 hx with h1 | h1
  · exact h x h1
  · exact k x h1
theorem IsB.getD {xs : List Int} (h : IsB xs) (i : Nat) : 0 ≤ xs.getD i 0 ∧ xs.getD i 0 < 256 := by
  rw [List.getD_eq_getElem?_getD]
  cases hx : xs[i]? with
  | none => simp
  | some x => exact h x (List.mem_of_getElem? hx)

/-- The number of some bytes. -/
def big (xs : List Int) : Int := xs.foldl (fun a y => a * 256 + y) 0
theorem big_snoc (xs : List Int) (y : Int) : big (xs ++ [y]) = big xs * 256 + y := by simp [big, List.foldl_append]
theorem take_snoc (xs : List Int) (i : Nat) (h : i < xs.length) : xs.take (i + 1) = xs.take i ++ [xs.getD i 0] := by
  rw [List.take_succ_eq_append_getElem h]
  simp [h]
theorem big_take_succ (xs : List Int) (i : Nat) (h : i < xs.length) : big (xs.take (i + 1)) = big (xs.take i) * 256 + xs.getD i 0 := by
  rw [take_snoc xs i h, big_snoc]
theorem big_fold (xs : List Int) : ∀ a : Int, IsB xs → 0 ≤ a → 0 ≤ xs.foldl (fun a y => a * 256 + y) a ∧ xs.foldl (fun a y => a * 256 + y) a < (a + 1) * 256 ^ xs.length := by
  induction xs with
  | nil => intro a _ h0; simp; omega
  | cons x xs ih =>
    intro a hb h0
    have hx := hb x (by simp)
    obtain ⟨h1, h2⟩ := ih (a * 256 + x) (fun y hy => hb y (by simp [hy])) (by omega)
    refine ⟨h1, Int.lt_of_lt_of_le h2 ?_⟩
    simp only [List.length_cons, Int.pow_succ]
    have hp : (0 : Int) ≤ 256 ^ xs.length := Int.pow_nonneg (by decide)
    have : (a * 256 + x + 1) * 256 ^ xs.length ≤ ((a + 1) * 256) * 256 ^ xs.length := Int.mul_le_mul_of_nonneg_right (by omega) hp
    rw [Int.mul_comm (256 ^ xs.length) 256, ← Int.mul_assoc]
    exact this
theorem big_bound (xs : List Int) (h : IsB xs) : 0 ≤ big xs ∧ big xs < 256 ^ xs.length := by
  have := big_fold xs 0 h (by decide)
  simpa [big] using this

theorem big_small (xs : List Int) (h : IsB xs) (hn : xs.length ≤ 3) : 0 ≤ big xs ∧ big xs < 16777216 := by
  obtain ⟨h1, h2⟩ := big_bound xs h
  refine ⟨h1, Int.lt_of_lt_of_le h2 ?_⟩
  have : (256 : Nat) ^ xs.length ≤ 256 ^ 3 := Nat.pow_le_pow_right (by decide) hn
  have h3 : ((256 : Nat) ^ xs.length : Int) ≤ ((256 : Nat) ^ 3 : Nat) := by exact_mod_cast this
  simpa using h3

theorem wraps_u32 (n : Int) (h₀ : 0 ≤ n) (h₁ : n < 2 ^ 32) : IntKind.u32.wrap n = n := by rw [IntKind.wrap_u32]; omega
theorem u32_or8 (x y : Int) (h0 : 0 ≤ x) (h1 : x < 16777216) (h2 : 0 ≤ y) (h3 : y < 256) : bits .or .u32 (x * 256) y = x * 256 + y :=
  bits_join .u32 32 (by decide) wraps_u32 8 _ _ (by omega) (by omega) (by omega) h2 (by omega) (by omega)

theorem u32_and255 (x : Int) (h0 : 0 ≤ x) (h1 : x < 4294967296) : bits .and .u32 x 255 = x % 256 := bits_mask .u32 32 (by decide) wraps_u32 8 (by decide) x h0 (by omega)

/-- The number x as k bytes, its higher bytes dropped. -/
def putL : Nat → Int → List Int
  | 0, _ => []
  | k + 1, x => putL k (x / 256) ++ [x % 256]
theorem putL_length (k : Nat) : ∀ x : Int, (putL k x).length = k := by
  induction k with
  | zero => intro x; rfl
  | succ k ih => intro x; simp [putL, ih]
theorem putL_isB (k : Nat) : ∀ x : Int, IsB (putL k x) := by
  induction k with
  | zero => intro x; exact IsB.nil
  | succ k ih => intro x; exact (ih _).append (fun y hy => by simp at hy; omega)
theorem putL_1 (x : Int) : putL 1 x = [x % 256] := rfl
theorem putL_2 (x : Int) : putL 2 x = [x / 256 % 256, x % 256] := rfl
theorem putL_3 (x : Int) : putL 3 x = [x / 65536 % 256, x / 256 % 256, x % 256] := by simp only [putL, List.nil_append, List.cons_append]; congr 1; omega
theorem putL_4 (x : Int) : putL 4 x = [x / 16777216 % 256, x / 65536 % 256, x / 256 % 256, x % 256] := by simp only [putL, List.nil_append, List.cons_append]; congr 1; omega; congr 1; omega
theorem big_putL (k : Nat) : ∀ x : Int, 0 ≤ x → x < 256 ^ k → big (putL k x) = x := by
  induction k with
  | zero => intro x h0 h1; simp at h1; simp [putL, big]; omega
  | succ k ih =>
    intro x h0 h1
    rw [putL, big_snoc, ih (x / 256) (by omega) (by rw [Int.pow_succ] at h1; omega)]
    omega
end Go.Proofs.YtjcmgfegnngjjaaDoor
