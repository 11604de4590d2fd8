/- Plain words on the names and texts of notifications: no program, no memory. No condition. -/
import Derived.Test.YtjcmgfegnngjjaaDoorPlain
import Derived.Lib.ItoaNum
import Derived.Lib.ItoaMem
import Derived.Laws.Concat
namespace Go.Proofs.YtjcmgfegnngjjaaDoor
open Go

/-- A string of these bytes. -/
def ba (l : List UInt8) : ByteArray := ⟨l.toArray⟩
theorem ba_app (x y : List UInt8) : ba x ++ ba y = ba (x ++ y) := ByteArray.mk_append_mk x y
theorem ba_size (l : List UInt8) : (ba l).size = l.length := by simp [ba, ByteArray.size]
theorem ba_toList (l : List UInt8) : (ba l).toList = l := by rw [ByteArray.toList_eq]; simp [ba]
theorem ba_data (l : List UInt8) : (ba l).data.toList = l := by simp [ba]
theorem ba_extract (l : List UInt8) (i j : Nat) : (ba l).extract i j = ba ((l.drop i).take (j - i)) := by
  apply ByteArray.ext
  simp [ba, ByteArray.data_extract, List.extract_eq_take_drop]

def nmRow1 : List (List UInt8) := [[104, 101, 97, 100, 101, 114], [109, 97, 114, 107, 101, 114], [108, 101, 110, 103, 116, 104], [116, 121, 112, 101], [], [], [], [], [], [], [], []]
def nmRow2 : List (List UInt8) := [[111, 112, 101, 110], [118, 101, 114, 115, 105, 111, 110], [112, 101, 101, 114], [105, 100, 101, 110, 116, 105, 102, 105, 101, 114], [112, 97, 114, 97, 109, 101, 116, 101, 114], [], [104, 111, 108, 100], [], [], [], [], []]
def nmRow3 : List (List UInt8) := [[117, 112, 100, 97, 116, 101], [97, 116, 116, 114, 105, 98, 117, 116, 101, 115], [117, 110, 114, 101, 99, 111, 103, 110, 105, 122, 101, 100], [109, 105, 115, 115, 105, 110, 103], [102, 108, 97, 103, 115], [115, 105, 122, 101], [111, 114, 105, 103, 105, 110], [], [110, 101, 120, 116, 104, 111, 112], [111, 112, 116, 105, 111, 110, 97, 108], [110, 101, 116, 119, 111, 114, 107], [112, 97, 116, 104]]
def nmRow4 : List (List UInt8) := [[116, 105, 109, 101, 114], [], [], [], [], [], [], [], [], [], [], []]
def nmRow5 : List (List UInt8) := [[115, 116, 97, 116, 101], [], [], [], [], [], [], [], [], [], [], []]
def nmRow6 : List (List UInt8) := [[99, 101, 97, 115, 101], [], [], [], [], [], [], [], [], [], [], []]
/-- The names of a code: its own, and those of its subcodes. -/
def nmRow (c : Int) : List (List UInt8) := if c = 1 then nmRow1 else if c = 2 then nmRow2 else if c = 3 then nmRow3 else if c = 4 then nmRow4 else if c = 5 then nmRow5 else nmRow6
/-- The name of an error. -/
def nm (c s : Int) : List UInt8 :=
  if 1 ≤ c ∧ c ≤ 6 then (if 0 < s ∧ s < 12 ∧ (nmRow c).getD s.toNat [] ≠ [] then (nmRow c).getD 0 [] ++ (47 :: (nmRow c).getD s.toNat []) else (nmRow c).getD 0 []) else [101, 114, 114, 111, 114]
theorem nmRow_length (c : Int) : (nmRow c).length = 12 := by
  unfold nmRow
  repeat' split
  all_goals rfl
theorem nmRow_short (c : Int) (i : Nat) : ((nmRow c).getD i []).length ≤ 12 := by
  have h : ∀ r ∈ [nmRow1, nmRow2, nmRow3, nmRow4, nmRow5, nmRow6], ∀ x ∈ r, x.length ≤ 12 := by decide
  have hm : nmRow c ∈ [nmRow1, nmRow2, nmRow3, nmRow4, nmRow5, nmRow6] := by
    unfold nmRow
    repeat' split
    all_goals simp
  rw [List.getD_eq_getElem?_getD]
  cases hx : (nmRow c)[i]? with
  | none => simp
  | some x => exact h _ hm _ (List.mem_of_getElem? hx)
theorem nm_length (c s : Int) : (nm c s).length ≤ 25 := by
  unfold nm
  have h0 := nmRow_short c 0
  have h1 := nmRow_short c s.toNat
  split
  · split
    · simp only [List.length_append, List.length_cons]; omega
    · omega
  · decide
theorem nm_zero (c s : Int) : (nm c s).take (nm c 0).length = nm c 0 := by
  unfold nm
  by_cases hc : 1 ≤ c ∧ c ≤ 6
  · simp only [if_pos hc, show ¬ ((0 : Int) < 0 ∧ (0 : Int) < 12 ∧ (nmRow c).getD (0 : Int).toNat [] ≠ []) from fun h => by omega, if_false]
    split
    · simp
    · simp
  · simp only [if_neg hc]
    decide
theorem nm_zero_le (c s : Int) : (nm c 0).length ≤ (nm c s).length := by
  have h := congrArg List.length (nm_zero c s)
  rw [List.length_take] at h
  omega

/-- A digit of base 16. -/
def hx (n : Int) : UInt8 := if n < 10 then UInt8.ofNat (48 + n.toNat) else UInt8.ofNat (87 + n.toNat)
/-- Two digits for each byte. -/
def hexL (xs : List Int) : List UInt8 := xs.flatMap fun x => [hx (x / 16), hx (x % 16)]
theorem hexL_length (xs : List Int) : (hexL xs).length = 2 * xs.length := by
  induction xs with
  | nil => rfl
  | cons x xs ih => simp only [hexL, List.flatMap_cons, List.length_append, List.length_cons, List.length_nil] at ih ⊢; omega
theorem hexL_snoc (xs : List Int) (x : Int) : hexL (xs ++ [x]) = hexL xs ++ [hx (x / 16), hx (x % 16)] := by simp [hexL]
theorem hexL_take (xs : List Int) (j : Nat) (h : j < xs.length) : hexL (xs.take (j + 1)) = hexL (xs.take j) ++ [hx (xs.getD j 0 / 16), hx (xs.getD j 0 % 16)] := by
  rw [take_snoc xs j h, hexL_snoc]

/-- A number in decimal form, of few digits. -/
theorem dec_short (n : Nat) (h : n < 18446744073709551616) : (Lib.decDigits n).length ≤ 20 := by
  rw [Lib.decDigits_length]
  by_cases h1 : 1 ≤ n
  · have := Lib.numDigits_eq n h1 h
    split at this <;> omega
  · rw [Lib.nDigits_small (by omega)]; omega
theorem itoa_dec (n : Int) (h : 0 ≤ n) : Lib.itoa n = Lib.decDigits n.toNat := by
  obtain ⟨u, rfl⟩ : ∃ u : Nat, n = u := ⟨n.toNat, by omega⟩
  rw [Lib.itoa_nonneg]
  rfl

/-- What stands before the last digit. -/
def preD (m : Nat) : List UInt8 := if m < 10 then [] else Lib.decDigits (m / 10)
theorem dec_pre (m : Nat) : Lib.decDigits m = preD m ++ [UInt8.ofNat (48 + m % 10)] := by
  unfold preD
  rw [Lib.decDigits]
  split
  · rw [Nat.mod_eq_of_lt (by assumption)]; simp
  · rfl
theorem dec_step (m : Nat) (h : ¬ m < 10) : preD m = preD (m / 10) ++ [UInt8.ofNat (48 + m / 10 % 10)] := by
  rw [← dec_pre]
  unfold preD
  rw [if_neg h]
end Go.Proofs.YtjcmgfegnngjjaaDoor
