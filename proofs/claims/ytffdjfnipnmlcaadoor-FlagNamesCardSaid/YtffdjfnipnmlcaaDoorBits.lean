/- Single bits of an int: 'f & 128', 'f & 192', 'f | 32', 'f ^ low & 31' told by the bits of f. No program. No condition. -/
import Derived.Laws.Entries
import Derived.Laws.BitsLemmas
namespace Go.Proofs.YtffdjfnipnmlcaaDoor
open Go
set_option linter.unusedSimpArgs false

/-- Bit i of the int f. -/
def fbit (f : Int) (i : Nat) : Bool := (BitVec.ofInt 64 f).getLsbD i

theorem toNat_twoPow7 : (BitVec.twoPow 64 7).toNat = 128 := by decide

theorem and_bit (f : Int) (i : Nat) (c : Int) (hc : BitVec.ofInt 64 c = BitVec.twoPow 64 i) (hn : IntKind.i64.wrap ((BitVec.twoPow 64 i).toNat : Int) = c) :
    bits .and .i64 f c = if fbit f i then c else 0 := by
  show IntKind.i64.wrap (((BitVec.ofInt 64 f &&& BitVec.ofInt 64 c : BitVec 64).toNat : Nat) : Int) = _
  rw [hc, BitVec.and_twoPow]
  unfold fbit
  split
  · exact hn
  · simp [IntKind.wrap_i64]

theorem and_128 (f : Int) : bits .and .i64 f 128 = if fbit f 7 then 128 else 0 := and_bit f 7 128 (by decide) (by decide)
theorem and_64 (f : Int) : bits .and .i64 f 64 = if fbit f 6 then 64 else 0 := and_bit f 6 64 (by decide) (by decide)
theorem and_32 (f : Int) : bits .and .i64 f 32 = if fbit f 5 then 32 else 0 := and_bit f 5 32 (by decide) (by decide)
theorem and_16 (f : Int) : bits .and .i64 f 16 = if fbit f 4 then 16 else 0 := and_bit f 4 16 (by decide) (by decide)

theorem and_192 (f : Int) : bits .and .i64 f 192 = (if fbit f 7 then 128 else 0) + (if fbit f 6 then 64 else 0) := by
  show IntKind.i64.wrap (((BitVec.ofInt 64 f &&& BitVec.ofInt 64 192 : BitVec 64).toNat : Nat) : Int) = _
  have h : BitVec.ofInt 64 (192 : Int) = BitVec.twoPow 64 7 ||| BitVec.twoPow 64 6 := by decide
  have hd : BitVec.ofInt 64 f &&& (BitVec.twoPow 64 7 ||| BitVec.twoPow 64 6) = (BitVec.ofInt 64 f &&& BitVec.twoPow 64 7) ||| (BitVec.ofInt 64 f &&& BitVec.twoPow 64 6) := by
    ext i hi
    simp [Bool.and_or_distrib_left]
  rw [h, hd, BitVec.and_twoPow, BitVec.and_twoPow]
  unfold fbit
  cases (BitVec.ofInt 64 f).getLsbD 7 <;> cases (BitVec.ofInt 64 f).getLsbD 6 <;> decide

theorem ofInt_wrap (x : BitVec 64) : BitVec.ofInt 64 (IntKind.i64.wrap (x.toNat : Int)) = x := by
  apply BitVec.eq_of_toNat_eq
  rw [BitVec.toNat_ofInt, IntKind.wrap_i64]
  have := x.isLt
  omega

theorem fbit_xor (f g : Int) (i : Nat) : fbit (bits .xor .i64 f g) i = (fbit f i != fbit g i) := by
  show (BitVec.ofInt 64 (IntKind.i64.wrap (((BitVec.ofInt 64 f ^^^ BitVec.ofInt 64 g : BitVec 64).toNat : Nat) : Int))).getLsbD i = _
  rw [ofInt_wrap, BitVec.getLsbD_xor]
  rfl

theorem fbit_and (f g : Int) (i : Nat) : fbit (bits .and .i64 f g) i = (fbit f i && fbit g i) := by
  show (BitVec.ofInt 64 (IntKind.i64.wrap (((BitVec.ofInt 64 f &&& BitVec.ofInt 64 g : BitVec 64).toNat : Nat) : Int))).getLsbD i = _
  rw [ofInt_wrap, BitVec.getLsbD_and]
  rfl

/-- Bits from the sixth on are those of f, whatever is turned below. -/
theorem fbit_low (f low : Int) (i : Nat) (h : fbit 31 i = false) : fbit (bits .xor .i64 f (bits .and .i64 low 31)) i = fbit f i := by
  rw [fbit_xor, fbit_and, h]
  simp

end Go.Proofs.YtffdjfnipnmlcaaDoor
