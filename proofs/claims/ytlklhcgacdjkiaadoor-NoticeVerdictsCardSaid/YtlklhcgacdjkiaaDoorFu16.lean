/- strconv.FormatUint at base 16 of the numbers 256 to 511: three digits. No condition but one cell of a listed table. -/
import Derived.Test.YtlklhcgacdjkiaaDoorMem
import Derived.Test.YtlklhcgacdjkiaaDoorDec
import Derived.Lib.TrailingZeros
import Derived.Lib.LaidTab
import Derived.Laws.Shifts
import Derived.Lib.Walk
import Derived.BigCall
import Derived.BigGuard
import Derived.CellFam
import Derived.Outline
namespace Go.Proofs.YtlklhcgacdjkiaaDoor
open Go.RowKit
set_option linter.unusedVariables false
set_option linter.unusedSimpArgs false

/-- The one cell of the table that 16 leads to. -/
def T64 (w : World) : Prop := w.cell? ⟨3, 15, none⟩ = some (.int .u8 4)
theorem T64.and {w w' : World} (h : T64 w) (k : Kp NoB w w') : T64 w' := k.cell h (fun q => q)

theorem pow2_16 (w : World) : Calls Tryd.prog 56 #[.int .i64 16] w fun e w' => e = .returned (.bool true) ∧ w = w' := by
  go_enter Tryd.func56, Tryd.ntmps56
  go_wp2
  go_ret
  exact ⟨rfl, rfl⟩

set_option maxHeartbeats 1000000 in
theorem tz64_16 (w : World) (h : T64 w) : Calls Tryd.prog 59 #[.int .u64 16] w fun e w' => e = .returned (.int .i64 4) ∧ w = w' := by
  unfold T64 at h
  have hb : bits BinOp.and IntKind.u64 16 (IntKind.u64.wrap (-16)) = 16 := by decide +kernel
  have hw : IntKind.u64.wrap (16 * 285870213051353865) = 4573923408821661840 := by decide +kernel
  go_enter Tryd.func59, Tryd.ntmps59
  go_wp2
  go_ret
  exact ⟨rfl, rfl⟩

theorem tz_16 (w : World) (h : T64 w) : Calls Tryd.prog 57 #[.int .u64 16] w fun e w' => e = .returned (.int .i64 4) ∧ w = w' := by
  have H := Lib.hid (tz64_16 w h)
  clear h
  go_enter Tryd.func57, Tryd.ntmps57
  go_wp2_with (go_at_call 59; refine H.out.mono ?_; rintro e w' ⟨rfl, rfl⟩)
  go_ret
  exact ⟨rfl, rfl⟩

theorem wraps_u64 (n : Int) (h₀ : 0 ≤ n) (h₁ : n < 2 ^ 64) : IntKind.u64.wrap n = n := by rw [IntKind.wrap_u64]; omega
theorem u64_and15 (x : Int) (h0 : 0 ≤ x) (h1 : x < 4294967296) : bits .and .u64 x 15 = x % 16 := bits_mask .u64 64 (by decide) wraps_u64 4 (by decide) x h0 (by omega)
/-- A digit of base 16, as a number. -/
def hxv (n : Int) : Int := ((hx n).toNat : Int)
theorem d36_fin : ∀ i : Fin 16, Lib.digits36.data.toList.getD i.val 0 = hx (i.val : Int) := by decide +kernel
theorem run_d36 (P : Program) (t : TypeId) (ht : P.underlying t = some .string) (k : IntKind) (n : Int) (h0 : 0 ≤ n) (h1 : n < 16) (w : World) :
    (Instr.index t (.string Lib.digits36) (.int k n)).run P w = .ok (.int .u8 (hxv n)) w := by
  obtain ⟨i, rfl⟩ : ∃ i : Nat, n = i := ⟨n.toNat, by omega⟩
  rw [run_index_string w t Lib.digits36 k _ ht, dif_pos ⟨by omega, by rw [Lib.digits36_size]; omega⟩]
  have e : ((i : Int)).toNat = i := by omega
  simp only [e]
  rw [Lib.getD_at Lib.digits36 i (by rw [Lib.digits36_size]; omega), d36_fin ⟨i, by omega⟩]
  rfl
theorem hx_one : hxv 1 = 49 := by decide

/-- Three digits: 1, then those of the byte x. -/
def hex3 (x : Int) : List UInt8 := [49, hx (x / 16), hx (x % 16)]

theorem conv_hex3 (x : Int) (w : World) (T : TypeId) (C : Array Value) (h62 : C[62]? = some (.int .u8 49)) (h63 : C[63]? = some (.int .u8 (hxv (x / 16)))) (h64 : C[64]? = some (.int .u8 (hxv (x % 16)))) :
    (convert 27 9 (.slice (some ⟨w.heap.size, 62, none⟩) 3 3)).run Tryd.prog (w.alloc (.cells C T)) = .ok (.string (ba (hex3 x))) (w.alloc (.cells C T)) := by
  refine run_convert_bytes_back (P := Tryd.prog) _ 27 9 5 ⟨w.heap.size, 62, none⟩ 3 (hex3 x) Tryd.underlying27 Tryd.underlying5 Tryd.underlying9 (fun j hj => ?_)
  rw [add_none, World.cell?_alloc_new]
  have hj3 : j = 0 ∨ j = 1 ∨ j = 2 := by simp [hex3] at hj; omega
  rcases hj3 with rfl | rfl | rfl
  · exact h62
  · exact h63
  · exact h64

set_option maxRecDepth 100000 in
set_option maxHeartbeats 8000000 in
theorem fbits_16 (x : Int) (h0 : 0 ≤ x) (h1 : x < 256) (w : World) (h : T64 w) :
    Calls Tryd.prog 52 #[.slice none 0 0, .int .u64 (x + 256), .int .i64 16, .bool false, .bool false] w fun e w' => e = .returned (.tuple #[.slice none 0 0, .string (ba (hex3 x))]) ∧ Kp NoB w w' := by
  have H1 := Lib.hid pow2_16
  have H2 := Lib.hid (fun w' (k : Kp NoB w w') => tz_16 w' (h.and k))
  clear h
  have hd1 : (x + 256) / 16 = x / 16 + 16 := by omega
  have hd2 : (x / 16 + 16) / 16 = 1 := by omega
  have ha1 : bits .and .u64 (x + 256) 15 = x % 16 := by rw [u64_and15 _ (by omega) (by omega)]; omega
  have ha2 : bits .and .u64 (x / 16 + 16) 15 = x / 16 := by rw [u64_and15 _ (by omega) (by omega)]; omega
  have hi1 := run_d36 Tryd.prog 9 Tryd.underlying9 .u64 (x % 16) (by omega) (by omega)
  have hi2 := run_d36 Tryd.prog 9 Tryd.underlying9 .u64 (x / 16) (by omega) (by omega)
  have hi3 := run_d36 Tryd.prog 9 Tryd.underlying9 .u64 1 (by omega) (by omega)
  rw [hx_one] at hi3
  have g1 : x / 16 < 16 := by omega
  have g0 : 0 ≤ x / 16 := by omega
  go_enter Tryd.func52, Tryd.ntmps52
  go_wp2_with (first
    | (go_at_call 56; refine (H1.out _).mono ?_; rintro e w' ⟨rfl, rfl⟩)
    | (go_at_call 57; refine (H2.out _ ((Kp.refl _ _).alloc _)).mono ?_; rintro e w' ⟨rfl, rfl⟩))
  go_name_bytes_deep 30 DG hDG
  have eDG : DG = Lib.digits36 := by rw [← hDG]; decide +kernel
  subst eDG
  clear hDG
  refine wp_loop_rounds 3 ?_
  rw [rounds_succ]
  go_wp2
  rw [rounds_succ]
  go_wp2
  rw [rounds_succ]
  go_wp2
  rw [conv_hex3 x w 90 _ rfl rfl rfl]
  go_wp2
  go_ret2
  exact ⟨rfl, (Kp.refl _ _).alloc _⟩

theorem ifu16_any (x : Int) (h0 : 0 ≤ x) (h1 : x < 256) (w : World) (h : T64 w) :
    Calls Tryd.prog 45 #[.int .u64 (x + 256), .int .i64 16] w (Stay (.string (ba (hex3 x))) w) := by
  have H := Lib.hid (fbits_16 x h0 h1 w h)
  clear h
  go_enter Tryd.func45, Tryd.ntmps45
  go_wp2_with (go_at_call 52; refine H.out.mono ?_; rintro e w1 ⟨rfl, hK⟩)
  go_ret
  exact ⟨rfl, hK⟩
theorem fu16_any (x : Int) (h0 : 0 ≤ x) (h1 : x < 256) (w : World) (h : T64 w) :
    Calls Tryd.prog 37 #[.int .u64 (x + 256), .int .i64 16] w (Stay (.string (ba (hex3 x))) w) := by
  have H := Lib.hid (ifu16_any x h0 h1 w h)
  clear h
  go_enter Tryd.func37, Tryd.ntmps37
  go_wp2_with (go_at_call 45; refine H.out.mono ?_; rintro e w1 ⟨rfl, hK⟩)
  go_ret
  exact ⟨rfl, hK⟩

end Go.Proofs.YtlklhcgacdjkiaaDoor
