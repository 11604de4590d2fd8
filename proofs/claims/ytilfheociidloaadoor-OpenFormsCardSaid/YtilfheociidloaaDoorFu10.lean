/- strconv.FormatUint at base 10: its contract. No condition but the table's content. -/
import Derived.Test.YtilfheociidloaaDoorTab
namespace Go.Proofs.YtilfheociidloaaDoor
open Go.RowKit Go.Sort
set_option linter.unusedVariables false
set_option linter.unusedSimpArgs false

theorem Kp.of_grown_row (w : World) (o : Obj) (dk : Array UInt8) (k : Nat) : Kp NoB w ((putRow (fun (b : UInt8) => Value.int .u8 (b.toNat : Int)) (w.alloc o) w.heap.size 0 dk).drewN k) := by
  obtain ⟨os, eo⟩ := Lib.fin_at w o dk k 0
  rw [eo]
  exact Kp.of_grow w k os

set_option maxHeartbeats 6400000 in
set_option maxRecDepth 100000 in
theorem ifu10_any (u : Nat) (hu64 : u < 18446744073709551616) (w : World) (htab : Tb w) :
    Calls Tryd.prog 55 #[.int .u64 u, .int .i64 10] w (Stay (.string ⟨(Lib.decDigits u).toArray⟩) w) := by
  by_cases hs : u < 100
  · go_enter Tryd.func55, Tryd.ntmps55
    go_wp2_with (go_at_call 70; refine (Tryd.internal_strconv_small u hs _).mono ?_; rintro e w' ⟨rfl, rfl⟩)
    go_ret
    exact ⟨rfl, Kp.refl _ _⟩
  · have hu1 : 1 ≤ u := by omega
    have iu : (100 : Int) ≤ (u : Int) := by omega
    have hnd20 : Lib.nDigits u ≤ 20 := by have := Lib.numDigits_eq u hu1 hu64; split at this <;> omega
    have hal : Tryd.prog.arrayLen 108 = 24 := by kernel_rfl
    have hsl : ∀ W, (Instr.sliceAt 108 (.pointer (some ⟨w.heap.size, 0, none⟩)) none (some (.int .i64 (Lib.nDigits u : Int))) none).run Tryd.prog W = .ok (.slice (some ⟨w.heap.size, 0, none⟩) (Lib.nDigits u) 24) W := fun W => by
      rw [run_sliceAt_array_h W 108 ⟨w.heap.size, 0, none⟩ (by simp [Program.arrayLen, Program.elem, Tryd.underlying108]) .i64 (Lib.nDigits u : Int) (by omega) (by rw [hal]; omega)]
      go_simp
    have hH0 := Lib.holds_zero0 w 108 (Lib.nDigits u) (by omega)
    have hfmt := Tryd.internal_strconv_formatBase10 w.heap.size 0 24 u (Array.replicate (Lib.nDigits u) 0) (w.alloc (.cells Lib.zeros24 108)) hH0 (by rw [Array.size_replicate]; exact Lib.lt_pow_nDigits u) hu64 (by rw [Array.size_replicate]; omega)
    rw [Array.size_replicate] at hfmt
    have HH0 := Lib.hid hH0
    have HT := Lib.hid htab
    clear hH0 hal htab
    go_enter Tryd.func55, Tryd.ntmps55
    go_wp2_with (first
      | (go_at_call 71; refine (Tryd.internal_strconv_numDigits u hu1 hu64 _ (Lib.tabIs_alloc HT.out _)).mono ?_; rintro e w' ⟨rfl, rfl⟩)
      | (go_at_call 72; fail))
    go_at_call 72
    refine hfmt.mono ?_
    rintro e w' ⟨rfl, k, v', dk, rfl, hF⟩
    have hcv : (convert 28 9 (.slice (some ⟨w.heap.size, 0, none⟩) (Lib.nDigits u) 24)).run Tryd.prog ((putRow (fun (b : UInt8) => Value.int .u8 (b.toNat : Int)) (w.alloc (.cells Lib.zeros24 108)) w.heap.size 0 dk).drewN k) = .ok (.string ⟨(Lib.decDigits u).toArray⟩) ((putRow (fun (b : UInt8) => Value.int .u8 (b.toNat : Int)) (w.alloc (.cells Lib.zeros24 108)) w.heap.size 0 dk).drewN k) := by
      have h := run_convert_bytes_back (P := Tryd.prog) ((putRow (fun (b : UInt8) => Value.int .u8 (b.toNat : Int)) (w.alloc (.cells Lib.zeros24 108)) w.heap.size 0 dk).drewN k) 28 9 5 ⟨w.heap.size, 0, none⟩ 24 (Lib.decDigits u) Tryd.underlying28 Tryd.underlying5 Tryd.underlying9 (fun j hj => by
        rw [Lib.row_is_numeral hF j hj, Lib.add_plain, World.cell?_drewN]
        exact cell?_putRow (fun (b : UInt8) => Value.int .u8 (b.toNat : Int)) _ w.heap.size 0 _ dk HH0.out (by rw [hF.size, Array.size_replicate]) j (by rw [hF.size]; rw [Lib.decDigits_length] at hj; exact hj))
      rw [Lib.decDigits_length] at h
      exact h
    go_wp2
    go_ret
    exact ⟨rfl, Kp.of_grown_row w _ dk k⟩

theorem fu10_any (u : Nat) (hu64 : u < 18446744073709551616) (w : World) (htab : Tb w) :
    Calls Tryd.prog 28 #[.int .u64 u, .int .i64 10] w (Stay (.string ⟨(Lib.decDigits u).toArray⟩) w) := by
  have H := Lib.hid (ifu10_any u hu64 w htab)
  clear htab
  go_enter Tryd.func28, Tryd.ntmps28
  go_wp2_with (go_at_call 55; refine H.out.mono ?_; rintro e w1 ⟨rfl, hK⟩)
  go_ret
  exact ⟨rfl, hK⟩

end Go.Proofs.YtilfheociidloaaDoor
