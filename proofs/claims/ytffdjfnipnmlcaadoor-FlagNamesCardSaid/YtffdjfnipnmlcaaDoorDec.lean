/- The reference's decimal form of a number (peerageref02.digits at base 10, Decimal): its contract. No condition but that the number is not negative. -/
import Derived.Test.YtffdjfnipnmlcaaDoorMem
import Derived.Test.YtffdjfnipnmlcaaDoorNotP
import Derived.Test.YtffdjfnipnmlcaaDoorProg
import Derived.KernelRfl
import Derived.Deep.QuietTactic
import Derived.BigQuiet
import Derived.WalkSpells
import Derived.LoopN
import Derived.IntWalk
namespace Go.Proofs.YtffdjfnipnmlcaaDoor
open Go.RowKit
set_option linter.unusedVariables false
set_option linter.unusedSimpArgs false

/-- The digits of bases up to 16. -/
def hex16 : ByteArray := ⟨#[48, 49, 50, 51, 52, 53, 54, 55, 56, 57, 97, 98, 99, 100, 101, 102]⟩
theorem hex16_fin : ∀ i : Fin 16, (hex16.data.toList.drop i.val).take 1 = [hx (i.val : Int)] := by decide +kernel
theorem hex16_piece (i : Nat) (h : i < 16) : hex16.extract i (i + 1) = ba [hx (i : Int)] := by
  have h1 := hex16_fin ⟨i, h⟩
  have e : hex16 = ba hex16.data.toList := rfl
  rw [e, ba_extract]
  simp only [ba_data, Nat.add_sub_cancel_left] at h1 ⊢
  rw [h1]
theorem hx_dec (n : Nat) (h : n < 10) : hx (n : Int) = UInt8.ofNat (48 + n) := by
  unfold hx
  rw [if_pos (by omega)]
  rfl

theorem run_digit (P : Program) (t : TypeId) (ht : P.underlying t = some .string) (k : IntKind) (m : Nat) (hm : m < 16) (w : World) :
    (Instr.slice t (.string hex16) (some (.int k m)) (some (.int k ((m : Int) + 1))) none).run P w = .ok (.string (ba [hx (m : Int)])) w := by
  rw [run_slice_string w t hex16 k k _ _ ht (by omega) (by omega) (by show ((m : Int) + 1) ≤ 16; omega), show ((m : Int)).toNat = m by omega, show ((m : Int) + 1).toNat = m + 1 by omega, hex16_piece m hm]

/-- The last digit of a number. -/
def dgt (m : Nat) : UInt8 := UInt8.ofNat (48 + m % 10)
/-- As a region that draws its order spells it. -/
theorem run_digit_q (P : Program) (t : TypeId) (ht : P.underlying t = some .string) (x : Int) (h0 : 0 ≤ x) (w : World) :
    (Instr.slice t (.string hex16) (some (.int .i64 (x.tmod 10))) (some (.int .i64 (IntKind.i64.wrap (x.tmod 10 + 1)))) none).run P w = .ok (.string (ba [dgt x.toNat])) w := by
  have e1 : x.tmod 10 = ((x.toNat % 10 : Nat) : Int) := by rw [Int.tmod_eq_emod_of_nonneg h0]; omega
  have e2 : IntKind.i64.wrap (x.tmod 10 + 1) = ((x.toNat % 10 : Nat) : Int) + 1 := by rw [e1]; exact IntWalk.i64_in _ (by omega)
  rw [e2, e1, run_digit P t ht .i64 _ (by omega) w, hx_dec _ (by omega)]
  rfl

/-- Behind some rounds: the low digits are t, the rest is still m. -/
def DecAt (n m : Nat) (t : List UInt8) : Prop := Lib.decDigits n = preD m ++ t ∧ t.length ≤ 20 ∧ m ≤ n
theorem DecAt.start (n : Nat) : DecAt n n [dgt n] := ⟨dec_pre n, by simp, Nat.le_refl _⟩
theorem DecAt.step {n m : Nat} {t : List UInt8} (h : DecAt n m t) (hn : n < 18446744073709551616) (hm : ¬ m < 10) : DecAt n (m / 10) (dgt (m / 10) :: t) := by
  obtain ⟨h1, h2, h3⟩ := h
  have e : Lib.decDigits n = preD (m / 10) ++ (dgt (m / 10) :: t) := by rw [h1, dec_step m hm]; simp [dgt]
  refine ⟨e, ?_, by omega⟩
  have := dec_short n hn
  rw [e, List.length_append] at this
  omega
theorem DecAt.done {n m : Nat} {t : List UInt8} (h : DecAt n m t) (hm : m < 10) : Lib.decDigits n = t := by
  obtain ⟨h1, _⟩ := h
  rw [h1]
  unfold preD
  rw [if_pos hm]
  rfl

set_option maxRecDepth 100000 in
set_option maxHeartbeats 2000000 in
theorem rdigits_any (n : Nat) (hn : n ≤ 9223372036854775807) (w : World) : Calls Tryd.prog 26 #[.int .i64 n, .int .i64 10] w fun e w' => e = .returned (.string (ba (Lib.decDigits n))) ∧ ∃ k, w' = w.drewN k := by
  have hs0 := run_digit_q Tryd.prog 9 Tryd.underlying9 (n : Int) (by omega)
  have HR := Lib.hid (run_digit_q Tryd.prog 9 Tryd.underlying9)
  go_enter Tryd.func26, Tryd.ntmps26
  go_name_bytes_deep 12 DG hDG
  have eDG : DG = hex16 := by rw [← hDG]; rfl
  subst eDG
  clear hDG
  go_wp2
  go_quiet (fail)
  go_wp2
  go_loopw [0, 5] (fun vn vs wr => ∃ (m k : Nat) (t : List UInt8), vn = .int .i64 m ∧ vs = .string (ba t) ∧ wr = w.drewN k ∧ Hid (DecAt n m t)) (fun vn _ _ => (intOf vn).toNat)
  case atStart => exact ⟨n, _, _, rfl, rfl, rfl, DecAt.start n⟩
  case round =>
    obtain ⟨m, k, t, rfl, rfl, rfl, hI⟩ := hrel
    by_cases hm : m < 10
    · have hI' := Lib.hid (hI.out.done hm)
      clear hI
      go_wp2
      go_ret
      exact ⟨by rw [hI'.out]; rfl, k, rfl⟩
    · have hI' := hI.out.step (by omega) hm
      have hmn := hI.out.2.2
      have hl := hI'.2.1
      have HI := Lib.hid hI'
      have hs1 := HR.out ((m : Int) / 10) (by omega)
      have e10 : ((m : Int) / 10).toNat = m / 10 := by omega
      rw [e10] at hs1
      have hcat : ∀ w, (Op.stringOp .add (ba [dgt (m / 10)]) (ba t)).run Tryd.prog w = .ok (.string (ba (dgt (m / 10) :: t))) w := fun w => by
        rw [run_string_add_sum w _ _ (by rw [ba_size, ba_size]; simp only [List.length_cons] at hl ⊢; simp; omega), ba_app]
        rfl
      clear hI' hI e10 hl
      go_wp2
      go_quiet (fail)
      go_wp2
      go_roundw
      case rel => exact ⟨m / 10, _, _, by go_num, rfl, World.drewN_drewN w k nq, HI⟩
      case measure => simp [intOf]; omega

theorem rdec_any (n : Nat) (hn : n ≤ 9223372036854775807) (w : World) : Calls Tryd.prog 16 #[.int .i64 n] w fun e w' => e = .returned (.string (ba (Lib.decDigits n))) ∧ ∃ k, w' = w.drewN k := by
  have H := Lib.hid (rdigits_any n hn w)
  go_enter Tryd.func16, Tryd.ntmps16
  go_wp2_with (go_at_call 26; refine H.out.mono ?_; rintro e w1 ⟨rfl, k, rfl⟩)
  go_ret
  exact ⟨rfl, k, rfl⟩
theorem rdec_stay (n : Nat) (hn : n ≤ 9223372036854775807) (w : World) : Calls Tryd.prog 16 #[.int .i64 n] w (Stay (.string (ba (Lib.decDigits n))) w) :=
  (rdec_any n hn w).mono fun _ _ ⟨he, k, hw⟩ => ⟨he, by rw [hw]; exact (Kp.refl _ _).drewN k⟩

end Go.Proofs.YtffdjfnipnmlcaaDoor
