/- The reference's Hex (two digits for each byte): its contract. No condition but the length. -/
import Derived.Test.YtknaogpkakdcoaaDoorDec
namespace Go.Proofs.YtknaogpkakdcoaaDoor
open Go.RowKit
set_option linter.unusedVariables false
set_option linter.unusedSimpArgs false

/-- A digit in front, as a region that draws its order spells it. -/
theorem run_hex_hi (P : Program) (t : TypeId) (ht : P.underlying t = some .string) (y : Int) (h0 : 0 ≤ y) (h1 : y < 256) (w : World) :
    (Instr.slice t (.string hex16) (some (.int .u8 (IntKind.u8.wrap (y.tdiv 16)))) (some (.int .u8 (IntKind.u8.wrap (IntKind.u8.wrap (y.tdiv 16) + 1)))) none).run P w = .ok (.string (ba [hx (y / 16)])) w := by
  have e0 : y.tdiv 16 = y / 16 := Int.tdiv_eq_ediv_of_nonneg h0
  have e1 : IntKind.u8.wrap (y.tdiv 16) = ((y / 16).toNat : Int) := by rw [e0, IntKind.wrap_u8]; omega
  have e2 : IntKind.u8.wrap (((y / 16).toNat : Int) + 1) = ((y / 16).toNat : Int) + 1 := by rw [IntKind.wrap_u8]; omega
  rw [e1, e2, run_digit P t ht .u8 _ (by omega) w]
  rw [show ((y / 16).toNat : Int) = y / 16 by omega]
theorem run_hex_lo (P : Program) (t : TypeId) (ht : P.underlying t = some .string) (y : Int) (h0 : 0 ≤ y) (h1 : y < 256) (w : World) :
    (Instr.slice t (.string hex16) (some (.int .u8 (y.tmod 16))) (some (.int .u8 (IntKind.u8.wrap (y.tmod 16 + 1)))) none).run P w = .ok (.string (ba [hx (y % 16)])) w := by
  have e1 : y.tmod 16 = ((y % 16).toNat : Int) := by rw [Int.tmod_eq_emod_of_nonneg h0]; omega
  have e2 : IntKind.u8.wrap (((y % 16).toNat : Int) + 1) = ((y % 16).toNat : Int) + 1 := by rw [IntKind.wrap_u8]; omega
  rw [e1, e2, run_digit P t ht .u8 _ (by omega) w]
  rw [show ((y % 16).toNat : Int) = y % 16 by omega]

set_option maxRecDepth 100000 in
set_option maxHeartbeats 2000000 in
theorem rhex_any (A : Option Addr) (c : Nat) (xs : List Int) (w : World) (ha : Arr w A (bs xs)) (hb : IsB xs) (hn : xs.length ≤ 1000000) :
    Calls Tryd.prog 33 #[.slice A xs.length c] w fun e w' => e = .returned (.string (ba (hexL xs))) ∧ ∃ k, w' = w.drewN k := by
  go_enter Tryd.func33, Tryd.ntmps33
  go_name_bytes_deep 12 DG hDG
  have eDG : DG = hex16 := by rw [← hDG]; rfl
  subst eDG
  clear hDG
  go_wp2
  go_loopw [4, 5] (fun vs vi wr => ∃ (j k : Nat), j ≤ xs.length ∧ vi = .int .i64 j ∧ vs = .string (ba (hexL (xs.take j))) ∧ wr = w.drewN k) (fun _ vi _ => xs.length - (intOf vi).toNat)
  case atStart => exact ⟨0, 0, Nat.zero_le _, rfl, rfl, rfl⟩
  case round =>
    obtain ⟨j, k, hj, rfl, rfl, rfl⟩ := hrel
    by_cases hlt : j < xs.length
    · obtain ⟨ad, rfl, hc⟩ := ha.at (bs_get xs j hlt)
      have hy := hb.getD j
      have hs := hexL_take xs j hlt
      have hl := hexL_length (xs.take j)
      rw [List.length_take, Nat.min_eq_left hj] at hl
      obtain ⟨y, hyy⟩ : ∃ y, xs.getD j 0 = y := ⟨_, rfl⟩
      rw [hyy] at hc hy hs
      obtain ⟨s, hss⟩ : ∃ s, hexL (xs.take j) = s := ⟨_, rfl⟩
      rw [hss] at hs hl ⊢
      have h1 := run_hex_hi Tryd.prog 9 Tryd.underlying9 y hy.1 hy.2
      have h2 := run_hex_lo Tryd.prog 9 Tryd.underlying9 y hy.1 hy.2
      have hc1 : ∀ w, (Op.stringOp .add (ba s) (ba [hx (y / 16)])).run Tryd.prog w = .ok (.string (ba (s ++ [hx (y / 16)]))) w := fun w => by
        rw [run_string_add_sum w _ _ (by rw [ba_size, ba_size, hl]; simp; omega), ba_app]
      have hc2 : ∀ w, (Op.stringOp .add (ba (s ++ [hx (y / 16)])) (ba [hx (y % 16)])).run Tryd.prog w = .ok (.string (ba (s ++ [hx (y / 16)] ++ [hx (y % 16)]))) w := fun w => by
        rw [run_string_add_sum w _ _ (by rw [ba_size, ba_size, List.length_append, hl]; simp; omega), ba_app]
      have HS := Lib.hid hs
      have HY := Lib.hid hy
      clear hyy hss hs hl ha hb hy
      go_wp2
      go_quiet (fail)
      go_wp2
      go_roundw
      case rel => exact ⟨j + 1, _, by omega, by go_num, by rw [HS.out], rfl⟩
      case measure => simp [intOf]; omega
    · have hj' : xs.take j = xs := by rw [show j = xs.length by omega, List.take_length]
      have HJ := Lib.hid hj'
      clear hj'
      go_wp2
      go_ret
      exact ⟨by rw [HJ.out]; rfl, k, rfl⟩

theorem rhex_stay (A : Option Addr) (c : Nat) (xs : List Int) (w : World) (ha : Arr w A (bs xs)) (hb : IsB xs) (hn : xs.length ≤ 1000000) :
    Calls Tryd.prog 33 #[.slice A xs.length c] w (Stay (.string (ba (hexL xs))) w) :=
  (rhex_any A c xs w ha hb hn).mono fun _ _ ⟨he, k, hw⟩ => ⟨he, by rw [hw]; exact (Kp.refl _ _).drewN k⟩

end Go.Proofs.YtknaogpkakdcoaaDoor
