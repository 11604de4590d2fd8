/- Package finding: digits. No condition but the lengths. -/
import Derived.Test.YtknaogpkakdcoaaDoorBldr
namespace Go.Proofs.YtknaogpkakdcoaaDoor
open Go.RowKit
set_option linter.unusedVariables false
set_option linter.unusedSimpArgs false

theorem idx_hex (k : Int) (h0 : 0 ≤ k) (h1 : k < 16) (w : World) : (Instr.index 9 (.string hex16) (.int .u8 k)).run Tryd.prog w = .ok (.int .u8 ((hx k).toNat : Int)) w := by
  rcases (show k = 0 ∨ k = 1 ∨ k = 2 ∨ k = 3 ∨ k = 4 ∨ k = 5 ∨ k = 6 ∨ k = 7 ∨ k = 8 ∨ k = 9 ∨ k = 10 ∨ k = 11 ∨ k = 12 ∨ k = 13 ∨ k = 14 ∨ k = 15 by omega) with rfl | rfl | rfl | rfl | rfl | rfl | rfl | rfl | rfl | rfl | rfl | rfl | rfl | rfl | rfl | rfl
  all_goals kernel_rfl

theorem byteCells_snoc (l : List UInt8) (x : UInt8) : Lib.byteCells (l ++ [x]) = Lib.byteCells l ++ [.int .u8 (x.toNat : Int)] := by simp [Lib.byteCells]

set_option maxRecDepth 100000 in
set_option maxHeartbeats 2000000 in
theorem digits_any (A : Option Addr) (c : Nat) (xs : List Int) (w : World) (ha : Arr w A (bs xs)) (hb : IsB xs) (hn : xs.length ≤ 1000000) :
    Calls Tryd.prog 30 #[.slice A xs.length c] w (Stay (.string (ba (hexL xs))) w) := by
  have HA := Lib.hid ha
  have HBy := Lib.hid hb
  have H0 : Hid (Lib.IsBuilder 64 5 w.heap.size w.heap.size [] (w.alloc (.cells #[.pointer none, .slice none 0 0] 64))) :=
    Lib.hid (.inl ⟨Nat.le_refl _, .slice none 0 0, heap_alloc_new w _, World.ownsRow_nil _ _ _ _, by simp [Value.ownBlock]⟩)
  clear ha hb
  obtain ⟨n, hnn⟩ : ∃ n, xs.length = n := ⟨_, rfl⟩
  have HN := Lib.hid hnn
  rw [hnn] at hn ⊢
  clear hnn
  go_enter Tryd.func30, Tryd.ntmps30
  go_name_bytes_deep 12 DG hDG
  have eDG : DG = hex16 := by rw [← hDG]; rfl
  subst eDG
  go_wp2
  go_loopw [8] (fun i wr => ∃ j : Nat, j ≤ n ∧ i = .int .i64 j ∧ Hid (Lib.IsBuilder 64 5 w.heap.size w.heap.size (Lib.byteCells (hexL (xs.take j))) wr) ∧ Hid (Below w.heap.size w wr)) (fun i _ => n - (intOf i).toNat)
  case atStart => exact ⟨0, Nat.zero_le _, rfl, Lib.hid H0.out, Lib.hid ((Below.refl _ _).alloc (Nat.le_refl _) _)⟩
  case round =>
    obtain ⟨j, hj, rfl, HB, HL⟩ := hrel
    by_cases hlt : j < n
    · have hjl : j < xs.length := by rw [HN.out]; exact hlt
      obtain ⟨ad, rfl, hcell⟩ := (HA.out.and (Kp.of_below HL.out)).at (bs_get xs j hjl)
      have hy := HBy.out.getD j
      have hs := hexL_take xs j hjl
      have hlen : (hexL (xs.take j)).length ≤ 2000000 := by rw [hexL_length, List.length_take]; omega
      obtain ⟨y, hyy⟩ : ∃ y, xs.getD j 0 = y := ⟨_, rfl⟩
      rw [hyy] at hcell hy hs
      have hi1 := idx_hex (y / 16) (by omega) (by omega)
      have hi2 := idx_hex (y % 16) (by omega) (by omega)
      have hand : bits .and .u8 y 15 = y % 16 := bits_mask .u8 8 (by decide) (fun n h0 h1 => by rw [IntKind.wrap_u8]; omega) 4 (by decide) y hy.1 (by omega)
      have HS := Lib.hid hs
      have HLn := Lib.hid hlen
      obtain ⟨s, hss⟩ : ∃ s, hexL (xs.take j) = s := ⟨_, rfl⟩
      rw [hss] at HB HS HLn
      have HW1 := Lib.hid (writeByte_any w.heap.size w.heap.size (Lib.byteCells s) ((hx (y / 16)).toNat : Int) wr HB.out (by rw [Lib.byteCells_length]; have := HLn.out; omega) HL.out.size)
      have HW2 := Lib.hid (fun W h q => writeByte_any w.heap.size w.heap.size (Lib.byteCells s ++ [.int .u8 ((hx (y / 16)).toNat : Int)]) ((hx (y % 16)).toNat : Int) W h (by rw [List.length_append, Lib.byteCells_length]; have := HLn.out; simp; omega) q)
      obtain ⟨c1, hc1⟩ : ∃ c, ((hx (y / 16)).toNat : Int) = c := ⟨_, rfl⟩
      obtain ⟨c2, hc2⟩ : ∃ c, ((hx (y % 16)).toNat : Int) = c := ⟨_, rfl⟩
      rw [hc1] at hi1 HW1 HW2
      rw [hc2] at hi2 HW2
      have HC := Lib.hid (show Lib.byteCells s ++ [.int .u8 c1] ++ [.int .u8 c2] = Lib.byteCells (hexL (xs.take (j + 1))) by rw [HS.out, ← hc1, ← hc2, show s ++ [hx (y / 16), hx (y % 16)] = s ++ [hx (y / 16)] ++ [hx (y % 16)] by simp, byteCells_snoc, byteCells_snoc])
      clear hc1 hc2 hss hs hlen hyy
      go_wp2_with (first
        | (go_at_call 42; (with_reducible refine Calls.mono HW1.out ?_); rintro e w1 ⟨rfl, hb1, hbl1⟩; have HB1 : Hid (Lib.IsBuilder 64 5 w.heap.size w.heap.size (Lib.byteCells s ++ [.int .u8 c1]) w1) := Lib.hid (Or.inr hb1); have HL1 := Lib.hid (HL.out.trans hbl1); clear hb1 hbl1)
        | (go_at_call 42; (with_reducible refine Calls.mono (HW2.out _ HB1.out HL1.out.size) ?_); rintro e w2 ⟨rfl, hb2, hbl2⟩; have HB2 := Lib.hid hb2; have HL2 := Lib.hid (HL1.out.trans hbl2); clear hb2 hbl2))
      go_roundw
      case rel => exact ⟨j + 1, by omega, by go_num, Lib.hid (.inr (by rw [← HC.out]; exact HB2.out)), HL2⟩
      case measure => simp [intOf]; omega
    · have hjt : xs.take j = xs := List.take_of_length_le (by rw [HN.out]; omega)
      rw [hjt] at HB
      have HS := Lib.hid (Tryd.Builder_String_any w.heap.size w.heap.size (hexL xs) wr HB.out HL.out.size)
      obtain ⟨s, hss⟩ : ∃ s, hexL xs = s := ⟨_, rfl⟩
      rw [hss] at HS
      have HSS := Lib.hid hss
      clear hjt hss
      go_wp2_with (go_at_call 43; (with_reducible refine Calls.mono HS.out ?_); rintro e w1 ⟨rfl, hbl⟩)
      go_ret
      exact ⟨by rw [HSS.out]; rfl, Kp.of_below (HL.out.trans hbl)⟩

end Go.Proofs.YtknaogpkakdcoaaDoor
