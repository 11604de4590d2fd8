/- Chapter 18's example; the walk of the law NoticeNames: it returns true and makes only new blocks, for all numbers. No condition but the listed tables' content. -/
import Derived.Test.YtlklhcgacdjkiaaDoorNotTR
import Derived.Stop.LaidErr
import Derived.MakeChecks
namespace Go.Proofs.YtlklhcgacdjkiaaDoor
open Go.RowKit
set_option linter.unusedVariables false
set_option linter.unusedSimpArgs false

/-- What the rows' condition gives. -/
structure Ld (w : World) : Prop where
  tb : Tb w
  t64 : T64 w
  nm : NmT w
theorem Ld.and {w w' : World} (h : Ld w) (k : Kp NoB w w') : Ld w' := ⟨h.tb.and k, h.t64.and k, h.nm.and k⟩
theorem ld_of {W : World} (h : laidMetH Tryd.prog Rows.noticeNamesRow.laid W) : Ld W := by
  rw [MakeChecks.laidMetH_plain _ _ _ (by kernel_rfl)] at h
  have h1 := laidMet.tail h
  have h2 := laidMet.tail h1
  have h3 := laidMet.tail h2
  refine ⟨tb_of h2 (by kernel_rfl), ?_, names_of h3⟩
  have ht : Lib.TabIs Tryd.prog W "math/bits.deBruijn64tab" .u8 (Lib.deBruijn64tab.map fun (n : Nat) => (n : Int)) := by
    have hd : (Rows.laid_math_bits_deBruijn64tab : DataW Unit) = Lib.tabData .u8 (Lib.deBruijn64tab.map fun (n : Nat) => (n : Int)) := by kernel_rfl
    have h1' : laidMet Tryd.prog (("math/bits.deBruijn64tab", Lib.tabData .u8 (Lib.deBruijn64tab.map fun (n : Nat) => (n : Int))) :: _) W := hd ▸ h1
    exact Lib.tabIs_of_head (g := 3) (by kernel_rfl) (by kernel_rfl) Tryd.underlying94 Tryd.underlying5 (by kernel_rfl) (by kernel_rfl) h1'
  exact ht.cell (by kernel_rfl) 15 (by decide)

theorem itoa_3 : Lib.itoa 3 = [51] := by rw [itoa_dec 3 (by decide)]; exact Lib.decDigits_one (i := 3) (by decide)
theorem itoa_10 : Lib.itoa 10 = [49, 48] := by rw [itoa_dec 10 (by decide)]; exact Lib.decDigits_two (i := 10) (by decide) (by decide)
theorem example_text : tailN (headN 3 10) [1] 1 = [117, 112, 100, 97, 116, 101, 47, 110, 101, 116, 119, 111, 114, 107, 32, 51, 47, 49, 48, 32, 48, 49] := by
  unfold headN
  rw [itoa_3, itoa_10]
  rfl

set_option maxHeartbeats 1000000 in
theorem alive_any (w : World) (h : Ld w) : Calls Tryd.prog 9 #[] w (Stay (.bool true) w) := by
  have HT := Lib.hid (fun (k : Kp NoB w (w.alloc (.cells #[.int .u8 1] 5))) => ntext_good 3 10 (some ⟨w.heap.size, 0, none⟩) [1] 1 (w.alloc (.cells #[.int .u8 1] 5)) (by decide) (h.tb.and k) (h.t64.and k) (h.nm.and k) (Arr.one w 5 (.int .u8 1)) (fun x hx => by simp at hx; omega))
  rw [show ([1] : List Int).length = 1 from rfl, example_text] at HT
  have e : (ba [117, 112, 100, 97, 116, 101, 47, 110, 101, 116, 119, 111, 114, 107, 32, 51, 47, 49, 48, 32, 48, 49]).toList = [117, 112, 100, 97, 116, 101, 47, 110, 101, 116, 119, 111, 114, 107, 32, 51, 47, 49, 48, 32, 48, 49] := ba_toList _
  clear h
  go_enter Tryd.func9, Tryd.ntmps9
  go_wp2_with fail
  refine (HT.out ((Kp.refl _ _).alloc _)).mono ?_
  rintro e w1 ⟨rfl, hK1⟩
  go_wp2
  go_ret
  exact ⟨rfl, ((Kp.refl _ _).alloc _).and hK1⟩

set_option maxHeartbeats 2000000 in
theorem nnames_row (c s : Int) (w : World) (_hc : -9223372036854775808 ≤ c ∧ c ≤ 9223372036854775807) (_hs : -9223372036854775808 ≤ s ∧ s ≤ 9223372036854775807) (ld : Ld w) :
    Calls Tryd.prog 3 #[.int .i64 c, .int .i64 s] w (Stay (.bool true) w) := by
  have HA := Lib.hid (fun w' (k : Kp NoB w w') => alive_any w' (ld.and k))
  have H1 := Lib.hid (fun w' (k : Kp NoB w w') => name_ba c s w' (ld.nm.and k))
  have H2 := Lib.hid (fun w' (k : Kp NoB w w') => name_ba c 0 w' (ld.nm.and k))
  have H3 := Lib.hid (rname_ba c s)
  have H4 := Lib.hid (rname_ba c 0)
  have hz := nm_zero c s
  have hle := nm_zero_le c s
  obtain ⟨N, hN⟩ : ∃ N, nm c s = N := ⟨_, rfl⟩
  obtain ⟨M, hM⟩ : ∃ M, nm c 0 = M := ⟨_, rfl⟩
  rw [hN] at H1 H3
  rw [hM] at H2 H4
  rw [hN, hM] at hz hle
  have hls : (ba M).size ≤ (ba N).size := by rw [ba_size, ba_size]; exact hle
  have hli : ((ba M).size : Int) ≤ ((ba N).size : Int) := by omega
  have hsl : ∀ w, (Instr.slice 9 (.string (ba N)) none (some (.int .i64 ((ba M).size : Int))) none).run Tryd.prog w = .ok (.string (ba M)) w := fun w => by
    rw [run_slice_string_to_if w 9 (ba N) .i64 _ Tryd.underlying9, if_pos ⟨by omega, hli⟩]
    have e : (((ba M).size : Int)).toNat = (ba M).size := by omega
    rw [e, ba_extract, ba_size]
    simp only [List.drop_zero, Nat.sub_zero, hz]
  clear hN hM hz hle ld _hc _hs
  go_enter Tryd.func3, Tryd.ntmps3
  go_wp2_with fail
  refine (H1.out _ (Kp.refl _ _)).mono ?_
  rintro e w1 ⟨rfl, hK1⟩
  go_wp2_with fail
  refine (H2.out _ hK1).mono ?_
  rintro e w2 ⟨rfl, hK2⟩
  have k2 := Lib.hid (hK1.and hK2)
  clear hK1 hK2
  go_wp2_with fail
  go_region_held3 (fun w' => True) (trivial)
    (first
      | (go_at_call 10; (with_reducible refine (H4.out _).mono ?_); rintro e w5 ⟨rfl, hK5⟩; have k5 := Lib.hid (k4.out.and hK5); clear hK5)
      | (go_at_call 10; (with_reducible refine (H3.out _).mono ?_); rintro e w4 ⟨rfl, hK4⟩; have k4 := Lib.hid (k3.out.and hK4); clear hK4)
      | (go_at_call 9; refine (HA.out _ k2.out.drew).mono ?_; rintro e w3 ⟨rfl, hK3⟩; have k3 := Lib.hid (k2.out.drew.and hK3); clear hK3))
  go_wp2_with fail
  go_ret
  exact ⟨rfl, k5.out⟩

end Go.Proofs.YtlklhcgacdjkiaaDoor
