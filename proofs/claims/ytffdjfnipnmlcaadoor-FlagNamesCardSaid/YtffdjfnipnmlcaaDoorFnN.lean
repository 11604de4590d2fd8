/- The names of types: flag.Name and the reference's Name. No condition but the listed tables' content and that the number is an int. Printed by tools/fnn.py. -/
import Derived.Test.YtffdjfnipnmlcaaDoorFnT
import Derived.Test.YtffdjfnipnmlcaaDoorStrTab
import Derived.Test.YtffdjfnipnmlcaaDoorTab
import Derived.Test.YtffdjfnipnmlcaaDoorDec
import Derived.Test.YtffdjfnipnmlcaaDoorRows
import Derived.Stop.LaidErr
import Derived.MakeChecks
import Derived.Lib.ItoaLen
namespace Go.Proofs.YtffdjfnipnmlcaaDoor
open Go.RowKit
set_option linter.unusedVariables false
set_option linter.unusedSimpArgs false

/-! ### the table -/
def namesN : List (List UInt8) := [[], [79, 82, 73, 71, 73, 78], [65, 83, 95, 80, 65, 84, 72], [78, 69, 88, 84, 95, 72, 79, 80], [77, 85, 76, 84, 73, 95, 69, 88, 73, 84, 95, 68, 73, 83, 67], [76, 79, 67, 65, 76, 95, 80, 82, 69, 70], [65, 84, 79, 77, 73, 67, 95, 65, 71, 71, 82, 69, 71, 65, 84, 69], [65, 71, 71, 82, 69, 71, 65, 84, 79, 82], [67, 79, 77, 77, 85, 78, 73, 84, 73, 69, 83], [79, 82, 73, 71, 73, 78, 65, 84, 79, 82, 95, 73, 68], [67, 76, 85, 83, 84, 69, 82, 95, 76, 73, 83, 84], [], [], [], [77, 80, 95, 82, 69, 65, 67, 72, 95, 78, 76, 82, 73], [77, 80, 95, 85, 78, 82, 69, 65, 67, 72, 95, 78, 76, 82, 73], [69, 88, 84, 69, 78, 68, 69, 68, 95, 67, 79, 77, 77, 85, 78, 73, 84, 73, 69, 83], [65, 83, 52, 95, 80, 65, 84, 72], [65, 83, 52, 95, 65, 71, 71, 82, 69, 71, 65, 84, 79, 82], [], [], [], [], [], [], [], [], [], [], [], [], [], [76, 65, 82, 71, 69, 95, 67, 79, 77, 77, 85, 78, 73, 84, 89]]
def NmN (w : World) : Prop := ∀ (j : Nat) l, namesN[j]? = some l → w.cell? ⟨0, j, none⟩ = some (.string (ba l))
theorem NmN.and {w w' : World} (h : NmN w) (k : Kp NoB w w') : NmN w' := fun j l hl => k.cell (p := ⟨0, j, none⟩) (h j l hl) (fun q => q)
theorem names_of {W : World} {r : List (String × DataW Unit)} (h : laidMet Tryd.prog (("peerage/flag.names", Rows.laid_peerage_flag_names) :: r) W) : NmN W := by
  obtain ⟨ps, ⟨g', t', cs, fuel, p, q, hg', ht', hvar, hd, _, _⟩, _⟩ := h
  have hg : Tryd.prog.globalNamed "peerage/flag.names" = some 0 := by kernel_rfl
  obtain rfl := Option.some.inj (hg.symm.trans hg')
  obtain rfl := Option.some.inj ((show (Tryd.prog.globals[0]?).map (·.type) = some 39 by kernel_rfl).symm.trans ht')
  rw [show (Rows.laid_peerage_flag_names : DataW Unit) = .agg (namesN.map fun b => .lit (.string b)) by kernel_rfl] at hd
  have hs := cells_of_strs Tryd.underlying39 Tryd.underlying9 (by kernel_rfl) (by kernel_rfl) hd
  intro j l hl
  rw [World.var?_cell hg hvar j, ← Array.getElem?_toList, hs, List.getElem?_map, hl]
  rfl

/-- What the row's condition gives. -/
structure Ld (w : World) : Prop where
  tb : Tb w
  nm : NmN w
theorem Ld.and {w w' : World} (h : Ld w) (k : Kp NoB w w') : Ld w' := ⟨h.tb.and k, h.nm.and k⟩
theorem ld_of {W : World} (h : laidMetH Tryd.prog Rows.flagNamesRow.laid W) : Ld W := by
  rw [MakeChecks.laidMetH_plain _ _ _ (by kernel_rfl)] at h
  exact ⟨tb_of (laidMet.tail (laidMet.tail h)) (by kernel_rfl), names_of (laidMet.tail (laidMet.tail (laidMet.tail h)))⟩

/-! ### names of the known types -/
/-- The name of a known type. -/
def nameK (k : Int) : List UInt8 := namesN.getD k.toNat []
/-- The name of a type. -/
def nameL (k : Int) : List UInt8 := if isCls k then nameK k else [84, 89, 80, 69, 32] ++ Lib.itoa k

set_option maxRecDepth 100000 in
set_option maxHeartbeats 1000000 in
theorem pname_1 (w : World) (ld : Ld w) : Calls Tryd.prog 7 #[.int .i64 1] w (Stay (.string ⟨#[79, 82, 73, 71, 73, 78]⟩) w) := by
  have HC := Lib.hid (fun W => class_any 1 (by decide) W)
  rw [show isCls 1 = true from rfl] at HC
  have HN := Lib.hid (fun W (kk : Kp NoB w W) => (show W.cell? ⟨0, 1, none⟩ = some (.string ⟨#[79, 82, 73, 71, 73, 78]⟩) from (ld.nm.and kk) 1 _ rfl))
  clear ld
  go_enter Tryd.func7, Tryd.ntmps7
  go_wp2_with (go_at_call 14; refine (HC.out _).mono ?_; rintro e w1 ⟨rfl, hK⟩; have n0 := HN.out _ hK; replace hK := Lib.hid hK)
  go_ret
  exact ⟨rfl, hK.out⟩

set_option maxRecDepth 100000 in
set_option maxHeartbeats 1000000 in
theorem pname_2 (w : World) (ld : Ld w) : Calls Tryd.prog 7 #[.int .i64 2] w (Stay (.string ⟨#[65, 83, 95, 80, 65, 84, 72]⟩) w) := by
  have HC := Lib.hid (fun W => class_any 2 (by decide) W)
  rw [show isCls 2 = true from rfl] at HC
  have HN := Lib.hid (fun W (kk : Kp NoB w W) => (show W.cell? ⟨0, 2, none⟩ = some (.string ⟨#[65, 83, 95, 80, 65, 84, 72]⟩) from (ld.nm.and kk) 2 _ rfl))
  clear ld
  go_enter Tryd.func7, Tryd.ntmps7
  go_wp2_with (go_at_call 14; refine (HC.out _).mono ?_; rintro e w1 ⟨rfl, hK⟩; have n0 := HN.out _ hK; replace hK := Lib.hid hK)
  go_ret
  exact ⟨rfl, hK.out⟩

set_option maxRecDepth 100000 in
set_option maxHeartbeats 1000000 in
theorem pname_3 (w : World) (ld : Ld w) : Calls Tryd.prog 7 #[.int .i64 3] w (Stay (.string ⟨#[78, 69, 88, 84, 95, 72, 79, 80]⟩) w) := by
  have HC := Lib.hid (fun W => class_any 3 (by decide) W)
  rw [show isCls 3 = true from rfl] at HC
  have HN := Lib.hid (fun W (kk : Kp NoB w W) => (show W.cell? ⟨0, 3, none⟩ = some (.string ⟨#[78, 69, 88, 84, 95, 72, 79, 80]⟩) from (ld.nm.and kk) 3 _ rfl))
  clear ld
  go_enter Tryd.func7, Tryd.ntmps7
  go_wp2_with (go_at_call 14; refine (HC.out _).mono ?_; rintro e w1 ⟨rfl, hK⟩; have n0 := HN.out _ hK; replace hK := Lib.hid hK)
  go_ret
  exact ⟨rfl, hK.out⟩

set_option maxRecDepth 100000 in
set_option maxHeartbeats 1000000 in
theorem pname_4 (w : World) (ld : Ld w) : Calls Tryd.prog 7 #[.int .i64 4] w (Stay (.string ⟨#[77, 85, 76, 84, 73, 95, 69, 88, 73, 84, 95, 68, 73, 83, 67]⟩) w) := by
  have HC := Lib.hid (fun W => class_any 4 (by decide) W)
  rw [show isCls 4 = true from rfl] at HC
  have HN := Lib.hid (fun W (kk : Kp NoB w W) => (show W.cell? ⟨0, 4, none⟩ = some (.string ⟨#[77, 85, 76, 84, 73, 95, 69, 88, 73, 84, 95, 68, 73, 83, 67]⟩) from (ld.nm.and kk) 4 _ rfl))
  clear ld
  go_enter Tryd.func7, Tryd.ntmps7
  go_wp2_with (go_at_call 14; refine (HC.out _).mono ?_; rintro e w1 ⟨rfl, hK⟩; have n0 := HN.out _ hK; replace hK := Lib.hid hK)
  go_ret
  exact ⟨rfl, hK.out⟩

set_option maxRecDepth 100000 in
set_option maxHeartbeats 1000000 in
theorem pname_5 (w : World) (ld : Ld w) : Calls Tryd.prog 7 #[.int .i64 5] w (Stay (.string ⟨#[76, 79, 67, 65, 76, 95, 80, 82, 69, 70]⟩) w) := by
  have HC := Lib.hid (fun W => class_any 5 (by decide) W)
  rw [show isCls 5 = true from rfl] at HC
  have HN := Lib.hid (fun W (kk : Kp NoB w W) => (show W.cell? ⟨0, 5, none⟩ = some (.string ⟨#[76, 79, 67, 65, 76, 95, 80, 82, 69, 70]⟩) from (ld.nm.and kk) 5 _ rfl))
  clear ld
  go_enter Tryd.func7, Tryd.ntmps7
  go_wp2_with (go_at_call 14; refine (HC.out _).mono ?_; rintro e w1 ⟨rfl, hK⟩; have n0 := HN.out _ hK; replace hK := Lib.hid hK)
  go_ret
  exact ⟨rfl, hK.out⟩

set_option maxRecDepth 100000 in
set_option maxHeartbeats 1000000 in
theorem pname_6 (w : World) (ld : Ld w) : Calls Tryd.prog 7 #[.int .i64 6] w (Stay (.string ⟨#[65, 84, 79, 77, 73, 67, 95, 65, 71, 71, 82, 69, 71, 65, 84, 69]⟩) w) := by
  have HC := Lib.hid (fun W => class_any 6 (by decide) W)
  rw [show isCls 6 = true from rfl] at HC
  have HN := Lib.hid (fun W (kk : Kp NoB w W) => (show W.cell? ⟨0, 6, none⟩ = some (.string ⟨#[65, 84, 79, 77, 73, 67, 95, 65, 71, 71, 82, 69, 71, 65, 84, 69]⟩) from (ld.nm.and kk) 6 _ rfl))
  clear ld
  go_enter Tryd.func7, Tryd.ntmps7
  go_wp2_with (go_at_call 14; refine (HC.out _).mono ?_; rintro e w1 ⟨rfl, hK⟩; have n0 := HN.out _ hK; replace hK := Lib.hid hK)
  go_ret
  exact ⟨rfl, hK.out⟩

set_option maxRecDepth 100000 in
set_option maxHeartbeats 1000000 in
theorem pname_7 (w : World) (ld : Ld w) : Calls Tryd.prog 7 #[.int .i64 7] w (Stay (.string ⟨#[65, 71, 71, 82, 69, 71, 65, 84, 79, 82]⟩) w) := by
  have HC := Lib.hid (fun W => class_any 7 (by decide) W)
  rw [show isCls 7 = true from rfl] at HC
  have HN := Lib.hid (fun W (kk : Kp NoB w W) => (show W.cell? ⟨0, 7, none⟩ = some (.string ⟨#[65, 71, 71, 82, 69, 71, 65, 84, 79, 82]⟩) from (ld.nm.and kk) 7 _ rfl))
  clear ld
  go_enter Tryd.func7, Tryd.ntmps7
  go_wp2_with (go_at_call 14; refine (HC.out _).mono ?_; rintro e w1 ⟨rfl, hK⟩; have n0 := HN.out _ hK; replace hK := Lib.hid hK)
  go_ret
  exact ⟨rfl, hK.out⟩

set_option maxRecDepth 100000 in
set_option maxHeartbeats 1000000 in
theorem pname_8 (w : World) (ld : Ld w) : Calls Tryd.prog 7 #[.int .i64 8] w (Stay (.string ⟨#[67, 79, 77, 77, 85, 78, 73, 84, 73, 69, 83]⟩) w) := by
  have HC := Lib.hid (fun W => class_any 8 (by decide) W)
  rw [show isCls 8 = true from rfl] at HC
  have HN := Lib.hid (fun W (kk : Kp NoB w W) => (show W.cell? ⟨0, 8, none⟩ = some (.string ⟨#[67, 79, 77, 77, 85, 78, 73, 84, 73, 69, 83]⟩) from (ld.nm.and kk) 8 _ rfl))
  clear ld
  go_enter Tryd.func7, Tryd.ntmps7
  go_wp2_with (go_at_call 14; refine (HC.out _).mono ?_; rintro e w1 ⟨rfl, hK⟩; have n0 := HN.out _ hK; replace hK := Lib.hid hK)
  go_ret
  exact ⟨rfl, hK.out⟩

set_option maxRecDepth 100000 in
set_option maxHeartbeats 1000000 in
theorem pname_9 (w : World) (ld : Ld w) : Calls Tryd.prog 7 #[.int .i64 9] w (Stay (.string ⟨#[79, 82, 73, 71, 73, 78, 65, 84, 79, 82, 95, 73, 68]⟩) w) := by
  have HC := Lib.hid (fun W => class_any 9 (by decide) W)
  rw [show isCls 9 = true from rfl] at HC
  have HN := Lib.hid (fun W (kk : Kp NoB w W) => (show W.cell? ⟨0, 9, none⟩ = some (.string ⟨#[79, 82, 73, 71, 73, 78, 65, 84, 79, 82, 95, 73, 68]⟩) from (ld.nm.and kk) 9 _ rfl))
  clear ld
  go_enter Tryd.func7, Tryd.ntmps7
  go_wp2_with (go_at_call 14; refine (HC.out _).mono ?_; rintro e w1 ⟨rfl, hK⟩; have n0 := HN.out _ hK; replace hK := Lib.hid hK)
  go_ret
  exact ⟨rfl, hK.out⟩

set_option maxRecDepth 100000 in
set_option maxHeartbeats 1000000 in
theorem pname_10 (w : World) (ld : Ld w) : Calls Tryd.prog 7 #[.int .i64 10] w (Stay (.string ⟨#[67, 76, 85, 83, 84, 69, 82, 95, 76, 73, 83, 84]⟩) w) := by
  have HC := Lib.hid (fun W => class_any 10 (by decide) W)
  rw [show isCls 10 = true from rfl] at HC
  have HN := Lib.hid (fun W (kk : Kp NoB w W) => (show W.cell? ⟨0, 10, none⟩ = some (.string ⟨#[67, 76, 85, 83, 84, 69, 82, 95, 76, 73, 83, 84]⟩) from (ld.nm.and kk) 10 _ rfl))
  clear ld
  go_enter Tryd.func7, Tryd.ntmps7
  go_wp2_with (go_at_call 14; refine (HC.out _).mono ?_; rintro e w1 ⟨rfl, hK⟩; have n0 := HN.out _ hK; replace hK := Lib.hid hK)
  go_ret
  exact ⟨rfl, hK.out⟩

set_option maxRecDepth 100000 in
set_option maxHeartbeats 1000000 in
theorem pname_14 (w : World) (ld : Ld w) : Calls Tryd.prog 7 #[.int .i64 14] w (Stay (.string ⟨#[77, 80, 95, 82, 69, 65, 67, 72, 95, 78, 76, 82, 73]⟩) w) := by
  have HC := Lib.hid (fun W => class_any 14 (by decide) W)
  rw [show isCls 14 = true from rfl] at HC
  have HN := Lib.hid (fun W (kk : Kp NoB w W) => (show W.cell? ⟨0, 14, none⟩ = some (.string ⟨#[77, 80, 95, 82, 69, 65, 67, 72, 95, 78, 76, 82, 73]⟩) from (ld.nm.and kk) 14 _ rfl))
  clear ld
  go_enter Tryd.func7, Tryd.ntmps7
  go_wp2_with (go_at_call 14; refine (HC.out _).mono ?_; rintro e w1 ⟨rfl, hK⟩; have n0 := HN.out _ hK; replace hK := Lib.hid hK)
  go_ret
  exact ⟨rfl, hK.out⟩

set_option maxRecDepth 100000 in
set_option maxHeartbeats 1000000 in
theorem pname_15 (w : World) (ld : Ld w) : Calls Tryd.prog 7 #[.int .i64 15] w (Stay (.string ⟨#[77, 80, 95, 85, 78, 82, 69, 65, 67, 72, 95, 78, 76, 82, 73]⟩) w) := by
  have HC := Lib.hid (fun W => class_any 15 (by decide) W)
  rw [show isCls 15 = true from rfl] at HC
  have HN := Lib.hid (fun W (kk : Kp NoB w W) => (show W.cell? ⟨0, 15, none⟩ = some (.string ⟨#[77, 80, 95, 85, 78, 82, 69, 65, 67, 72, 95, 78, 76, 82, 73]⟩) from (ld.nm.and kk) 15 _ rfl))
  clear ld
  go_enter Tryd.func7, Tryd.ntmps7
  go_wp2_with (go_at_call 14; refine (HC.out _).mono ?_; rintro e w1 ⟨rfl, hK⟩; have n0 := HN.out _ hK; replace hK := Lib.hid hK)
  go_ret
  exact ⟨rfl, hK.out⟩

set_option maxRecDepth 100000 in
set_option maxHeartbeats 1000000 in
theorem pname_16 (w : World) (ld : Ld w) : Calls Tryd.prog 7 #[.int .i64 16] w (Stay (.string ⟨#[69, 88, 84, 69, 78, 68, 69, 68, 95, 67, 79, 77, 77, 85, 78, 73, 84, 73, 69, 83]⟩) w) := by
  have HC := Lib.hid (fun W => class_any 16 (by decide) W)
  rw [show isCls 16 = true from rfl] at HC
  have HN := Lib.hid (fun W (kk : Kp NoB w W) => (show W.cell? ⟨0, 16, none⟩ = some (.string ⟨#[69, 88, 84, 69, 78, 68, 69, 68, 95, 67, 79, 77, 77, 85, 78, 73, 84, 73, 69, 83]⟩) from (ld.nm.and kk) 16 _ rfl))
  clear ld
  go_enter Tryd.func7, Tryd.ntmps7
  go_wp2_with (go_at_call 14; refine (HC.out _).mono ?_; rintro e w1 ⟨rfl, hK⟩; have n0 := HN.out _ hK; replace hK := Lib.hid hK)
  go_ret
  exact ⟨rfl, hK.out⟩

set_option maxRecDepth 100000 in
set_option maxHeartbeats 1000000 in
theorem pname_17 (w : World) (ld : Ld w) : Calls Tryd.prog 7 #[.int .i64 17] w (Stay (.string ⟨#[65, 83, 52, 95, 80, 65, 84, 72]⟩) w) := by
  have HC := Lib.hid (fun W => class_any 17 (by decide) W)
  rw [show isCls 17 = true from rfl] at HC
  have HN := Lib.hid (fun W (kk : Kp NoB w W) => (show W.cell? ⟨0, 17, none⟩ = some (.string ⟨#[65, 83, 52, 95, 80, 65, 84, 72]⟩) from (ld.nm.and kk) 17 _ rfl))
  clear ld
  go_enter Tryd.func7, Tryd.ntmps7
  go_wp2_with (go_at_call 14; refine (HC.out _).mono ?_; rintro e w1 ⟨rfl, hK⟩; have n0 := HN.out _ hK; replace hK := Lib.hid hK)
  go_ret
  exact ⟨rfl, hK.out⟩

set_option maxRecDepth 100000 in
set_option maxHeartbeats 1000000 in
theorem pname_18 (w : World) (ld : Ld w) : Calls Tryd.prog 7 #[.int .i64 18] w (Stay (.string ⟨#[65, 83, 52, 95, 65, 71, 71, 82, 69, 71, 65, 84, 79, 82]⟩) w) := by
  have HC := Lib.hid (fun W => class_any 18 (by decide) W)
  rw [show isCls 18 = true from rfl] at HC
  have HN := Lib.hid (fun W (kk : Kp NoB w W) => (show W.cell? ⟨0, 18, none⟩ = some (.string ⟨#[65, 83, 52, 95, 65, 71, 71, 82, 69, 71, 65, 84, 79, 82]⟩) from (ld.nm.and kk) 18 _ rfl))
  clear ld
  go_enter Tryd.func7, Tryd.ntmps7
  go_wp2_with (go_at_call 14; refine (HC.out _).mono ?_; rintro e w1 ⟨rfl, hK⟩; have n0 := HN.out _ hK; replace hK := Lib.hid hK)
  go_ret
  exact ⟨rfl, hK.out⟩

set_option maxRecDepth 100000 in
set_option maxHeartbeats 1000000 in
theorem pname_32 (w : World) (ld : Ld w) : Calls Tryd.prog 7 #[.int .i64 32] w (Stay (.string ⟨#[76, 65, 82, 71, 69, 95, 67, 79, 77, 77, 85, 78, 73, 84, 89]⟩) w) := by
  have HC := Lib.hid (fun W => class_any 32 (by decide) W)
  rw [show isCls 32 = true from rfl] at HC
  have HN := Lib.hid (fun W (kk : Kp NoB w W) => (show W.cell? ⟨0, 32, none⟩ = some (.string ⟨#[76, 65, 82, 71, 69, 95, 67, 79, 77, 77, 85, 78, 73, 84, 89]⟩) from (ld.nm.and kk) 32 _ rfl))
  clear ld
  go_enter Tryd.func7, Tryd.ntmps7
  go_wp2_with (go_at_call 14; refine (HC.out _).mono ?_; rintro e w1 ⟨rfl, hK⟩; have n0 := HN.out _ hK; replace hK := Lib.hid hK)
  go_ret
  exact ⟨rfl, hK.out⟩

set_option maxRecDepth 100000 in
set_option maxHeartbeats 1000000 in
theorem rname_1 (w : World) : Calls Tryd.prog 8 #[.int .i64 1] w (Stay (.string ⟨#[79, 82, 73, 71, 73, 78]⟩) w) := by
  have HC := Lib.hid (fun W => rclass_any 1 W)
  rw [show isCls 1 = true from rfl] at HC
  go_enter Tryd.func8, Tryd.ntmps8
  go_wp2_with (go_at_call 5; refine (HC.out _).mono ?_; rintro e w1 ⟨rfl, rfl⟩)
  go_ret
  exact ⟨rfl, by first | exact (Kp.refl _ _).alloc _ | exact Kp.refl _ _⟩

set_option maxRecDepth 100000 in
set_option maxHeartbeats 1000000 in
theorem rname_2 (w : World) : Calls Tryd.prog 8 #[.int .i64 2] w (Stay (.string ⟨#[65, 83, 95, 80, 65, 84, 72]⟩) w) := by
  have HC := Lib.hid (fun W => rclass_any 2 W)
  rw [show isCls 2 = true from rfl] at HC
  go_enter Tryd.func8, Tryd.ntmps8
  go_wp2_with (go_at_call 5; refine (HC.out _).mono ?_; rintro e w1 ⟨rfl, rfl⟩)
  go_ret
  exact ⟨rfl, by first | exact (Kp.refl _ _).alloc _ | exact Kp.refl _ _⟩

set_option maxRecDepth 100000 in
set_option maxHeartbeats 1000000 in
theorem rname_3 (w : World) : Calls Tryd.prog 8 #[.int .i64 3] w (Stay (.string ⟨#[78, 69, 88, 84, 95, 72, 79, 80]⟩) w) := by
  have HC := Lib.hid (fun W => rclass_any 3 W)
  rw [show isCls 3 = true from rfl] at HC
  go_enter Tryd.func8, Tryd.ntmps8
  go_wp2_with (go_at_call 5; refine (HC.out _).mono ?_; rintro e w1 ⟨rfl, rfl⟩)
  go_ret
  exact ⟨rfl, by first | exact (Kp.refl _ _).alloc _ | exact Kp.refl _ _⟩

set_option maxRecDepth 100000 in
set_option maxHeartbeats 1000000 in
theorem rname_4 (w : World) : Calls Tryd.prog 8 #[.int .i64 4] w (Stay (.string ⟨#[77, 85, 76, 84, 73, 95, 69, 88, 73, 84, 95, 68, 73, 83, 67]⟩) w) := by
  have HC := Lib.hid (fun W => rclass_any 4 W)
  rw [show isCls 4 = true from rfl] at HC
  go_enter Tryd.func8, Tryd.ntmps8
  go_wp2_with (go_at_call 5; refine (HC.out _).mono ?_; rintro e w1 ⟨rfl, rfl⟩)
  go_ret
  exact ⟨rfl, by first | exact (Kp.refl _ _).alloc _ | exact Kp.refl _ _⟩

set_option maxRecDepth 100000 in
set_option maxHeartbeats 1000000 in
theorem rname_5 (w : World) : Calls Tryd.prog 8 #[.int .i64 5] w (Stay (.string ⟨#[76, 79, 67, 65, 76, 95, 80, 82, 69, 70]⟩) w) := by
  have HC := Lib.hid (fun W => rclass_any 5 W)
  rw [show isCls 5 = true from rfl] at HC
  go_enter Tryd.func8, Tryd.ntmps8
  go_wp2_with (go_at_call 5; refine (HC.out _).mono ?_; rintro e w1 ⟨rfl, rfl⟩)
  go_ret
  exact ⟨rfl, by first | exact (Kp.refl _ _).alloc _ | exact Kp.refl _ _⟩

set_option maxRecDepth 100000 in
set_option maxHeartbeats 1000000 in
theorem rname_6 (w : World) : Calls Tryd.prog 8 #[.int .i64 6] w (Stay (.string ⟨#[65, 84, 79, 77, 73, 67, 95, 65, 71, 71, 82, 69, 71, 65, 84, 69]⟩) w) := by
  have HC := Lib.hid (fun W => rclass_any 6 W)
  rw [show isCls 6 = true from rfl] at HC
  go_enter Tryd.func8, Tryd.ntmps8
  go_wp2_with (go_at_call 5; refine (HC.out _).mono ?_; rintro e w1 ⟨rfl, rfl⟩)
  go_ret
  exact ⟨rfl, by first | exact (Kp.refl _ _).alloc _ | exact Kp.refl _ _⟩

set_option maxRecDepth 100000 in
set_option maxHeartbeats 1000000 in
theorem rname_7 (w : World) : Calls Tryd.prog 8 #[.int .i64 7] w (Stay (.string ⟨#[65, 71, 71, 82, 69, 71, 65, 84, 79, 82]⟩) w) := by
  have HC := Lib.hid (fun W => rclass_any 7 W)
  rw [show isCls 7 = true from rfl] at HC
  go_enter Tryd.func8, Tryd.ntmps8
  go_wp2_with (go_at_call 5; refine (HC.out _).mono ?_; rintro e w1 ⟨rfl, rfl⟩)
  go_ret
  exact ⟨rfl, by first | exact (Kp.refl _ _).alloc _ | exact Kp.refl _ _⟩

set_option maxRecDepth 100000 in
set_option maxHeartbeats 1000000 in
theorem rname_8 (w : World) : Calls Tryd.prog 8 #[.int .i64 8] w (Stay (.string ⟨#[67, 79, 77, 77, 85, 78, 73, 84, 73, 69, 83]⟩) w) := by
  have HC := Lib.hid (fun W => rclass_any 8 W)
  rw [show isCls 8 = true from rfl] at HC
  go_enter Tryd.func8, Tryd.ntmps8
  go_wp2_with (go_at_call 5; refine (HC.out _).mono ?_; rintro e w1 ⟨rfl, rfl⟩)
  go_ret
  exact ⟨rfl, by first | exact (Kp.refl _ _).alloc _ | exact Kp.refl _ _⟩

set_option maxRecDepth 100000 in
set_option maxHeartbeats 1000000 in
theorem rname_9 (w : World) : Calls Tryd.prog 8 #[.int .i64 9] w (Stay (.string ⟨#[79, 82, 73, 71, 73, 78, 65, 84, 79, 82, 95, 73, 68]⟩) w) := by
  have HC := Lib.hid (fun W => rclass_any 9 W)
  rw [show isCls 9 = true from rfl] at HC
  go_enter Tryd.func8, Tryd.ntmps8
  go_wp2_with (go_at_call 5; refine (HC.out _).mono ?_; rintro e w1 ⟨rfl, rfl⟩)
  go_ret
  exact ⟨rfl, by first | exact (Kp.refl _ _).alloc _ | exact Kp.refl _ _⟩

set_option maxRecDepth 100000 in
set_option maxHeartbeats 1000000 in
theorem rname_10 (w : World) : Calls Tryd.prog 8 #[.int .i64 10] w (Stay (.string ⟨#[67, 76, 85, 83, 84, 69, 82, 95, 76, 73, 83, 84]⟩) w) := by
  have HC := Lib.hid (fun W => rclass_any 10 W)
  rw [show isCls 10 = true from rfl] at HC
  go_enter Tryd.func8, Tryd.ntmps8
  go_wp2_with (go_at_call 5; refine (HC.out _).mono ?_; rintro e w1 ⟨rfl, rfl⟩)
  go_ret
  exact ⟨rfl, by first | exact (Kp.refl _ _).alloc _ | exact Kp.refl _ _⟩

set_option maxRecDepth 100000 in
set_option maxHeartbeats 1000000 in
theorem rname_14 (w : World) : Calls Tryd.prog 8 #[.int .i64 14] w (Stay (.string ⟨#[77, 80, 95, 82, 69, 65, 67, 72, 95, 78, 76, 82, 73]⟩) w) := by
  have HC := Lib.hid (fun W => rclass_any 14 W)
  rw [show isCls 14 = true from rfl] at HC
  go_enter Tryd.func8, Tryd.ntmps8
  go_wp2_with (go_at_call 5; refine (HC.out _).mono ?_; rintro e w1 ⟨rfl, rfl⟩)
  go_ret
  exact ⟨rfl, by first | exact (Kp.refl _ _).alloc _ | exact Kp.refl _ _⟩

set_option maxRecDepth 100000 in
set_option maxHeartbeats 1000000 in
theorem rname_15 (w : World) : Calls Tryd.prog 8 #[.int .i64 15] w (Stay (.string ⟨#[77, 80, 95, 85, 78, 82, 69, 65, 67, 72, 95, 78, 76, 82, 73]⟩) w) := by
  have HC := Lib.hid (fun W => rclass_any 15 W)
  rw [show isCls 15 = true from rfl] at HC
  go_enter Tryd.func8, Tryd.ntmps8
  go_wp2_with (go_at_call 5; refine (HC.out _).mono ?_; rintro e w1 ⟨rfl, rfl⟩)
  go_ret
  exact ⟨rfl, by first | exact (Kp.refl _ _).alloc _ | exact Kp.refl _ _⟩

set_option maxRecDepth 100000 in
set_option maxHeartbeats 1000000 in
theorem rname_16 (w : World) : Calls Tryd.prog 8 #[.int .i64 16] w (Stay (.string ⟨#[69, 88, 84, 69, 78, 68, 69, 68, 95, 67, 79, 77, 77, 85, 78, 73, 84, 73, 69, 83]⟩) w) := by
  have HC := Lib.hid (fun W => rclass_any 16 W)
  rw [show isCls 16 = true from rfl] at HC
  go_enter Tryd.func8, Tryd.ntmps8
  go_wp2_with (go_at_call 5; refine (HC.out _).mono ?_; rintro e w1 ⟨rfl, rfl⟩)
  go_ret
  exact ⟨rfl, by first | exact (Kp.refl _ _).alloc _ | exact Kp.refl _ _⟩

set_option maxRecDepth 100000 in
set_option maxHeartbeats 1000000 in
theorem rname_17 (w : World) : Calls Tryd.prog 8 #[.int .i64 17] w (Stay (.string ⟨#[65, 83, 52, 95, 80, 65, 84, 72]⟩) w) := by
  have HC := Lib.hid (fun W => rclass_any 17 W)
  rw [show isCls 17 = true from rfl] at HC
  go_enter Tryd.func8, Tryd.ntmps8
  go_wp2_with (go_at_call 5; refine (HC.out _).mono ?_; rintro e w1 ⟨rfl, rfl⟩)
  go_ret
  exact ⟨rfl, by first | exact (Kp.refl _ _).alloc _ | exact Kp.refl _ _⟩

set_option maxRecDepth 100000 in
set_option maxHeartbeats 1000000 in
theorem rname_18 (w : World) : Calls Tryd.prog 8 #[.int .i64 18] w (Stay (.string ⟨#[65, 83, 52, 95, 65, 71, 71, 82, 69, 71, 65, 84, 79, 82]⟩) w) := by
  have HC := Lib.hid (fun W => rclass_any 18 W)
  rw [show isCls 18 = true from rfl] at HC
  go_enter Tryd.func8, Tryd.ntmps8
  go_wp2_with (go_at_call 5; refine (HC.out _).mono ?_; rintro e w1 ⟨rfl, rfl⟩)
  go_ret
  exact ⟨rfl, by first | exact (Kp.refl _ _).alloc _ | exact Kp.refl _ _⟩

set_option maxRecDepth 100000 in
set_option maxHeartbeats 1000000 in
theorem rname_32 (w : World) : Calls Tryd.prog 8 #[.int .i64 32] w (Stay (.string ⟨#[76, 65, 82, 71, 69, 95, 67, 79, 77, 77, 85, 78, 73, 84, 89]⟩) w) := by
  have HC := Lib.hid (fun W => rclass_any 32 W)
  rw [show isCls 32 = true from rfl] at HC
  go_enter Tryd.func8, Tryd.ntmps8
  go_wp2_with (go_at_call 5; refine (HC.out _).mono ?_; rintro e w1 ⟨rfl, rfl⟩)
  go_ret
  exact ⟨rfl, by first | exact (Kp.refl _ _).alloc _ | exact Kp.refl _ _⟩

theorem pname_known (k : Int) (hk : isCls k = true) (w : World) (ld : Ld w) : Calls Tryd.prog 7 #[.int .i64 k] w (Stay (.string (ba (nameK k))) w) := by
  have hm := (mem_keysL k).2 hk
  simp only [keysL, List.mem_cons, List.not_mem_nil, or_false] at hm
  rcases hm with rfl | rfl | rfl | rfl | rfl | rfl | rfl | rfl | rfl | rfl | rfl | rfl | rfl | rfl | rfl | rfl
  · exact pname_1 w ld
  · exact pname_2 w ld
  · exact pname_3 w ld
  · exact pname_4 w ld
  · exact pname_5 w ld
  · exact pname_6 w ld
  · exact pname_7 w ld
  · exact pname_8 w ld
  · exact pname_9 w ld
  · exact pname_10 w ld
  · exact pname_14 w ld
  · exact pname_15 w ld
  · exact pname_16 w ld
  · exact pname_17 w ld
  · exact pname_18 w ld
  · exact pname_32 w ld

theorem rname_known (k : Int) (hk : isCls k = true) (w : World) : Calls Tryd.prog 8 #[.int .i64 k] w (Stay (.string (ba (nameK k))) w) := by
  have hm := (mem_keysL k).2 hk
  simp only [keysL, List.mem_cons, List.not_mem_nil, or_false] at hm
  rcases hm with rfl | rfl | rfl | rfl | rfl | rfl | rfl | rfl | rfl | rfl | rfl | rfl | rfl | rfl | rfl | rfl
  · exact rname_1 w
  · exact rname_2 w
  · exact rname_3 w
  · exact rname_4 w
  · exact rname_5 w
  · exact rname_6 w
  · exact rname_7 w
  · exact rname_8 w
  · exact rname_9 w
  · exact rname_10 w
  · exact rname_14 w
  · exact rname_15 w
  · exact rname_16 w
  · exact rname_17 w
  · exact rname_18 w
  · exact rname_32 w

theorem type_add (l : List UInt8) (h : l.length ≤ 100) (W : World) : (Op.stringOp .add ⟨#[84, 89, 80, 69, 32]⟩ (ba l)).run Tryd.prog W = .ok (.string (ba ([84, 89, 80, 69, 32] ++ l))) W := by
  rw [show (⟨#[84, 89, 80, 69, 32]⟩ : ByteArray) = ba [84, 89, 80, 69, 32] from rfl, run_string_add_sum W _ _ (by rw [ba_size, ba_size, List.length_cons]; simp only [List.length_cons, List.length_nil]; omega), ba_app]

set_option maxHeartbeats 1000000 in
theorem pname_other (k : Int) (hk : isCls k = false) (h0 : -9223372036854775808 ≤ k) (h1 : k ≤ 9223372036854775807) (wk : (Lit.int .i64 k).wf = true) (w : World) (ld : Ld w) : Calls Tryd.prog 7 #[.int .i64 k] w (Stay (.string (ba ([84, 89, 80, 69, 32] ++ Lib.itoa k))) w) := by
  have HC := Lib.hid (fun W => class_any k wk W)
  rw [hk] at HC
  have HI := Lib.hid (fun W (kk : Kp NoB w W) => (show Calls Tryd.prog 15 #[.int .i64 k] W (Stay (.string (ba (Lib.itoa k))) W) from itoa_any k h0 h1 W (ld.tb.and kk)))
  have hadd := type_add (Lib.itoa k) (by have := Lib.itoa_length_le k h0 h1; omega)
  obtain ⟨b, hb⟩ : ∃ b, ba (Lib.itoa k) = b := ⟨_, rfl⟩
  obtain ⟨r, hr⟩ : ∃ b, ba ([84, 89, 80, 69, 32] ++ Lib.itoa k) = b := ⟨_, rfl⟩
  rw [hb, hr] at hadd
  rw [hb] at HI
  rw [hr]
  clear hb hr ld hk
  go_enter Tryd.func7, Tryd.ntmps7
  go_wp2_with (first
    | (go_at_call 14; refine (HC.out _).mono ?_; rintro e w1 ⟨rfl, hK⟩; replace hK := Lib.hid hK)
    | (go_at_call 15; refine (HI.out _ hK.out).mono ?_; rintro e w2 ⟨rfl, hK2⟩; replace hK2 := Lib.hid hK2))
  go_ret
  exact ⟨rfl, hK.out.and hK2.out⟩

set_option maxHeartbeats 1000000 in
theorem rname_pos (k : Int) (hk : isCls k = false) (h0 : 0 ≤ k) (h1 : k ≤ 9223372036854775807) (w : World) : Calls Tryd.prog 8 #[.int .i64 k] w (Stay (.string (ba ([84, 89, 80, 69, 32] ++ Lib.itoa k))) w) := by
  have HC := Lib.hid (fun W => rclass_any k W)
  rw [hk] at HC
  rw [itoa_dec k h0]
  have HI := Lib.hid (fun W => rdec_stay k.toNat (by omega) W)
  rw [show ((k.toNat : Nat) : Int) = k by omega] at HI
  have hadd := type_add (Lib.decDigits k.toNat) (by have := dec_short k.toNat (by omega); omega)
  obtain ⟨b, hb⟩ : ∃ b, ba (Lib.decDigits k.toNat) = b := ⟨_, rfl⟩
  obtain ⟨r, hr⟩ : ∃ b, ba ([84, 89, 80, 69, 32] ++ Lib.decDigits k.toNat) = b := ⟨_, rfl⟩
  rw [hb, hr] at hadd
  rw [hb] at HI
  rw [hr]
  clear hb hr hk
  go_enter Tryd.func8, Tryd.ntmps8
  go_wp2_with (first
    | (go_at_call 5; refine (HC.out _).mono ?_; rintro e w1 ⟨rfl, rfl⟩)
    | (go_at_call 16; refine (HI.out _).mono ?_; rintro e w2 ⟨rfl, hK2⟩; replace hK2 := Lib.hid hK2))
  go_ret
  exact ⟨rfl, hK2.out⟩

/-! ### negative numbers -/
/-- Behind some rounds: the low digits are t, the rest is still m. -/
def NegAt (n m : Nat) (t : List UInt8) : Prop := Lib.decDigits n = (if m = 0 then [] else Lib.decDigits m) ++ t ∧ m ≤ n
theorem NegAt.start {n : Nat} (h : n ≠ 0) : NegAt n n [] := ⟨by rw [if_neg h, List.append_nil], Nat.le_refl _⟩
theorem NegAt.step {n m : Nat} {t : List UInt8} (h : NegAt n m t) (hm : m ≠ 0) : NegAt n (m / 10) (dgt m :: t) := by
  obtain ⟨h1, h2⟩ := h
  refine ⟨?_, by omega⟩
  rw [h1, if_neg hm, dec_pre m]
  unfold preD
  by_cases h10 : m < 10
  · rw [if_pos h10, if_pos (by omega)]; simp [dgt]
  · rw [if_neg h10, if_neg (by omega)]; simp [dgt]
theorem NegAt.short {n m : Nat} {t : List UInt8} (h : NegAt n m t) (hn : n < 18446744073709551616) : t.length ≤ 20 := by
  have h1 := dec_short n hn
  rw [h.1, List.length_append] at h1
  omega

def hex10 : ByteArray := ⟨#[48, 49, 50, 51, 52, 53, 54, 55, 56, 57]⟩
theorem hex10_fin : ∀ i : Fin 10, (hex10.data.toList.drop i.val).take 1 = [UInt8.ofNat (48 + i.val)] := by decide +kernel
theorem hex10_piece (i : Nat) (h : i < 10) : hex10.extract i (i + 1) = ba [UInt8.ofNat (48 + i)] := by
  have h1 := hex10_fin ⟨i, h⟩
  have e : hex10 = ba hex10.data.toList := rfl
  rw [e, ba_extract]
  simp only [ba_data, Nat.add_sub_cancel_left] at h1 ⊢
  rw [h1]
theorem neg_rem (m : Nat) : (-(m : Int)).tmod 10 = -((m % 10 : Nat) : Int) := by
  rw [Int.neg_tmod, Int.tmod_eq_emod_of_nonneg (by omega)]
  rfl
theorem neg_quo (m : Nat) : (-(m : Int)).tdiv 10 = -((m / 10 : Nat) : Int) := by
  rw [Int.neg_tdiv, Int.tdiv_eq_ediv_of_nonneg (by omega)]
  rfl

set_option maxRecDepth 100000 in
set_option maxHeartbeats 2000000 in
theorem rname_neg (K : Nat) (hK0 : K ≠ 0) (hK1 : K ≤ 9223372036854775808) (hk : isCls (-(K : Int)) = false) (w : World) : Calls Tryd.prog 8 #[.int .i64 (-(K : Int))] w (Stay (.string (ba ([84, 89, 80, 69, 32] ++ Lib.itoa (-(K : Int))))) w) := by
  have HC := Lib.hid (fun W => rclass_any (-(K : Int)) W)
  rw [hk] at HC
  rw [Lib.itoa_neg K (by omega)]
  have hneg : ¬ (0 : Int) ≤ -(K : Int) := by omega
  have hneg' : -(K : Int) < 0 := by omega
  clear hk
  go_enter Tryd.func8, Tryd.ntmps8
  go_wp2_with (go_at_call 5; refine (HC.out _).mono ?_; rintro e w1 ⟨rfl, rfl⟩)
  go_loopw [6, 7, 8] (fun vs vn _ wr => ∃ (m : Nat) (t : List UInt8), vn = .int .i64 (-(m : Int)) ∧ vs = .string (ba t) ∧ wr = w ∧ Hid (NegAt K m t)) (fun _ vn _ _ => (-(intOf vn)).toNat)
  case atStart => exact ⟨K, [], rfl, rfl, rfl, Lib.hid (NegAt.start hK0)⟩
  case round =>
    obtain ⟨m, t, rfl, rfl, rfl, hI⟩ := hrel
    have hle := hI.out.2
    by_cases hm : m = 0
    · subst hm
      have ht := hI.out.1
      rw [if_pos rfl, List.nil_append] at ht
      have HT := Lib.hid ht
      have hadd : ∀ W, (Op.stringOp .add ⟨#[84, 89, 80, 69, 32, 45]⟩ (ba t)).run Tryd.prog W = .ok (.string (ba ([84, 89, 80, 69, 32, 45] ++ t))) W := fun W => by
        have := hI.out.short (by omega)
        rw [show (⟨#[84, 89, 80, 69, 32, 45]⟩ : ByteArray) = ba [84, 89, 80, 69, 32, 45] from rfl, run_string_add_sum W _ _ (by rw [ba_size, ba_size, List.length_cons]; simp only [List.length_cons, List.length_nil]; omega), ba_app]
      obtain ⟨bt, hbt⟩ : ∃ b, ba t = b := ⟨_, rfl⟩
      obtain ⟨br, hbr⟩ : ∃ b, ba ([84, 89, 80, 69, 32, 45] ++ t) = b := ⟨_, rfl⟩
      rw [hbt, hbr] at hadd
      have HR := Lib.hid hbr
      rw [hbt]
      clear hbt hbr ht
      go_wp2
      go_ret
      refine ⟨?_, Kp.refl _ _⟩
      rw [HT.out, ← HR.out]
      rfl
    · have hI' := Lib.hid (hI.out.step hm)
      have hl := hI'.out.short (by omega)
      have e1 := neg_rem m
      have e2 := neg_quo m
      have hcat : (⟨#[48, 49, 50, 51, 52, 53, 54, 55, 56, 57]⟩ : ByteArray).extract (m % 10) (m % 10 + 1) ++ ba t = ba (dgt m :: t) := by
        rw [show (⟨#[48, 49, 50, 51, 52, 53, 54, 55, 56, 57]⟩ : ByteArray) = hex10 from rfl, hex10_piece _ (by omega), ba_app]
        rfl
      have HCat := Lib.hid hcat
      have hsz : (ba t).size ≤ 20 := by rw [ba_size]; simp only [List.length_cons] at hl; omega
      clear hcat
      have hnz : (-(m : Int) != 0) = true := by simp; omega
      go_wp2
      go_roundw
      case rel => exact ⟨m / 10, dgt m :: t, by congr 1, by rw [HCat.out], (by first | rfl | trivial), hI'⟩
      case measure => simp [intOf]; omega

end Go.Proofs.YtffdjfnipnmlcaaDoor
