/- The names of errors (package notice and its reference): contracts. No condition but the listed table's content. -/
import Derived.Test.YtlklhcgacdjkiaaDoorStrTab
import Derived.Test.YtlklhcgacdjkiaaDoorBigR
import Derived.Test.YtlklhcgacdjkiaaDoorDec
import Derived.Test.YtlklhcgacdjkiaaDoorRows
import Derived.Outline
namespace Go.Proofs.YtlklhcgacdjkiaaDoor
open Go.RowKit
set_option linter.unusedVariables false
set_option linter.unusedSimpArgs false

/-- The listed table: row c from cell 12 c on. -/
def NmT (w : World) : Prop := ∀ c : Nat, 1 ≤ c → c ≤ 6 → CellsAt w ⟨0, c * 12, none⟩ ((nmRow c).map strV)
theorem NmT.and {w w' : World} (h : NmT w) (k : Kp NoB w w') : NmT w' := fun c h1 h2 => (h c h1 h2).and k
def nmTab : List (List (List UInt8)) := [[[], [], [], [], [], [], [], [], [], [], [], []], nmRow1, nmRow2, nmRow3, nmRow4, nmRow5, nmRow6]
theorem nmTab_at (c : Nat) (h1 : 1 ≤ c) (h2 : c ≤ 6) : nmTab[c]? = some (nmRow c) := by
  have : c = 1 ∨ c = 2 ∨ c = 3 ∨ c = 4 ∨ c = 5 ∨ c = 6 := by omega
  rcases this with rfl | rfl | rfl | rfl | rfl | rfl <;> rfl
theorem nmData : (Rows.laid_peerage_notice_names : DataW Unit) = .agg (nmTab.map fun bss => .agg (bss.map fun b => .lit (.string b))) := by kernel_rfl
theorem names_of {W : World} {r : List (String × DataW Unit)} (h : laidMet Tryd.prog (("peerage/notice.names", Rows.laid_peerage_notice_names) :: r) W) : NmT W := by
  obtain ⟨ps, ⟨g', t', cs, fuel, p, q, hg', ht', hvar, hd, _, _⟩, _⟩ := h
  have hg : Tryd.prog.globalNamed "peerage/notice.names" = some 0 := by kernel_rfl
  obtain rfl := Option.some.inj (hg.symm.trans hg')
  obtain rfl := Option.some.inj ((show (Tryd.prog.globals[0]?).map (·.type) = some 54 by kernel_rfl).symm.trans ht')
  rw [nmData] at hd
  have hgrid := cells_of_grid Tryd.underlying54 Tryd.underlying53 Tryd.underlying9 (by kernel_rfl) (by kernel_rfl) hd
  intro c h1 h2 j v hj
  have hrow := hgrid c _ (nmTab_at c h1 h2)
  rw [← hrow, List.getElem?_take] at hj
  split at hj
  · rw [List.getElem?_drop] at hj
    rw [add_none, World.var?_cell hg hvar (c * 12 + j)]
    simpa using hj
  · cases hj

/-- The row's cells, as the walk reads them. -/
theorem rowV_size (c : Int) : ((nmRow c).map strV).toArray.size = 12 := by simp [nmRow_length]
theorem rowV_one (c : Int) : ((nmRow c).map strV).toArray.all (·.oneCell') = true := by
  rw [Array.all_eq_true]
  intro i hi
  simp only [List.getElem_toArray, List.getElem_map]
  rfl
theorem rowV_at (c : Int) (i : Nat) (hi : i < 12) : ((nmRow c).map strV).toArray[i]? = some (strV ((nmRow c).getD i [])) := by
  simp [nmRow_length, hi, List.getD_eq_getElem?_getD]

theorem nm_bad (c s : Int) (h : c < 1 ∨ 6 < c) : nm c s = [101, 114, 114, 111, 114] := by
  unfold nm
  rw [if_neg (by omega)]

set_option maxHeartbeats 1000000 in
theorem name_bad (c s : Int) (h : c < 1 ∨ 6 < c) (w : World) : Calls Tryd.prog 8 #[.int .i64 c, .int .i64 s] w (Stay (strV (nm c s)) w) := by
  have hn := Lib.hid (nm_bad c s h)
  rcases h with h | h
  all_goals
    go_enter Tryd.func8, Tryd.ntmps8
    go_wp2
    go_ret
    exact ⟨by rw [hn.out]; rfl, Kp.refl _ _⟩

theorem run_cat (P : Program) (x y : List UInt8) (h : x.length + y.length ≤ 1000000000) (w : World) : (Op.stringOp .add (ba x) (ba y)).run P w = .ok (.string (ba (x ++ y))) w := by
  rw [run_string_add_sum w _ _ (by rw [ba_size, ba_size]; omega), ba_app]

/-- What the walk of a row asks. -/
structure RowC (C : List Value) (c : Int) : Prop where
  size : C.length = 12
  one : C.toArray.all (·.oneCell') = true
  head : C[0]? = some (.string (ba ((nmRow c).getD 0 [])))
  at' : ∀ i : Nat, i < 12 → C[i]? = some (.string (ba ((nmRow c).getD i [])))
theorem rowC (c : Int) : RowC ((nmRow c).map strV) c := by
  have h : ∀ i : Nat, i < 12 → ((nmRow c).map strV)[i]? = some (.string (ba ((nmRow c).getD i []))) := fun i hi => by
    have := rowV_at c i hi
    rw [List.getElem?_toArray] at this
    exact this
  exact ⟨by simp [nmRow_length], rowV_one c, h 0 (by decide), h⟩

theorem nm_plain (c s : Int) (h1 : 1 ≤ c) (h2 : c ≤ 6) (h : ¬ (0 < s ∧ s < 12 ∧ (nmRow c).getD s.toNat [] ≠ [])) : nm c s = (nmRow c).getD 0 [] := by
  unfold nm
  rw [if_pos ⟨h1, h2⟩, if_neg h]
theorem nm_sub (c s : Int) (h1 : 1 ≤ c) (h2 : c ≤ 6) (h : 0 < s ∧ s < 12 ∧ (nmRow c).getD s.toNat [] ≠ []) : nm c s = (nmRow c).getD 0 [] ++ (47 :: (nmRow c).getD s.toNat []) := by
  unfold nm
  rw [if_pos ⟨h1, h2⟩, if_pos h]

set_option maxHeartbeats 4000000 in
theorem name_good (c s : Int) (h1 : 1 ≤ c) (h2 : c ≤ 6) (w : World) (ht : NmT w) : Calls Tryd.prog 8 #[.int .i64 c, .int .i64 s] w (Stay (strV (nm c s)) w) := by
  obtain ⟨k, rfl⟩ : ∃ k : Nat, c = k := ⟨c.toNat, by omega⟩
  have hrow := Lib.hid (ht k (by omega) (by omega))
  obtain ⟨C, hCC⟩ : ∃ C, ((nmRow k).map strV) = C := ⟨_, rfl⟩
  have hR := rowC (k : Int)
  rw [hCC] at hrow hR
  obtain ⟨hsz, hon, h0, hat⟩ := hR
  have HI : Hid ((Tryd.prog.info? 53).map (·.size) = some C.length) := by rw [hsz]; exact Lib.hid (by kernel_rfl)
  have HI2 : Hid ((Tryd.prog.info? 53).map (·.size) = some C.toArray.size) := by rw [List.size_toArray, hsz]; exact Lib.hid (by kernel_rfl)
  have HSZ : Hid (#[Value.string { data := #[] }, Value.string { data := #[] }, Value.string { data := #[] }, Value.string { data := #[] }, Value.string { data := #[] }, Value.string { data := #[] }, Value.string { data := #[] }, Value.string { data := #[] }, Value.string { data := #[] }, Value.string { data := #[] }, Value.string { data := #[] }, Value.string { data := #[] }].size = C.toArray.size) := by rw [show C.toArray.size = 12 from hsz]; exact Lib.hid rfl
  have hl0 := nmRow_short k 0
  have hc3 := run_cat Tryd.prog ((nmRow k).getD 0 []) [] (by simp only [List.length_nil]; omega)
  rw [List.append_nil] at hc3
  have hc3' : ∀ w, (Op.stringOp .add (ba ((nmRow k).getD 0 [])) { data := #[] }).run Tryd.prog w = .ok (.string (ba ((nmRow k).getD 0 []))) w := hc3
  clear hc3
  by_cases hs : 0 < s ∧ s < 12
  · have hat' := hat s.toNat (by omega)
    have hl1 := nmRow_short k s.toNat
    obtain ⟨hs1, hs2⟩ := hs
    by_cases he : (nmRow k).getD s.toNat [] = []
    · have hN := Lib.hid (nm_plain k s h1 h2 (fun h => h.2.2 he))
      rw [he] at hat'
      obtain ⟨H0, hH0⟩ : ∃ H0, (nmRow k).getD 0 [] = H0 := ⟨_, rfl⟩
      rw [hH0] at h0 hc3' hN
      have hemp : (ba []).toList = [] := ba_toList []
      have hemp2 : (ba []).toList.isEmpty = true := by rw [hemp]; rfl
      clear hat hCC hsz hl0 hl1 he hH0 ht
      go_enter Tryd.func8, Tryd.ntmps8
      go_wp2_with (first
        | (refine wpList_load_at rfl 53 (.tmp 14) rfl ⟨0, k * 12, none⟩ ?_ C _ hrow.out Tryd.underlying53 rfl HI.out ?_)
        | (refine wpList_store_new rfl 53 (.tmp 5) (.tmp 15) rfl _ C.toArray rfl rfl _ HI2.out HSZ.out hon ?_))
      all_goals first | rfl | skip
      go_ret
      exact ⟨by rw [hN.out]; rfl, (Kp.refl _ _).alloc _⟩
    · have hN := Lib.hid (nm_sub k s h1 h2 ⟨hs1, hs2, he⟩)
      obtain ⟨t, htt⟩ : ∃ t, (nmRow k).getD s.toNat [] = t := ⟨_, rfl⟩
      rw [htt] at hat' hl1 he hN
      have hne : (ba t).toList.isEmpty = false := by rw [ba_toList]; cases t <;> simp_all
      have hne2 : ((ba t).toList = []) = False := by rw [ba_toList]; simp [he]
      have hc1 : ∀ w, (Op.stringOp .add { data := #[47] } (ba t)).run Tryd.prog w = .ok (.string (ba (47 :: t))) w := run_cat Tryd.prog [47] t (by simp only [List.length_nil, List.length_cons]; omega)
      have hc2 := run_cat Tryd.prog ((nmRow k).getD 0 []) (47 :: t) (by simp only [List.length_cons]; omega)
      obtain ⟨H0, hH0⟩ : ∃ H0, (nmRow k).getD 0 [] = H0 := ⟨_, rfl⟩
      rw [hH0] at h0 hc3' hc2 hN
      clear hat hCC hsz hl0 hl1 he hH0 ht htt hc3'
      go_enter Tryd.func8, Tryd.ntmps8
      go_wp2_with (first
        | (refine wpList_load_at rfl 53 (.tmp 14) rfl ⟨0, k * 12, none⟩ ?_ C _ hrow.out Tryd.underlying53 rfl HI.out ?_)
        | (refine wpList_store_new rfl 53 (.tmp 5) (.tmp 15) rfl _ C.toArray rfl rfl _ HI2.out HSZ.out hon ?_))
      all_goals first | rfl | skip
      go_ret
      exact ⟨by rw [hN.out]; rfl, (Kp.refl _ _).alloc _⟩
  · have hN := Lib.hid (nm_plain k s h1 h2 (fun h => hs ⟨h.1, h.2.1⟩))
    have hs' : s ≤ 0 ∨ 12 ≤ s := by omega
    obtain ⟨H0, hH0⟩ : ∃ H0, (nmRow k).getD 0 [] = H0 := ⟨_, rfl⟩
    rw [hH0] at h0 hc3' hN
    clear hat hCC hsz hl0 hH0 ht hs
    rcases hs' with hs' | hs'
    all_goals
      go_enter Tryd.func8, Tryd.ntmps8
      go_wp2_with (first
        | (refine wpList_load_at rfl 53 (.tmp 14) rfl ⟨0, k * 12, none⟩ ?_ C _ hrow.out Tryd.underlying53 rfl HI.out ?_)
        | (refine wpList_store_new rfl 53 (.tmp 5) (.tmp 15) rfl _ C.toArray rfl rfl _ HI2.out HSZ.out hon ?_))
      all_goals first | rfl | skip
      go_ret
      exact ⟨by rw [hN.out]; rfl, (Kp.refl _ _).alloc _⟩

theorem name_any (c s : Int) (w : World) (ht : NmT w) : Calls Tryd.prog 8 #[.int .i64 c, .int .i64 s] w (Stay (strV (nm c s)) w) := by
  by_cases h : c < 1 ∨ 6 < c
  · exact name_bad c s h w
  · exact name_good c s (by omega) (by omega) w ht

end Go.Proofs.YtlklhcgacdjkiaaDoor
