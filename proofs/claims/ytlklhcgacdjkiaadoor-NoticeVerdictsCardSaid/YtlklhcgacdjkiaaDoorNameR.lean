/- The names of errors: the reference's contracts. No condition. -/
import Derived.Test.YtlklhcgacdjkiaaDoorNames
namespace Go.Proofs.YtlklhcgacdjkiaaDoor
open Go.RowKit
set_option linter.unusedVariables false
set_option linter.unusedSimpArgs false

/-- The reference's lists of the subcodes' names. -/
def subL (c : Int) : List (List UInt8) := if c = 1 then [] :: (nmRow1.drop 1).take 3 else if c = 2 then [] :: (nmRow2.drop 1).take 6 else if c = 3 then [] :: nmRow3.drop 1 else []
/-- The same list as cells. -/
def subA (c : Int) : Array Value := ((subL c).map strV).toArray
theorem subA_1 : subA 1 = #[.string ⟨#[]⟩, .string ⟨#[109, 97, 114, 107, 101, 114]⟩, .string ⟨#[108, 101, 110, 103, 116, 104]⟩, .string ⟨#[116, 121, 112, 101]⟩] := rfl

set_option maxHeartbeats 1000000 in
theorem rsubs_some (c : Int) (h1 : 1 ≤ c) (h3 : c ≤ 3) (w : World) : Calls Tryd.prog 25 #[.int .i64 c] w fun e w' =>
    e = .returned (.slice (some ⟨w.heap.size, 0, none⟩) (subL c).length (subL c).length) ∧ w' = w.alloc (.cells (subA c) 9) := by
  have : c = 1 ∨ c = 2 ∨ c = 3 := by omega
  clear h1 h3
  rcases this with rfl | rfl | rfl
  all_goals
    go_enter Tryd.func25, Tryd.ntmps25
    go_wp2
    go_ret
    exact ⟨rfl, rfl⟩
theorem rsubs_none (c : Int) (h : 3 < c) (w : World) : Calls Tryd.prog 25 #[.int .i64 c] w fun e w' => e = .returned (.slice none 0 0) ∧ w = w' := by
  go_enter Tryd.func25, Tryd.ntmps25
  go_wp2
  go_ret
  exact ⟨rfl, rfl⟩

theorem rname_bad (c s : Int) (h : c < 1 ∨ 6 < c) (w : World) : Calls Tryd.prog 10 #[.int .i64 c, .int .i64 s] w (Stay (strV (nm c s)) w) := by
  have hn := Lib.hid (nm_bad c s h)
  rcases h with h | h
  all_goals
    go_enter Tryd.func10, Tryd.ntmps10
    go_wp2
    go_ret
    exact ⟨by rw [hn.out]; rfl, Kp.refl _ _⟩

set_option maxHeartbeats 4000000 in
theorem rname_high (c s : Int) (h1 : 4 ≤ c) (h2 : c ≤ 6) (w : World) : Calls Tryd.prog 10 #[.int .i64 c, .int .i64 s] w (Stay (strV (nm c s)) w) := by
  have he : (nmRow c).getD s.toNat [] = [] ∨ s ≤ 0 := by
    by_cases hs : s ≤ 0
    · exact .inr hs
    · left
      have hc : c = 4 ∨ c = 5 ∨ c = 6 := by omega
      obtain ⟨n, hn⟩ : ∃ n : Nat, s.toNat = n + 1 := ⟨s.toNat - 1, by omega⟩
      rw [hn]
      by_cases hn12 : n < 11
      · have : n = 0 ∨ n = 1 ∨ n = 2 ∨ n = 3 ∨ n = 4 ∨ n = 5 ∨ n = 6 ∨ n = 7 ∨ n = 8 ∨ n = 9 ∨ n = 10 := by omega
        rcases hc with rfl | rfl | rfl <;> rcases this with rfl | rfl | rfl | rfl | rfl | rfl | rfl | rfl | rfl | rfl | rfl <;> rfl
      · rw [List.getD_eq_getElem?_getD, List.getElem?_eq_none (by rw [nmRow_length]; omega)]
        rfl
  have hN := Lib.hid (nm_plain c s (by omega) h2 (fun h => by rcases he with he | he; exact h.2.2 he; omega))
  clear he
  have H := Lib.hid (fun w => rsubs_none c (by omega) w)
  have hc : c = 4 ∨ c = 5 ∨ c = 6 := by omega
  clear h1 h2
  by_cases hs : 0 < s
  all_goals
    rcases hc with rfl | rfl | rfl
    all_goals
      go_enter Tryd.func10, Tryd.ntmps10
      go_wp2_with (go_at_call 25; refine (H.out _).mono ?_; rintro e w' ⟨rfl, rfl⟩)
      go_ret
      exact ⟨by rw [hN.out]; rfl, (Kp.refl _ _).alloc _⟩

theorem sub_same_fin : ∀ i : Fin 12, 0 < i.val → (subL 1).getD i.val [] = (nmRow 1).getD i.val [] ∧ (subL 2).getD i.val [] = (nmRow 2).getD i.val [] ∧ (subL 3).getD i.val [] = (nmRow 3).getD i.val [] := by decide
theorem sub_same (c : Int) (h1 : 1 ≤ c) (h3 : c ≤ 3) (i : Nat) (hi : 0 < i) : (subL c).getD i [] = (nmRow c).getD i [] := by
  have hc : c = 1 ∨ c = 2 ∨ c = 3 := by omega
  by_cases h12 : i < 12
  · have := sub_same_fin ⟨i, h12⟩ hi
    rcases hc with rfl | rfl | rfl
    · exact this.1
    · exact this.2.1
    · exact this.2.2
  · have hl : (subL c).length ≤ 12 := by rcases hc with rfl | rfl | rfl <;> decide
    rw [List.getD_eq_getElem?_getD, List.getD_eq_getElem?_getD, List.getElem?_eq_none (by omega), List.getElem?_eq_none (by rw [nmRow_length]; omega)]
theorem sub_at (c : Int) (h1 : 1 ≤ c) (h3 : c ≤ 3) (i : Nat) (hi : 0 < i) (hl : i < (subL c).length) : (subA c)[i]? = some (.string (ba ((nmRow c).getD i []))) := by
  rw [← sub_same c h1 h3 i hi]
  simp [subA, hl, List.getD_eq_getElem?_getD, strV]

set_option maxHeartbeats 4000000 in
theorem rname_low (c s : Int) (h1 : 1 ≤ c) (h2 : c ≤ 3) (w : World) : Calls Tryd.prog 10 #[.int .i64 c, .int .i64 s] w (Stay (strV (nm c s)) w) := by
  have H := Lib.hid (fun w => rsubs_some c h1 h2 w)
  have hc : c = 1 ∨ c = 2 ∨ c = 3 := by omega
  have hlen : (subL c).length ≤ 12 := by rcases hc with rfl | rfl | rfl <;> decide
  by_cases hs : 0 < s ∧ s < (subL c).length
  · have hat := sub_at c h1 h2 s.toNat (by omega) (by omega)
    have hl0 := nmRow_short c 0
    have hl1 := nmRow_short c s.toNat
    have hk : ((nmRow c).getD 0 []).length + 1 ≤ 13 := by omega
    obtain ⟨hs1, hs2⟩ := hs
    obtain ⟨A, hA⟩ : ∃ A, subA c = A := ⟨_, rfl⟩
    by_cases he : (nmRow c).getD s.toNat [] = []
    · have hN := Lib.hid (nm_plain c s h1 (by omega) (fun h => h.2.2 he))
      rw [he] at hat
      have hemp : (ba []).toList = [] := ba_toList []
      have hemp2 : (ba []).toList.isEmpty = true := by rw [hemp]; rfl
      obtain ⟨n, hn⟩ : ∃ n, (subL c).length = n := ⟨_, rfl⟩
      simp only [hA, hn] at H hat hs2
      clear hl0 hl1 he h1 h2 hA hn hlen hk
      rcases hc with rfl | rfl | rfl
      all_goals
        go_enter Tryd.func10, Tryd.ntmps10
        go_wp2_with (go_at_call 25; refine (H.out _).mono ?_; rintro e w' ⟨rfl, rfl⟩)
        go_ret
        exact ⟨by rw [hN.out]; rfl, ((Kp.refl _ _).alloc _).alloc _⟩
    · have hN := Lib.hid (nm_sub c s h1 (by omega) ⟨hs1, by omega, he⟩)
      obtain ⟨t, htt⟩ : ∃ t, (nmRow c).getD s.toNat [] = t := ⟨_, rfl⟩
      rw [htt] at hat hl1 he hN
      have hne : (ba t).toList.isEmpty = false := by rw [ba_toList]; cases t <;> simp_all
      have hne2 : ((ba t).toList = []) = False := by rw [ba_toList]; simp [he]
      have hbt : (ba t).size ≤ 12 := by rw [ba_size]; exact hl1
      have HE : Hid (ba ((nmRow c).getD 0 []) ++ ba [47] ++ ba t = ba ((nmRow c).getD 0 [] ++ 47 :: t)) := by rw [ba_app, ba_app]; exact Lib.hid (by simp)
      obtain ⟨n, hn⟩ : ∃ n, (subL c).length = n := ⟨_, rfl⟩
      simp only [hA, hn] at H hat hs2
      clear hl0 hl1 he h1 h2 hA hn hlen hk htt
      rcases hc with rfl | rfl | rfl
      all_goals
        go_enter Tryd.func10, Tryd.ntmps10
        go_wp2_with (go_at_call 25; refine (H.out _).mono ?_; rintro e w' ⟨rfl, rfl⟩)
        go_ret
        exact ⟨by rw [hN.out]; exact congrArg (fun s => Ending.returned (Value.string s)) HE.out, ((Kp.refl _ _).alloc _).alloc _⟩
  · have hN := Lib.hid (nm_plain c s h1 (by omega) (fun h => h.2.2 (by
      rw [← sub_same c h1 h2 s.toNat (by omega), List.getD_eq_getElem?_getD, List.getElem?_eq_none (by omega)]
      rfl)))
    obtain ⟨A, hA⟩ : ∃ A, subA c = A := ⟨_, rfl⟩
    have hs' : s ≤ 0 ∨ (0 < s ∧ ((subL c).length : Int) ≤ s) := by omega
    obtain ⟨n, hn⟩ : ∃ n, (subL c).length = n := ⟨_, rfl⟩
    simp only [hA, hn] at H hs'
    clear h1 h2 hA hn hlen hs
    rcases hs' with hs | ⟨hs1, hs⟩
    all_goals
      rcases hc with rfl | rfl | rfl
      all_goals
        go_enter Tryd.func10, Tryd.ntmps10
        go_wp2_with (go_at_call 25; refine (H.out _).mono ?_; rintro e w' ⟨rfl, rfl⟩)
        go_ret
        exact ⟨by rw [hN.out]; rfl, ((Kp.refl _ _).alloc _).alloc _⟩

theorem rname_any (c s : Int) (w : World) : Calls Tryd.prog 10 #[.int .i64 c, .int .i64 s] w (Stay (strV (nm c s)) w) := by
  by_cases h : c < 1 ∨ 6 < c
  · exact rname_bad c s h w
  · by_cases h3 : c ≤ 3
    · exact rname_low c s (by omega) h3 w
    · exact rname_high c s (by omega) (by omega) w

end Go.Proofs.YtlklhcgacdjkiaaDoor
