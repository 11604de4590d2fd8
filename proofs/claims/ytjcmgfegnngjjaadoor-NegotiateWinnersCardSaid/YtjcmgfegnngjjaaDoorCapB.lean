/- Few and Valid of the reference: contracts by walking the Go text. -/
import Derived.Test.YtjcmgfegnngjjaaDoorCapA
namespace Go.Proofs.YtjcmgfegnngjjaaDoor
open Go.RowKit
set_option linter.unusedVariables false
set_option linter.unusedSimpArgs false

def fewB (xs : List CapI) : Bool := xs.all (fun x => decide (x.data.length ≤ 300)) && decide (xs.length ≤ 40)
def okC (x : CapI) : Bool := decide (0 ≤ x.code ∧ x.code ≤ 255 ∧ x.data.length ≤ 255)
def validB (xs : List CapI) : Bool := xs.all okC

/-- All of the first j meet p. -/
def Upto (p : CapI → Bool) (xs : List CapI) (j : Nat) : Prop := ∀ k x, k < j → xs[k]? = some x → p x = true
theorem Upto.zero (p : CapI → Bool) (xs : List CapI) : Upto p xs 0 := fun k x hk => by omega
theorem Upto.succ {p : CapI → Bool} {xs : List CapI} {j : Nat} (h : Upto p xs j) {x : CapI} (hx : xs[j]? = some x) (hp : p x = true) : Upto p xs (j + 1) := fun k y hk hy => by
  rcases Nat.lt_or_ge k j with h1 | h1
  · exact h k y h1 hy
  · obtain rfl : k = j := by omega
    rw [hx] at hy
    injection hy with hy
    rw [← hy]; exact hp
theorem Upto.all {p : CapI → Bool} {xs : List CapI} {j : Nat} (h : Upto p xs j) (hj : j = xs.length) : xs.all p = true := by
  rw [List.all_eq_true]
  intro x hx
  obtain ⟨k, hk, rfl⟩ := List.mem_iff_getElem.1 hx
  exact h k _ (by omega) (List.getElem?_eq_getElem hk)
theorem all_no {p : CapI → Bool} {xs : List CapI} {j : Nat} {x : CapI} (hx : xs[j]? = some x) (hp : p x = false) : xs.all p = false := by
  rw [List.all_eq_false]
  exact ⟨x, List.mem_of_getElem? hx, by rw [hp]; simp⟩

/-- A capability's cells, as the walk spells their addresses. -/
theorem cap_cells {w : World} {xs : List CapI} {cs : List Value} {A : Option Addr} (hx : CapL w xs cs) (ha : Arr w A cs) {j : Nat} (hj : j < xs.length) :
    ∃ x ad A2 c2, xs[j]? = some x ∧ A = some ad ∧ w.cell? (ad.add (j * 2)) = some (.int .i64 x.code) ∧ w.cell? ⟨(ad.add (j * 2)).block, (ad.add (j * 2)).off + 1, none⟩ = some (.slice A2 x.data.length c2) ∧
      x.data.length ≤ c2 ∧ c2 ≤ maxLen ∧ Arr w A2 (bs x.data) ∧ IsB x.data ∧ (-9223372036854775808 ≤ x.code ∧ x.code ≤ 9223372036854775807) ∧ cs[2 * j]? = some (.int .i64 x.code) ∧ cs[2 * j + 1]? = some (.slice A2 x.data.length c2) := by
  obtain ⟨a, b, h1, h2, h3⟩ := hx.2 j _ (List.getElem?_eq_getElem hj)
  obtain ⟨rfl, hr, A2, c2, rfl, h4, h5, h6, h7⟩ := h3
  obtain ⟨ad, rfl, q1⟩ := ha.at h1
  obtain ⟨ad', e2, q2⟩ := ha.at h2
  obtain rfl : ad = ad' := by injection e2
  rw [show 2 * j = j * 2 by omega] at q1
  rw [show 2 * j + 1 = j * 2 + 1 by omega, add_field ad (j * 2) 1 (by decide)] at q2
  exact ⟨_, ad, A2, c2, List.getElem?_eq_getElem hj, rfl, q1, q2, h4, h5, h6, h7, hr, h1, h2⟩

set_option maxHeartbeats 2000000 in
theorem rfew_any (A : Option Addr) (c : Nat) (xs : List CapI) (cs : List Value) (w : World) (hx : CapL w xs cs) (ha : Arr w A cs) (hn : xs.length ≤ 9223372036854775807) :
    Calls Tryd.prog 10 #[.slice A xs.length c] w fun e w' => e = .returned (.bool (fewB xs)) ∧ w = w' := by
  have HC := Lib.hid (fun j (hj : j < xs.length) => cap_cells hx ha hj)
  clear hx ha
  obtain ⟨n, hnn⟩ : ∃ n, xs.length = n := ⟨_, rfl⟩
  have HN := Lib.hid hnn
  rw [hnn] at hn HC ⊢
  clear hnn
  go_enter Tryd.func10, Tryd.ntmps10
  go_wp2
  go_loop [3] (fun i => ∃ j : Nat, j ≤ n ∧ i = .int .i64 j ∧ Hid (Upto (fun x => decide (x.data.length ≤ 300)) xs j)) (fun i => n - (intOf i).toNat)
  case atStart => exact ⟨0, Nat.zero_le _, rfl, Lib.hid (Upto.zero _ _)⟩
  case round =>
    obtain ⟨j, hj, rfl, HU⟩ := hrel
    by_cases hlt : j < n
    · obtain ⟨x, ad, A2, c2, hx, rfl, q1, q2, hc, hm, -, -, -, -, -⟩ := HC.out j hlt
      have HX := Lib.hid hx
      clear hx hc hm
      obtain ⟨m, hmm⟩ : ∃ m, x.data.length = m := ⟨_, rfl⟩
      have HM := Lib.hid hmm
      rw [hmm] at q2
      clear hmm
      by_cases hb : 300 < m
      · have hb' : (300 : Int) < (m : Int) := by omega
        go_wp2
        go_ret
        refine ⟨?_, rfl⟩
        have := all_no (p := fun x => decide (x.data.length ≤ 300)) HX.out (by have := HM.out; simp; omega)
        rw [show fewB xs = false by simp [fewB, this]]; rfl
      · have hb' : (m : Int) ≤ 300 := by omega
        go_wp2
        go_round
        case rel => exact ⟨j + 1, by omega, by go_num, Lib.hid (HU.out.succ HX.out (by have := HM.out; simp; omega))⟩
        case measure => simp [intOf]; omega
    · have hj : j = n := by omega
      subst hj
      have ht := HU.out.all HN.out.symm
      have hN := HN.out
      go_wp2
      go_ret
      refine ⟨?_, rfl⟩
      rw [show fewB xs = decide (xs.length ≤ 40) by simp [fewB, ht], hN, show decide (j ≤ 40) = decide ((j : Int) ≤ 40) from decide_eq_decide.2 (by omega)]; rfl

set_option maxHeartbeats 2000000 in
theorem rvalid_any (A : Option Addr) (c : Nat) (xs : List CapI) (cs : List Value) (w : World) (hx : CapL w xs cs) (ha : Arr w A cs) (hn : xs.length ≤ 9223372036854775807) :
    Calls Tryd.prog 23 #[.slice A xs.length c] w fun e w' => e = .returned (.bool (validB xs)) ∧ w = w' := by
  have HC := Lib.hid (fun j (hj : j < xs.length) => cap_cells hx ha hj)
  clear hx ha
  obtain ⟨n, hnn⟩ : ∃ n, xs.length = n := ⟨_, rfl⟩
  have HN := Lib.hid hnn
  rw [hnn] at hn HC ⊢
  clear hnn
  go_enter Tryd.func23, Tryd.ntmps23
  go_wp2
  go_loop [3] (fun i => ∃ j : Nat, j ≤ n ∧ i = .int .i64 j ∧ Hid (Upto okC xs j)) (fun i => n - (intOf i).toNat)
  case atStart => exact ⟨0, Nat.zero_le _, rfl, Lib.hid (Upto.zero _ _)⟩
  case round =>
    obtain ⟨j, hj, rfl, HU⟩ := hrel
    by_cases hlt : j < n
    · obtain ⟨x, ad, A2, c2, hx, rfl, q1, q2, hc, hm, -, -, -, -, -⟩ := HC.out j hlt
      have HX := Lib.hid hx
      clear hx hc hm
      obtain ⟨m, hmm⟩ : ∃ m, x.data.length = m := ⟨_, rfl⟩
      have HM := Lib.hid hmm
      rw [hmm] at q2
      clear hmm
      obtain ⟨k, hkk⟩ : ∃ k, x.code = k := ⟨_, rfl⟩
      have HK := Lib.hid hkk
      rw [hkk] at q1
      clear hkk
      have hno : ∀ (h : k < 0 ∨ 255 < k ∨ 255 < m), validB xs = false := fun h => all_no (p := okC) HX.out (by have := HM.out; have := HK.out; simp [okC]; omega)
      have HNO := Lib.hid hno
      clear hno
      by_cases hb : k < 0
      · go_wp2
        go_ret
        exact ⟨by rw [HNO.out (.inl hb)]; rfl, rfl⟩
      · by_cases hb2 : 255 < k
        · have hb' : 0 ≤ k := by omega
          go_wp2
          go_ret
          exact ⟨by rw [HNO.out (.inr (.inl hb2))]; rfl, rfl⟩
        · by_cases hb3 : 255 < m
          · have hb' : 0 ≤ k := by omega
            have hb'' : k ≤ 255 := by omega
            have hb''' : (255 : Int) < (m : Int) := by omega
            go_wp2
            go_ret
            exact ⟨by rw [HNO.out (.inr (.inr hb3))]; rfl, rfl⟩
          · have hb' : 0 ≤ k := by omega
            have hb'' : k ≤ 255 := by omega
            have hb''' : (m : Int) ≤ 255 := by omega
            go_wp2
            go_round
            case rel => exact ⟨j + 1, by omega, by go_num, Lib.hid (HU.out.succ HX.out (by have := HM.out; have := HK.out; simp [okC]; omega))⟩
            case measure => simp [intOf]; omega
    · have hj : j = n := by omega
      subst hj
      have ht := HU.out.all HN.out.symm
      go_wp2
      go_ret
      exact ⟨by unfold validB; rw [ht]; rfl, rfl⟩

end Go.Proofs.YtjcmgfegnngjjaaDoor
