/- Lists of capabilities in cells; the law's Given and Back: contracts by walking the Go text. -/
import Derived.Test.YtjcmgfegnngjjaaDoorCat0
namespace Go.Proofs.YtjcmgfegnngjjaaDoor
open Go.RowKit
set_option linter.unusedVariables false
set_option linter.unusedSimpArgs false

/-- A capability: its code and its bytes. -/
structure CapI where
  code : Int
  data : List Int
deriving DecidableEq

/-- A capability's two cells. -/
def CapAt (w : World) (x : CapI) (a b : Value) : Prop :=
  a = .int .i64 x.code ∧ (-9223372036854775808 ≤ x.code ∧ x.code ≤ 9223372036854775807) ∧ ∃ A c, b = .slice A x.data.length c ∧ x.data.length ≤ c ∧ c ≤ maxLen ∧ Arr w A (bs x.data) ∧ IsB x.data
theorem CapAt.and {w w' : World} {x : CapI} {a b : Value} (h : CapAt w x a b) (k : Kp NoB w w') : CapAt w' x a b := by
  obtain ⟨h1, h2, A, c, h3, h4, h5, h6, h7⟩ := h
  exact ⟨h1, h2, A, c, h3, h4, h5, h6.and k, h7⟩

/-- The cells of a list of capabilities. -/
def CapL (w : World) (xs : List CapI) (cs : List Value) : Prop :=
  cs.length = 2 * xs.length ∧ ∀ j x, xs[j]? = some x → ∃ a b, cs[2 * j]? = some a ∧ cs[2 * j + 1]? = some b ∧ CapAt w x a b
theorem CapL.and {w w' : World} {xs : List CapI} {cs : List Value} (h : CapL w xs cs) (k : Kp NoB w w') : CapL w' xs cs :=
  ⟨h.1, fun j x hx => by obtain ⟨a, b, h1, h2, h3⟩ := h.2 j x hx; exact ⟨a, b, h1, h2, h3.and k⟩⟩
theorem CapL.nil (w : World) : CapL w [] [] := ⟨rfl, fun j x hx => by simp at hx⟩
theorem CapL.one {w : World} {xs : List CapI} {cs : List Value} (h : CapL w xs cs) : ∀ u ∈ cs, u.oneCell' = true := by
  intro u hu
  obtain ⟨i, hi, rfl⟩ := List.mem_iff_getElem.1 hu
  have hl := h.1
  have hj : i / 2 < xs.length := by omega
  obtain ⟨a, b, h1, h2, h3, _, A, c, h4, _⟩ := h.2 (i / 2) _ (List.getElem?_eq_getElem hj)
  rcases Nat.mod_two_eq_zero_or_one i with h0 | h0
  · have e : 2 * (i / 2) = i := by omega
    rw [e, List.getElem?_eq_getElem hi] at h1
    injection h1 with h1
    rw [h1, h3]
    rfl
  · have e : 2 * (i / 2) + 1 = i := by omega
    rw [e, List.getElem?_eq_getElem hi] at h2
    injection h2 with h2
    rw [h2, h4]
    rfl
theorem CapL.take {w : World} {xs : List CapI} {cs : List Value} (h : CapL w xs cs) (n : Nat) : CapL w (xs.take n) (cs.take (2 * n)) := by
  refine ⟨by have := h.1; simp only [List.length_take]; omega, fun j x hx => ?_⟩
  rw [List.getElem?_take] at hx
  split at hx
  · obtain ⟨a, b, h1, h2, h3⟩ := h.2 j x hx
    exact ⟨a, b, by rw [List.getElem?_take, if_pos (by omega)]; exact h1, by rw [List.getElem?_take, if_pos (by omega)]; exact h2, h3⟩
  · simp at hx
theorem CapL.snoc {w : World} {xs : List CapI} {cs : List Value} (h : CapL w xs cs) {x : CapI} {a b : Value} (hx : CapAt w x a b) : CapL w (xs ++ [x]) (cs ++ [a, b]) := by
  refine ⟨by have := h.1; simp only [List.length_append, List.length_cons, List.length_nil]; omega, fun j y hy => ?_⟩
  rcases Nat.lt_trichotomy j xs.length with hj | hj | hj
  · rw [List.getElem?_append_left hj] at hy
    obtain ⟨a', b', h1, h2, h3⟩ := h.2 j y hy
    exact ⟨a', b', by rw [List.getElem?_append_left (by rw [h.1]; omega)]; exact h1, by rw [List.getElem?_append_left (by rw [h.1]; omega)]; exact h2, h3⟩
  · subst hj
    simp at hy
    subst hy
    exact ⟨a, b, by rw [List.getElem?_append_right (by rw [h.1]; omega), h.1]; simp, by rw [List.getElem?_append_right (by rw [h.1]; omega), h.1]; simp, hx⟩
  · rw [List.getElem?_eq_none (by simp; omega)] at hy
    simp at hy
theorem take_two (cs : List Value) (j : Nat) (a b : Value) (h1 : cs[2 * j]? = some a) (h2 : cs[2 * j + 1]? = some b) : cs.take (2 * (j + 1)) = cs.take (2 * j) ++ [a, b] := by
  have l1 := (List.getElem?_eq_some_iff.1 h1)
  have l2 := (List.getElem?_eq_some_iff.1 h2)
  obtain ⟨g1, g2⟩ := l1
  obtain ⟨g3, g4⟩ := l2
  rw [show 2 * (j + 1) = 2 * j + 1 + 1 by omega, List.take_succ_eq_append_getElem g3, List.take_succ_eq_append_getElem g1, g2, g4]
  simp

theorem infoCap : (Tryd.prog.info? 58).map (fun i => (i.zero, i.size, i.bytes)) = some (some (.agg #[.int .i64 0, .slice none 0 0]), 2, 32) := by kernel_rfl
theorem infoRCap : (Tryd.prog.info? 45).map (fun i => (i.zero, i.size, i.bytes)) = some (some (.agg #[.int .i64 0, .slice none 0 0]), 2, 32) := by kernel_rfl

/-- A row of cells, copied. -/
def Copied (T : TypeId) (n : Nat) (cs : List Value) (w : World) (e : Ending) (w' : World) : Prop :=
  ∃ A c, e = .returned (.slice A n c) ∧ w'.ownsRow w.heap.size T 2 (.slice A n c) n cs ∧ Kp NoB w w'

set_option maxHeartbeats 2000000 in
theorem given_any (A : Option Addr) (c : Nat) (xs : List CapI) (cs : List Value) (w : World) (hx : CapL w xs cs) (ha : Arr w A cs) (hn : xs.length ≤ 1000000) :
    Calls Tryd.prog 13 #[.slice A xs.length c] w (Copied 58 xs.length cs w) := by
  obtain ⟨i0, hi, hz0, hz1, hz2⟩ := info_parts infoCap
  have H1 := Lib.hid hx.one
  have HX := Lib.hid hx
  have HA := Lib.hid ha
  have hlen := hx.1
  clear hx ha
  obtain ⟨n, hnn⟩ : ∃ n, xs.length = n := ⟨_, rfl⟩
  have HN := Lib.hid hnn
  rw [hnn] at hlen hn ⊢
  clear hnn
  go_enter Tryd.func13, Tryd.ntmps13
  go_wp2
  go_loopw [3, 8] (fun v i wr => ∃ (j : Nat) (A' : Option Addr) (c' : Nat), j ≤ n ∧ i = .int .i64 j ∧ v = .slice A' j c' ∧ wr.ownsRow w.heap.size 58 2 (.slice A' j c') j (cs.take (2 * j)) ∧ Kp NoB w wr) (fun _ i _ => n - (intOf i).toNat)
  case atStart => exact ⟨0, none, 0, Nat.zero_le _, rfl, rfl, World.ownsRow_nil _ _ _ _, Kp.refl _ _⟩
  case round =>
    obtain ⟨j, A', c', hj, rfl, rfl, hown, hK⟩ := hrel
    by_cases hlt : j < n
    · obtain ⟨x, hx⟩ : ∃ x, xs[j]? = some x := ⟨_, List.getElem?_eq_getElem (by rw [HN.out]; exact hlt)⟩
      obtain ⟨a, b, h1, h2, h3⟩ := HX.out.2 j x hx
      obtain ⟨rfl, _, A2, c2, rfl, _⟩ := h3
      obtain ⟨ad, rfl, q1⟩ := HA.out.at h1
      obtain ⟨ad', e2, q2⟩ := HA.out.at h2
      obtain rfl : ad = ad' := by injection e2
      rw [show 2 * j = j * 2 by omega] at q1
      rw [show 2 * j + 1 = j * 2 + 1 by omega, add_field ad (j * 2) 1 (by decide)] at q2
      replace q1 := hK.cell q1 (fun q => q)
      replace q2 := hK.cell q2 (fun q => q)
      obtain ⟨y1, y2, y3, y4, y5⟩ := (Bk.fresh wr 45 #[.int .i64 x.code, .slice A2 x.data.length c2]).two
      have HT := Lib.hid (take_two cs j _ _ h1 h2)
      clear hx e2
      go_wp2_with (at_builtin; refine wpList_app ((hK.alloc _).alloc _) rfl (.tmp 12) (.tmp 14) 28 rfl 58 i0 (.agg #[.int .i64 0, .slice none 0 0]) 2 32 Tryd.underlying28 hi hz0 hz1 hz2 rfl (by decide) _ j (cs.take (2 * j)) rfl ((hown.alloc _).alloc _) _ 1 1 [.int .i64 x.code, .slice A2 x.data.length c2] rfl rfl (Arr.of_bk (Bk.second wr _ 58 #[.int .i64 x.code, .slice A2 x.data.length c2]) 2) (by simp [Value.oneCell']) (by omega) (by decide) (j + 1) rfl ?_; intro A3 c3 w3 hown3 hK3 _ _)
      go_roundw
      case rel => exact ⟨j + 1, A3, c3, by omega, by go_num, rfl, by rw [HT.out]; exact hown3, hK3⟩
      case measure => simp [intOf]; omega
    · have hj : j = n := by omega
      subst hj
      go_wp2
      go_ret
      refine ⟨_, _, rfl, ?_, hK⟩
      rw [List.take_of_length_le (by omega)] at hown
      exact hown

end Go.Proofs.YtjcmgfegnngjjaaDoor
