/- The walk of the law OctetCats: it returns true and makes only new blocks, for all byte strings and every byte. -/
import Derived.Test.YtlgicacpfajmgaaOctE
import Derived.Test.YtlgicacpfajmgaaCat
import Derived.Test.YtlgicacpfajmgaaOpen
import Derived.WalkLawsBesides
namespace Go.Proofs.Ytlgicacpfajmgaa
open Go.RowKit Go.ChangeShapes Go.WideShapes Go.ChangeAt
set_option linter.unusedVariables false
set_option linter.unusedSimpArgs false

def InParts (w : World) (A : Option Addr) (n c : Nat) (xss : List (List Int)) : Prop := xss.length = n ∧ n ≤ c ∧ c ≤ maxLen ∧ Sl ByE 1 w A xss

theorem trod_bytes {H : Type} {enc : TypeId × Value → H} {W : World} (fuel : Nat) (cs : List Value) (x : DataW H × List MemPlace)
    (hx : DataW.trod enc Try.prog W 0 (fun _ => true) true fuel 23 cs = some x) : ∃ a, ByE W a cs := by
  rcases open_ints Try.underlying23 Try.underlying5 (by kernel_rfl) hx with ⟨rfl, _⟩ | ⟨y, l, c', zs, rfl, _, hl, hm, hz, _, hcell, hwz⟩
  · exact ⟨[], none, 0, rfl, Nat.le_refl _, by simp [maxLen], Arr.nil _ _, IsB.nil⟩
  · have hz' : zs.length = c' := by simpa using hz
    have hlen : (zs.take l).length = l := by simp; omega
    refine ⟨zs.take l, some y, c', by rw [hlen], by omega, hm, fun _ => ⟨y, rfl, fun j u hu => ?_⟩, fun b hb => ?_⟩
    · have hj : j < l ∧ j < zs.length := by
        have := (List.getElem?_eq_some_iff.1 hu).1
        simp [bs] at this
        omega
      rw [hcell j hj.2, ← hu]
      simp [bs, hj.1, hj.2]
    · have := bounds_u8 (hwz b (List.mem_of_mem_take hb))
      omega

theorem open_arg52 {H : Type} {enc : TypeId × Value → H} {W : World} {A : Option Addr} {n c : Nat} {d : DataW H} {p : List MemPlace}
    (h : DataW.Trod enc Try.prog W 0 (fun _ => true) true 52 (.slice A n c) d p) : ∃ xs, InParts W A n c xs := by
  obtain ⟨fuel, hf⟩ := h
  obtain ⟨A', n', c', hcs, h1, h2, xs, h3, h4⟩ := open_sl (α := List Int) Try.underlying52 1 (by kernel_rfl) ByE trod_bytes hf
  simp [Value.cells] at hcs
  obtain ⟨rfl, rfl, rfl⟩ := hcs
  exact ⟨xs, h3, h1, h2, h4⟩

set_option maxRecDepth 100000 in
set_option maxHeartbeats 2000000 in
theorem cats_walk (A : Option Addr) (c : Nat) (xss : List (List Int)) (x : Int) (w : World) (h : Sl ByE 1 w A xss) (hl : xss.length ≤ 9223372036854775807) :
    Calls Try.prog 7 #[.slice A xss.length c, .int .u8 x] w (Stay (.bool true) w) := by
  go_enter Try.func7, Try.ntmps7
  go_wp2
  go_loop [5, 11] (fun s i => ∃ j : Nat, j ≤ xss.length ∧ i = .int .i64 j ∧ s = .int .i64 (catL (xss.take j)).length ∧ (catL (xss.take j)).length ≤ 800 ∧ (0 < j → xss.length ≤ 50)) (fun _ i => xss.length - (intOf i).toNat)
  case atStart => exact ⟨0, Nat.zero_le _, rfl, rfl, by simp [catL], fun h => absurd h (by omega)⟩
  case round =>
    obtain ⟨j, hj, rfl, rfl, hs, hcount⟩ := hrel
    by_cases hlt : j < xss.length
    · obtain ⟨ad, B, c', rfl, hcell, hle, hB, hb⟩ := byE_at h j hlt
      have hs2 := congrArg List.length (flat_snoc xss j hlt)
      rw [List.length_append] at hs2
      obtain ⟨m, hm⟩ : ∃ m, xss[j].length = m := ⟨_, rfl⟩
      obtain ⟨s, hs'⟩ : ∃ s, (catL (xss.take j)).length = s := ⟨_, rfl⟩
      rw [hm] at hcell hs2
      rw [hs'] at hs hs2 ⊢
      have HS := Lib.hid hs2
      clear hs2 hm hs' hcount hB hb hle
      by_cases hbig : 800 < s + m ∨ 50 < xss.length
      · go_wp2_with (go_at_call 12; refine (alive_any _).mono ?_; rintro e w1 ⟨rfl, hK1⟩)
        all_goals
          go_ret
          exact ⟨rfl, hK1⟩
      · have h1 : s + m ≤ 800 := by omega
        have h2 : xss.length ≤ 50 := by omega
        clear hbig
        go_wp2
        go_round
        case rel => exact ⟨j + 1, by omega, by go_num, by rw [HS.out]; go_num, by rw [HS.out]; exact h1, fun _ => h2⟩
        case measure => simp [intOf]; omega
    · have hj' : j = xss.length := by omega
      have hjt : xss.take j = xss := by rw [hj', List.take_length]
      have hl2 : xss.length ≤ 50 := by
        rcases Nat.eq_zero_or_pos j with h0 | h0
        · omega
        · exact hcount h0
      rw [hjt] at hs ⊢
      clear hjt hj' hcount
      have HC := Lib.hid (fun w' (k : Kp NoB w w') => cat_any A c xss w' (h.and k (ByE.and k)) (by omega) (by omega))
      have HR := Lib.hid (fun w' (k : Kp NoB w w') => rcat_any A c xss w' (h.and k (ByE.and k)) (by omega) (by omega))
      obtain ⟨L, hL⟩ : ∃ L, catL xss = L := ⟨_, rfl⟩
      rw [hL] at hs ⊢
      simp only [hL] at HC HR
      clear hL h
      go_wp2_with (first
        | (go_at_call 22; refine (HC.out _ (Kp.refl _ _)).mono ?_; rintro e w1 ⟨A1, c1, rfl, hown1, hK1⟩)
        | (go_at_call 12; refine (alive_any _).mono ?_; rintro e w2 ⟨rfl, hK2⟩))
      have hk2 := hK1.and hK2
      refine (HR.out _ hk2).mono ?_
      rintro e w3 ⟨A3, c3, rfl, hown3, hK3⟩
      go_wp2_with fail
      refine (equal_stay A1 A3 c1 c3 L L _ (((Arr.of_own hown1).and hK2).and hK3) (Arr.of_own hown3) (by omega)).mono ?_
      rintro e w4 ⟨rfl, hK4⟩
      go_wp2_with fail
      refine (all_any A1 c1 x L _ ((((Arr.of_own hown1).and hK2).and hK3).and hK4) (by omega)).mono ?_
      rintro e w5 ⟨rfl, hK5⟩
      go_wp2_with fail
      have hk5 := ((hk2.and hK3).and hK4).and hK5
      refine (HR.out _ hk5).mono ?_
      rintro e w6 ⟨A6, c6, rfl, hown6, hK6⟩
      go_wp2_with fail
      refine (rall_any A6 c6 x L _ (Arr.of_own hown6) (by omega)).mono ?_
      rintro e w7 ⟨rfl, hK7⟩
      go_wp2
      go_ret
      exact ⟨by simp, (hk5.and hK6).and hK7⟩

theorem cats_law (A : Option Addr) (n c : Nat) (xss : List (List Int)) (x : Int) (w : World) (h : InParts w A n c xss) (bx : 0 ≤ x ∧ x ≤ 255) :
    Calls Try.prog 7 #[.slice A n c, .int .u8 x] w fun e w' => e = .returned (.bool true) ∧ Kp NoB w w' := by
  obtain ⟨rfl, hc, hm, hs⟩ := h
  exact cats_walk A c xss x w hs (by unfold maxLen at hm; omega)

end Go.Proofs.Ytlgicacpfajmgaa
