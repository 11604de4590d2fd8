/- The walk of the law OctetParts: it returns true and makes only new blocks, for all bytes, every length and all reads. -/
import Derived.Test.YtlgicacpfajmgaaOctE
import Derived.Test.YtlgicacpfajmgaaOpenOps
namespace Go.Proofs.Ytlgicacpfajmgaa
open Go.RowKit
set_option linter.unusedVariables false
set_option linter.unusedSimpArgs false

theorem parts_long (A B : Option Addr) (n c m d : Nat) (k : Int) (w : World) (h : 500 < n ∨ 100 < m) :
    Calls Try.prog 6 #[.slice A n c, .int .i64 k, .slice B m d] w (Stay (.bool true) w) := by
  by_cases h1 : 500 < n
  · go_enter Try.func6, Try.ntmps6
    go_wp2_with (go_at_call 12; refine (alive_any _).mono ?_; rintro e w1 ⟨rfl, hK1⟩)
    go_ret
    exact ⟨rfl, hK1⟩
  · have h2 : 100 < m := by omega
    go_enter Try.func6, Try.ntmps6
    go_wp2_with (go_at_call 12; refine (alive_any _).mono ?_; rintro e w1 ⟨rfl, hK1⟩)
    go_ret
    exact ⟨rfl, hK1⟩

set_option maxHeartbeats 2000000 in
theorem parts_no (A B : Option Addr) (c m d : Nat) (xs : List Int) (k : Int) (w : World) (ha : Arr w A (bs xs)) (hb : IsB xs) (hl : xs.length ≤ 500) (hm : m ≤ 100) (hk : k < 0 ∨ (xs.length : Int) < k) :
    Calls Try.prog 6 #[.slice A xs.length c, .int .i64 k, .slice B m d] w (Stay (.bool true) w) := by
  have hpn := fun (w : World) r q (h : Rd w q r xs 0) => part_no w q r xs 0 k h hk
  have HP := Lib.hid hpn
  clear hpn
  rcases hk with hk | hk
  all_goals
    go_enter Try.func6, Try.ntmps6
    go_wp2_with (first
      | (go_at_call 10; refine (new_any A c xs _ (by omega) ha hb).mono ?_; rintro e w2 ⟨q, r, rfl, hr, hq, hqr, hR, hK2⟩)
      | (go_at_call 20; refine (HP.out _ r q hR).mono ?_; rintro e w3 ⟨rfl, hK3⟩)
      | (go_at_call 12; refine (alive_any _).mono ?_; rintro e w4 ⟨rfl, hK4⟩)
      | (go_at_call 16; refine (at_any _ q r xs 0 ((hR.and hK3).and hK4)).mono ?_; rintro e w5 ⟨rfl, hK5⟩)
      | (go_at_call 17; refine (left_any _ q r xs 0 (((hR.and hK3).and hK4).and hK5)).mono ?_; rintro e w6 ⟨rfl, hK6⟩))
    go_ret
    exact ⟨rfl, (((hK2.and hK3).and hK4).and hK5).and hK6⟩

set_option maxHeartbeats 2000000 in
theorem parts_yes (A B : Option Addr) (c d : Nat) (xs : List Int) (k : Nat) (ops : List (Int × Int)) (w : World) (ha : Arr w A (bs xs)) (hb : IsB xs) (hl : xs.length ≤ 500) (hc : xs.length ≤ c) (hcm : c ≤ 9223372036854775807) (hm : ops.length ≤ 100) (ho : Sl (Flat opC) 2 w B ops) (hk : k ≤ xs.length) :
    Calls Try.prog 6 #[.slice A xs.length c, .int .i64 k, .slice B ops.length d] w (Stay (.bool true) w) := by
  go_enter Try.func6, Try.ntmps6
  go_wp2_with (first
      | (go_at_call 10; refine (new_any A c xs _ (by omega) ha hb).mono ?_; rintro e w2 ⟨q, r, rfl, hr, hq, hqr, hR, hK2⟩)
      | (go_at_call 20; refine (part_yes _ q r xs 0 k hR hk).mono ?_; rintro e w3 ⟨p, rfl, hp, hpr, hqp, hP, hR3, hK3⟩))
  go_loopw [62] (fun i wr => ∃ (j : Nat) (ys : List Int) (t : Nat), j ≤ ops.length ∧ i = .int .i64 j ∧ Rd wr q p ys t ∧ Rd wr q r (xs.drop k) (0 + k) ∧ Kp NoB w wr) (fun i _ => ops.length - (intOf i).toNat)
  case atStart => exact ⟨0, _, _, Nat.zero_le _, rfl, hP, hR3, hK2.new hK3 hr⟩
  case round =>
    obtain ⟨j, ys, t, hj, rfl, hPr, hRr, hKr⟩ := hrel
    by_cases hlt : j < ops.length
    · obtain ⟨bd, cs, rfl, hcl, rfl, hcell⟩ := (Flat.and ho hKr).at (List.getElem?_eq_getElem hlt)
      obtain ⟨o, hoj⟩ : ∃ o, ops[j] = o := ⟨_, rfl⟩
      rw [hoj] at hcell
      have g0 := hcell 0 _ rfl
      have g1 := hcell 1 _ rfl
      rw [add_field _ _ 1 (by decide)] at g1
      rw [Nat.add_zero] at g0
      have hpq : ys ≠ [] → q ≠ p := hPr.ne
      clear hcell hoj hcl
      have hplt := hPr.lt
      go_wp2_with (first
        | (go_at_call 15; refine (take_some _ q p ys t o.2 (hPr.and ((Kp.refl _ _).alloc _))).mono ?_; rintro e w4 ⟨⟨v4, rfl⟩, ys4, t4, hP4, hK4⟩; have hbox := hK4.cell (p := ⟨wr.heap.size, 1, none⟩) (v := .int .i64 o.2) (by simp) (fun hq' => by have hq2 : wr.heap.size = p := hq'; omega))
        | (go_at_call 11; refine (number_some _ q p ys4 t4 o.2 hP4).mono ?_; rintro e w5 ⟨⟨v5, rfl⟩, ys5, t5, hP5, hK5⟩))
      have hK5' : Kp (OnB p) wr w5 := (((Kp.refl _ _).alloc _).same hK4).same hK5
      go_roundw
      case rel => exact ⟨j + 1, ys5, t5, by omega, by go_num, hP5, hRr.keep hK5' (fun h => hpr h.symm) (fun hd h => hqp (by rintro rfl; simp at hd) h), hKr.new hK5' (by have := hK2.size; omega)⟩
      case measure => simp [intOf]; omega
    · have hle : (xs.length : Int) - (k : Int) = ((xs.length - k : Nat) : Int) := by omega
      have hdl : (xs.drop k).length = xs.length - k := by simp
      have htk : (xs.drop k).take (xs.length - k) = xs.drop k := by rw [← hdl, List.take_length]
      have ht := take_yes wr q r (xs.drop k) (0 + k) (xs.length - k) hRr (by omega)
      unfold TakeYes at ht
      rw [htk] at ht
      have HT := Lib.hid ht
      have HL := Lib.hid hdl
      have hD : Arr w (cutA A k c) (bs (xs.drop k)) := by rw [bs_drop]; exact ha.drop (by rw [bs_length]; exact hc)
      have hend : (0 + k + (xs.length - k) : Nat) = xs.length := by omega
      have HE := Lib.hid hend
      clear hPr ho ht hdl htk hend
      by_cases hck : c = k
      all_goals
        first | (have hA : cutA A k c = A := by simp [cutA, hck]) | (have hA : cutA A k c = A.map (·.add k) := by simp [cutA, hck])
        rw [hA] at hD
        clear hA
        go_wp2_with (first
          | (go_at_call 15; refine HT.out.mono ?_; rintro e w6 ⟨A6, c6, rfl, hown6, hR6, hK6⟩)
          | (go_at_call 12; refine (alive_any _).mono ?_; rintro e w7 ⟨rfl, hK7⟩)
          | (go_at_call 13; refine (equal_len A6 _ _ _ c6 _ (xs.drop k) (xs.drop k) _ HL.out HL.out ((Arr.of_own hown6).and hK7) (hD.and ((hKr.new hK6 (by omega)).and hK7)) (by omega)).mono ?_; rintro e w8 ⟨rfl, hK8⟩)
          | (go_at_call 16; refine (at_any _ q r _ _ ((hR6.and hK7).and hK8)).mono ?_; rintro e w9 ⟨rfl, hK9⟩))
        go_ret
        exact ⟨rfl, (((hKr.new hK6 (by omega)).and hK7).and hK8).and hK9⟩

theorem parts_law (A : Option Addr) (n c : Nat) (xs : List Int) (k : Int) (B : Option Addr) (m d : Nat) (ops : List (Int × Int)) (w : World) (h : InBytes w A n c xs) (bk : -9223372036854775808 ≤ k ∧ k ≤ 9223372036854775807) (ho : InOps w B m d ops) :
    Calls Try.prog 6 #[.slice A n c, .int .i64 k, .slice B m d] w fun e w' => e = .returned (.bool true) ∧ Kp NoB w w' := by
  obtain ⟨rfl, hc, hm, ha, hb⟩ := h
  obtain ⟨rfl, hd, hdm, hs⟩ := ho
  by_cases hl : 500 < xs.length ∨ 100 < ops.length
  · exact parts_long A B _ c _ d k w hl
  · by_cases hk : k < 0 ∨ (xs.length : Int) < k
    · exact parts_no A B c _ d xs k w ha hb (by omega) (by omega) hk
    · obtain ⟨j, rfl⟩ := Int.eq_ofNat_of_zero_le (show 0 ≤ k by omega)
      exact parts_yes A B c d xs j ops w ha hb (by omega) hc hm (by omega) hs (by omega)

end Go.Proofs.Ytlgicacpfajmgaa
