/- The walk of the law OctetKeeps: it returns true and makes only new blocks, for all bytes and every length. -/
import Derived.Test.YtlgicacpfajmgaaOctE
import Derived.Test.YtlgicacpfajmgaaOpen
namespace Go.Proofs.Ytlgicacpfajmgaa
open Go.RowKit
set_option linter.unusedVariables false
set_option linter.unusedSimpArgs false

theorem keeps_long (A : Option Addr) (n c : Nat) (k : Int) (w : World) (h : 500 < n) :
    Calls Try.prog 4 #[.slice A n c, .int .i64 k] w (Stay (.bool true) w) := by
  go_enter Try.func4, Try.ntmps4
  go_wp2_with (go_at_call 12; refine (alive_any _).mono ?_; rintro e w1 ⟨rfl, hK1⟩)
  go_ret
  exact ⟨rfl, hK1⟩

set_option maxHeartbeats 2000000 in
theorem keeps_yes (A : Option Addr) (c : Nat) (xs : List Int) (k : Nat) (w : World) (ha : Arr w A (bs xs)) (hb : IsB xs) (hl : xs.length ≤ 500) (hc : xs.length ≤ c) (hm : c ≤ 9223372036854775807) (hk : k ≤ xs.length) :
    Calls Try.prog 4 #[.slice A xs.length c, .int .i64 k] w (Stay (.bool true) w) := by
  have hlen : (xs.take k).length = k := by simp; omega
  have Hlen := Lib.hid hlen
  clear hlen
  go_enter Try.func4, Try.ntmps4
  go_wp2_with (first
    | (go_at_call 14; refine (clone_any A c xs _ (by omega) ha).mono ?_; rintro e w1 ⟨A1, c1, rfl, hown1, hK1⟩)
    | (go_at_call 10; refine (new_any A1 c1 xs _ (by omega) (Arr.of_own hown1) hb).mono ?_; rintro e w2 ⟨q, r, rfl, hr, hq, _, hR, hK2⟩))
  go_loopw [29] (fun i wr => ∃ (j : Nat) (zs : List Value), j ≤ xs.length ∧ i = .int .i64 j ∧ wr.ownsRow w.heap.size 5 1 (.slice A1 xs.length c1) xs.length zs ∧ (∀ z ∈ zs, ∃ x, z = .int .u8 x) ∧ Kp (fun b => some b = (Value.slice A1 xs.length c1).ownBlock) w2 wr) (fun i _ => xs.length - (intOf i).toNat)
  case atStart => exact ⟨0, _, Nat.zero_le _, rfl, hK2.own hown1 (fun _ _ q => q), fun z hz => (by simp only [bs, List.mem_map] at hz; obtain ⟨x, _, rfl⟩ := hz; exact ⟨x, rfl⟩), Kp.refl _ _⟩
  case round =>
    obtain ⟨j, zs, hj, rfl, hown, hz, hK3⟩ := hrel
    by_cases hlt : j < xs.length
    · obtain ⟨g, rfl, hg, hgs, hcell, hfz⟩ := own_at hown (by omega)
      obtain ⟨z, hzj⟩ : ∃ z, zs[j]? = some z := ⟨_, List.getElem?_eq_getElem (by rw [hown.1]; omega)⟩
      obtain ⟨x, rfl⟩ := hz z (List.mem_of_getElem? hzj)
      have h1 := hcell j _ hzj
      have h2 := hfz j
      have hstep := fun u => own_set hown j u
      have HS := Lib.hid hstep
      clear hcell hfz hstep hzj
      go_wp2
      go_roundw
      case rel => exact ⟨j + 1, _, by omega, by go_num, HS.out _, fun z' hz' => (by rcases List.mem_or_eq_of_mem_set hz' with h | h; exact hz _ h; exact ⟨_, h⟩), hK3.setCell (p := ⟨g, j, none⟩) (fun _ => rfl) _⟩
      case measure => simp [intOf]; omega
    · have hold : ∀ b, some b = (Value.slice A1 xs.length c1).ownBlock → w.heap.size ≤ b ∧ b < w1.heap.size := fun b hb => hown1.lt b hb.symm
      have hR3 : Rd wr q r xs 0 := hR.keep hK3 (fun hq' => by have := hold r hq'; omega) (fun _ hq' => by have := hold q hq'; omega)
      have hK3' : Kp NoB w wr := (hK1.and hK2).trans hK3 (fun b hb hq' => by have := hold b hq'; omega)
      have HO := Lib.hid hold
      clear hold hz hown hK3 hR hown1
      have hW := Arr.take ha k
      rw [← bs_take] at hW
      go_wp2_with (first
        | (go_at_call 15; refine (take_yes _ q r _ 0 k hR3 hk).mono ?_; rintro e w4 ⟨A4, c4, rfl, hown4, hR4, hK4⟩)
        | (go_at_call 13; refine (equal_len A4 A k k c4 c (xs.take k) (xs.take k) _ Hlen.out Hlen.out (Arr.of_own hown4) (hW.and (hK3'.new hK4 (by have := hK1.size; omega))) (by omega)).mono ?_; rintro e w5 ⟨rfl, hK5⟩))
      have hK5' : Kp NoB w w5 := (hK3'.new hK4 (by have := hK1.size; omega)).and hK5
      have hsz := hK3'.size
      clear hK3' hK4 hR3 hR4 hW HO 
      go_loopw [62] (fun i wx => ∃ (i' : Nat) (zs : List Value), i' ≤ k ∧ i = .int .i64 i' ∧ wx.ownsRow wr.heap.size 5 1 (.slice A4 k c4) k zs ∧ (∀ z ∈ zs, ∃ x, z = .int .u8 x) ∧ Kp NoB w wx) (fun i _ => k - (intOf i).toNat)
      case atStart => exact ⟨0, _, Nat.zero_le _, rfl, hK5.own hown4 (fun _ _ q => q), fun z hz => (by simp only [bs, List.mem_map] at hz; obtain ⟨x, _, rfl⟩ := hz; exact ⟨x, rfl⟩), hK5'⟩
      case round =>
        obtain ⟨i', zs, hi, rfl, hown, hz, hKx⟩ := hrel
        by_cases hlt2 : i' < k
        · obtain ⟨g, rfl, hg, hgs, hcell, hfz⟩ := own_at hown (by omega)
          obtain ⟨z, hzj⟩ : ∃ z, zs[i']? = some z := ⟨_, List.getElem?_eq_getElem (by rw [hown.1]; omega)⟩
          obtain ⟨x, rfl⟩ := hz z (List.mem_of_getElem? hzj)
          have h1 := hcell i' _ hzj
          have h2 := hfz i'
          have hstep := fun u => own_set hown i' u
          have HS := Lib.hid hstep
          clear hcell hfz hstep hzj
          go_wp2
          go_roundw
          case rel => exact ⟨i' + 1, _, by omega, by go_num, HS.out _, fun z' hz' => (by rcases List.mem_or_eq_of_mem_set hz' with h | h; exact hz _ h; exact ⟨_, h⟩), hKx.setCell (p := ⟨g, i', none⟩) (fun hq' => (by simp only at hq'; omega)) _⟩
          case measure => simp [intOf]; omega
        · clear hown hz
          go_wp2_with (first
            | (go_at_call 15; refine (take_nil _ 0).mono ?_; rintro e w6 ⟨rfl, hK6⟩)
            | (go_at_call 11; refine (number_nil _ 1).mono ?_; rintro e w7 ⟨rfl, hK7⟩)
            | (go_at_call 12; refine (alive_any _).mono ?_; rintro e w8 ⟨rfl, hK8⟩)
            | (go_at_call 16; refine (at_nil _).mono ?_; rintro e w9 ⟨rfl, hK9⟩)
            | (go_at_call 17; refine (left_nil _).mono ?_; rintro e wa ⟨rfl, hKa⟩))
          go_ret
          exact ⟨rfl, ((((hKx.and hK6).and hK7).and hK8).and hK9).and hKa⟩
set_option maxHeartbeats 2000000 in
theorem keeps_no (A : Option Addr) (c : Nat) (xs : List Int) (k : Int) (w : World) (ha : Arr w A (bs xs)) (hb : IsB xs) (hl : xs.length ≤ 500) (hc : xs.length ≤ c) (hm : c ≤ 9223372036854775807) (hk : k < 0 ∨ (xs.length : Int) < k) :
    Calls Try.prog 4 #[.slice A xs.length c, .int .i64 k] w (Stay (.bool true) w) := by
  have htn := fun (w : World) r q (h : Rd w q r xs 0) => take_no w q r xs 0 k h hk
  have HT := Lib.hid htn
  have hd : (decide (0 ≤ k) && decide (k ≤ (xs.length : Int))) = false := by simp; omega
  clear htn
  go_enter Try.func4, Try.ntmps4
  go_wp2_with (first
    | (go_at_call 14; refine (clone_any A c xs _ (by omega) ha).mono ?_; rintro e w1 ⟨A1, c1, rfl, hown1, hK1⟩)
    | (go_at_call 10; refine (new_any A1 c1 xs _ (by omega) (Arr.of_own hown1) hb).mono ?_; rintro e w2 ⟨q, r, rfl, hr, hq, _, hR, hK2⟩))
  go_loopw [29] (fun i wr => ∃ (j : Nat) (zs : List Value), j ≤ xs.length ∧ i = .int .i64 j ∧ wr.ownsRow w.heap.size 5 1 (.slice A1 xs.length c1) xs.length zs ∧ (∀ z ∈ zs, ∃ x, z = .int .u8 x) ∧ Kp (fun b => some b = (Value.slice A1 xs.length c1).ownBlock) w2 wr) (fun i _ => xs.length - (intOf i).toNat)
  case atStart => exact ⟨0, _, Nat.zero_le _, rfl, hK2.own hown1 (fun _ _ q => q), fun z hz => (by simp only [bs, List.mem_map] at hz; obtain ⟨x, _, rfl⟩ := hz; exact ⟨x, rfl⟩), Kp.refl _ _⟩
  case round =>
    obtain ⟨j, zs, hj, rfl, hown, hz, hK3⟩ := hrel
    by_cases hlt : j < xs.length
    · obtain ⟨g, rfl, hg, hgs, hcell, hfz⟩ := own_at hown (by omega)
      obtain ⟨z, hzj⟩ : ∃ z, zs[j]? = some z := ⟨_, List.getElem?_eq_getElem (by rw [hown.1]; omega)⟩
      obtain ⟨x, rfl⟩ := hz z (List.mem_of_getElem? hzj)
      have h1 := hcell j _ hzj
      have h2 := hfz j
      have hstep := fun u => own_set hown j u
      have HS := Lib.hid hstep
      clear hcell hfz hstep hzj
      go_wp2
      go_roundw
      case rel => exact ⟨j + 1, _, by omega, by go_num, HS.out _, fun z' hz' => (by rcases List.mem_or_eq_of_mem_set hz' with h | h; exact hz _ h; exact ⟨_, h⟩), hK3.setCell (p := ⟨g, j, none⟩) (fun _ => rfl) _⟩
      case measure => simp [intOf]; omega
    · have hold : ∀ b, some b = (Value.slice A1 xs.length c1).ownBlock → w.heap.size ≤ b ∧ b < w1.heap.size := fun b hb => hown1.lt b hb.symm
      have hR3 : Rd wr q r xs 0 := hR.keep hK3 (fun hq' => by have := hold r hq'; omega) (fun _ hq' => by have := hold q hq'; omega)
      have hK3' : Kp NoB w wr := (hK1.and hK2).trans hK3 (fun b hb hq' => by have := hold b hq'; omega)
      have HO := Lib.hid hold
      clear hold hz hown hK3 hR hown1
      have hE := equal_len none none 0 0 0 0 [] []
      rcases hk with hk | hk
      all_goals
      go_wp2_with (first
        | (go_at_call 15; refine (HT.out _ r q hR3).mono ?_; rintro e w4 ⟨rfl, hK4⟩)
        | (go_at_call 13; refine (equal_len none none 0 0 0 0 [] [] _ rfl rfl (Arr.nil _ _) (Arr.nil _ _) (by omega)).mono ?_; rintro e w5 ⟨rfl, hK5⟩))
      all_goals
        have hK5' : Kp NoB w w5 := (hK3'.and hK4).and hK5
        clear hK3' hK4 hR3 HO hK5
        refine wp_loop_rounds 1 ?_
        rw [rounds_succ]
        go_wp2_with (first
            | (go_at_call 15; refine (take_nil _ 0).mono ?_; rintro e w6 ⟨rfl, hK6⟩)
            | (go_at_call 11; refine (number_nil _ 1).mono ?_; rintro e w7 ⟨rfl, hK7⟩)
            | (go_at_call 12; refine (alive_any _).mono ?_; rintro e w8 ⟨rfl, hK8⟩)
            | (go_at_call 16; refine (at_nil _).mono ?_; rintro e w9 ⟨rfl, hK9⟩)
            | (go_at_call 17; refine (left_nil _).mono ?_; rintro e wa ⟨rfl, hKa⟩))
        go_ret
        have hKz := ((((hK5'.and hK6).and hK7).and hK8).and hK9).and hKa
        first | exact ⟨rfl, hKz⟩ | exact ⟨by simp; omega, hKz⟩

theorem keeps_law (A : Option Addr) (n c : Nat) (xs : List Int) (k : Int) (w : World) (h : InBytes w A n c xs) (bk : -9223372036854775808 ≤ k ∧ k ≤ 9223372036854775807) :
    Calls Try.prog 4 #[.slice A n c, .int .i64 k] w fun e w' => e = .returned (.bool true) ∧ Kp NoB w w' := by
  obtain ⟨rfl, hc, hm, ha, hb⟩ := h
  by_cases hl : 500 < xs.length
  · exact keeps_long A _ c k w hl
  · by_cases hk : k < 0 ∨ (xs.length : Int) < k
    · exact keeps_no A c xs k w ha hb (by omega) hc hm hk
    · obtain ⟨m, rfl⟩ := Int.eq_ofNat_of_zero_le (show 0 ≤ k by omega)
      exact keeps_yes A c xs m w ha hb (by omega) hc hm (by omega)

end Go.Proofs.Ytlgicacpfajmgaa
