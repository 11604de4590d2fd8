/- Package prefix: width, ranged, masked, need: contracts by walking the Go text. -/
import Derived.Test.YtkkfigdfgagimaaPreA
import Derived.Deep.QuietTactic
import Derived.BigQuiet
import Derived.WalkSpells
import Derived.Lib.Hide
import Derived.RegionTactic
namespace Go.Proofs.Ytkkfigdfgagimaa
open Go.RowKit
set_option linter.unusedVariables false
set_option linter.unusedSimpArgs false

def widI (fam : Int) : Int := if fam = 1 then 4 else if fam = 2 then 16 else 0
def rangedB (fam len : Int) : Bool := decide (0 < widI fam ∧ 0 ≤ len ∧ len ≤ 8 * widI fam)

theorem width_any (fam : Int) (w : World) : Calls Try.prog 65 #[.int .i64 fam] w (fun e w' => e = .returned (.int .i64 (widI fam)) ∧ w' = w) := by
  unfold widI
  by_cases h1 : fam = 1
  · rw [if_pos h1]
    go_enter Try.func65, Try.ntmps65
    go_wp2_with fail
    go_ret
    exact ⟨rfl, rfl⟩
  · rw [if_neg h1]
    by_cases h2 : fam = 2
    · rw [if_pos h2]
      go_enter Try.func65, Try.ntmps65
      go_wp2_with fail
      go_ret
      exact ⟨rfl, rfl⟩
    · rw [if_neg h2]
      go_enter Try.func65, Try.ntmps65
      go_wp2_with fail
      go_ret
      exact ⟨rfl, rfl⟩

theorem wid_bd (fam : Int) : 0 ≤ widI fam ∧ widI fam ≤ 16 := by
  unfold widI
  split
  · omega
  · split <;> omega

theorem ranged_any (fam len : Int) (w : World) : Calls Try.prog 54 #[.int .i64 fam, .int .i64 len] w (fun e w' => e = .returned (.bool (rangedB fam len)) ∧ w' = w) := by
  have HW := Lib.hid (fun w => width_any fam w)
  have hb := wid_bd fam
  unfold rangedB
  obtain ⟨x, hx⟩ : ∃ x, widI fam = x := ⟨_, rfl⟩
  rw [hx] at HW hb ⊢
  clear hx
  by_cases h1 : 0 < x
  · by_cases h2 : 0 ≤ len
    · by_cases h3 : len ≤ 8 * x
      · rw [decide_eq_true ⟨h1, h2, h3⟩]
        go_enter Try.func54, Try.ntmps54
        go_wp2_with (go_at_call 65; refine (HW.out _).mono ?_; rintro e w1 ⟨rfl, rfl⟩)
        go_ret
        exact ⟨by simp [*], rfl⟩
      · rw [decide_eq_false (fun h => h3 h.2.2)]
        go_enter Try.func54, Try.ntmps54
        go_wp2_with (go_at_call 65; refine (HW.out _).mono ?_; rintro e w1 ⟨rfl, rfl⟩)
        go_ret
        exact ⟨by simp [*], rfl⟩
    · rw [decide_eq_false (fun h => h2 h.2.1)]
      go_enter Try.func54, Try.ntmps54
      go_wp2_with (go_at_call 65; refine (HW.out _).mono ?_; rintro e w1 ⟨rfl, rfl⟩)
      go_ret
      exact ⟨by simp [*], rfl⟩
  · rw [decide_eq_false (fun h => h1 h.1)]
    go_enter Try.func54, Try.ntmps54
    go_wp2_with (go_at_call 65; refine (HW.out _).mono ?_; rintro e w1 ⟨rfl, rfl⟩)
    go_ret
    exact ⟨by simp [*], rfl⟩

/-- The first k bits of a byte. -/
def maskB (k a : Int) : Int := if k ≤ 0 then 0 else if k < 8 then a / 2 ^ (8 - k).toNat * 2 ^ (8 - k).toNat else a
/-- The first bytes are masked. -/
def mkTo (i : Nat) (len : Int) (a : List Int) : List Int := (List.range 16).map (fun j => if j < i then maskB (len - 8 * (j : Int)) (a.getD j 0) else a.getD j 0)
def maskL (len : Int) (a : List Int) : List Int := mkTo 16 len a
theorem mkTo_length (i : Nat) (len : Int) (a : List Int) : (mkTo i len a).length = 16 := by simp [mkTo]
theorem mkTo_zero (len : Int) (a : List Int) (h : a.length = 16) : mkTo 0 len a = a := by
  refine List.ext_getElem (by rw [mkTo_length, h]) (fun j h1 h2 => ?_)
  simp [mkTo, List.getD, List.getElem?_eq_getElem h2]
theorem mkTo_at (i : Nat) (len : Int) (a : List Int) (hi : i < 16) : (bs (mkTo i len a)).toArray[i]? = some (.int .u8 (a.getD i 0)) := by
  simp [bs, mkTo, hi]
theorem mkTo_set (i : Nat) (len : Int) (a : List Int) (hi : i < 16) : (bs (mkTo i len a)).toArray.setIfInBounds i (.int .u8 (maskB (len - 8 * (i : Int)) (a.getD i 0))) = (bs (mkTo (i + 1) len a)).toArray := by
  apply Array.ext_getElem?
  intro j
  rw [Array.getElem?_setIfInBounds]
  by_cases hj : i = j
  · subst hj
    simp [bs, mkTo, hi]
  · rw [if_neg hj]
    by_cases h16 : j < 16
    · simp only [bs, mkTo, List.getElem?_toArray, List.getElem?_map, List.getElem?_range, h16, Option.map_some]
      by_cases h : j < i
      · rw [if_pos h, if_pos (show j < i + 1 by omega)]
      · rw [if_neg h, if_neg (show ¬ j < i + 1 by omega)]
    · simp [bs, mkTo, h16]

theorem mask_and : ∀ n < 256, ∀ k < 8, 0 < k → bits .and .u8 (n : Nat) (255 * 2 ^ (8 - ((k : Nat) : Int)).toNat % 256) = (n : Int) / 2 ^ (8 - (k : Int)).toNat * 2 ^ (8 - (k : Int)).toNat := by decide +kernel
theorem mask_bits (x k : Int) (hx : 0 ≤ x ∧ x < 256) (h0 : ¬ k ≤ 0) (h8 : k < 8) : bits .and .u8 x (255 * 2 ^ (8 - k).toNat % 256) = maskB k x := by
  have h := mask_and x.toNat (by omega) k.toNat (by omega) (by omega)
  rw [show ((x.toNat : Nat) : Int) = x by omega, show ((k.toNat : Nat) : Int) = k by omega] at h
  unfold maskB
  rw [if_neg h0, if_pos h8]
  exact h
theorem mask_zero (x k : Int) (h0 : k ≤ 0) : maskB k x = 0 := if_pos h0
theorem mask_all (x k : Int) (h0 : ¬ k ≤ 0) (h8 : ¬ k < 8) : maskB k x = x := by unfold maskB; rw [if_neg h0, if_neg h8]
theorem Bk.row {w : World} {b : Nat} {t : TypeId} {cs : Array Value} (h : Bk w b t cs) (ds : Array Value) : Bk (w.setRow b ds) b t ds := setRow_heap w b cs ds t (0, 0) h
theorem Bk.row_far {w : World} {b g : Nat} {t : TypeId} {cs : Array Value} (h : Bk w b t cs) (hb : b ≠ g) (ds : Array Value) : Bk (w.setRow g ds) b t cs := (setRow_other w g b ds hb).trans h
theorem Kp.row {S : Nat → Prop} {w w1 : World} (h : Kp S w w1) {g : Nat} (hp : g < w.heap.size → S g) (cs : Array Value) : Kp S w (w1.setRow g cs) :=
  ⟨h.os, h.tape, h.output, by rw [size_setRow]; exact h.size, fun b hb hn => (setRow_other w1 g b cs (fun e => hn (by rw [e]; exact hp (by omega)))).trans (h.block b hb hn)⟩

set_option maxRecDepth 100000 in
set_option maxHeartbeats 4000000 in
theorem masked_any (len : Int) (a : List Int) (w : World) (h0 : 0 ≤ len) (h1 : len ≤ 128) (ha : a.length = 16) (hB : IsB a) :
    Calls Try.prog 63 #[adV a, .int .i64 len] w (Stay (adV (maskL len a)) w) := by
  have HB := Lib.hid hB
  have H0 := Lib.hid (mkTo_zero len a ha)
  unfold adV
  go_enter Try.func63, Try.ntmps63
  go_wp2_with fail
  go_loopw [7] (fun i wr => ∃ j : Nat, j ≤ 16 ∧ i = .int .i64 j ∧ Bk wr w.heap.size 27 (bs (mkTo j len a)).toArray ∧ Bk wr (w.heap.size + 1) 27 (bs (List.replicate 16 0)).toArray ∧ Kp NoB w wr) (fun i _ => 16 - (intOf i).toNat)
  case atStart => exact ⟨0, by decide, rfl, by rw [H0.out]; exact (Bk.fresh w 27 _).alloc _, Bk.second w _ 27 _, ((Kp.refl _ _).alloc _).alloc _⟩
  case round =>
    obtain ⟨j, hj, rfl, hb, hz, hK⟩ := hrel
    by_cases hlt : j < 16
    · have hlt' : (j : Int) < 16 := by omega
      have HX := Lib.hid hb
      have HZ := Lib.hid hz
      have HK := Lib.hid hK
      have hc := hb.cell j
      rw [mkTo_at j len a hlt] at hc
      have hf := hb.frozen j
      have HS := Lib.hid (mkTo_set j len a hlt)
      have hby := HB.out.getD j
      obtain ⟨x, hx⟩ : ∃ x, a.getD j 0 = x := ⟨_, rfl⟩
      rw [hx] at hc HS hby
      clear hb hz hK hx
      have fin : ∀ (v : Int), v = maskB (len - 8 * (j : Int)) x → ∀ w' : World, w' = wr.setCell ⟨w.heap.size, j, none⟩ (.int .u8 v) → Bk w' w.heap.size 27 (bs (mkTo (j + 1) len a)).toArray ∧ Bk w' (w.heap.size + 1) 27 (bs (List.replicate 16 0)).toArray ∧ Kp NoB w w' := by
        rintro v rfl w' rfl
        refine ⟨?_, HZ.out.far (by show w.heap.size + 1 ≠ w.heap.size; omega) _, HK.out.setCell (fun h => by have : w.heap.size < w.heap.size := h; omega) _⟩
        have := HX.out.set j (.int .u8 (maskB (len - 8 * (j : Int)) x))
        rwa [HS.out] at this
      have FIN := Lib.hid fin
      clear fin
      by_cases hk0 : len - 8 * (j : Int) ≤ 0
      · go_wp2_with fail
        refine ⟨⟨j + 1, by omega, by go_num, FIN.out 0 (mask_zero x _ hk0).symm _ rfl⟩, by simp [intOf]; omega⟩
      · by_cases hk8 : len - 8 * (j : Int) < 8
        · have HM := Lib.hid (mask_bits x _ hby hk0 hk8)
          go_wp2_with fail
          go_region
          go_wp2_with fail
          obtain ⟨q1, q2, q3⟩ := FIN.out _ HM.out _ rfl
          refine ⟨⟨j + 1, by omega, by go_num, q1, q2, q3.drew⟩, by simp [intOf]; omega⟩
        · have HM := Lib.hid (mask_all x _ hk0 hk8)
          have HQ : Hid (Bk wr w.heap.size 27 (bs (mkTo (j + 1) len a)).toArray) := Lib.hid (by
            have h1 := HX.out
            rw [← HS.out, HM.out]
            have : (bs (mkTo j len a)).toArray.setIfInBounds j (.int .u8 x) = (bs (mkTo j len a)).toArray := by
              apply Array.ext_getElem?
              intro i
              rw [Array.getElem?_setIfInBounds]
              split
              · rename_i e
                subst e
                have h2 := h1.cell j
                rw [hc] at h2
                rw [← h2]
                simp [bs_length, mkTo_length, hlt]
              · rfl
            rw [this]
            exact h1)
          go_wp2_with fail
          refine ⟨⟨j + 1, by omega, by go_num, HQ.out, HZ.out, HK.out⟩, by simp [intOf]; omega⟩
    · have hj : j = 16 := by omega
      subst hj
      have hs : (bs (mkTo 16 len a)).toArray.size = 16 := by simp [bs_length, mkTo_length]
      have ho := Lib.hid (all_oneCell_toArray (bs_one (mkTo 16 len a)))
      have HZ := Lib.hid (hz.row (bs (mkTo 16 len a)).toArray)
      have HK := Lib.hid (hK.row (g := w.heap.size + 1) (by omega) (bs (mkTo 16 len a)).toArray)
      have hi : (Try.prog.info? 27).map (·.size) = some (bs (mkTo 16 len a)).toArray.size := by rw [hs]; exact (size_of infoAd).2
      have HI := Lib.hid hi
      have HB1 := Lib.hid hb
      have HZ1 := Lib.hid hz
      clear hi hs hb hz hK
      go_wp2_with (first
        | (refine wpList_load_row rfl 27 (.tmp 2) rfl w.heap.size rfl 27 _ (0, 0) _ HB1.out Try.underlying27 rfl HI.out ?_)
        | (refine wpList_store_row rfl 27 (.tmp 4) (.tmp 31) rfl (w.heap.size + 1) _ rfl rfl 27 _ HZ1.out HI.out (by simp [bs_length, mkTo_length]) ho.out ?_))
      refine bodyPost_ret (v := adV (maskL len a)) (results_cell_row (fn := Try.f63) rfl _ _ (w.heap.size + 1) 27 _ (0, 0) _ rfl HZ.out Try.underlying27 rfl HI.out) rfl ⟨rfl, HK.out⟩

theorem need_any (n : Int) (w : World) (h0 : 0 ≤ n) (h1 : n ≤ 1000) : Calls Try.prog 56 #[.int .i64 n] w (fun e w' => e = .returned (.int .i64 ((n + 7) / 8)) ∧ w' = w) := by
  go_enter Try.func56, Try.ntmps56
  go_wp2_with fail
  go_ret
  exact ⟨rfl, rfl⟩

end Go.Proofs.Ytkkfigdfgagimaa
