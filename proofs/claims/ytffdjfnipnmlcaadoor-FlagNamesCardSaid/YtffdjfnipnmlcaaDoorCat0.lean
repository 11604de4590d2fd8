/- slices.Grow, slices.Concat and octet.Cat of bytes: their contracts. -/
import Derived.Test.YtffdjfnipnmlcaaDoorClone
import Derived.Lib.AppendZeros
namespace Go.Proofs.YtffdjfnipnmlcaaDoor
open Go.RowKit
set_option linter.unusedVariables false
set_option linter.unusedSimpArgs false

/-- A byte string, as one cell. -/
def ByE (w : World) (xs : List Int) (cs : List Value) : Prop := ∃ A c, cs = [.slice A xs.length c] ∧ xs.length ≤ c ∧ c ≤ maxLen ∧ Arr w A (bs xs) ∧ IsB xs
theorem ByE.and {w w' : World} (k : Kp NoB w w') : ∀ xs cs, ByE w xs cs → ByE w' xs cs := fun xs cs ⟨A, c, h1, h2, h3, h4, h5⟩ => ⟨A, c, h1, h2, h3, h4.and k, h5⟩

/-- Byte strings, joined. -/
def catL (xss : List (List Int)) : List Int := xss.flatten
theorem catL_nil : catL [] = [] := rfl
theorem flat_snoc (xss : List (List Int)) (j : Nat) (h : j < xss.length) : catL (xss.take (j + 1)) = catL (xss.take j) ++ xss[j] := by
  unfold catL
  rw [List.take_succ_eq_append_getElem h, List.flatten_append]
  simp
theorem flat_le (xss : List (List Int)) (j : Nat) : (catL (xss.take j)).length ≤ (catL xss).length := by
  unfold catL
  conv => rhs; rw [← List.take_append_drop j xss, List.flatten_append, List.length_append]
  omega
theorem flat_isB (xss : List (List Int)) (h : ∀ xs ∈ xss, IsB xs) : IsB (catL xss) := fun x hx => by
  obtain ⟨xs, h1, h2⟩ := List.mem_flatten.1 hx
  exact h xs h1 x h2

/-- An element of a slice of byte strings, as the walk asks for it. -/
theorem byE_at {w : World} {A : Option Addr} {xss : List (List Int)} (h : Sl ByE 1 w A xss) (j : Nat) (hj : j < xss.length) :
    ∃ ad B c, A = some ad ∧ w.cell? (ad.add j) = some (.slice B xss[j].length c) ∧ xss[j].length ≤ c ∧ Arr w B (bs xss[j]) ∧ IsB xss[j] := by
  obtain ⟨ad, cs, e, _, ⟨B, c, rfl, h2, _, h4, h5⟩, hc⟩ := h.at (List.getElem?_eq_getElem hj)
  have := hc 0 _ rfl
  rw [Nat.mul_one, Nat.add_zero] at this
  exact ⟨ad, B, c, e, this, h2, h4, h5⟩

/-! ### slices.Grow at nil -/

/-- An empty row with room. -/
theorem own_room (w : World) (base n cap : Nat) (hb : base ≤ w.heap.size) (hn : n ≤ cap) (hc : cap ≤ maxLen) :
    (w.alloc (.cells (Builtin.zeroCells #[.int .u8 0] n ++ Builtin.zeroCells #[.int .u8 0] (cap - n)) 5)).ownsRow base 5 1 (.slice (some ⟨w.heap.size, 0, none⟩) 0 cap) 0 [] :=
  ⟨by simp, .inr ⟨_, cap, _, rfl, hb, heap_alloc_new w _, Nat.zero_le _, hc, by simp only [Array.size_append, size_zeroCells]; simp; omega, by simp⟩⟩

/-- What 'Grow' leaves of nil: an empty row of the call's own. -/
def Grown0 (w : World) (e : Ending) (w' : World) : Prop := ∃ A c, e = .returned (.slice A 0 c) ∧ w'.ownsRow w.heap.size 5 1 (.slice A 0 c) 0 [] ∧ Kp NoB w w'

set_option maxRecDepth 100000 in
set_option maxHeartbeats 1000000 in
theorem grow_nil (n : Nat) (w : World) (hn : n ≤ 140737488355328) : Calls Tryd.prog 36 #[.slice none 0 0, .int .i64 n] w (Grown0 w) := by
  obtain ⟨i0, hi, hz0, hz1, hz2⟩ := info_parts infoU8
  by_cases h0 : n = 0
  · subst h0
    go_enter Tryd.func36, Tryd.ntmps36
    go_wp2
    go_ret
    exact ⟨none, 0, rfl, World.ownsRow_nil _ _ _ _, Kp.refl _ _⟩
  · have hge := grownCap_ge w n 0 5
    have hle := grownCap_le_maxLen w n 0 5 (by unfold maxLen; omega)
    have hrun := Lib.run_append_nil_zeros (P := Tryd.prog) w 35 3 35 5 i0 (.int .u8 0) .i64 .i64 Tryd.underlying35 Tryd.underlying3 hi hz0 n (by omega) (by omega) (by omega) (by rw [hz2]; omega)
    obtain ⟨cap, hcap⟩ : ∃ cap, grownCap w n 0 5 = cap := ⟨_, rfl⟩
    rw [hcap] at hge hle hrun
    have HR := Lib.hid hrun
    have hfin := own_room w.drew w.heap.size n cap (Nat.le_refl _) hge hle
    have HF := Lib.hid hfin
    have hle' : cap ≤ 9223372036854775807 := hle
    clear hrun hcap hfin hle
    go_enter Tryd.func36, Tryd.ntmps36
    go_wp2_with (at_builtin; refine Lib.wpList_append_run _ rfl (.tmp 20) (.tmp 21) _ _ rfl _ _ rfl rfl _ _ HR.out ?_)
    go_ret
    exact ⟨_, cap, rfl, HF.out, ((Kp.refl _ _).drew.alloc _)⟩

/-! ### slices.Concat, octet.Cat -/

/-- What joining leaves: the bytes in a row of their own. -/
def Joined (w : World) (xs : List Int) (e : Ending) (w' : World) : Prop := ∃ A c, e = .returned (.slice A xs.length c) ∧ w'.ownsRow w.heap.size 5 1 (.slice A xs.length c) xs.length (bs xs) ∧ Kp NoB w w'

theorem joined_of {w w' : World} {xs : List Int} {A : Option Addr} {c n : Nat} {ys : List Value} (hn : xs.length = n) (hy : bs xs = ys) (h : w'.ownsRow w.heap.size 5 1 (.slice A n c) n ys) (k : Kp NoB w w') (e : Ending) (he : e = .returned (.slice A n c)) : Joined w xs e w' := by
  subst hn hy
  exact ⟨A, c, he, h, k⟩

set_option maxRecDepth 100000 in
set_option maxHeartbeats 2000000 in
theorem concat_any (A : Option Addr) (c : Nat) (xss : List (List Int)) (w : World) (h : Sl ByE 1 w A xss) (hl : xss.length ≤ 140737488355328) (hn : (catL xss).length ≤ 140737488355328) :
    Calls Tryd.prog 31 #[.slice A xss.length c] w (Joined w (catL xss)) := by
  obtain ⟨i0, hi, hz0, hz1, hz2⟩ := info_parts infoU8
  go_enter Tryd.func31, Tryd.ntmps31
  go_wp2
  go_loop [3, 11] (fun s i => ∃ j : Nat, j ≤ xss.length ∧ i = .int .i64 j ∧ s = .int .i64 ((catL (xss.take j)).length : Nat)) (fun _ i => xss.length - (intOf i).toNat)
  case atStart => exact ⟨0, Nat.zero_le _, rfl, rfl⟩
  case round =>
    obtain ⟨j, hj, rfl, rfl⟩ := hrel
    by_cases hlt : j < xss.length
    · obtain ⟨ad, B, c', rfl, hcell, hle, hB, hb⟩ := byE_at h j hlt
      have hs := flat_snoc xss j hlt
      have hf := flat_le xss (j + 1)
      have hs2 := congrArg List.length hs
      rw [List.length_append] at hs2
      have hf2 : (catL (xss.take j)).length + xss[j].length ≤ 140737488355328 := by omega
      have HS := Lib.hid hs2
      clear hs hf hs2
      obtain ⟨m, hm⟩ : ∃ m, xss[j].length = m := ⟨_, rfl⟩
      obtain ⟨s, hs⟩ : ∃ s, (catL (xss.take j)).length = s := ⟨_, rfl⟩
      rw [hm] at hcell hf2
      rw [hs] at hf2
      simp only [hs]
      have HM := Lib.hid hm
      have HT := Lib.hid hs
      clear hm hs
      go_wp2
      go_round
      case rel => exact ⟨j + 1, by omega, by go_num, by rw [HS.out, HM.out, HT.out]; go_num⟩
      case measure => simp [intOf]; omega
    · have hj : j = xss.length := by omega
      have hjt : xss.take j = xss := by rw [hj, List.take_length]
      clear hj
      rw [hjt]
      clear hjt
      obtain ⟨L, hL⟩ : ∃ L, catL xss = L := ⟨_, rfl⟩
      rw [hL] at hn ⊢
      go_wp2_with (go_at_call 36; refine (grow_nil L.length _ hn).mono ?_; rintro e w1 ⟨A1, c1, rfl, hown1, hK1⟩)
      go_loopw [6, 27] (fun v i wr => ∃ (k : Nat) (A' : Option Addr) (c' : Nat), k ≤ xss.length ∧ i = .int .i64 k ∧ v = .slice A' (catL (xss.take k)).length c' ∧ wr.ownsRow w.heap.size 5 1 (.slice A' (catL (xss.take k)).length c') (catL (xss.take k)).length (bs (catL (xss.take k))) ∧ Kp NoB w wr) (fun _ i _ => xss.length - (intOf i).toNat)
      case atStart => exact ⟨0, A1, c1, Nat.zero_le _, rfl, rfl, hown1, hK1⟩
      case round =>
        obtain ⟨k, A', c', hk, rfl, rfl, hown, hKr⟩ := hrel
        by_cases hlt : k < xss.length
        · obtain ⟨ad, B, cB, rfl, hcell, hle, hB, hb⟩ := byE_at (h.and hKr (ByE.and hKr)) k hlt
          have hs := flat_snoc xss k hlt
          have hf := flat_le xss (k + 1)
          rw [hL] at hf
          obtain ⟨T, hT⟩ : ∃ T, catL (xss.take k) = T := ⟨_, rfl⟩
          obtain ⟨y, hy⟩ : ∃ y, xss[k] = y := ⟨_, rfl⟩
          rw [hT] at hown hs ⊢
          rw [hy] at hcell hle hB hs
          have hlen : T.length + y.length ≤ 140737488355328 := by rw [hs, List.length_append] at hf; omega
          have HS := Lib.hid hs
          clear hs hf hT hy hb
          go_wp2_with (at_builtin; refine wpList_app hKr rfl (.tmp 31) (.tmp 32) 35 rfl 5 i0 (.int .u8 0) 1 1 Tryd.underlying35 hi hz0 hz1 hz2 rfl (by decide) _ _ _ rfl hown B y.length cB (bs y) rfl (by simp [bs]) hB (bs_one y) (by omega) (by decide) (T.length + y.length) rfl ?_; intro A2 c2 w2 hown2 hK2 _ _; clear hown hKr)
          go_roundw
          case rel =>
            refine ⟨k + 1, A2, c2, by omega, by go_num, ?_, ?_, hK2⟩
            · rw [HS.out, List.length_append]
            · rw [HS.out, List.length_append, bs_append]; exact hown2
          case measure => simp [intOf]; omega
        · have hkt : xss.take k = xss := by rw [show k = xss.length by omega, List.take_length]
          rw [hkt, hL] at hown
          rw [hkt, hL]
          clear hkt
          go_wp2
          go_ret
          exact joined_of (by rw [hL]) (by rw [hL]) hown hKr _ rfl

theorem cat_any (A : Option Addr) (c : Nat) (xss : List (List Int)) (w : World) (h : Sl ByE 1 w A xss) (hl : xss.length ≤ 140737488355328) (hn : (catL xss).length ≤ 140737488355328) :
    Calls Tryd.prog 24 #[.slice A xss.length c] w (Joined w (catL xss)) := by
  have H := Lib.hid (concat_any A c xss w h hl hn)
  obtain ⟨L, hL⟩ : ∃ L, catL xss = L := ⟨_, rfl⟩
  rw [hL] at H ⊢
  go_enter Tryd.func24, Tryd.ntmps24
  go_wp2_with (go_at_call 31; refine H.out.mono ?_; rintro e w1 ⟨A1, c1, rfl, hown1, hK1⟩)
  go_ret
  exact ⟨A1, c1, rfl, hown1, hK1⟩

end Go.Proofs.YtffdjfnipnmlcaaDoor
