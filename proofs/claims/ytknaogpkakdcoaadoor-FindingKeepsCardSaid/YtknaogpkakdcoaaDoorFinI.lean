/- slices.Grow and slices.Concat of verdicts: their contracts. No condition but the bounds that arguments have. -/
import Derived.Test.YtknaogpkakdcoaaDoorFinH
import Derived.Lib.AppendZeros
namespace Go.Proofs.YtknaogpkakdcoaaDoor
open Go.RowKit
set_option linter.unusedVariables false
set_option linter.unusedSimpArgs false

/-- A list of verdicts, as one cell. -/
def VsE (w : World) (xs : List ArgV) (cs : List Value) : Prop := ∃ A c, cs = [.slice A xs.length c] ∧ xs.length ≤ c ∧ c ≤ maxLen ∧ VsL w A xs
theorem VsE.and {w w' : World} (k : Kp NoB w w') : ∀ xs cs, VsE w xs cs → VsE w' xs cs := fun xs cs ⟨A, c, h1, h2, h3, h4⟩ => ⟨A, c, h1, h2, h3, h4.and k⟩
theorem vsE_at {w : World} {A : Option Addr} {xss : List (List ArgV)} (h : Sl VsE 1 w A xss) (j : Nat) (hj : j < xss.length) :
    ∃ ad B c, A = some ad ∧ w.cell? (ad.add j) = some (.slice B xss[j].length c) ∧ xss[j].length ≤ c ∧ VsL w B xss[j] := by
  obtain ⟨ad, cs, e, _, ⟨B, c, rfl, h2, _, h4⟩, hc⟩ := h.at (List.getElem?_eq_getElem hj)
  have := hc 0 _ rfl
  rw [Nat.mul_one, Nat.add_zero] at this
  exact ⟨ad, B, c, e, this, h2, h4⟩
theorem flatV_snoc {α : Type} (xss : List (List α)) (j : Nat) (h : j < xss.length) : (xss.take (j + 1)).flatten = (xss.take j).flatten ++ xss[j] := by
  rw [List.take_succ_eq_append_getElem h, List.flatten_append]
  simp
theorem flatV_le {α : Type} (xss : List (List α)) (j : Nat) : (xss.take j).flatten.length ≤ xss.flatten.length := by
  conv => rhs; rw [← List.take_append_drop j xss, List.flatten_append, List.length_append]
  omega
/-- The cells of a row of verdicts. -/
def flatZ (xs : List ArgV) : List Value := xs.flatMap ArgV.cs
theorem flatZ_length (xs : List ArgV) : (flatZ xs).length = xs.length * 5 := by
  induction xs with
  | nil => rfl
  | cons x xs ih =>
    simp only [flatZ, List.flatMap_cons, List.length_append, List.length_cons] at ih ⊢
    rw [ih]
    show 5 + _ = _
    omega
theorem flatZ_get : ∀ (xs : List ArgV) (j : Nat) (x : ArgV), xs[j]? = some x → ∀ i u, x.cs[i]? = some u → (flatZ xs)[j * 5 + i]? = some u
  | [], j, x, h, i, u, hu => by simp at h
  | y :: xs, 0, x, h, i, u, hu => by
    simp at h
    subst h
    simp only [flatZ, List.flatMap_cons, Nat.zero_mul, Nat.zero_add]
    rw [List.getElem?_append_left (List.getElem?_eq_some_iff.1 hu).1]
    exact hu
  | y :: xs, j + 1, x, h, i, u, hu => by
    have := flatZ_get xs j x (by simpa using h) i u hu
    simp only [flatZ, List.flatMap_cons] at this ⊢
    rw [List.getElem?_append_right (by show 5 ≤ (j + 1) * 5 + i; omega), show (j + 1) * 5 + i - y.cs.length = j * 5 + i by show (j + 1) * 5 + i - 5 = j * 5 + i; omega]
    exact this
theorem arr_of_vsL {w : World} {A : Option Addr} {xs : List ArgV} (h : VsL w A xs) : Arr w A (flatZ xs) := fun hn => by
  have hne : xs ≠ [] := by rintro rfl; exact hn rfl
  obtain ⟨ad, e, hc⟩ := h hne
  refine ⟨ad, e, fun k u hu => ?_⟩
  have hk : k < xs.length * 5 := by rw [← flatZ_length]; exact (List.getElem?_eq_some_iff.1 hu).1
  have hj : k / 5 < xs.length := by omega
  have hx := List.getElem?_eq_getElem hj
  obtain ⟨cs, q1, q2, q3⟩ := hc (k / 5) _ hx
  have q2' : cs = xs[k / 5].cs := q2
  subst q2'
  have hi : k % 5 < (xs[k / 5].cs).length := by show k % 5 < 5; omega
  have he : k / 5 * 5 + k % 5 = k := by omega
  have hg := flatZ_get xs (k / 5) _ hx (k % 5) _ (List.getElem?_eq_getElem hi)
  have q4 := q3 (k % 5) _ (List.getElem?_eq_getElem hi)
  rw [he] at hg q4
  rw [hg] at hu
  injection hu with hu
  rw [q4, hu]
theorem vsL_of_arr {w : World} {A : Option Addr} {xs : List ArgV} (h : Arr w A (flatZ xs)) : VsL w A xs := fun hn => by
  obtain ⟨ad, e, hc⟩ := h (by
    intro q
    have := congrArg List.length q
    rw [flatZ_length] at this
    cases xs with
    | nil => exact hn rfl
    | cons x xs => simp at this)
  refine ⟨ad, e, fun j x hx => ⟨x.cs, rfl, rfl, fun i u hu => ?_⟩⟩
  exact hc _ u (flatZ_get xs j x hx i u hu)
theorem flatZ_one {xs : List ArgV} : ∀ u ∈ flatZ xs, u.oneCell' = true := fun u hu => by
  simp only [flatZ, List.mem_flatMap] at hu
  obtain ⟨x, _, hx⟩ := hu
  simp [ArgV.cs] at hx
  rcases hx with rfl | rfl | rfl | rfl | rfl <;> rfl

/-- An empty row with room. -/
theorem own_room5 (w : World) (base n cap : Nat) (z : Array Value) (hz : z.size = 5) (hb : base ≤ w.heap.size) (hn : n ≤ cap) (hc : cap ≤ maxLen) :
    (w.alloc (.cells (Builtin.zeroCells z n ++ Builtin.zeroCells z (cap - n)) 24)).ownsRow base 24 5 (.slice (some ⟨w.heap.size, 0, none⟩) 0 cap) 0 [] :=
  ⟨by simp, .inr ⟨_, cap, _, rfl, hb, heap_alloc_new w _, Nat.zero_le _, hc, by simp only [Array.size_append, size_zeroCells, hz]; omega, by simp⟩⟩
theorem infoV5 : (Tryd.prog.info? 24).map (fun i => (i.zero, i.size, i.bytes)) = some (some (.agg zeroZ.cs.toArray), 5, 56) := by kernel_rfl

/-- What 'Grow' leaves of nil: an empty row of the call's own. -/
def GrownV0 (w : World) (e : Ending) (w' : World) : Prop := ∃ A c, e = .returned (.slice A 0 c) ∧ w'.ownsRow w.heap.size 24 5 (.slice A 0 c) 0 [] ∧ Kp NoB w w'

set_option maxRecDepth 100000 in
set_option maxHeartbeats 1000000 in
theorem growV_nil (n : Nat) (w : World) (hn : n ≤ 1000000) : Calls Tryd.prog 39 #[.slice none 0 0, .int .i64 n] w (GrownV0 w) := by
  obtain ⟨i0, hi, hz0, hz1, hz2⟩ := info_parts infoV5
  by_cases h0 : n = 0
  · subst h0
    go_enter Tryd.func39, Tryd.ntmps39
    go_wp2
    go_ret
    exact ⟨none, 0, rfl, World.ownsRow_nil _ _ _ _, Kp.refl _ _⟩
  · have hge := grownCap_ge w n 0 24
    have hle := grownCap_le_maxLen w n 0 24 (by unfold maxLen; omega)
    have hrun := Lib.run_append_nil_zeros (P := Tryd.prog) w 29 3 29 24 i0 (.agg zeroZ.cs.toArray) .i64 .i64 Tryd.underlying29 Tryd.underlying3 hi hz0 n (by omega) (by omega) (by omega) (by rw [hz2]; omega)
    obtain ⟨cap, hcap⟩ : ∃ cap, grownCap w n 0 24 = cap := ⟨_, rfl⟩
    rw [hcap] at hge hle hrun
    have hfin := own_room5 w.drew w.heap.size n cap (Value.agg zeroZ.cs.toArray).cells (by decide) (Nat.le_refl _) hge hle
    obtain ⟨zs, hzs⟩ : ∃ zs, Builtin.zeroCells (Value.agg zeroZ.cs.toArray).cells n ++ Builtin.zeroCells (Value.agg zeroZ.cs.toArray).cells (cap - n) = zs := ⟨_, rfl⟩
    rw [hzs] at hrun hfin
    have HR := Lib.hid hrun
    have HF := Lib.hid hfin
    have hle' : cap ≤ 9223372036854775807 := hle
    clear hrun hcap hfin hle hzs
    go_enter Tryd.func39, Tryd.ntmps39
    go_wp2_with (at_builtin; refine Lib.wpList_append_run _ rfl (.tmp 20) (.tmp 21) _ _ rfl _ _ rfl rfl _ _ HR.out ?_)
    go_ret
    exact ⟨_, cap, rfl, HF.out, ((Kp.refl _ _).drew.alloc _)⟩

/-- What joining leaves: the verdicts in a row of their own. -/
def JoinedV (w : World) (xs : List ArgV) (e : Ending) (w' : World) : Prop := ∃ A c, e = .returned (.slice A xs.length c) ∧ VsL w' A xs ∧ Kp NoB w w'
theorem joinedV_of {w w' : World} {xs : List ArgV} {A : Option Addr} {c n b : Nat} {ys : List Value} (hn : xs.length = n) (hy : flatZ xs = ys) (h : w'.ownsRow b 24 5 (.slice A n c) n ys) (k : Kp NoB w w') (e : Ending) (he : e = .returned (.slice A n c)) : JoinedV w xs e w' := by
  subst hn hy
  exact ⟨A, c, he, vsL_of_arr (Arr.of_own h), k⟩

set_option maxRecDepth 100000 in
set_option maxHeartbeats 2000000 in
theorem concatV_any (A : Option Addr) (c : Nat) (xss : List (List ArgV)) (w : World) (h : Sl VsE 1 w A xss) (hl : xss.length ≤ 1000000) (hn : xss.flatten.length ≤ 1000000) :
    Calls Tryd.prog 19 #[.slice A xss.length c] w (JoinedV w xss.flatten) := by
  obtain ⟨i0, hi, hz0, hz1, hz2⟩ := info_parts infoV5
  go_enter Tryd.func19, Tryd.ntmps19
  go_wp2
  go_loop [3, 11] (fun s i => ∃ j : Nat, j ≤ xss.length ∧ i = .int .i64 j ∧ s = .int .i64 ((xss.take j).flatten.length : Nat)) (fun _ i => xss.length - (intOf i).toNat)
  case atStart => exact ⟨0, Nat.zero_le _, rfl, rfl⟩
  case round =>
    obtain ⟨j, hj, rfl, rfl⟩ := hrel
    by_cases hlt : j < xss.length
    · obtain ⟨ad, B, c', rfl, hcell, hle, hB⟩ := vsE_at h j hlt
      have hs := flatV_snoc xss j hlt
      have hf := flatV_le xss (j + 1)
      have hs2 := congrArg List.length hs
      rw [List.length_append] at hs2
      have hf2 : (xss.take j).flatten.length + xss[j].length ≤ 1000000 := by omega
      have HS := Lib.hid hs2
      clear hs hf hs2 hB
      obtain ⟨m, hm⟩ : ∃ m, xss[j].length = m := ⟨_, rfl⟩
      obtain ⟨s, hs⟩ : ∃ s, (xss.take j).flatten.length = s := ⟨_, rfl⟩
      rw [hm] at hcell hf2
      rw [hs] at hf2
      simp only [hs]
      have HM := Lib.hid hm
      have HT := Lib.hid hs
      clear hm hs
      go_wp2
      go_round
      case rel => exact ⟨j + 1, by omega, by go_num, by rw [HS.out, HM.out, HT.out]; go_num⟩
      case measure => simp [intOf]; omega
    · have hj : j = xss.length := by omega
      have hjt : xss.take j = xss := by rw [hj, List.take_length]
      clear hj
      rw [hjt]
      clear hjt
      obtain ⟨L, hL⟩ : ∃ L, xss.flatten = L := ⟨_, rfl⟩
      rw [hL] at hn ⊢
      go_wp2_with (go_at_call 39; refine (growV_nil L.length _ hn).mono ?_; rintro e w1 ⟨A1, c1, rfl, hown1, hK1⟩)
      go_loopw [6, 27] (fun v i wr => ∃ (k : Nat) (A' : Option Addr) (c' : Nat), k ≤ xss.length ∧ i = .int .i64 k ∧ v = .slice A' (xss.take k).flatten.length c' ∧ wr.ownsRow w.heap.size 24 5 (.slice A' (xss.take k).flatten.length c') (xss.take k).flatten.length (flatZ (xss.take k).flatten) ∧ Kp NoB w wr) (fun _ i _ => xss.length - (intOf i).toNat)
      case atStart => exact ⟨0, A1, c1, Nat.zero_le _, rfl, rfl, hown1, hK1⟩
      case round =>
        obtain ⟨k, A', c', hk, rfl, rfl, hown, hKr⟩ := hrel
        by_cases hlt : k < xss.length
        · obtain ⟨ad, B, cB, rfl, hcell, hle, hB⟩ := vsE_at (h.and hKr (VsE.and hKr)) k hlt
          have hs := flatV_snoc xss k hlt
          have hf := flatV_le xss (k + 1)
          rw [hL] at hf
          obtain ⟨T, hT⟩ : ∃ T, (xss.take k).flatten = T := ⟨_, rfl⟩
          obtain ⟨y, hy⟩ : ∃ y, xss[k] = y := ⟨_, rfl⟩
          rw [hT] at hown hs ⊢
          rw [hy] at hcell hle hB hs
          have hlen : T.length + y.length ≤ 1000000 := by rw [hs, List.length_append] at hf; omega
          have HS := Lib.hid hs
          have HO := Lib.hid hown
          have HKr := Lib.hid hKr
          have HAR := Lib.hid (arr_of_vsL hB)
          have HLN := Lib.hid (flatZ_length y)
          obtain ⟨Tn, hTn⟩ : ∃ Tn, T.length = Tn := ⟨_, rfl⟩
          obtain ⟨yn, hyn⟩ : ∃ yn, y.length = yn := ⟨_, rfl⟩
          rw [hTn] at HO hlen
          rw [hyn] at HLN hlen hle hcell
          simp only [hTn]
          have HTn := Lib.hid hTn
          have HYn := Lib.hid hyn
          clear hs hf hT hy hB hown hKr hTn hyn
          go_wp2_with (at_builtin; refine wpList_app HKr.out rfl (.tmp 31) (.tmp 32) 29 rfl 24 i0 (.agg zeroZ.cs.toArray) 5 56 Tryd.underlying29 hi hz0 hz1 hz2 rfl (by decide) _ Tn (flatZ T) rfl HO.out B yn cB (flatZ y) rfl HLN.out HAR.out flatZ_one (by omega) (by decide) (Tn + yn) rfl ?_; intro A2 c2 w2 hown2 hK2 _ _; clear HO HKr HAR)
          go_roundw
          case rel =>
            refine ⟨k + 1, A2, c2, by omega, by go_num, ?_, ?_, hK2⟩
            · rw [HS.out, List.length_append, HTn.out, HYn.out]
            · rw [HS.out, List.length_append, HTn.out, HYn.out, show flatZ (T ++ y) = flatZ T ++ flatZ y by simp [flatZ]]; exact hown2
          case measure => simp [intOf]; omega
        · have hkt : xss.take k = xss := by rw [show k = xss.length by omega, List.take_length]
          rw [hkt, hL] at hown
          rw [hkt, hL]
          clear hkt
          obtain ⟨Ln, hLn⟩ : ∃ Ln, L.length = Ln := ⟨_, rfl⟩
          obtain ⟨FL, hFL⟩ : ∃ FL, flatZ L = FL := ⟨_, rfl⟩
          rw [hLn, hFL] at hown
          rw [hLn]
          go_wp2
          go_ret
          exact joinedV_of (by rw [hL, hLn]) (by rw [hL, hFL]) hown hKr _ rfl

end Go.Proofs.YtknaogpkakdcoaaDoor
