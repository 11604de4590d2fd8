/- A log: New, Add. No condition but the bounds that arguments have. -/
import Derived.Test.YtknaogpkakdcoaaDoorFinL
namespace Go.Proofs.YtknaogpkakdcoaaDoor
open Go.RowKit
set_option linter.unusedVariables false
set_option linter.unusedSimpArgs false

/-! ### plain words -/
/-- A verdict without its place. -/
def key (z : ArgV) : Int × Int × Int × List Int × Int := (z.k, z.c, z.s, z.d, z.a)
theorem key_like {x y : ArgV} (h : Like x y) : key x = key y := by
  obtain ⟨h1, h2, h3, h4, h5⟩ := h
  unfold key
  rw [h1, h2, h3, h4, h5]
theorem like_key {x y : ArgV} (h : key x = key y) : Like x y := by
  unfold key at h
  injection h with h1 h
  injection h with h2 h
  injection h with h3 h
  injection h with h4 h5
  exact ⟨h1, h2, h3, h4, h5⟩
/-- Is it no acceptance? -/
def errZ (z : ArgV) : Bool := decide (z.k ≠ 0)
theorem filter_step (p : ArgV → Bool) (xs : List ArgV) (j : Nat) (hj : j < xs.length) : (xs.take (j + 1)).filter p = (xs.take j).filter p ++ if p xs[j] then [xs[j]] else [] := by
  rw [List.take_succ_eq_append_getElem hj, List.filter_append]
  congr 1
  by_cases h : p xs[j] = true
  · rw [List.filter_cons_of_pos h, if_pos h]
    rfl
  · rw [List.filter_cons_of_neg h, if_neg h]
    rfl

set_option maxRecDepth 100000 in
set_option maxHeartbeats 400000 in
theorem new_any (w : World) : Calls Tryd.prog 21 #[] w fun e w' => e = .returned (.pointer (some ⟨w.heap.size, 0, none⟩)) ∧ w' = w.alloc (.cells #[.slice none 0 0] 60) := by
  go_enter Tryd.func21, Tryd.ntmps21
  go_wp2
  go_ret
  exact ⟨rfl, rfl⟩
theorem logS_new (w : World) : LogS w.heap.size (w.alloc (.cells #[.slice none 0 0] 60)) w.heap.size (.slice none 0 0) [] :=
  ⟨Bk.fresh w _ _, ZRow.nil _ _, (fun q => q.elim (fun e => nomatch e) (fun ⟨z, hz, _⟩ => nomatch hz)), Nat.le_refl _⟩

/-- What the adding of verdicts leaves. -/
def AddM (base : Nat) (w : World) (L : Nat) (v : Value) (zs : List ArgV) (ys : List ArgV) (w' : World) (A' : Option Addr) (n' c' : Nat) (zs' : List ArgV) : Prop :=
  zs'.length = n' ∧ zs'.map key = (zs ++ ys).map key ∧ LogTo base w L v zs (.slice A' n' c') zs' w'
theorem AddM.len {base : Nat} {w : World} {L : Nat} {v : Value} {zs ys : List ArgV} {w' : World} {A' : Option Addr} {n' c' : Nat} {zs' : List ArgV} (h : AddM base w L v zs ys w' A' n' c' zs') : n' = zs.length + ys.length := by
  have := congrArg List.length h.2.1
  rw [List.length_map, List.length_map, List.length_append] at this
  rw [← h.1, this]

set_option maxRecDepth 100000 in
set_option maxHeartbeats 4000000 in
theorem add_any (base L : Nat) (A : Option Addr) (n c : Nat) (zs : List ArgV) (B : Option Addr) (d : Nat) (xs : List ArgV) (w : World) (h0 : LogS base w L (.slice A n c) zs) (hn : zs.length = n) (hx : VsL w B xs)
    (hd : ∀ x ∈ xs, Arr w x.A (bs x.d) ∧ x.d.length ≤ 1000 ∧ IsB x.d) (hs1 : xs ≠ [] → ∀ ad, B = some ad → ¬ FL L (.slice A n c) zs ad.block) (hs2 : ∀ x ∈ xs, x.d ≠ [] → ∀ ad, x.A = some ad → ¬ FL L (.slice A n c) zs ad.block)
    (hnm : n + xs.length ≤ 100000) (hbase : base ≤ w.heap.size) :
    Calls Tryd.prog 23 #[.pointer (some ⟨L, 0, none⟩), .slice B xs.length d] w fun e w' => ∃ A' n' c' zs', e = .returned (.int .i64 (n' : Nat)) ∧ AddM base w L (.slice A n c) zs (xs.filter errZ) w' A' n' c' zs' := by
  have H0 := Lib.hid h0
  have HX := Lib.hid hx
  have HD := Lib.hid hd
  have HS1 := Lib.hid hs1
  have HS2 := Lib.hid hs2
  have HN0 := Lib.hid hn
  obtain ⟨m, hmm⟩ : ∃ m, xs.length = m := ⟨_, rfl⟩
  have HM := Lib.hid hmm
  rw [hmm] at hnm ⊢
  clear h0 hx hd hs1 hs2 hmm hn
  go_enter Tryd.func23, Tryd.ntmps23
  go_wp2
  go_loopw [11] (fun i wr => ∃ j : Nat, j ≤ m ∧ i = .int .i64 j ∧ Hid (∃ A' n' c' zs', AddM base w L (.slice A n c) zs ((xs.take j).filter errZ) wr A' n' c' zs')) (fun i _ => m - (intOf i).toNat)
  case atStart => exact ⟨0, Nat.zero_le _, rfl, Lib.hid ⟨A, n, c, zs, HN0.out, by simp, LogTo.refl H0.out (Kp.refl _ _)⟩⟩
  case round =>
    obtain ⟨j, hj, rfl, HI⟩ := hrel
    obtain ⟨A', n', c', zs', hi⟩ := HI.out
    have hlen := hi.len
    have hfl : ((xs.take j).filter errZ).length ≤ m := by
      have h1 := List.length_filter_le errZ (xs.take j)
      have h2 : (xs.take j).length ≤ xs.length := by rw [List.length_take]; omega
      rw [HM.out] at h2
      omega
    rw [HN0.out] at hlen
    have hn' : n' ≤ 100000 := by omega
    have HA := Lib.hid hi
    clear hi hlen hfl HI
    by_cases hlt : j < m
    · have hjl : j < xs.length := by rw [HM.out]; exact hlt
      have hne : xs ≠ [] := by rintro rfl; simp at hjl
      have hvs : VsL wr B xs := Sl.keep HX.out HA.out.2.2.2.1 (fun ad e => HS1.out hne ad e) (fun _ _ e => e)
      have hdz := HD.out _ (List.getElem_mem hjl)
      have haz := arr_keep hdz.1 HA.out.2.2.2.1 (fun h9 => HS2.out _ (List.getElem_mem hjl) h9)
      have hst := filter_step errZ xs j hjl
      obtain ⟨ad, rfl, x0, x1, x2, x3, x4⟩ := vs_at hvs hjl
      obtain ⟨z, hz⟩ : ∃ z, xs[j] = z := ⟨_, rfl⟩
      rw [hz] at x0 x1 x2 x3 x4 haz hdz hst
      have HST := Lib.hid hst
      have HAZ := Lib.hid haz
      have HDZ := Lib.hid hdz.2
      clear hvs hz haz hdz hst hne
      by_cases hk : z.k = 0
      · go_wp2
        go_roundw
        case rel => exact ⟨j + 1, by omega, by go_num, Lib.hid ⟨A', n', c', zs', HA.out.1, by rw [HST.out, if_neg (by unfold errZ; simp [hk]), List.append_nil]; exact HA.out.2.1, HA.out.2.2.and ((Kp.refl _ _).alloc _)⟩⟩
        case measure => simp [intOf]; omega
      · have hk0 := ((Kp.refl NoB wr).alloc (.cells #[.int .i64 z.k, .int .i64 z.c, .int .i64 z.s, .slice z.A z.d.length z.m, .int .i64 z.a] 24)).drew
        have hlog := HA.out.2.2.1.and hk0
        have HP := Lib.hid (put_any base L A' n' c' zs' z _ hlog HA.out.1 (by omega) (Nat.le_trans hbase (Nat.le_trans HA.out.2.2.2.1.size hk0.size)) (HAZ.out.and hk0) HDZ.out.1 HDZ.out.2)
        have HNB := Lib.hid (show ¬ FL L (.slice A' n' c') zs' wr.heap.size from fun q => by have := (HA.out.2.2.1.lt _ q).2; omega)
        have HB0 := Lib.hid (bk_drew (Bk.fresh wr 24 #[.int .i64 z.k, .int .i64 z.c, .int .i64 z.s, .slice z.A z.d.length z.m, .int .i64 z.a]))
        have HK0 := Lib.hid hk0
        unfold ArgV.val at HP
        clear hlog hk0
        go_wp2
        obtain ⟨b0, b1, b2, b3, b4⟩ := HB0.out.five
        go_region_held3 (fun w' => w'.cell? ⟨wr.heap.size, 0, none⟩ = some (.int .i64 z.k) ∧ w'.cell? ⟨wr.heap.size, 1, none⟩ = some (.int .i64 z.c) ∧ w'.cell? ⟨wr.heap.size, 2, none⟩ = some (.int .i64 z.s) ∧ w'.cell? ⟨wr.heap.size, 3, none⟩ = some (.slice z.A z.d.length z.m) ∧ w'.cell? ⟨wr.heap.size, 4, none⟩ = some (.int .i64 z.a)) (first | exact ⟨b0, b1, b2, b3, b4⟩ | go_keep)
          ((go_at_call 40; (with_reducible refine Calls.mono HP.out ?_); rintro e w2 ⟨rfl, A2, c2, z2, hlk, hto⟩; have HLK := Lib.hid hlk; have HTO := Lib.hid (LogTo.pre HK0.out HA.out.2.2.1 hto); clear b0 b1 b2 b3 b4; obtain ⟨b0, b1, b2, b3, b4⟩ := (HB0.out.keep hto.2.1 HNB.out).five; clear hlk hto))
        go_wp2
        go_roundw
        case rel => exact ⟨j + 1, by omega, by go_num, Lib.hid ⟨A2, n' + 1, c2, zs' ++ [z2], by rw [List.length_append, HA.out.1]; rfl, by rw [HST.out, if_pos (by unfold errZ; simp [hk]), List.map_append, HA.out.2.1, ← List.append_assoc, List.map_append]; simp [key_like HLK.out], HA.out.2.2.trans HTO.out⟩⟩
        case measure => simp [intOf]; omega
    · have hj' : j = m := by omega
      have ht : xs.take j = xs := List.take_of_length_le (by rw [HM.out]; omega)
      obtain ⟨y0, y1, y2⟩ := HA.out.2.2.1.bk.one
      have HE := Lib.hid (show ∃ A' n'' c' zs', (n' : Nat) = n'' ∧ AddM base w L (.slice A n c) zs (xs.filter errZ) wr A' n'' c' zs' from ⟨A', n', c', zs', rfl, by have := HA.out; rwa [ht] at this⟩)
      clear ht HA
      go_wp2
      go_ret
      obtain ⟨A3, n3, c3, zs3, e3, h3⟩ := HE.out
      subst e3
      exact ⟨A3, _, c3, zs3, rfl, h3⟩

end Go.Proofs.YtknaogpkakdcoaaDoor
