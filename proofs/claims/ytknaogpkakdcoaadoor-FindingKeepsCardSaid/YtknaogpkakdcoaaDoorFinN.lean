/- A log: All, Count, Worst. No condition but the bounds that arguments have. -/
import Derived.Test.YtknaogpkakdcoaaDoorFinM
namespace Go.Proofs.YtknaogpkakdcoaaDoor
open Go.RowKit
set_option linter.unusedVariables false
set_option linter.unusedSimpArgs false

/-! ### plain words -/
def countZ (k : Int) (zs : List ArgV) : Nat := (zs.filter (fun z => decide (z.k = k))).length
theorem countZ_step (k : Int) (xs : List ArgV) (j : Nat) (hj : j < xs.length) : countZ k (xs.take (j + 1)) = countZ k (xs.take j) + if xs[j].k = k then 1 else 0 := by
  unfold countZ
  rw [filter_step _ xs j hj, List.length_append]
  by_cases h : xs[j].k = k
  · rw [if_pos (by simpa using h), if_pos h]
    rfl
  · rw [if_neg (by simpa using h), if_neg h]
    rfl
theorem countZ_key (k : Int) : ∀ (xs ys : List ArgV), xs.map key = ys.map key → countZ k xs = countZ k ys
  | [], [], _ => rfl
  | [], y :: ys, h => by cases h
  | x :: xs, [], h => by cases h
  | x :: xs, y :: ys, h => by
    rw [List.map_cons, List.map_cons] at h
    injection h with h1 h2
    have := countZ_key k xs ys h2
    have hk := (like_key h1).1
    unfold countZ at this ⊢
    by_cases h3 : x.k = k
    · rw [List.filter_cons_of_pos (by simpa using h3), List.filter_cons_of_pos (by simpa [← hk] using h3), List.length_cons, List.length_cons, this]
    · rw [List.filter_cons_of_neg (by simpa using h3), List.filter_cons_of_neg (by simpa [← hk] using h3), this]
theorem minZ_key : ∀ (xs ys : List ArgV) (x y : ArgV), key x = key y → xs.map key = ys.map key → key (minZ x xs) = key (minZ y ys)
  | [], [], x, y, h, _ => h
  | [], b :: ys, x, y, _, h => by cases h
  | a :: xs, [], x, y, _, h => by cases h
  | a :: xs, b :: ys, x, y, hxy, h => by
    rw [List.map_cons, List.map_cons] at h
    injection h with h1 h2
    show key (minZ (opZ x a) xs) = key (minZ (opZ y b) ys)
    exact minZ_key xs ys _ _ (key_like (opZ_like (like_key hxy) (like_key h1))) h2
theorem foldZ_key (xs ys : List ArgV) (h : xs.map key = ys.map key) : key (foldZ xs) = key (foldZ ys) := by
  cases xs with
  | nil =>
    cases ys with
    | nil => rfl
    | cons y ys => cases h
  | cons x xs =>
    cases ys with
    | nil => cases h
    | cons y ys =>
      rw [List.map_cons, List.map_cons] at h
      injection h with h1 h2
      exact minZ_key xs ys x y h1 h2

/-- Copies of verdicts, in a row of the call's own. -/
def AllM (w : World) (zs : List ArgV) (n : Nat) (w' : World) (A' : Option Addr) (c' : Nat) (zs' : List ArgV) : Prop := zs'.length = n ∧ zs'.map key = zs.map key ∧ ZRow w.heap.size w' (.slice A' n c') zs' ∧ Kp NoB w w'

set_option maxRecDepth 100000 in
set_option maxHeartbeats 4000000 in
theorem all_log (base L : Nat) (A : Option Addr) (n c : Nat) (zs : List ArgV) (w : World) (h0 : LogS base w L (.slice A n c) zs) (hn : zs.length = n) (hn1 : n ≤ 100000) :
    Calls Tryd.prog 25 #[.pointer (some ⟨L, 0, none⟩)] w fun e w' => ∃ A' c' zs', e = .returned (.slice A' n c') ∧ AllM w zs n w' A' c' zs' := by
  obtain ⟨i0, hi, hz0, hz1, hz2⟩ := info_parts infoV5
  have H0 := Lib.hid h0
  have HN := Lib.hid hn
  obtain ⟨l0, l1, l2⟩ := h0.bk.one
  clear h0 hn
  go_enter Tryd.func25, Tryd.ntmps25
  go_wp2
  go_loopw [3, 14] (fun v i wr => ∃ (j : Nat) (A' : Option Addr) (c' : Nat), j ≤ n ∧ i = .int .i64 j ∧ v = .slice A' j c' ∧ Hid (∃ zs', zs'.length = j ∧ zs'.map key = (zs.take j).map key ∧ ZRow w.heap.size wr (.slice A' j c') zs') ∧ Hid (Kp NoB w wr)) (fun _ i _ => n - (intOf i).toNat)
  case atStart => exact ⟨0, none, 0, Nat.zero_le _, rfl, rfl, Lib.hid ⟨[], rfl, rfl, ZRow.nil _ _⟩, Lib.hid (Kp.refl _ _)⟩
  case round =>
    clear l0 l1 l2
    obtain ⟨j, A', c', hj, rfl, rfl, HI, HK⟩ := hrel
    by_cases hlt : j < n
    · obtain ⟨zs', hl', hm', hr'⟩ := HI.out
      have hjl : j < zs.length := by rw [HN.out]; exact hlt
      have hrow := H0.out.row.and HK.out
      have hvs := hrow.vs HN.out
      have hdz := hrow.dat _ (List.getElem_mem hjl)
      have hst : (zs.take (j + 1)).map key = (zs.take j).map key ++ [key zs[j]] := by rw [List.take_succ_eq_append_getElem hjl, List.map_append]; rfl
      obtain ⟨ad, rfl, x0, x1, x2, x3, x4⟩ := vs_at hvs hjl
      obtain ⟨z, hz⟩ : ∃ z, zs[j] = z := ⟨_, rfl⟩
      rw [hz] at x0 x1 x2 x3 x4 hdz hst
      obtain ⟨k, cc, s, dd, ZA, zm, za⟩ := z
      simp only at x0 x1 x2 x3 x4 hdz
      have hk0 := (Kp.refl NoB wr).alloc (.cells #[.int .i64 k, .int .i64 cc, .int .i64 s, .slice ZA dd.length zm, .int .i64 za] 24)
      have HC := Lib.hid (fclone_any ⟨k, cc, s, dd, ZA, zm, za⟩ _ (hdz.1.and hk0) (by have := hdz.2.1; simp only; omega))
      have HK0 := Lib.hid hk0
      have HDZ := Lib.hid hdz.2
      have HST := Lib.hid hst
      have HL' := Lib.hid hl'
      have HM' := Lib.hid hm'
      have HR' := Lib.hid hr'
      have HOW := Lib.hid (fun W (q : Kp NoB wr W) => (show W.ownsRow w.heap.size 24 5 (.slice A' j c') j (flatZ zs') by have := (hr'.and q).row; rwa [hl'] at this))
      unfold VerM at HC
      unfold ArgV.val at HC
      simp only at HC
      clear hvs hz hdz hst hrow hk0 hl' hm' hr' HI
      go_wp2_with (first
        | (go_at_call 36; (with_reducible refine Calls.mono HC.out ?_); rintro e w1 ⟨A1, m1, rfl, ha, ho, hK⟩; have a1 := Lib.hid ha; have o1 := Lib.hid ho; have k1 := Lib.hid (HK0.out.and hK); clear hK ha ho x0 x1 x2 x3 x4)
        | (at_builtin; refine wpList_app (HK.out.and (k1.out.alloc _)) rfl (.tmp 18) (.tmp 21) 29 rfl 24 i0 (.agg zeroZ.cs.toArray) 5 56 Tryd.underlying29 hi hz0 hz1 hz2 rfl (by decide) _ j (flatZ zs') rfl (HOW.out _ (k1.out.alloc _)) (some ⟨w1.heap.size, 0, none⟩) 1 1 (ArgV.cs ⟨k, cc, s, dd, A1, m1, za⟩) rfl rfl (Arr.lit w1 _ _) (by intro u hu; exact flatZ_one (xs := [⟨k, cc, s, dd, A1, m1, za⟩]) u (by simpa [flatZ] using hu)) (by omega) (by decide) (j + 1) rfl ?_; intro A2 c2 w2 hown2 hK2 hg2 hor2; have OW2 := Lib.hid hown2; have K2 := Lib.hid hK2; have G2 := Lib.hid hg2; have R2 := Lib.hid hor2; clear hown2 hK2 hg2 hor2))
      go_roundw
      case rel =>
        refine ⟨j + 1, A2, c2, by omega, by go_num, rfl, Lib.hid ⟨zs' ++ [⟨k, cc, s, dd, A1, m1, za⟩], by rw [List.length_append, HL'.out]; rfl, by rw [HST.out, List.map_append, HM'.out]; rfl, ?_⟩, K2⟩
        refine (HR'.out.and (k1.out.alloc _)).snoc HL'.out G2.out OW2.out R2.out ⟨a1.out.alloc _, HDZ.out⟩ (fun hd ad' e => ?_)
        have q1 := o1.out ad' e
        have q2 := HK0.out.size
        have q3 := HK.out.size
        refine ⟨by omega, fun q => ?_⟩
        have := (HR'.out.lt _ (.inl q)).2
        omega
      case measure => simp [intOf]; omega
    · have hj' : j = n := by omega
      subst hj'
      have HE := Lib.hid (show ∃ zs', AllM w zs j wr A' c' zs' from by
        obtain ⟨zs', q1, q2, q3⟩ := HI.out
        rw [List.take_of_length_le (by rw [HN.out]; omega)] at q2
        exact ⟨zs', q1, q2, q3, HK.out⟩)
      clear HI
      go_wp2
      go_ret
      obtain ⟨zs', h⟩ := HE.out
      exact ⟨A', c', zs', rfl, h⟩

set_option maxRecDepth 100000 in
set_option maxHeartbeats 4000000 in
theorem count_log (base L : Nat) (A : Option Addr) (n c : Nat) (zs : List ArgV) (kind : Int) (w : World) (h0 : LogS base w L (.slice A n c) zs) (hn : zs.length = n) (hn1 : n ≤ 100000) :
    Calls Tryd.prog 26 #[.pointer (some ⟨L, 0, none⟩), .int .i64 kind] w (Stay (.int .i64 (countZ kind zs : Nat)) w) := by
  have HC := Lib.hid (all_log base L A n c zs w h0 hn hn1)
  obtain ⟨R, hR⟩ : ∃ r, countZ kind zs = r := ⟨_, rfl⟩
  have HR := Lib.hid hR
  rw [hR]
  clear h0 hn hR
  go_enter Tryd.func26, Tryd.ntmps26
  go_wp2_with (go_at_call 25; (with_reducible refine Calls.mono HC.out ?_); rintro e w1 ⟨A', c', zs', rfl, hall⟩; have HA := Lib.hid hall; clear hall)
  go_loopw [5, 11] (fun v i wr => ∃ (j : Nat), j ≤ n ∧ i = .int .i64 j ∧ v = .int .i64 (countZ kind (zs'.take j) : Nat) ∧ Hid (Kp NoB w1 wr)) (fun _ i _ => n - (intOf i).toNat)
  case atStart => exact ⟨0, Nat.zero_le _, rfl, rfl, Lib.hid (Kp.refl _ _)⟩
  case round =>
    obtain ⟨j, hj, rfl, rfl, HK⟩ := hrel
    by_cases hlt : j < n
    · have hjl : j < zs'.length := by rw [HA.out.1]; exact hlt
      have hvs := (HA.out.2.2.1.and HK.out).vs HA.out.1
      have hst := countZ_step kind zs' j hjl
      have hle : countZ kind (zs'.take j) ≤ 100000 := by
        unfold countZ
        have h1 := List.length_filter_le (fun z : ArgV => decide (z.k = kind)) (zs'.take j)
        rw [List.length_take] at h1
        omega
      obtain ⟨ad, rfl, x0, x1, x2, x3, x4⟩ := vs_at hvs hjl
      obtain ⟨z, hz⟩ : ∃ z, zs'[j] = z := ⟨_, rfl⟩
      rw [hz] at x0 x1 x2 x3 x4 hst
      obtain ⟨q, hq⟩ : ∃ q, countZ kind (zs'.take j) = q := ⟨_, rfl⟩
      rw [hq] at hst hle
      simp only [hq]
      have HST := Lib.hid hst
      clear hvs hz hst hq
      by_cases hk : z.k = kind
      · go_wp2
        go_roundw
        case rel => exact ⟨j + 1, by omega, by go_num, by rw [HST.out, if_pos hk]; go_num, Lib.hid (HK.out.alloc _)⟩
        case measure => simp [intOf]; omega
      · go_wp2
        go_roundw
        case rel => exact ⟨j + 1, by omega, by go_num, by rw [HST.out, if_neg hk]; rfl, Lib.hid (HK.out.alloc _)⟩
        case measure => simp [intOf]; omega
    · have hj' : j = n := by omega
      have ht : countZ kind (zs'.take j) = R := by
        rw [List.take_of_length_le (by rw [HA.out.1]; omega), ← HR.out]
        exact countZ_key kind _ _ HA.out.2.1
      rw [ht]
      clear ht
      go_wp2
      go_ret
      exact ⟨rfl, HA.out.2.2.2.and HK.out⟩

set_option maxRecDepth 100000 in
set_option maxHeartbeats 4000000 in
theorem worst_log (base L : Nat) (A : Option Addr) (n c : Nat) (zs : List ArgV) (w : World) (h0 : LogS base w L (.slice A n c) zs) (hn : zs.length = n) (hn1 : n ≤ 1000) (k cc s : Int) (d : List Int) (dn : Nat) (a : Int) (hf : key (foldZ zs) = (k, cc, s, d, a)) (hdn : d.length = dn) :
    Calls Tryd.prog 27 #[.pointer (some ⟨L, 0, none⟩)] w (VerQ w k cc s d dn a) := by
  have hk0 := (Kp.refl NoB w).alloc (.cells zeroZ.cs.toArray 24)
  have h1 := h0.and hk0
  have hlk := like_key (x := foldZ zs) (y := ⟨k, cc, s, d, none, 0, a⟩) hf
  have HF := Lib.hid ((show Calls Tryd.prog 18 #[.slice A n c] _ _ by have := ffold_any A c zs _ (h1.row.vs hn) (by omega) (fun z hz => ⟨(h1.row.dat z hz).1, (h1.row.dat z hz).2.1⟩); rwa [hn] at this).mono (fun e w' h => (show ∃ A m, e = .returned (.agg #[.int .i64 k, .int .i64 cc, .int .i64 s, .slice A dn m, .int .i64 a]) ∧ Arr w' A (bs d) ∧ (∀ ad, A = some ad → w.heap.size < ad.block) ∧ Kp NoB (w.alloc (.cells zeroZ.cs.toArray 24)) w' from by
    obtain ⟨A2, m2, he, ha, ho, hk⟩ := h
    obtain ⟨e1, e2, e3, e4, e5⟩ := hlk
    simp only at e1 e2 e3 e4 e5
    rw [e4] at ha
    refine ⟨A2, m2, ?_, ha, fun ad e => Nat.lt_trans (by rw [World.size_alloc]; exact Nat.lt_succ_self _) (ho ad e), hk⟩
    rw [he]
    unfold ArgV.val
    simp only [e1, e2, e3, e4, e5, hdn])))
  have HZ := Lib.hid (Bk.fresh w 24 zeroZ.cs.toArray)
  obtain ⟨l0, l1, l2⟩ := h0.bk.one
  have l3 := Nat.ne_of_lt l2
  unfold VerQ
  have HK0 := Lib.hid hk0
  clear h0 h1 hn hn1 hf hlk hk0
  go_enter Tryd.func27, Tryd.ntmps27
  go_wp2_with (go_at_call 18; (refine Calls.mono HF.out ?_); rintro e w1 ⟨A2, m2, rfl, ha, ho, hK⟩; have hz1 := Lib.hid (HZ.out.and hK); have a1 := Lib.hid ha; have o1 := Lib.hid ho; have k1 := Lib.hid (HK0.out.and hK); obtain ⟨x0, x1, x2, x3, x4⟩ := hz1.out.five; have f0 := hz1.out.frozen 0; have f1 := hz1.out.frozen 1; have f2 := hz1.out.frozen 2; have f3 := hz1.out.frozen 3; have f4 := hz1.out.frozen 4; clear hK ha ho)
  have hk3 := kp5 k1.out (Nat.le_refl _) (.int .i64 k) (.int .i64 cc) (.int .i64 s) (.slice A2 dn m2) (.int .i64 a)
  have hz3 := set5 hz1.out (.int .i64 k) (.int .i64 cc) (.int .i64 s) (.slice A2 dn m2) (.int .i64 a)
  have hA3 := a1.out.keep (S := fun b => b = w.heap.size) ((((((Kp.refl (fun b => b = w.heap.size) w1).setCell (p := ⟨w.heap.size, 0, none⟩) (fun _ => rfl) (.int .i64 k)).setCell (p := ⟨w.heap.size, 1, none⟩) (fun _ => rfl) (.int .i64 cc)).setCell (p := ⟨w.heap.size, 2, none⟩) (fun _ => rfl) (.int .i64 s)).setCell (p := ⟨w.heap.size, 3, none⟩) (fun _ => rfl) (.slice A2 dn m2)).setCell (p := ⟨w.heap.size, 4, none⟩) (fun _ => rfl) (.int .i64 a)) (fun ad e => Nat.ne_of_gt (o1.out ad e))
  refine bodyPost_ret (v := .agg #[.int .i64 k, .int .i64 cc, .int .i64 s, .slice A2 dn m2, .int .i64 a]) (results_cell_row (fn := Tryd.f27) rfl _ _ w.heap.size 24 _ (0, 0) _ rfl hz3 Tryd.underlying24 rfl (by kernel_rfl)) rfl ⟨A2, m2, rfl, hA3, hk3⟩

end Go.Proofs.YtknaogpkakdcoaaDoor
