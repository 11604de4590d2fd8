/- Routes without repetitions: the plain side; the reference's has and Unique. -/
import Derived.Test.YtkkfigdfgagimaaNlCat
import Derived.Test.YtkkfigdfgagimaaNlEq
import Derived.Test.YtkkfigdfgagimaaSplA
namespace Go.Proofs.Ytkkfigdfgagimaa
open Go.RowKit
set_option linter.unusedVariables false
set_option linter.unusedSimpArgs false

/-! ### The plain side -/
def uniqStep (acc : List RtI) (x : RtI) : List RtI := if x ∈ acc then acc else acc ++ [x]
def uniqL (xs : List RtI) : List RtI := xs.foldl uniqStep []
theorem uniqL_snoc (xs : List RtI) (x : RtI) : uniqL (xs ++ [x]) = uniqStep (uniqL xs) x := by simp [uniqL]
theorem uniq_from (xs : List RtI) : ∀ acc : List RtI, (∀ y, y ∈ xs.foldl uniqStep acc ↔ y ∈ acc ∨ y ∈ xs) := by
  induction xs with
  | nil => simp
  | cons x xs ih =>
    intro acc y
    rw [List.foldl_cons, ih]
    unfold uniqStep
    split
    · rename_i h
      constructor
      · rintro (h1 | h1)
        · exact .inl h1
        · exact .inr (by simp [h1])
      · rintro (h1 | h1)
        · exact .inl h1
        · rcases List.mem_cons.1 h1 with rfl | h1
          · exact .inl h
          · exact .inr h1
    · simp [or_assoc]
theorem uniqL_mem (xs : List RtI) (y : RtI) : y ∈ uniqL xs ↔ y ∈ xs := by
  unfold uniqL
  rw [uniq_from]
  simp
theorem uniq_stop (xs : List RtI) : ∀ acc : List RtI, (∀ y ∈ xs, y ∈ acc) → xs.foldl uniqStep acc = acc := by
  induction xs with
  | nil => intro acc _; rfl
  | cons x xs ih =>
    intro acc h
    rw [List.foldl_cons]
    have hx := h x (by simp)
    rw [show uniqStep acc x = acc by unfold uniqStep; rw [if_pos hx]]
    exact ih acc (fun y hy => h y (by simp [hy]))
theorem uniqL_twice (xs : List RtI) : uniqL (xs ++ xs) = uniqL xs := by
  unfold uniqL
  rw [List.foldl_append]
  refine uniq_stop xs _ (fun y hy => ?_)
  exact (uniqL_mem xs y).2 hy
theorem uniq_nodup (xs : List RtI) : ∀ acc : List RtI, acc.Nodup → (xs.foldl uniqStep acc).Nodup := by
  induction xs with
  | nil => intro acc h; exact h
  | cons x xs ih =>
    intro acc h
    rw [List.foldl_cons]
    refine ih _ ?_
    unfold uniqStep
    split
    · exact h
    · rename_i hx
      rw [List.nodup_append]
      refine ⟨h, by simp, fun a ha b hb => ?_⟩
      simp at hb
      subst hb
      intro e
      subst e
      exact hx ha
theorem uniq_of_nodup (xs : List RtI) : ∀ acc : List RtI, (acc ++ xs).Nodup → xs.foldl uniqStep acc = acc ++ xs := by
  induction xs with
  | nil => intro acc _; simp
  | cons x xs ih =>
    intro acc h
    rw [List.foldl_cons]
    have hx : x ∉ acc := fun hx => by
      rw [List.nodup_append] at h
      exact h.2.2 x hx x (by simp) rfl
    rw [show uniqStep acc x = acc ++ [x] by unfold uniqStep; rw [if_neg hx]]
    rw [ih (acc ++ [x]) (by simpa using h)]
    simp
theorem uniqL_idem (xs : List RtI) : uniqL (uniqL xs) = uniqL xs := by
  have h := uniq_nodup xs [] (by simp)
  have := uniq_of_nodup (uniqL xs) [] (by simpa [uniqL] using h)
  simpa [uniqL] using this
theorem uniq_le (xs : List RtI) : ∀ acc : List RtI, (xs.foldl uniqStep acc).length ≤ acc.length + xs.length := by
  induction xs with
  | nil => intro acc; simp
  | cons x xs ih =>
    intro acc
    rw [List.foldl_cons]
    have := ih (uniqStep acc x)
    have h2 : (uniqStep acc x).length ≤ acc.length + 1 := by unfold uniqStep; split <;> simp
    simp only [List.length_cons]
    omega
theorem uniqL_le (xs : List RtI) : (uniqL xs).length ≤ xs.length := by simpa [uniqL] using uniq_le xs []
theorem uniqL_B {xs : List RtI} (h : ∀ x ∈ xs, x.B) : ∀ x ∈ uniqL xs, x.B := fun x hx => h x ((uniqL_mem xs x).1 hx)

/-! ### has -/
set_option maxRecDepth 100000 in
set_option maxHeartbeats 4000000 in
theorem rhas_any (A : Option Addr) (c : Nat) (xs : List RtI) (x : RtI) (w : World) (ha : RtL w A xs) (hB : x.B) (hn : xs.length ≤ 1000000) :
    Calls Try.prog 29 #[.slice A xs.length c, x.val] w (Stay (.bool (decide (x ∈ xs))) w) := by
  have HA := Lib.hid ha
  obtain ⟨D, hD⟩ : ∃ D, decide (x ∈ xs) = D := ⟨_, rfl⟩
  have HD := Lib.hid hD
  rw [hD]
  obtain ⟨n, hnn⟩ : ∃ n, xs.length = n := ⟨_, rfl⟩
  have HN := Lib.hid hnn
  rw [hnn] at hn ⊢
  have HQ := Lib.hid (fun (w : World) (y : RtI) (hy : y.B) => binop_rt w y x hy.2.2.2.1 hB.2.2.2.1)
  have hx19 := rtC_length hB.2.2.2.1
  unfold RtI.val at HQ ⊢
  obtain ⟨rx, hrx⟩ : ∃ rx, rtC x = rx := ⟨_, rfl⟩
  rw [hrx] at HQ hx19 ⊢
  have HI1 := Lib.hid (show (Try.prog.info? 31).map (·.size) = some rx.length by rw [hx19]; exact (size_of infoRt).2)
  clear hnn hD ha hrx hx19 hB
  have HB0 := Lib.hid (Bk.fresh w 31 rx.toArray)
  go_enter Try.func29, Try.ntmps29
  go_wp2
  go_loopw [5] (fun i wr => ∃ j : Nat, j ≤ n ∧ i = .int .i64 j ∧ Hid (Kp NoB (w.alloc (.cells rx.toArray 31)) wr) ∧ Hid (UptoR (fun y => decide (y ≠ x)) xs j)) (fun i _ => n - (intOf i).toNat)
  case atStart => exact ⟨0, Nat.zero_le _, rfl, Lib.hid (Kp.refl _ _), Lib.hid (UptoR.zero _ _)⟩
  case round =>
    obtain ⟨j, hj, rfl, HK, HT⟩ := hrel
    by_cases hlt : j < n
    · obtain ⟨ad, y, hyj, hyB, hA, hca⟩ := ((HA.out.and ((Kp.refl _ _).alloc (.cells rx.toArray 31))).and HK.out).at (by rw [HN.out]; exact hlt)
      subst hA
      have hy19 := rtC_length hyB.2.2.2.1
      have he := fun w => HQ.out w y hyB
      have HYJ := Lib.hid hyj
      have HCA := Lib.hid hca
      obtain ⟨ry, hry⟩ : ∃ ry, rtC y = ry := ⟨_, rfl⟩
      rw [hry] at he HCA hy19
      have HI2 := Lib.hid (show (Try.prog.info? 31).map (·.size) = some ry.length by rw [hy19]; exact (size_of infoRt).2)
      obtain ⟨q, hq⟩ : ∃ q, decide (y = x) = q := ⟨_, rfl⟩
      have HQQ := Lib.hid hq
      rw [hq] at he
      have HBX := Lib.hid (HB0.out.and HK.out)
      clear hry hyj hca hy19 hyB hq
      go_wp2_with fail
      refine wp_region_noPanic ?_
      refine wp_region_held_drew (S := fun w' => CellsAt w' (ad.add (j * 19)) ry ∧ Bk w' w.heap.size 31 rx.toArray) (by kernel_rfl) ?_ (fun hHeld => ?_)
      · exact ⟨fun i v hv => HCA.out i v hv, HBX.out.drew⟩
      refine wpAnyH_take (i := 0) (oi := ⟨some 12, _, _, _, _, _⟩) (v := ?_) rfl (by kernel_rfl) (by kernel_rfl) (by kernel_rfl) (fun _ _ _ h => h) (Or.inl ⟨by rfl, fun w hSw => ?_⟩) (by assumption) ?_
      rotate_left
      · clear hSw
        go_simp
        with_reducible rfl
      try simp only [Act.put, List.setIfInBounds_toArray, List.set_cons_zero, List.set_cons_succ]
      refine wpAnyH_take (i := 1) (oi := ⟨some 13, _, _, _, _, _⟩) (v := ?_) rfl (by kernel_rfl) (by kernel_rfl) (by kernel_rfl) (fun _ _ _ h => h) (Or.inl ⟨by rfl, fun w hSw => ?_⟩) (by assumption) ?_
      rotate_left
      · clear hSw
        go_simp
        with_reducible rfl
      try simp only [Act.put, List.setIfInBounds_toArray, List.set_cons_zero, List.set_cons_succ]
      refine wpAnyH_take (i := 2) (oi := ⟨some 14, _, _, _, _, _⟩) (v := .pointer (some (ad.add (j * 19)))) rfl (by kernel_rfl) (by kernel_rfl) (by kernel_rfl) (fun _ _ _ h => h) (Or.inl ⟨by rfl, fun w hSw => ?_⟩) (by assumption) ?_
      · clear hSw
        go_simp
      try simp only [Act.put, List.setIfInBounds_toArray, List.set_cons_zero, List.set_cons_succ]
      refine wpAnyH_take (i := 3) (oi := ⟨some 15, _, _, _, _, _⟩) (v := .agg ry.toArray) rfl (by kernel_rfl) (by kernel_rfl) (by kernel_rfl) (fun _ _ _ h => h) (yieldsIf_load_at (by rfl) 31 _ rfl (ad.add (j * 19)) rfl ry _ (fun w hSw => hSw.1) Try.underlying31 rfl HI2.out) (by assumption) ?_
      try simp only [Act.put, List.setIfInBounds_toArray, List.set_cons_zero, List.set_cons_succ]
      refine wpAnyH_take (i := 4) (oi := ⟨some 16, _, _, _, _, _⟩) (v := .agg rx.toArray) rfl (by kernel_rfl) (by kernel_rfl) (by kernel_rfl) (fun _ _ _ h => h) (yieldsIf_load_at (by rfl) 31 _ rfl ⟨w.heap.size, 0, none⟩ rfl rx _ (fun w hSw => CellsAt.of_bk hSw.2) Try.underlying31 rfl HI1.out) (by assumption) ?_
      try simp only [Act.put, List.setIfInBounds_toArray, List.set_cons_zero, List.set_cons_succ]
      refine wpAnyH_take (i := 5) (oi := ⟨some 17, _, _, _, _, _⟩) (v := .bool q) rfl (by kernel_rfl) (by kernel_rfl) (by kernel_rfl) (fun _ _ _ h => h) (Or.inl ⟨by rfl, fun w hSw => ?_⟩) (by assumption) ?_
      · clear hSw
        go_simp
      try simp only [Act.put, List.setIfInBounds_toArray, List.set_cons_zero, List.set_cons_succ]
      refine wpAnyH_done (by kernel_rfl) ?_ _
      refine NoPanic.normal ?_
      rcases q with _ | _
      · go_wp2_with fail
        go_roundw
        case rel => exact ⟨j + 1, by omega, by go_num, Lib.hid HK.out.drew, Lib.hid (HT.out.succ HYJ.out (by have := HQQ.out; simpa using this))⟩
        case measure => simp [intOf]; omega
      · go_wp2_with fail
        go_ret
        have hd : D = true := by
          rw [← HD.out]
          have h1 : y = x := by simpa using HQQ.out
          rw [← h1]
          exact decide_eq_true (List.mem_of_getElem? HYJ.out)
        rw [hd]
        exact ⟨rfl, ((Kp.refl _ _).alloc _).and HK.out.drew⟩
    · have hj' : j = n := by omega
      go_wp2
      go_ret
      have hd : D = false := by
        rw [← HD.out]
        have h1 := HT.out.all (by rw [HN.out]; exact hj')
        refine decide_eq_false (fun h => ?_)
        have := List.all_eq_true.1 h1 x h
        simp at this
      rw [hd]
      exact ⟨rfl, ((Kp.refl _ _).alloc _).and HK.out⟩

/-! ### Unique of the reference -/
set_option maxRecDepth 100000 in
set_option maxHeartbeats 4000000 in
theorem runiq_any (A0 : Option Addr) (c0 : Nat) (xs : List RtI) (w : World) (hx : RtL w A0 xs) (hn : xs.length ≤ 1000) :
    Calls Try.prog 12 #[.slice A0 xs.length c0] w (JoinedR w (uniqL xs)) := by
  have HX := Lib.hid hx
  clear hx
  obtain ⟨i0, hi, hz0, hz1, hz2⟩ := info_parts infoRt19
  obtain ⟨n, hnn⟩ : ∃ n, xs.length = n := ⟨_, rfl⟩
  have HN := Lib.hid hnn
  rw [hnn] at hn ⊢
  clear hnn
  obtain ⟨R, hR⟩ : ∃ R, uniqL xs = R := ⟨_, rfl⟩
  have HR := Lib.hid hR
  rw [hR]
  clear hR
  go_enter Try.func12, Try.ntmps12
  go_wp2
  go_loopw [3, 4] (fun v i wr => ∃ (j m c : Nat) (A : Option Addr) (us : List RtI), j ≤ n ∧ i = .int .i64 j ∧ v = .slice A m c ∧ m ≤ j ∧ Hid (us.length = m) ∧ Hid (uniqL (xs.take j) = us) ∧ Hid (wr.ownsRow w.heap.size 31 19 (.slice A m c) m (flatE rtC us)) ∧ Hid (Kp NoB w wr)) (fun _ i _ => n - (intOf i).toNat)
  case atStart => exact ⟨0, 0, 0, none, [], Nat.zero_le _, rfl, rfl, Nat.le_refl _, Lib.hid rfl, Lib.hid rfl, Lib.hid (World.ownsRow_nil _ _ _ _), Lib.hid (Kp.refl _ _)⟩
  case round =>
    obtain ⟨j, m, c, A, us, hj, rfl, rfl, hmj, HM, HU, HO, HK⟩ := hrel
    by_cases hlt : j < n
    · obtain ⟨ad, x, hxj, hxB, hA, hc⟩ := HX.out.at (by rw [HN.out]; exact hlt)
      subst hA
      have hUB : ∀ y ∈ us, y.B := by rw [← HU.out]; exact uniqL_B (fun y hy => HX.out.2 y (List.mem_of_mem_take hy))
      have hown := HO.out
      have HH := Lib.hid (rhas_any A c us x wr (rtL_of_own (by rw [HM.out]; exact hown) hUB) hxB (by have := HM.out; omega))
      rw [HM.out] at HH
      have HC := Lib.hid hc
      have HI := Lib.hid (show (Try.prog.info? 31).map (·.size) = some (rtC x).length by rw [rtC_length hxB.2.2.2.1]; exact (size_of infoRt).2)
      have HCL := Lib.hid (rtC_length hxB.2.2.2.1)
      have HCV := Lib.hid (rtC_one x)
      have HSN := Lib.hid (show uniqL (xs.take (j + 1)) = uniqStep us x by rw [take_snocR xs j x hxj, uniqL_snoc, HU.out])
      unfold RtI.val at HH
      obtain ⟨rs, hrs⟩ : ∃ rs, rtC x = rs := ⟨_, rfl⟩
      have HRX := Lib.hid hrs
      rw [hrs] at HH HC HI HCL HCV
      clear hc hxj hxB hrs hown hUB
      by_cases hin : x ∈ us
      · have HS2 := Lib.hid (show uniqL (xs.take (j + 1)) = us by rw [HSN.out]; unfold uniqStep; rw [if_pos hin])
        rw [decide_eq_true hin] at HH
        clear hin
        go_wp2_with (first
          | (refine wpList_load_at rfl 31 (.tmp 14) rfl (ad.add (j * 19)) rfl rs _ (HC.out.and HK.out) Try.underlying31 rfl HI.out ?_)
          | (go_at_call 29; (with_reducible refine (HH.out).mono ?_); rintro e w2 ⟨rfl, hK2⟩; replace hK2 := Lib.hid hK2))
        go_roundw
        case rel => exact ⟨j + 1, m, c, A, us, by omega, by go_num, rfl, by omega, HM, HS2, Lib.hid (hK2.out.own HO.out (fun _ _ q => q)), Lib.hid (HK.out.and hK2.out)⟩
        case measure => simp [intOf]; omega
      · have HS2 := Lib.hid (show uniqL (xs.take (j + 1)) = us ++ [x] by rw [HSN.out]; unfold uniqStep; rw [if_neg hin])
        rw [decide_eq_false hin] at HH
        clear hin
        go_wp2_with (first
          | (refine wpList_load_at rfl 31 (.tmp 14) rfl (ad.add (j * 19)) rfl rs _ (HC.out.and HK.out) Try.underlying31 rfl HI.out ?_)
          | (go_at_call 29; (with_reducible refine (HH.out).mono ?_); rintro e w2 ⟨rfl, hK2⟩; replace hK2 := Lib.hid hK2)
          | (refine wpList_load_at rfl 31 (.tmp 21) rfl (ad.add (j * 19)) rfl rs _ (HC.out.and (HK.out.and hK2.out)) Try.underlying31 rfl HI.out ?_)
          | (refine wpList_build_row rfl 22 (.tmp 22) rfl rs rfl 31 i0 (.agg (rtF 0).toArray) 19 Try.underlying22 hi hz0 hz1 rfl (by decide) HCL.out (by decide) w2.heap.size rfl ?_)
          | (at_builtin; refine wpList_app ((HK.out.and hK2.out).alloc _) rfl (.tmp 18) (.tmp 23) 22 rfl 31 i0 (.agg (rtF 0).toArray) 19 40 Try.underlying22 hi hz0 hz1 hz2 rfl (by decide) (.slice A m c) m (flatE rtC us) rfl ((hK2.out.alloc _).own HO.out (fun _ _ q => q)) (some ⟨w2.heap.size, 0, none⟩) 1 1 rs rfl HCL.out (Arr.lit w2 _ _) HCV.out (by omega) (by decide) (m + 1) rfl ?_; intro A3 c3 w3 hown3 hK3 _ _; replace hown3 := Lib.hid hown3; replace hK3 := Lib.hid hK3))
        go_roundw
        case rel => exact ⟨j + 1, m + 1, c3, A3, us ++ [x], by omega, by go_num, rfl, by omega, Lib.hid (by rw [List.length_append, HM.out]; rfl), HS2, Lib.hid (by rw [flatE_snoc, HRX.out]; exact hown3.out), hK3⟩
        case measure => simp [intOf]; omega
    · have hj' : j = n := by omega
      have HF := Lib.hid (show R = us by rw [← HR.out, ← HU.out, List.take_of_length_le (by rw [HN.out]; omega)])
      go_wp2
      go_ret
      exact joinedR_of (by rw [HF.out]; exact HM.out) (by rw [HF.out]) HO.out HK.out _ rfl

end Go.Proofs.Ytkkfigdfgagimaa
