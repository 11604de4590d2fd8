/- The reference's prefixes: Read where it succeeds: its contract by walking the Go text. -/
import Derived.Test.YtkkfigdfgagimaaRPreD
import Derived.Deep.RegionHeld3
namespace Go.Proofs.Ytkkfigdfgagimaa
open Go.RowKit
set_option linter.unusedVariables false
set_option linter.unusedSimpArgs false

theorem need_most {fam l : Int} (h0 : 0 ≤ l) (h : l ≤ mostI fam) : 8 * (needN l : Int) ≤ mostI fam := by
  unfold mostI at h ⊢
  unfold needN
  split at h
  · omega
  · split at h <;> omega

set_option maxRecDepth 100000 in
set_option maxHeartbeats 4000000 in
theorem rpread_yes (fam l : Int) (zs : List Int) (A : Option Addr) (c t : Nat) (w : World) (ha : Arr w A (bs (l :: zs))) (hb : IsB (l :: zs)) (hn : (l :: zs).length ≤ c) (hc : c ≤ 9223372036854775807) (ht : t + (l :: zs).length ≤ 140737488355328) (hg : l ≤ mostI fam) (hs : needN l ≤ zs.length) :
    Calls Try.prog 40 #[.int .i64 fam, rv A (l :: zs).length c t] w (RPReadYes (cutA (cutA A 1 c) (needN l) (c - 1)) (zs.length - needN l) (c - 1 - needN l) (t + 1 + needN l) (makeP fam l (zs.take (needN l))) w) := by
  have HN := Lib.hid (fun (w : World) (ha : Arr w A (bs (l :: zs))) => rnumber_yes A c t 1 (l :: zs) w (by decide) (by decide) (by simp) hn hc ht ha hb)
  have hl := hb l (by simp)
  have hzB : IsB zs := fun x hx => hb x (by simp [hx])
  have hnm := need_most hl.1 hg
  have HM := Lib.hid (fun w => rmost_any fam w)
  have hmb := most_bd fam
  have hnq := needN_eq hl.1
  obtain ⟨q, hq⟩ : ∃ q, needN l = q := ⟨_, rfl⟩
  rw [hq] at hnq hs hnm ⊢
  have hln : (zs.take q).length = q := by rw [List.length_take]; omega
  have HMK := Lib.hid (fun (B : Option Addr) (d : Nat) (w : World) (h : Arr w B (bs (zs.take q))) => rmake_yes fam l B d (zs.take q) w h (hzB.take q) hl.1 hg (by rw [hln]; exact hnm))
  rw [hln] at HMK
  have HT := Lib.hid (fun w => rtake_yes (cutA A 1 c) zs.length (c - 1) (t + 1) q w hs (by simp at hn; omega) (by omega) (by simp at ht; omega))
  obtain ⟨mo, hmo⟩ : ∃ mo, mostI fam = mo := ⟨_, rfl⟩
  rw [hmo] at HM hmb hg
  have HI18 := Lib.hid (size_of infoPre).2
  have HIR := Lib.hid infoRdr
  have HAT := Lib.hid (fun (w : World) (ha : Arr w A (bs (l :: zs))) => (show Arr w (cutA A 1 c) (bs (zs.take q)) from by
    have h1 := (ha.drop (n := 1) (c := c) (by rw [bs_length]; exact hn)).take q
    rw [bs_take]
    simpa [bs] using h1))
  have hpc : (preC (makeP fam l (zs.take q))).length = 18 := preC_length (mkTo_length _ _ _)
  have HPO := Lib.hid (all_oneCell_toArray (preC_one (makeP fam l (zs.take q))))
  unfold RPReadYes
  unfold RNumYes at HN
  unfold RTakeYes at HT
  unfold PreI.val at HMK ⊢
  obtain ⟨cP, hcP⟩ : ∃ cP, preC (makeP fam l (zs.take q)) = cP := ⟨_, rfl⟩
  rw [hcP] at HMK hpc HPO ⊢
  have HPC := Lib.hid hpc
  rw [show big (List.take 1 (l :: zs)) = l by simp [big]] at HN
  obtain ⟨n, hnn⟩ : ∃ n, (l :: zs).length = n := ⟨_, rfl⟩
  rw [hnn] at HN ⊢
  have hmz : n - 1 = zs.length := by rw [← hnn]; simp
  rw [hmz] at HN
  obtain ⟨B, hB⟩ : ∃ B, cutA A 1 c = B := ⟨_, rfl⟩
  obtain ⟨m, hm⟩ : ∃ m, zs.length = m := ⟨_, rfl⟩
  obtain ⟨d, hd⟩ : ∃ d, c - 1 = d := ⟨_, rfl⟩
  rw [hB, hm, hd] at HN HT ⊢
  rw [hB] at HAT
  obtain ⟨C, hC⟩ : ∃ C, cutA B q d = C := ⟨_, rfl⟩
  obtain ⟨m2, hm2⟩ : ∃ m2, m - q = m2 := ⟨_, rfl⟩
  obtain ⟨d2, hd2⟩ : ∃ d2, d - q = d2 := ⟨_, rfl⟩
  obtain ⟨t2, ht2⟩ : ∃ t2 : Int, (t : Int) + 1 + (q : Int) = t2 := ⟨_, rfl⟩
  obtain ⟨t1, ht1⟩ : ∃ t1 : Int, (t : Int) + ((1 : Nat) : Int) = t1 := ⟨_, rfl⟩
  rw [hC, hm2, hd2, show (((t + 1 : Nat) : Int) + (q : Int)) = t2 by rw [← ht2]; push_cast; rfl, show (((t + 1 : Nat)) : Int) = t1 by rw [← ht1]; push_cast; rfl] at HT
  rw [hC, hm2, hd2, ht2]
  rw [ht1] at HN
  unfold rv at HN HT ⊢
  obtain ⟨Z, hZ⟩ : ∃ Z, (preF 0 0).toArray = Z := ⟨_, rfl⟩
  have HZ := Lib.hid hZ
  have HZL : Hid (Z.size = 18) := Lib.hid (by rw [← hZ]; rfl)
  have HA := Lib.hid ha
  clear hn hc ht ha hb hmo hB hm hd ht1 ht2 hd2 hm2 hC hnn hs hq hmz hcP hpc hln hnm hzB hZ
  go_enter Try.func40, Try.ntmps40
  go_wp2_with (first
    | (go_at_call 39; (refine (HN.out _ (((HA.out.alloc _).alloc _).alloc _)).mono ?_); rintro e w1 ⟨rfl, hK1⟩; obtain ⟨b0, b1, b2, k1⟩ := rp_num hK1; rw [HZ.out] at b2; replace b0 := Lib.hid b0; replace b1 := Lib.hid b1; replace b2 := Lib.hid b2; replace k1 := Lib.hid k1; clear hK1)
    | (go_at_call 60; (with_reducible refine (HM.out _).mono ?_); rintro e w2 ⟨rfl, rfl⟩)
    | (refine wpList_store_row rfl 69 (.tmp 3) (.tmp 17) rfl w.heap.size #[.slice B m d, .int .i64 t1] rfl rfl 69 _ b0.out HIR.out rfl (rv_one _ _ _ _) ?_; have c0 := Lib.hid (b0.out.row #[.slice B m d, .int .i64 t1]); have c1 := Lib.hid (b1.out.row_far (g := w.heap.size) (by omega) #[.slice B m d, .int .i64 t1]); have c2 := Lib.hid (b2.out.row_far (g := w.heap.size) (by omega) #[.slice B m d, .int .i64 t1]); have kc := Lib.hid (Kp.row k1.out (g := w.heap.size) (fun h => by omega) #[.slice B m d, .int .i64 t1]))
    | (refine wpList_load_row rfl 69 (.tmp 3) rfl w.heap.size rfl 69 _ (0, 0) _ c0.out Try.underlying69 rfl HIR.out ?_)
    | (go_at_call 58; (refine (HT.out _).mono ?_); rintro e w3 ⟨rfl, hK3⟩; have e1 := Lib.hid ((c1.out.and hK3).alloc (.cells #[.slice C m2 d2, .int .i64 t2] 69)); have e2 := Lib.hid ((c2.out.and hK3).alloc (.cells #[.slice C m2 d2, .int .i64 t2] 69)); have ke := Lib.hid ((kc.out.and hK3).alloc (.cells #[.slice C m2 d2, .int .i64 t2] 69)); have e9 := Lib.hid (Bk.fresh w3 69 #[.slice C m2 d2, .int .i64 t2]); have HW3 := Lib.hid (show w.heap.size + 1 + 1 < w3.heap.size from Nat.lt_of_lt_of_le c2.out.lt hK3.size); clear hK3)
    | (refine wpList_store_new (w := w3) rfl 69 (.tmp 9) (.tmp 38) rfl #[.slice none 0 0, .int .i64 0] #[.slice C m2 d2, .int .i64 t2] rfl rfl 69 HIR.out rfl (rv_one _ _ _ _) ?_)
    | (go_at_call 61; (refine (HMK.out B d _ (HAT.out _ (HA.out.and ke.out))).mono ?_); rintro e w4 ⟨rfl, hK4⟩; have f1 := Lib.hid ((e1.out.and hK4).alloc (.cells cP.toArray 29)); have f2 := Lib.hid ((e2.out.and hK4).alloc (.cells cP.toArray 29)); have kf := Lib.hid ((ke.out.and hK4).alloc (.cells cP.toArray 29)); have f9 := Lib.hid ((e9.out.and hK4).alloc (.cells cP.toArray 29)); have f12 := Lib.hid (Bk.fresh w4 29 cP.toArray); have HK4 := Lib.hid hK4; clear hK4)
    | (refine wpList_store_new (w := w4) rfl 29 (.tmp 12) (.tmp 51) rfl (preF 0 0).toArray cP.toArray rfl rfl 29 (by rw [List.size_toArray, HPC.out]; exact HI18.out) (by rw [HZ.out, HZL.out, List.size_toArray, HPC.out]) HPO.out ?_))
  have hG : Hid (w.heap.size + 1 + 1 < w3.heap.size ∧ w3.heap.size ≤ w4.heap.size) := Lib.hid ⟨HW3.out, by have h := HK4.out.size; rw [World.size_alloc] at h; omega⟩
  have hw34 : w3.heap.size < (w4.alloc (.cells cP.toArray 29)).heap.size := f9.out.lt
  obtain ⟨W, hW⟩ : ∃ W, w4.alloc (.cells cP.toArray 29) = W := ⟨_, rfl⟩
  rw [hW] at f1 f2 kf f9 f12 ⊢
  obtain ⟨g9, hg9⟩ : ∃ g, w3.heap.size = g := ⟨_, rfl⟩
  obtain ⟨g12, hg12⟩ : ∃ g, w4.heap.size = g := ⟨_, rfl⟩
  rw [hg9, hg12]
  rw [hg9] at f9 hG
  rw [hg12] at f12 hG
  clear hW hg9 hg12 e1 e2 ke e9 c0 c1 c2 kc b0 b1 b2 k1 hw34 HW3 HK4
  refine wp_region_noPanic ?_
  refine wp_region_held_drew (S := fun w' => Bk w' g9 69 #[.slice C m2 d2, .int .i64 t2] ∧ Bk w' g12 29 cP.toArray) (by kernel_rfl) ?_ (fun hHeld => ?_)
  · exact ⟨f9.out.drew, f12.out.drew⟩
  refine wpAnyH_take (i := 0) (oi := ⟨some 53, _, _, _, _, _⟩) (v := .agg #[.slice C m2 d2, .int .i64 t2]) rfl (by kernel_rfl) (by kernel_rfl) (by kernel_rfl) (fun _ _ _ h => h) (yieldsIf_load_at (by rfl) 69 _ rfl ⟨g9, 0, none⟩ rfl [.slice C m2 d2, .int .i64 t2] _ (fun w hSw => CellsAt.of_bk hSw.1) Try.underlying69 rfl HIR.out) (by assumption) ?_
  try simp only [Act.put, List.setIfInBounds_toArray, List.set_cons_zero, List.set_cons_succ]
  refine wpAnyH_take (i := 1) (oi := ⟨some 54, _, _, _, _, _⟩) (v := .agg cP.toArray) rfl (by kernel_rfl) (by kernel_rfl) (by kernel_rfl) (fun _ _ _ h => h) (yieldsIf_load_at (by rfl) 29 _ rfl ⟨g12, 0, none⟩ rfl cP _ (fun w hSw => CellsAt.of_bk hSw.2) Try.underlying29 rfl (by rw [HPC.out]; exact HI18.out)) (by assumption) ?_
  try simp only [Act.put, List.setIfInBounds_toArray, List.set_cons_zero, List.set_cons_succ]
  refine wpAnyH_ready (rs := [2]) (by kernel_rfl) (by simp) ?_
  refine AllReadyH.cons (o := ⟨none, _, _, _, _, _⟩) rfl (fun K hK => ?_) AllReadyH.nil
  rw [if_pos (by rfl)]
  refine wp_store_row 69 (.tmp 4) (.tmp 53) rfl (w.heap.size + 1) #[.slice C m2 d2, .int .i64 t2] rfl rfl 69 _ f1.out.drew HIR.out rfl (rv_one _ _ _ _) ?_
  refine hK.out _ _ ?_ (fun hHeld => ?_)
  · exact ⟨f9.out.drew.row_far (g := w.heap.size + 1) (by have := hG.out; omega) _, f12.out.drew.row_far (g := w.heap.size + 1) (by have := hG.out; omega) _⟩
  clear hK K
  try simp only [Act.put, List.setIfInBounds_toArray, List.set_cons_zero, List.set_cons_succ]
  refine wpAnyH_ready (rs := [3]) (by kernel_rfl) (by simp) ?_
  refine AllReadyH.cons (o := ⟨none, _, _, _, _, _⟩) rfl (fun K hK => ?_) AllReadyH.nil
  rw [if_pos (by rfl)]
  refine wp_store_row 29 (.tmp 5) (.tmp 54) rfl (w.heap.size + 1 + 1) cP.toArray rfl rfl 29 _ (f2.out.drew.row_far (g := w.heap.size + 1) (by omega) _) (by rw [List.size_toArray, HPC.out]; exact HI18.out) (by rw [HZL.out, List.size_toArray, HPC.out]) HPO.out ?_
  refine hK.out _ _ ?_ (fun hHeld => ?_)
  · exact ⟨(f9.out.drew.row_far (g := w.heap.size + 1) (by have := hG.out; omega) _).row_far (g := w.heap.size + 1 + 1) (by have := hG.out; omega) _, (f12.out.drew.row_far (g := w.heap.size + 1) (by have := hG.out; omega) _).row_far (g := w.heap.size + 1 + 1) (by have := hG.out; omega) _⟩
  clear hK K
  try simp only [Act.put, List.setIfInBounds_toArray, List.set_cons_zero, List.set_cons_succ]
  refine wpAnyH_take (i := 4) (oi := ⟨some 6, _, _, _, _, _⟩) (v := .bool true) rfl (by kernel_rfl) (by kernel_rfl) (by kernel_rfl) (fun _ _ _ h => h) (Or.inl ⟨by rfl, fun w hSw => ?_⟩) (by assumption) ?_
  · go_simp
  try simp only [Act.put, List.setIfInBounds_toArray, List.set_cons_zero, List.set_cons_succ]
  refine wpAnyH_done (by kernel_rfl) ?_ _
  refine NoPanic.normal ?_
  go_wp2_with fail
  refine bodyPost_ret (v := .tuple #[.agg #[.slice C m2 d2, .int .i64 t2], .agg cP.toArray, .bool true]) (results_rows_tmp (fn := Try.f40) rfl _ _ (w.heap.size + 1) (w.heap.size + 1 + 1) 69 29 #[.slice C m2 d2, .int .i64 t2] cP.toArray (0, 0) (0, 0) _ _ rfl ((f1.out.drew.row _).row_far (g := w.heap.size + 1 + 1) (by omega) _) rfl ((f2.out.drew.row_far (g := w.heap.size + 1) (by omega) _).row _) Try.underlying69 rfl HIR.out Try.underlying29 rfl (by rw [List.size_toArray, HPC.out]; exact HI18.out)) rfl ⟨rfl, ?_⟩
  exact Kp.row (Kp.row kf.out.drew (fun h => by omega) _) (fun h => by omega) _

end Go.Proofs.Ytkkfigdfgagimaa
