/- The reference's prefixes: Read: its contracts by walking the Go text. -/
import Derived.Test.YtkkfigdfgagimaaRPreC
import Derived.Test.YtkkfigdfgagimaaRNum
import Derived.Test.YtkkfigdfgagimaaPreF
namespace Go.Proofs.Ytkkfigdfgagimaa
open Go.RowKit
set_option linter.unusedVariables false
set_option linter.unusedSimpArgs false

/-- Three results, the first two of which are whole rows. -/
theorem results_rows_tmp {P : Program} {fn : Func} {p q u : Tmp} {ty tz : TypeId} (h : fn.results = #[.cell p ty, .cell q tz, .tmp u]) (tmps : Array Value) (w : World) (g g' : Nat) (t t' : TypeId) (cs ds : Array Value) (fr fr' : Nat × Nat) (d d' : TypeDesc)
    (hp : tmps.getD p undef = .pointer (some ⟨g, 0, none⟩)) (hg : w.heap[g]? = some (.cells cs t fr)) (hq : tmps.getD q undef = .pointer (some ⟨g', 0, none⟩)) (hg' : w.heap[g']? = some (.cells ds t' fr'))
    (hu : P.underlying ty = some d) (hd : (match d with | .struct _ | .array _ _ => true | _ => false) = true) (hi : (P.info? ty).map (·.size) = some cs.size)
    (hu' : P.underlying tz = some d') (hd' : (match d' with | .struct _ | .array _ _ => true | _ => false) = true) (hi' : (P.info? tz).map (·.size) = some ds.size) :
    (results fn tmps).run P w = .ok (.tuple #[.agg cs, .agg ds, tmps.getD u undef]) w := by
  have hp' : tmps[p]?.getD undef = .pointer (some ⟨g, 0, none⟩) := by simpa using hp
  have hq' : tmps[q]?.getD undef = .pointer (some ⟨g', 0, none⟩) := by simpa using hq
  simp only [results, h]
  simp [hp', hq', asAddr, run_loadVar_row w g t ty cs fr d hg hu hd hi, run_loadVar_row w g' t' tz ds fr' d' hg' hu' hd' hi', Sem.run_bind, Result.andThen]

theorem rv_one (A : Option Addr) (n c : Nat) (t : Int) : (#[Value.slice A n c, Value.int .i64 t] : Array Value).all (·.oneCell') = true := by simp [Value.oneCell']
theorem infoRdr : (Try.prog.info? 69).map (·.size) = some 2 := by kernel_rfl

def RPReadNo (w : World) (e : Ending) (w' : World) : Prop := ∃ A n c t, e = .returned (.tuple #[rv A n c t, zeroP.val, .bool false]) ∧ Kp NoB w w'
def RPReadYes (A : Option Addr) (n c : Nat) (t : Int) (p : PreI) (w : World) (e : Ending) (w' : World) : Prop := e = .returned (.tuple #[rv A n c t, p.val, .bool true]) ∧ Kp NoB w w'

/-- Where reading stands behind the first number: the reader's block, and those of the results. -/
theorem rp_num {w w1 : World} {A : Option Addr} {n c : Nat} {t : Int} (k : Kp NoB (((w.alloc (.cells #[.slice A n c, .int .i64 t] 69)).alloc (.cells #[.slice none 0 0, .int .i64 0] 69)).alloc (.cells (preF 0 0).toArray 29)) w1) :
    Bk w1 w.heap.size 69 #[.slice A n c, .int .i64 t] ∧ Bk w1 (w.heap.size + 1) 69 #[.slice none 0 0, .int .i64 0] ∧ Bk w1 (w.heap.size + 1 + 1) 29 (preF 0 0).toArray ∧ Kp NoB w w1 :=
  ⟨(((Bk.fresh w 69 #[.slice A n c, .int .i64 t]).alloc _).alloc _).and k, ((Bk.second w _ 69 #[.slice none 0 0, .int .i64 0]).alloc _).and k, (Bk.third w _ _ 29 (preF 0 0).toArray).and k, (((((Kp.refl NoB w).alloc _).alloc _).alloc _)).and k⟩

set_option maxRecDepth 100000 in
set_option maxHeartbeats 4000000 in
theorem rpread_no0 (fam : Int) (A : Option Addr) (c : Nat) (t : Int) (w : World) :
    Calls Try.prog 40 #[.int .i64 fam, rv A 0 c t] w (RPReadNo w) := by
  have HN := Lib.hid (fun w => rnumber_short A 0 c t 1 w (by decide) (by decide) (by decide))
  have HI18 := Lib.hid (size_of infoPre).2
  have HIR := Lib.hid infoRdr
  have HO := Lib.hid (show (preF 0 0).toArray.all (·.oneCell') = true from all_oneCell_toArray (preC_one zeroP))
  have hv : zeroP.val = .agg (preF 0 0).toArray := rfl
  unfold RPReadNo
  rw [hv]
  unfold rv at HN ⊢
  obtain ⟨Z, hZ⟩ : ∃ Z, (preF 0 0).toArray = Z := ⟨_, rfl⟩
  have HZ := Lib.hid hZ
  have HZL : Hid (Z.size = 18) := Lib.hid (by rw [← hZ]; rfl)
  rw [hZ] at HO
  clear hv hZ
  go_enter Try.func40, Try.ntmps40
  go_wp2_with (first
    | (go_at_call 39; (with_reducible refine (HN.out _).mono ?_); rintro e w1 ⟨rfl, hK1⟩; obtain ⟨b0, b1, b2, k1⟩ := rp_num hK1; rw [HZ.out] at b2; replace b0 := Lib.hid b0; replace b1 := Lib.hid b1; replace b2 := Lib.hid b2; replace k1 := Lib.hid k1; clear hK1)
    | (refine wpList_store_row rfl 69 (.tmp 3) (.tmp 17) rfl w.heap.size #[.slice A 0 c, .int .i64 t] rfl rfl 69 _ b0.out HIR.out rfl (rv_one _ _ _ _) ?_; have c0 := Lib.hid (b0.out.row #[.slice A 0 c, .int .i64 t]); have c1 := Lib.hid (b1.out.row_far (g := w.heap.size) (by omega) #[.slice A 0 c, .int .i64 t]); have c2 := Lib.hid (b2.out.row_far (g := w.heap.size) (by omega) #[.slice A 0 c, .int .i64 t]))
    | (refine wpList_load_row rfl 69 (.tmp 3) rfl w.heap.size rfl 69 _ (0, 0) _ c0.out Try.underlying69 rfl HIR.out ?_)
    | (refine wpList_store_row rfl 69 (.tmp 4) (.tmp 29) rfl (w.heap.size + 1) #[.slice A 0 c, .int .i64 t] rfl rfl 69 _ c1.out HIR.out rfl (rv_one _ _ _ _) ?_; have d1 := Lib.hid (c1.out.row #[.slice A 0 c, .int .i64 t]); have d2 := Lib.hid (c2.out.row_far (g := w.heap.size + 1) (by omega) #[.slice A 0 c, .int .i64 t]))
    | (refine wpList_store_row rfl 29 (.tmp 5) (.tmp 30) rfl (w.heap.size + 1 + 1) Z rfl ?_ 29 Z d2.out (by rw [HZL.out]; exact HI18.out) rfl HO.out ?_; rw [← HZ.out]; rfl))
  refine bodyPost_ret (v := .tuple #[.agg #[.slice A 0 c, .int .i64 t], .agg Z, .bool false]) (results_rows_tmp (fn := Try.f40) rfl _ _ (w.heap.size + 1) (w.heap.size + 1 + 1) 69 29 #[.slice A 0 c, .int .i64 t] Z (0, 0) (0, 0) _ _ rfl (d1.out.row_far (g := w.heap.size + 1 + 1) (by omega) Z) rfl (d2.out.row Z) Try.underlying69 rfl HIR.out Try.underlying29 rfl (by rw [HZL.out]; exact HI18.out)) rfl ⟨A, 0, c, t, by rw [← HZ.out], ?_⟩
  exact Kp.row (Kp.row (Kp.row k1.out (fun h => by omega) _) (fun h => by omega) _) (fun h => by omega) _

set_option maxRecDepth 100000 in
set_option maxHeartbeats 4000000 in
theorem rpread_no1 (fam l : Int) (zs : List Int) (A : Option Addr) (c t : Nat) (w : World) (ha : Arr w A (bs (l :: zs))) (hb : IsB (l :: zs)) (hn : (l :: zs).length ≤ c) (hc : c ≤ 9223372036854775807) (ht : t + (l :: zs).length ≤ 140737488355328) (hg : ¬ l ≤ mostI fam) :
    Calls Try.prog 40 #[.int .i64 fam, rv A (l :: zs).length c t] w (RPReadNo w) := by
  have HN := Lib.hid (fun (w : World) (ha : Arr w A (bs (l :: zs))) => rnumber_yes A c t 1 (l :: zs) w (by decide) (by decide) (by simp) hn hc ht ha hb)
  have hl := hb l (by simp)
  have HM := Lib.hid (fun w => rmost_any fam w)
  have hmb := most_bd fam
  obtain ⟨mo, hmo⟩ : ∃ mo, mostI fam = mo := ⟨_, rfl⟩
  rw [hmo] at HM hmb hg
  have hlt : mo < l := by omega
  have HI18 := Lib.hid (size_of infoPre).2
  have HIR := Lib.hid infoRdr
  have HO := Lib.hid (show (preF 0 0).toArray.all (·.oneCell') = true from all_oneCell_toArray (preC_one zeroP))
  have hv : zeroP.val = .agg (preF 0 0).toArray := rfl
  unfold RPReadNo
  unfold RNumYes at HN
  rw [show big (List.take 1 (l :: zs)) = l by simp [big]] at HN
  rw [hv]
  unfold rv at HN ⊢
  obtain ⟨n, hnn⟩ : ∃ n, (l :: zs).length = n := ⟨_, rfl⟩
  rw [hnn] at HN ⊢
  obtain ⟨B, hB⟩ : ∃ B, cutA A 1 c = B := ⟨_, rfl⟩
  obtain ⟨m, hm⟩ : ∃ m, n - 1 = m := ⟨_, rfl⟩
  obtain ⟨d, hd⟩ : ∃ d, c - 1 = d := ⟨_, rfl⟩
  obtain ⟨t1, ht1⟩ : ∃ t1 : Int, (t : Int) + ((1 : Nat) : Int) = t1 := ⟨_, rfl⟩
  rw [hB, hm, hd, ht1] at HN
  obtain ⟨Z, hZ⟩ : ∃ Z, (preF 0 0).toArray = Z := ⟨_, rfl⟩
  have HZ := Lib.hid hZ
  have HZL : Hid (Z.size = 18) := Lib.hid (by rw [← hZ]; rfl)
  rw [hZ] at HO
  have HA := Lib.hid ha
  clear hv hZ hn hc ht ha hb hg hmo hB hm hd ht1 hnn
  go_enter Try.func40, Try.ntmps40
  go_wp2_with (first
    | (go_at_call 39; (refine (HN.out _ (((HA.out.alloc _).alloc _).alloc _)).mono ?_); rintro e w1 ⟨rfl, hK1⟩; obtain ⟨b0, b1, b2, k1⟩ := rp_num hK1; rw [HZ.out] at b2; replace b0 := Lib.hid b0; replace b1 := Lib.hid b1; replace b2 := Lib.hid b2; replace k1 := Lib.hid k1; clear hK1)
    | (go_at_call 60; (with_reducible refine (HM.out _).mono ?_); rintro e w2 ⟨rfl, rfl⟩)
    | (refine wpList_store_row rfl 69 (.tmp 3) (.tmp 17) rfl w.heap.size #[.slice B m d, .int .i64 t1] rfl rfl 69 _ b0.out HIR.out rfl (rv_one _ _ _ _) ?_; have c0 := Lib.hid (b0.out.row #[.slice B m d, .int .i64 t1]); have c1 := Lib.hid (b1.out.row_far (g := w.heap.size) (by omega) #[.slice B m d, .int .i64 t1]); have c2 := Lib.hid (b2.out.row_far (g := w.heap.size) (by omega) #[.slice B m d, .int .i64 t1]))
    | (refine wpList_load_row rfl 69 (.tmp 3) rfl w.heap.size rfl 69 _ (0, 0) _ c0.out Try.underlying69 rfl HIR.out ?_)
    | (refine wpList_store_row rfl 69 (.tmp 4) (.tmp 29) rfl (w.heap.size + 1) #[.slice B m d, .int .i64 t1] rfl rfl 69 _ c1.out HIR.out rfl (rv_one _ _ _ _) ?_; have d1 := Lib.hid (c1.out.row #[.slice B m d, .int .i64 t1]); have d2 := Lib.hid (c2.out.row_far (g := w.heap.size + 1) (by omega) #[.slice B m d, .int .i64 t1]))
    | (refine wpList_store_row rfl 29 (.tmp 5) (.tmp 30) rfl (w.heap.size + 1 + 1) Z rfl ?_ 29 Z d2.out (by rw [HZL.out]; exact HI18.out) rfl HO.out ?_; rw [← HZ.out]; rfl))
  refine bodyPost_ret (v := .tuple #[.agg #[.slice B m d, .int .i64 t1], .agg Z, .bool false]) (results_rows_tmp (fn := Try.f40) rfl _ _ (w.heap.size + 1) (w.heap.size + 1 + 1) 69 29 #[.slice B m d, .int .i64 t1] Z (0, 0) (0, 0) _ _ rfl (d1.out.row_far (g := w.heap.size + 1 + 1) (by omega) Z) rfl (d2.out.row Z) Try.underlying69 rfl HIR.out Try.underlying29 rfl (by rw [HZL.out]; exact HI18.out)) rfl ⟨B, m, d, t1, by rw [← HZ.out], ?_⟩
  exact Kp.row (Kp.row (Kp.row k1.out (fun h => by omega) _) (fun h => by omega) _) (fun h => by omega) _

set_option maxRecDepth 100000 in
set_option maxHeartbeats 4000000 in
theorem rpread_no2 (fam l : Int) (zs : List Int) (A : Option Addr) (c t : Nat) (w : World) (ha : Arr w A (bs (l :: zs))) (hb : IsB (l :: zs)) (hn : (l :: zs).length ≤ c) (hc : c ≤ 9223372036854775807) (ht : t + (l :: zs).length ≤ 140737488355328) (hg : l ≤ mostI fam) (hs : zs.length < needN l) :
    Calls Try.prog 40 #[.int .i64 fam, rv A (l :: zs).length c t] w (RPReadNo w) := by
  have HN := Lib.hid (fun (w : World) (ha : Arr w A (bs (l :: zs))) => rnumber_yes A c t 1 (l :: zs) w (by decide) (by decide) (by simp) hn hc ht ha hb)
  have hl := hb l (by simp)
  have HM := Lib.hid (fun w => rmost_any fam w)
  have hmb := most_bd fam
  obtain ⟨mo, hmo⟩ : ∃ mo, mostI fam = mo := ⟨_, rfl⟩
  rw [hmo] at HM hmb hg
  have hnq := needN_eq hl.1
  obtain ⟨q, hq⟩ : ∃ q, needN l = q := ⟨_, rfl⟩
  rw [hq] at hnq hs
  have HI18 := Lib.hid (size_of infoPre).2
  have HIR := Lib.hid infoRdr
  have HO := Lib.hid (show (preF 0 0).toArray.all (·.oneCell') = true from all_oneCell_toArray (preC_one zeroP))
  have hv : zeroP.val = .agg (preF 0 0).toArray := rfl
  unfold RPReadNo
  unfold RNumYes at HN
  rw [show big (List.take 1 (l :: zs)) = l by simp [big]] at HN
  rw [hv]
  obtain ⟨n, hnn⟩ : ∃ n, (l :: zs).length = n := ⟨_, rfl⟩
  rw [hnn] at HN ⊢
  obtain ⟨B, hB⟩ : ∃ B, cutA A 1 c = B := ⟨_, rfl⟩
  obtain ⟨m, hm⟩ : ∃ m, n - 1 = m := ⟨_, rfl⟩
  have hmz : zs.length = m := by rw [← hm, ← hnn]; simp
  obtain ⟨d, hd⟩ : ∃ d, c - 1 = d := ⟨_, rfl⟩
  obtain ⟨t1, ht1⟩ : ∃ t1 : Int, (t : Int) + ((1 : Nat) : Int) = t1 := ⟨_, rfl⟩
  rw [hB, hm, hd, ht1] at HN
  rw [hmz] at hs
  have HT := Lib.hid (fun w => rtake_no B m d t1 q w (.inr (by omega)))
  unfold rv at HN HT ⊢
  obtain ⟨Z, hZ⟩ : ∃ Z, (preF 0 0).toArray = Z := ⟨_, rfl⟩
  have HZ := Lib.hid hZ
  have HZL : Hid (Z.size = 18) := Lib.hid (by rw [← hZ]; rfl)
  rw [hZ] at HO
  have HA := Lib.hid ha
  clear hv hZ hn hc ht ha hb hmo hB hm hd ht1 hnn hs hq hmz
  go_enter Try.func40, Try.ntmps40
  go_wp2_with (first
    | (go_at_call 39; (refine (HN.out _ (((HA.out.alloc _).alloc _).alloc _)).mono ?_); rintro e w1 ⟨rfl, hK1⟩; obtain ⟨b0, b1, b2, k1⟩ := rp_num hK1; rw [HZ.out] at b2; replace b0 := Lib.hid b0; replace b1 := Lib.hid b1; replace b2 := Lib.hid b2; replace k1 := Lib.hid k1; clear hK1)
    | (go_at_call 60; (with_reducible refine (HM.out _).mono ?_); rintro e w2 ⟨rfl, rfl⟩)
    | (refine wpList_store_row rfl 69 (.tmp 3) (.tmp 17) rfl w.heap.size #[.slice B m d, .int .i64 t1] rfl rfl 69 _ b0.out HIR.out rfl (rv_one _ _ _ _) ?_; have c0 := Lib.hid (b0.out.row #[.slice B m d, .int .i64 t1]); have c1 := Lib.hid (b1.out.row_far (g := w.heap.size) (by omega) #[.slice B m d, .int .i64 t1]); have c2 := Lib.hid (b2.out.row_far (g := w.heap.size) (by omega) #[.slice B m d, .int .i64 t1]); have kc := Lib.hid (Kp.row k1.out (g := w.heap.size) (fun h => by omega) #[.slice B m d, .int .i64 t1]))
    | (refine wpList_load_row rfl 69 (.tmp 3) rfl w.heap.size rfl 69 _ (0, 0) _ c0.out Try.underlying69 rfl HIR.out ?_)
    | (go_at_call 58; (refine (HT.out _).mono ?_); rintro e w3 ⟨rfl, hK3⟩; replace c0 := Lib.hid ((c0.out.and hK3).alloc (.cells #[.slice B m d, .int .i64 t1] 69)); replace c1 := Lib.hid ((c1.out.and hK3).alloc (.cells #[.slice B m d, .int .i64 t1] 69)); replace c2 := Lib.hid ((c2.out.and hK3).alloc (.cells #[.slice B m d, .int .i64 t1] 69)); replace kc := Lib.hid ((kc.out.and hK3).alloc (.cells #[.slice B m d, .int .i64 t1] 69)); clear hK3)
    | (refine wpList_store_new (w := w3) rfl 69 (.tmp 9) (.tmp 38) rfl #[.slice none 0 0, .int .i64 0] #[.slice B m d, .int .i64 t1] rfl rfl 69 HIR.out rfl (rv_one _ _ _ _) ?_)
    | (refine wpList_store_row rfl 69 (.tmp 4) (.tmp 43) rfl (w.heap.size + 1) #[.slice B m d, .int .i64 t1] rfl rfl 69 _ c1.out HIR.out rfl (rv_one _ _ _ _) ?_; have d1 := Lib.hid (c1.out.row #[.slice B m d, .int .i64 t1]); have d2 := Lib.hid (c2.out.row_far (g := w.heap.size + 1) (by omega) #[.slice B m d, .int .i64 t1]))
    | (refine wpList_store_row rfl 29 (.tmp 5) (.tmp 44) rfl (w.heap.size + 1 + 1) Z rfl ?_ 29 Z d2.out (by rw [HZL.out]; exact HI18.out) rfl HO.out ?_; rw [← HZ.out]; rfl))
  refine bodyPost_ret (v := .tuple #[.agg #[.slice B m d, .int .i64 t1], .agg Z, .bool false]) (results_rows_tmp (fn := Try.f40) rfl _ _ (w.heap.size + 1) (w.heap.size + 1 + 1) 69 29 #[.slice B m d, .int .i64 t1] Z (0, 0) (0, 0) _ _ rfl (d1.out.row_far (g := w.heap.size + 1 + 1) (by omega) Z) rfl (d2.out.row Z) Try.underlying69 rfl HIR.out Try.underlying29 rfl (by rw [HZL.out]; exact HI18.out)) rfl ⟨B, m, d, t1, by rw [← HZ.out], ?_⟩
  exact Kp.row (Kp.row kc.out (fun h => by omega) _) (fun h => by omega) _

end Go.Proofs.Ytkkfigdfgagimaa
