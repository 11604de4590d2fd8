/- Package prefix: Read: its contracts by walking the Go text. -/
import Derived.Test.YtkkfigdfgagimaaPreE
import Derived.Test.YtkkfigdfgagimaaRow2
import Derived.Test.YtkkfigdfgagimaaTakeO
namespace Go.Proofs.Ytkkfigdfgagimaa
open Go.RowKit
set_option linter.unusedVariables false
set_option linter.unusedSimpArgs false

/-- The prefix in front of some bytes, and how many of them it takes. -/
def readP (fam : Int) : List Int → Option (PreI × Nat)
  | [] => none
  | l :: zs => if rangedB fam l ∧ needN l ≤ zs.length then some (makeP fam l (zs.take (needN l)), 1 + needN l) else none

theorem need_wid {fam l : Int} (h : rangedB fam l = true) : (needN l : Int) ≤ widI fam := by
  unfold rangedB at h
  simp only [decide_eq_true_eq] at h
  unfold needN
  omega

/-- What Read leaves where it succeeds, and where it fails. -/
def PReadYes (p : PreI) (zs : List Int) (t q r : Nat) (w : World) (e : Ending) (w' : World) : Prop := e = .returned (.tuple #[p.val, .bool true]) ∧ Rd w' q r zs t ∧ Kp (OnB r) w w'
def PReadNo (r : Nat) (w : World) (e : Ending) (w' : World) : Prop := e = .returned (.tuple #[zeroP.val, .bool false]) ∧ Kp (OnB r) w w'

set_option maxRecDepth 100000 in
set_option maxHeartbeats 4000000 in
theorem pread_no0 (fam : Int) (w : World) (q r t : Nat) (h : Rd w q r [] t) :
    Calls Try.prog 36 #[.int .i64 fam, .pointer (some ⟨r, 0, none⟩)] w (PReadNo r w) := by
  have HI18 := Lib.hid (size_of infoPre).2
  have HZ := Lib.hid (Bk.fresh w 29 (preF 0 0).toArray)
  have hv : zeroP.val = .agg (preF 0 0).toArray := rfl
  have HO := Lib.hid (all_oneCell_toArray (preC_one zeroP))
  have hr := h.lt
  have HN := Lib.hid (num1_no (w.alloc (.cells (preF 0 0).toArray 29)) q r t (h.and ((Kp.refl _ _).alloc _)))
  unfold PReadNo
  rw [hv]
  clear h hv
  go_enter Try.func36, Try.ntmps36
  go_wp2_with (first
    | (go_at_call 35; refine HN.out.mono ?_; rintro e w1 ⟨rfl, hK1⟩; have HZ1 := Lib.hid (HZ.out.and hK1); replace hK1 := Lib.hid hK1)
    | (refine wpList_store_row rfl 29 (.tmp 4) (.tmp 23) rfl w.heap.size (preF 0 0).toArray rfl ?_ 29 (preF 0 0).toArray HZ1.out HI18.out rfl HO.out ?_; rfl))
  refine bodyPost_ret (v := .tuple #[.agg (preF 0 0).toArray, .bool false]) (results_row_tmp (fn := Try.f36) rfl _ _ w.heap.size 29 (preF 0 0).toArray (0, 0) _ rfl (HZ1.out.row _) Try.underlying29 rfl HI18.out) rfl ⟨rfl, ?_⟩
  exact Kp.row ((((Kp.refl _ w).alloc _).and hK1.out)) (fun h => by omega) _

set_option maxRecDepth 100000 in
set_option maxHeartbeats 4000000 in
theorem pread_no1 (fam l : Int) (zs : List Int) (w : World) (q r t : Nat) (h : Rd w q r (l :: zs) t) (hg : rangedB fam l = false) :
    Calls Try.prog 36 #[.int .i64 fam, .pointer (some ⟨r, 0, none⟩)] w (PReadNo r w) := by
  have HI18 := Lib.hid (size_of infoPre).2
  have HZ := Lib.hid (Bk.fresh w 29 (preF 0 0).toArray)
  have hv : zeroP.val = .agg (preF 0 0).toArray := rfl
  have HO := Lib.hid (all_oneCell_toArray (preC_one zeroP))
  have hr := h.lt
  have hl := h.isB l (by simp)
  have HN := Lib.hid (num1_yes (w.alloc (.cells (preF 0 0).toArray 29)) q r l zs t (h.and ((Kp.refl _ _).alloc _)))
  have HR := Lib.hid (fun w => ranged_any fam l w)
  rw [hg] at HR
  unfold PReadNo
  rw [hv]
  clear h hv hg
  go_enter Try.func36, Try.ntmps36
  go_wp2_with (first
    | (go_at_call 35; refine HN.out.mono ?_; rintro e w1 ⟨rfl, hR1, hK1⟩; have HZ1 := Lib.hid (HZ.out.keep hK1 (fun e => by unfold OnB at e; omega)); replace hK1 := Lib.hid hK1; clear hR1)
    | (go_at_call 54; (with_reducible refine (HR.out _).mono ?_); rintro e w2 ⟨rfl, rfl⟩)
    | (refine wpList_store_row rfl 29 (.tmp 4) (.tmp 23) rfl w.heap.size (preF 0 0).toArray rfl ?_ 29 (preF 0 0).toArray HZ1.out HI18.out rfl HO.out ?_; rfl))
  refine bodyPost_ret (v := .tuple #[.agg (preF 0 0).toArray, .bool false]) (results_row_tmp (fn := Try.f36) rfl _ _ w.heap.size 29 (preF 0 0).toArray (0, 0) _ rfl (HZ1.out.row _) Try.underlying29 rfl HI18.out) rfl ⟨rfl, ?_⟩
  exact Kp.row ((((Kp.refl _ w).alloc _).same hK1.out)) (fun h => by omega) _

set_option maxRecDepth 100000 in
set_option maxHeartbeats 4000000 in
theorem pread_no2 (fam l : Int) (zs : List Int) (w : World) (q r t : Nat) (h : Rd w q r (l :: zs) t) (hg : rangedB fam l = true) (hs : zs.length < needN l) :
    Calls Try.prog 36 #[.int .i64 fam, .pointer (some ⟨r, 0, none⟩)] w (PReadNo r w) := by
  have HI18 := Lib.hid (size_of infoPre).2
  have HZ := Lib.hid (Bk.fresh w 29 (preF 0 0).toArray)
  have hv : zeroP.val = .agg (preF 0 0).toArray := rfl
  have HO := Lib.hid (all_oneCell_toArray (preC_one zeroP))
  have hr := h.lt
  have hl := h.isB l (by simp)
  have HN := Lib.hid (num1_yes (w.alloc (.cells (preF 0 0).toArray 29)) q r l zs t (h.and ((Kp.refl _ _).alloc _)))
  have HR := Lib.hid (fun w => ranged_any fam l w)
  have HD := Lib.hid (fun w => need_any l w hl.1 (by omega))
  rw [needN_eq hl.1] at HD
  obtain ⟨n, hn⟩ : ∃ n, needN l = n := ⟨_, rfl⟩
  rw [hn] at HD hs
  have HT := Lib.hid (fun (w : World) (hR : Rd w q r zs (t + 1)) => take_no w q r zs (t + 1) n hR (.inr (by omega)))
  rw [hg] at HR
  unfold PReadNo
  rw [hv]
  clear h hv hg hn hs
  go_enter Try.func36, Try.ntmps36
  go_wp2_with (first
    | (go_at_call 35; refine HN.out.mono ?_; rintro e w1 ⟨rfl, hR1, hK1⟩; have HZ1 := Lib.hid (HZ.out.keep hK1 (fun e => by unfold OnB at e; omega)); replace hK1 := Lib.hid hK1; replace hR1 := Lib.hid hR1)
    | (go_at_call 54; (with_reducible refine (HR.out _).mono ?_); rintro e w2 ⟨rfl, rfl⟩)
    | (go_at_call 56; (with_reducible refine (HD.out _).mono ?_); rintro e w2 ⟨rfl, rfl⟩)
    | (go_at_call 55; (refine (HT.out _ hR1.out).mono ?_); rintro e w3 ⟨rfl, hK3⟩; have HZ3 := Lib.hid (HZ1.out.and hK3); replace hK3 := Lib.hid hK3)
    | (refine wpList_store_row rfl 29 (.tmp 4) (.tmp 34) rfl w.heap.size (preF 0 0).toArray rfl ?_ 29 (preF 0 0).toArray HZ3.out HI18.out rfl HO.out ?_; rfl))
  refine bodyPost_ret (v := .tuple #[.agg (preF 0 0).toArray, .bool false]) (results_row_tmp (fn := Try.f36) rfl _ _ w.heap.size 29 (preF 0 0).toArray (0, 0) _ rfl (HZ3.out.row _) Try.underlying29 rfl HI18.out) rfl ⟨rfl, ?_⟩
  exact Kp.row ((((Kp.refl _ w).alloc _).same hK1.out).and hK3.out) (fun h => by omega) _

set_option maxRecDepth 100000 in
set_option maxHeartbeats 4000000 in
theorem pread_yes (fam l : Int) (zs : List Int) (w : World) (q r t : Nat) (h : Rd w q r (l :: zs) t) (hg : rangedB fam l = true) (hs : needN l ≤ zs.length) :
    Calls Try.prog 36 #[.int .i64 fam, .pointer (some ⟨r, 0, none⟩)] w (PReadYes (makeP fam l (zs.take (needN l))) (zs.drop (needN l)) (t + 1 + needN l) q r w) := by
  have HI18 := Lib.hid (size_of infoPre).2
  have HZ := Lib.hid (Bk.fresh w 29 (preF 0 0).toArray)
  have hr := h.lt
  have hq := h.lt_q (by simp)
  have hl := h.isB l (by simp)
  have hzB : IsB zs := fun x hx => h.isB x (by simp [hx])
  have hwd := need_wid hg
  have hn16 := needN_le hl.1 (ranged_bd hg).2
  have HN := Lib.hid (num1_yes (w.alloc (.cells (preF 0 0).toArray 29)) q r l zs t (h.and ((Kp.refl _ _).alloc _)))
  have HR := Lib.hid (fun w => ranged_any fam l w)
  have HD := Lib.hid (fun w => need_any l w hl.1 (by omega))
  rw [needN_eq hl.1] at HD
  obtain ⟨n, hn⟩ : ∃ n, needN l = n := ⟨_, rfl⟩
  rw [hn] at HD hs hwd hn16 ⊢
  have HT := Lib.hid (fun (w : World) (hR : Rd w q r zs (t + 1)) => take_yes w q r zs (t + 1) n hR hs)
  have hln : (zs.take n).length = n := by rw [List.length_take]; omega
  have hmk : mkOk fam l (zs.take n).length = true := by unfold mkOk; rw [hg, hln]; simpa using hwd
  have HMK := Lib.hid (fun (A : Option Addr) (c : Nat) (w : World) (ha : Arr w A (bs (zs.take n))) => make_yes fam l A c (zs.take n) w ha (hzB.take n) hmk)
  rw [hln] at HMK
  rw [hg] at HR
  unfold PReadYes
  have hpc : (preC (makeP fam l (zs.take n))).length = 18 := preC_length (mkTo_length _ _ _)
  have HO := Lib.hid (all_oneCell_toArray (preC_one (makeP fam l (zs.take n))))
  unfold PreI.val at HMK ⊢
  obtain ⟨cM, hcM⟩ : ∃ cM, preC (makeP fam l (zs.take n)) = cM := ⟨_, rfl⟩
  rw [hcM] at HMK hpc HO ⊢
  have HPC := Lib.hid hpc
  clear h hg hn hs hpc hcM hmk hln
  go_enter Try.func36, Try.ntmps36
  go_wp2_with (first
    | (go_at_call 35; refine HN.out.mono ?_; rintro e w1 ⟨rfl, hR1, hK1⟩; have HZ1 := Lib.hid (HZ.out.keep hK1 (fun e => by unfold OnB at e; omega)); replace hK1 := Lib.hid hK1; replace hR1 := Lib.hid hR1)
    | (go_at_call 54; (with_reducible refine (HR.out _).mono ?_); rintro e w2 ⟨rfl, rfl⟩)
    | (go_at_call 56; (with_reducible refine (HD.out _).mono ?_); rintro e w2 ⟨rfl, rfl⟩)
    | (go_at_call 55; (refine (HT.out _ hR1.out).mono ?_); rintro e w3 ⟨A3, c3, rfl, hown3, hR3, hK3⟩; have HZ3 := Lib.hid (HZ1.out.keep hK3 (fun e => by unfold OnB at e; omega)); have HA3 := Lib.hid (Arr.of_own hown3); clear hown3; replace hK3 := Lib.hid hK3; replace hR3 := Lib.hid hR3)
    | (go_at_call 57; (refine (HMK.out A3 c3 _ HA3.out).mono ?_); rintro e w4 ⟨rfl, hK4⟩; have HZ4 := Lib.hid (HZ3.out.and hK4); replace hK4 := Lib.hid hK4)
    | (refine wpList_store_row rfl 29 (.tmp 4) (.tmp 40) rfl w.heap.size cM.toArray rfl rfl 29 (preF 0 0).toArray HZ4.out (by rw [List.size_toArray, HPC.out]; exact HI18.out) (by rw [List.size_toArray, List.size_toArray, HPC.out, preF_length]) HO.out ?_))
  refine bodyPost_ret (v := .tuple #[.agg cM.toArray, .bool true]) (results_row_tmp (fn := Try.f36) rfl _ _ w.heap.size 29 cM.toArray (0, 0) _ rfl (HZ4.out.row _) Try.underlying29 rfl (by rw [List.size_toArray, HPC.out]; exact HI18.out)) rfl ⟨rfl, ?_, ?_⟩
  · have hs1 := hK1.out.size
    refine (hR3.out.and hK4.out).keep (Kp.row (S := OnB w.heap.size) (Kp.refl _ w4) (fun _ => rfl) _) (fun e => by unfold OnB at e; omega) (fun hy e => ?_)
    unfold OnB at e
    omega
  · exact Kp.row ((((Kp.refl _ w).alloc _).same hK1.out).same hK3.out |>.and hK4.out) (fun h => by omega) _

end Go.Proofs.Ytkkfigdfgagimaa
