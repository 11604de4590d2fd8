/- Package prefix: Make: its contracts by walking the Go text. -/
import Derived.Test.YtkkfigdfgagimaaPreD
import Derived.Test.YtkkfigdfgagimaaBigR
namespace Go.Proofs.Ytkkfigdfgagimaa
open Go.RowKit
set_option linter.unusedVariables false
set_option linter.unusedSimpArgs false

/-- Bytes, filled up with zeros. -/
def padL (b : List Int) : List Int := b ++ List.replicate (16 - b.length) 0
theorem padL_length {b : List Int} (h : b.length ≤ 16) : (padL b).length = 16 := by simp [padL]; omega
theorem padL_isB {b : List Int} (h : IsB b) : IsB (padL b) := h.append (fun x hx => by have := List.eq_of_mem_replicate hx; omega)
theorem maskB_bd {k y : Int} (h0 : 0 ≤ y) (h1 : y < 256) : 0 ≤ maskB k y ∧ maskB k y < 256 := by
  unfold maskB
  split
  · omega
  · split
    · have hp : (0 : Int) < 2 ^ (8 - k).toNat := Int.pow_pos (by decide)
      have h2 := Int.ediv_mul_le y (Int.ne_of_gt hp)
      have h3 : 0 ≤ y / 2 ^ (8 - k).toNat := Int.ediv_nonneg h0 (Int.le_of_lt hp)
      exact ⟨Int.mul_nonneg h3 (Int.le_of_lt hp), by omega⟩
    · omega
theorem maskL_isB {len : Int} {a : List Int} (h : IsB a) : IsB (maskL len a) := fun x hx => by
  unfold maskL mkTo at hx
  simp only [List.mem_map, List.mem_range] at hx
  obtain ⟨j, hj, rfl⟩ := hx
  rw [if_pos hj]
  exact maskB_bd (h.getD j).1 (h.getD j).2
/-- The prefix of some bytes. -/
def makeP (fam len : Int) (b : List Int) : PreI := ⟨fam, len, maskL len (padL b)⟩
def zeroP : PreI := ⟨0, 0, List.replicate 16 0⟩
def mkOk (fam len : Int) (n : Nat) : Bool := rangedB fam len && decide ((n : Int) ≤ widI fam)
def preF (fam len : Int) : List Value := preC ⟨fam, len, List.replicate 16 0⟩
theorem preF_length (fam len : Int) : (preF fam len).length = 18 := rfl
theorem splice_pad (fam len : Int) (b : List Int) (h : b.length ≤ 16) : ((splice (preF fam len) 2 (bs b)).drop 2).take 16 = bs (padL b) := by
  unfold splice preF preC
  simp only [List.take_succ_cons, List.take_zero, List.cons_append, List.nil_append, List.drop_succ_cons, List.drop_zero, bs_length]
  rw [show 2 + b.length = b.length + 1 + 1 by omega]
  simp only [List.drop_succ_cons]
  rw [← bs_drop, ← bs_append, ← bs_take]
  congr 1
  unfold padL
  rw [List.drop_replicate, List.take_of_length_le (by simp; omega)]
theorem splice_full (fam len : Int) (b m : List Int) (h : b.length ≤ 16) (hm : m.length = 16) : splice (splice (preF fam len) 2 (bs b)) 2 (bs m) = preC ⟨fam, len, m⟩ := by
  unfold splice preF preC
  simp only [List.take_succ_cons, List.take_zero, List.cons_append, List.nil_append, List.drop_succ_cons, List.drop_zero, bs_length]
  rw [hm]
  congr 2
  rw [List.drop_eq_nil_of_le (by simp [bs_length]; omega)]
  simp

theorem Kp.belowTo {S : Nat → Prop} {w wc w1 : World} {B : Nat} (h : Kp S w wc) (b : Below B wc w1) (hB : w.heap.size ≤ B) : Kp S w w1 :=
  ⟨b.os.trans h.os, b.tape.trans h.tape, b.output.trans h.output, Nat.le_trans h.size b.size, fun k hk hn => (b.block k (by omega)).trans (h.block k hk hn)⟩
theorem ranged_wid {fam len : Int} (h : rangedB fam len = true) : 0 ≤ len ∧ len ≤ 128 := ranged_bd h

set_option maxRecDepth 100000 in
set_option maxHeartbeats 4000000 in
theorem make_no (fam len : Int) (A : Option Addr) (n c : Nat) (w : World) (hn : n ≤ 140737488355328) (hr : mkOk fam len n = false) :
    Calls Try.prog 57 #[.int .i64 fam, .int .i64 len, .slice A n c] w (Stay (.tuple #[zeroP.val, .bool false]) w) := by
  have HR := Lib.hid (fun w => ranged_any fam len w)
  have HW := Lib.hid (fun w => width_any fam w)
  unfold mkOk at hr
  have hb := wid_bd fam
  obtain ⟨x, hx⟩ : ∃ x, widI fam = x := ⟨_, rfl⟩
  rw [hx] at HW hr hb
  have HZ := Lib.hid (Bk.fresh w 29 (preF 0 0).toArray)
  have HI := Lib.hid (show (Try.prog.info? 29).map (·.size) = some (preF 0 0).toArray.size by rw [List.size_toArray, preF_length]; exact (size_of infoPre).2)
  have hv : zeroP.val = .agg (preF 0 0).toArray := rfl
  rw [hv]
  have HO := Lib.hid (all_oneCell_toArray (preC_one zeroP))
  by_cases h1 : rangedB fam len = true
  · rw [h1] at HR hr
    have hlt : x < (n : Int) := by simpa using hr
    clear h1 hr hx hv
    go_enter Try.func57, Try.ntmps57
    go_wp2_with (first
      | (go_at_call 54; (with_reducible refine (HR.out _).mono ?_); rintro e w1 ⟨rfl, rfl⟩)
      | (go_at_call 65; (with_reducible refine (HW.out _).mono ?_); rintro e w1 ⟨rfl, rfl⟩)
      | (refine wpList_store_new (w := w) rfl 29 (.tmp 6) (.tmp 20) rfl _ (preF 0 0).toArray rfl rfl 29 HI.out rfl HO.out ?_))
    refine bodyPost_ret (v := .tuple #[.agg (preF 0 0).toArray, .bool false]) (results_row_tmp (fn := Try.f57) rfl _ _ w.heap.size 29 _ (0, 0) _ rfl HZ.out Try.underlying29 rfl HI.out) rfl ⟨rfl, (Kp.refl _ _).alloc _⟩
  · have h1' : rangedB fam len = false := by simpa using h1
    rw [h1'] at HR
    clear h1 hr hx hv h1'
    go_enter Try.func57, Try.ntmps57
    go_wp2_with (first
      | (go_at_call 54; (with_reducible refine (HR.out _).mono ?_); rintro e w1 ⟨rfl, rfl⟩)
      | (refine wpList_store_new (w := w) rfl 29 (.tmp 6) (.tmp 20) rfl _ (preF 0 0).toArray rfl rfl 29 HI.out rfl HO.out ?_))
    refine bodyPost_ret (v := .tuple #[.agg (preF 0 0).toArray, .bool false]) (results_row_tmp (fn := Try.f57) rfl _ _ w.heap.size 29 _ (0, 0) _ rfl HZ.out Try.underlying29 rfl HI.out) rfl ⟨rfl, (Kp.refl _ _).alloc _⟩

set_option maxRecDepth 100000 in
set_option maxHeartbeats 4000000 in
theorem make_yes (fam len : Int) (A : Option Addr) (c : Nat) (b : List Int) (w : World) (ha : Arr w A (bs b)) (hb : IsB b) (hr : mkOk fam len b.length = true) :
    Calls Try.prog 57 #[.int .i64 fam, .int .i64 len, .slice A b.length c] w (Stay (.tuple #[(makeP fam len b).val, .bool true]) w) := by
  have HR := Lib.hid (fun w => ranged_any fam len w)
  have HW := Lib.hid (fun w => width_any fam w)
  unfold mkOk at hr
  simp only [Bool.and_eq_true, decide_eq_true_eq] at hr
  obtain ⟨h1, h2⟩ := hr
  have hwb := wid_bd fam
  obtain ⟨l0, l1⟩ := ranged_bd h1
  rw [h1] at HR
  obtain ⟨x, hx⟩ : ∃ x, widI fam = x := ⟨_, rfl⟩
  rw [hx] at HW h2 hwb
  have hn16 : b.length ≤ 16 := by omega
  have HM := Lib.hid (fun w => masked_any len (padL b) w l0 l1 (padL_length hn16) (padL_isB hb))
  have HSP := Lib.hid (splice_pad fam len b hn16)
  have HSF := Lib.hid (splice_full fam len b (maskL len (padL b)) hn16 (mkTo_length _ _ _))
  have HML := Lib.hid (mkTo_length 16 len (padL b))
  have HPL := Lib.hid (padL_length hn16)
  have HI18 := Lib.hid (size_of infoPre).2
  have HI16 := Lib.hid (size_of infoAd).2
  have hv : (makeP fam len b).val = .agg (preC ⟨fam, len, maskL len (padL b)⟩).toArray := rfl
  have HO18 := Lib.hid (all_oneCell_toArray (preC_one ⟨fam, len, maskL len (padL b)⟩))
  have HOM := Lib.hid (all_oneCell_toArray (bs_one (maskL len (padL b))))
  have HOF := Lib.hid (all_oneCell_toArray (preC_one ⟨fam, len, List.replicate 16 0⟩))
  have HOB := Lib.hid (bs_one b)
  have HBL := Lib.hid (bs_length b)
  rw [hv]
  unfold adV at HM
  have hpc : (preC ⟨fam, len, maskL len (padL b)⟩).length = 18 := preC_length (mkTo_length _ _ _)
  change Hid ((maskL len (padL b)).length = 16) at HML
  obtain ⟨M, hM⟩ : ∃ M, maskL len (padL b) = M := ⟨_, rfl⟩
  rw [hM] at HM HSF HML HO18 HOM hpc ⊢
  obtain ⟨cM, hcM⟩ : ∃ cM, preC ⟨fam, len, M⟩ = cM := ⟨_, rfl⟩
  rw [hcM] at HSF HO18 hpc ⊢
  obtain ⟨bp, hbp⟩ : ∃ bp, bs (padL b) = bp := ⟨_, rfl⟩
  have HBP : Hid (bp.length = 16) := Lib.hid (by rw [← hbp, bs_length]; exact HPL.out)
  rw [hbp] at HM HSP
  obtain ⟨bM, hbM⟩ : ∃ bM, bs M = bM := ⟨_, rfl⟩
  have HBM : Hid (bM.length = 16) := Lib.hid (by rw [← hbM, bs_length]; exact HML.out)
  rw [hbM] at HM HSF HOM
  obtain ⟨bb, hbb⟩ : ∃ bb, bs b = bb := ⟨_, rfl⟩
  rw [hbb] at ha HSP HSF HOB HBL
  obtain ⟨F, hF⟩ : ∃ F, preF fam len = F := ⟨_, rfl⟩
  have HFL : Hid (F.length = 18) := Lib.hid (by rw [← hF]; rfl)
  have HE : Hid (PreI.val ⟨fam, len, List.replicate 16 0⟩ = .agg F.toArray) := Lib.hid (by rw [← hF]; rfl)
  have HOF' : Hid (F.toArray.all (·.oneCell') = true) := Lib.hid (by rw [← hF]; exact HOF.out)
  rw [hF] at HSP HSF
  have HPC := Lib.hid hpc
  have HIF := Lib.hid (show (Try.prog.info? 29).map (·.size) = some F.toArray.size by rw [List.size_toArray, HFL.out]; exact HI18.out)
  have HFZ := Lib.hid (show (preF 0 0).toArray.size = F.toArray.size by rw [List.size_toArray, List.size_toArray, HFL.out, preF_length])
  obtain ⟨n, hn⟩ : ∃ n, b.length = n := ⟨_, rfl⟩
  rw [hn] at h2 hn16 HBL ⊢
  have HA := Lib.hid ha
  have HZ := Lib.hid (Bk.fresh w 29 (preF 0 0).toArray)
  have HG := Lib.hid (Bk.second w (.cells (preF 0 0).toArray 29) 29 F.toArray)
  have hle : (n : Int) ≤ x := h2
  clear h1 hx hv hM hcM hbp hbM hbb hF hpc hn ha hb h2 HOF HPL
  go_enter Try.func57, Try.ntmps57
  go_wp2_with (first
    | (go_at_call 54; (with_reducible refine (HR.out _).mono ?_); rintro e w1 ⟨rfl, rfl⟩)
    | (go_at_call 65; (with_reducible refine (HW.out _).mono ?_); rintro e w1 ⟨rfl, rfl⟩)
    | (refine wpList_store_newg (w := w.alloc (.cells (preF 0 0).toArray 29)) rfl 29 (.tmp 8) (.tmp 23) rfl (w.heap.size + 1) (by simp) (preF 0 0).toArray F.toArray rfl ?_ 29 HIF.out HFZ.out HOF'.out ?_; exact HE.out)
    | (refine wpList_copy_splice rfl (.tmp 25) (.tmp 26) 42 42 rfl 5 Try.underlying42 (size_of infoU8).2 _ A 16 16 n c rfl rfl (w.heap.size + 1) 2 F 29 HG.out bb (by rw [HBL.out]; exact (Nat.min_eq_left hn16).symm) (fun hp => ⟨rfl, by obtain ⟨ad, e, hc⟩ := ((HA.out.alloc _).alloc _) (by rintro rfl; exact absurd hp (by decide)); exact ⟨ad, e, hc⟩⟩) (by rw [HFL.out, HBL.out]; omega) HOB.out (w.heap.size + 1) _ (Below.refl _ _) (Nat.le_refl _) ?_; intro w1 hB1 hbel; have HR2 := Lib.hid (show w1.rangeAt (w.heap.size + 1) 2 bp by have := range_bk (cur := splice F 2 bb) hB1.out 2 16; rwa [HSP.out] at this); have HZ1 := Lib.hid (show Bk w1 w.heap.size 29 (preF 0 0).toArray from (hbel.block w.heap.size (by omega)).trans (HZ.out.alloc _)); replace hbel := Lib.hid hbel)
    | (refine wpList_load_mid rfl 27 (.tmp 28) rfl (w.heap.size + 1) 2 rfl bp _ HR2.out Try.underlying27 rfl (by rw [HBP.out]; exact HI16.out) ?_)
    | (go_at_call 63; (with_reducible refine (HM.out _).mono ?_); rintro e w2 ⟨rfl, hK2⟩; have HB2 := Lib.hid (Bk.and (show Bk _ _ _ _ from hB1.out) hK2); have HZ2 := Lib.hid (HZ1.out.and hK2); replace hK2 := Lib.hid hK2)
    | (refine wpList_store_mid rfl 27 (.tmp 32) (.tmp 31) rfl (w.heap.size + 1) 2 bM.toArray rfl rfl (there_bk HB2.out 2 _ (by rw [length_splice _ _ _ (by rw [HFL.out, HBL.out]; omega), HFL.out, List.size_toArray, HBM.out]; decide)) (by rw [List.size_toArray, HBM.out]; exact HI16.out) HOM.out ?_; have HB3 := Lib.hid (show Bk (w2.setCells (w.heap.size + 1) 2 bM) (w.heap.size + 1) 29 cM.toArray by have := Bk.setCells bM 2 HB2.out (by rw [length_splice _ _ _ (by rw [HFL.out, HBL.out]; omega), HFL.out, HBM.out]; decide); rwa [HSF.out] at this); have HZ3 := Lib.hid (Bk.setCells_far (b := w.heap.size) (c := w.heap.size + 1) (by omega) bM 2 HZ2.out))
    | (refine wpList_load_at rfl 29 (.tmp 8) rfl ⟨w.heap.size + 1, 0, none⟩ rfl cM _ (CellsAt.of_bk HB3.out) Try.underlying29 rfl (by rw [HPC.out]; exact HI18.out) ?_)
    | (refine wpList_store_row rfl 29 (.tmp 6) (.tmp 33) rfl w.heap.size cM.toArray rfl rfl 29 (preF 0 0).toArray HZ3.out (by rw [List.size_toArray, HPC.out]; exact HI18.out) (by rw [List.size_toArray, List.size_toArray, HPC.out, preF_length]) HO18.out ?_))
  refine bodyPost_ret (v := .tuple #[.agg cM.toArray, .bool true]) (results_row_tmp (fn := Try.f57) rfl _ _ w.heap.size 29 cM.toArray (0, 0) _ rfl (HZ3.out.row cM.toArray) Try.underlying29 rfl (by rw [List.size_toArray, HPC.out]; exact HI18.out)) rfl ⟨rfl, ?_⟩
  exact Kp.row (Kp.setCells (fun h => by omega) bM 2 (((((Kp.refl NoB w).alloc _).alloc _).belowTo hbel.out (by omega)).and hK2.out)) (fun h => by omega) _

end Go.Proofs.Ytkkfigdfgagimaa
