/- The walk of the law OpenForms: it returns true and makes only new blocks, for all OPENs. Condition: the table of powers of ten. -/
import Derived.Test.YtilfheociidloaaDoorOFB2
import Derived.Test.YtilfheociidloaaDoorOFTx
import Derived.Test.YtilfheociidloaaDoorOpE
import Derived.Test.YtilfheociidloaaDoorOpenOpen
import Derived.Test.YtilfheociidloaaDoorRows
import Derived.Stop.LaidErr
import Derived.MakeChecks
namespace Go.Proofs.YtilfheociidloaaDoor
open Go.RowKit
set_option linter.unusedVariables false
set_option linter.unusedSimpArgs false

/-- What the row's condition gives. -/
structure Ld (w : World) : Prop where
  tb : Tb w
theorem Ld.and {w w' : World} (h : Ld w) (k : Kp NoB w w') : Ld w' := ⟨h.tb.and k⟩
theorem ld_of {W : World} (h : laidMetH Tryd.prog Rows.openFormsRow.laid W) : Ld W := by
  rw [MakeChecks.laidMetH_plain _ _ _ (by kernel_rfl)] at h
  exact ⟨tb_of (laidMet.tail (laidMet.tail h)) (by kernel_rfl)⟩

theorem openL_len {o : OpenI} (hv : validO o = true) : (openL o).length ≤ 1000 := by
  have := openF_len o (valid_form o)
  unfold openF at this
  rw [if_pos hv] at this
  exact this

set_option maxRecDepth 100000 in
set_option maxHeartbeats 16000000 in
theorem forms_few (o : OpenI) (A : Option Addr) (c : Nat) (cs : List Value) (w : World) (hb : o.B) (hx : CapL w o.caps cs) (ha : Arr w A cs) (hfx : fewB o.caps = true) (ld : Ld w) :
    Calls Tryd.prog 3 #[o.val A c] w (Stay (.bool true) w) := by
  obtain ⟨hnx, hfl⟩ := few_len hfx
  have HF := Lib.hid (fun w' (k : Kp NoB w w') => rfew_any A c o.caps cs w' (hx.and k) (ha.and k) (Nat.le_trans hnx (by decide)))
  rw [hfx] at HF
  have HG := Lib.hid (fun w' (k : Kp NoB w w') => ogiven_any o A c cs w' (hx.and k) (ha.and k) (by omega))
  unfold GivenO at HG
  have HO := Lib.hid (fun w' A' c' (k : Kp NoB w w') (h : Arr w' A' cs) => obytes_any o A' c' cs w' hb (hx.and k) h (by omega) (by omega))
  have HR := Lib.hid (fun w' (k : Kp NoB w w') => rbytes17_any o A c cs w' hb (hx.and k) (ha.and k) (by omega) (by omega))
  unfold BytesO at HO HR
  have HV := Lib.hid (fun w' A' c' (k : Kp NoB w w') (h : Arr w' A' cs) => ovalid_any o A' c' cs w' hb (hx.and k) h (by omega) (by omega))
  have HT := Lib.hid (fun w' A' c' (k : Kp NoB w w') (h : Arr w' A' cs) => otext_any o A' c' cs w' hb (hx.and k) h (by omega) (by omega) (ld.tb.and k))
  have HU := Lib.hid (fun w' (k : Kp NoB w w') => rtext_any o A c cs w' hb (hx.and k) (ha.and k) (by omega) (by omega))
  have HA := Lib.hid alive_any
  have hla := openF_len o (valid_form o)
  have HE := Lib.hid (fun w' A' B' c' d' (h : Arr w' A' (bs (openF o))) (h' : Arr w' B' (bs (openF o))) => equal_stay A' B' c' d' (openF o) (openF o) w' h h' (by omega))
  simp only [decide_true] at HE
  have hxd := hx.isB
  have HP : Hid (validO o = true → ∀ (w' : World) (A' : Option Addr) (c' : Nat), Arr w' A' (bs (openF o)) → Calls Tryd.prog 13 #[.slice A' (openF o).length c'] w' (Parsed w' o (vOf none))) := Lib.hid (fun hv w' A' c' h => by
    have hL : openF o = openL o := by unfold openF; rw [if_pos hv]
    rw [hL] at h ⊢
    obtain ⟨r1, r2⟩ := parse_back o hv hb
    have := parse_any A' c' (openL o) w' h (openL_isB hv hxd) (by have := openL_len hv; omega)
    rw [r1] at this
    have hpo : parsedO (stAt (openL o) 7) = o := by unfold parsedO; rw [r1, if_neg (by simp), r2]
    rw [hpo] at this
    exact this)
  unfold Parsed at HP
  have HBK := Lib.hid (fun A c cs w' (hx : CapL w' o.caps cs) (ha : Arr w' A cs) => oback_any o A c cs w' hx ha (by omega))
  unfold GivenO at HBK
  have HSM := Lib.hid (fun A' c' ds w' (k : Kp NoB w w') (hy : CapL w' o.caps ds) (hb : Arr w' A' ds) => rsame17_any o o A' A c' c ds cs w' hy hb (hx.and k) (ha.and k) (by omega) (by omega))
  have hq : eqO o o = true := by rw [eqO_eq]; simp
  rw [hq] at HSM
  have HVS := Lib.hid (fun dA dc w' (h1 : Arr w' dA (bs [])) => vsame_any 0 0 0 0 [] dA none dc 0 w' h1 (Arr.nil _ _) IsB.nil)
  have hk0 := Lib.hid ((Kp.refl NoB w).alloc (.cells #[.int .u32 o.sys, .int .i64 o.hold, .int .u32 o.id, .slice A o.caps.length c] 25))
  have hb0 := Lib.hid (Bk.fresh w 25 #[.int .u32 o.sys, .int .i64 o.hold, .int .u32 o.id, .slice A o.caps.length c])
  obtain ⟨fo, hfo⟩ : ∃ f, openF o = f := ⟨_, rfl⟩
  obtain ⟨vo, hvo⟩ : ∃ f, validO o = f := ⟨_, rfl⟩
  obtain ⟨tt, hto⟩ : ∃ f, ba (textO o) = f := ⟨_, rfl⟩
  simp only [hfo, hvo, hto] at HO HR HV HT HU HE HP
  clear hfo hvo hto hla hb hfx hnx hfl hq hxd
  obtain ⟨s, h, i, xs⟩ := o
  unfold OpenI.val at *
  unfold VerdI.val vOf at HP
  simp only at *
  obtain ⟨n, hn⟩ : ∃ n, xs.length = n := ⟨_, rfl⟩
  obtain ⟨la, hla⟩ : ∃ n, fo.length = n := ⟨_, rfl⟩
  simp only [hn, hla, List.length_nil] at *
  clear hn hla
  have HX := Lib.hid hx
  clear hx ha ld
  obtain ⟨x1, x2, x3, x4, x5, x6, x7, x8, x9⟩ := hb0.out.four
  go_enter Tryd.func3, Tryd.ntmps3
  go_wp2_with fail
  refine (HF.out _ hk0.out).mono ?_
  rintro e w1 ⟨rfl, rfl⟩
  go_wp2_with fail
  refine (HG.out _ hk0.out).mono ?_
  rintro e w1 ⟨A1, c1, rfl, hown1, hK1⟩
  have k1 := Lib.hid (hk0.out.and hK1)
  have b1 := Lib.hid (hb0.out.and hK1)
  replace hown1 := Lib.hid hown1
  clear x1 x2 x3 x4 x5 x6 x7 x8 x9 hK1
  obtain ⟨x1, x2, x3, x4, x5, x6, x7, x8, x9⟩ := b1.out.four
  go_wp2_with fail
  refine (HO.out _ _ _ k1.out (Arr.of_own hown1.out)).mono ?_
  rintro e w2 ⟨A2, c2, rfl, harr2, -, -, hK2⟩
  have k2 := Lib.hid (k1.out.and hK2)
  have b2 := Lib.hid (b1.out.and hK2)
  replace harr2 := Lib.hid harr2
  clear x1 x2 x3 x4 x5 x6 x7 x8 x9 hK2 hown1
  obtain ⟨x1, x2, x3, x4, x5, x6, x7, x8, x9⟩ := b2.out.four
  go_wp2_with fail
  refine (HR.out _ k2.out).mono ?_
  rintro e w3 ⟨A3, c3, rfl, harr3, -, -, hK3⟩
  have k3 := Lib.hid (k2.out.and hK3)
  have b3 := Lib.hid (b2.out.and hK3)
  have harr2' := Lib.hid (harr2.out.and hK3)
  replace harr3 := Lib.hid harr3
  clear x1 x2 x3 x4 x5 x6 x7 x8 x9 hK3 harr2
  obtain ⟨x1, x2, x3, x4, x5, x6, x7, x8, x9⟩ := b3.out.four
  go_upto_region 5 with fail
  go_cut [3, 4, 48] (fun s3 s4 s48 wx => s3 = .slice A2 la c2 ∧ s4 = .bool vo ∧ s48 = .bool false ∧ Hid (Kp NoB w3 wx))
  case first =>
    go_region_held3 (fun w' => w'.cell? ⟨w.heap.size, 0, none⟩ = some (.int .u32 s) ∧ w'.cell? ⟨w.heap.size, 1, none⟩ = some (.int .i64 h) ∧ w'.cell? ⟨w.heap.size, 2, none⟩ = some (.int .u32 i) ∧ w'.cell? ⟨w.heap.size, 3, none⟩ = some (.slice A n c)) (go_keep)
      (first
        | (go_at_call 12; refine (HU.out _ k8.out).mono ?_; rintro e w9 ⟨rfl, hK9⟩; have k9 := Lib.hid (k8.out.and hK9); have j9 := Lib.hid (j8.out.and hK9); have b9 := Lib.hid (b8.out.and hK9); clear hK9; clear x1 x2 x3 x4 x5 x6 x7 x8 x9; obtain ⟨x1, x2, x3, x4, x5, x6, x7, x8, x9⟩ := b9.out.four)
        | (go_at_call 11; refine (HT.out _ A7 _ k7.out (Arr.of_own hown7.out)).mono ?_; rintro e w8 ⟨rfl, hK8⟩; have k8 := Lib.hid (k7.out.and hK8); have j8 := Lib.hid (j7.out.and hK8); have b8 := Lib.hid (b7.out.and hK8); clear hK8; clear x1 x2 x3 x4 x5 x6 x7 x8 x9; obtain ⟨x1, x2, x3, x4, x5, x6, x7, x8, x9⟩ := b8.out.four)
        | (go_at_call 7; refine (HG.out _ k6.out).mono ?_; rintro e w7 ⟨A7, c7, rfl, hown7, hK7⟩; replace hown7 := Lib.hid hown7; have k7 := Lib.hid (k6.out.and hK7); have j7 := Lib.hid (j6.out.and hK7); have b7 := Lib.hid (b6.out.and hK7); clear hK7; clear x1 x2 x3 x4 x5 x6 x7 x8 x9; obtain ⟨x1, x2, x3, x4, x5, x6, x7, x8, x9⟩ := b7.out.four)
        | (go_at_call 10; refine (HE.out _ A2 A3 _ _ (harr2'.out.and j5.out) (harr3.out.and j5.out)).mono ?_; rintro e w6 ⟨rfl, hK6⟩; have k6 := Lib.hid (k5.out.and hK6); have j6 := Lib.hid (j5.out.and hK6); have b6 := Lib.hid (b5.out.and hK6); clear hK6; clear x1 x2 x3 x4 x5 x6 x7 x8 x9; obtain ⟨x1, x2, x3, x4, x5, x6, x7, x8, x9⟩ := b6.out.four)
        | (go_at_call 9; refine (HV.out _ A4 _ k4.out (Arr.of_own hown4.out)).mono ?_; rintro e w5 ⟨rfl, hK5⟩; have k5 := Lib.hid (k4.out.and hK5); have j5 := Lib.hid (j4.out.and hK5); have b5 := Lib.hid (b4.out.and hK5); clear hK5; clear x1 x2 x3 x4 x5 x6 x7 x8 x9; obtain ⟨x1, x2, x3, x4, x5, x6, x7, x8, x9⟩ := b5.out.four)
        | (go_at_call 7; refine (HG.out _ k3.out.drew).mono ?_; rintro e w4 ⟨A4, c4, rfl, hown4, hK4⟩; replace hown4 := Lib.hid hown4; have k4 := Lib.hid (k3.out.drew.and hK4); have j4 := Lib.hid ((Kp.refl NoB w3).drew.and hK4); have b4 := Lib.hid ((b3.out.drewN 1).and hK4); clear hK4; clear x1 x2 x3 x4 x5 x6 x7 x8 x9; obtain ⟨x1, x2, x3, x4, x5, x6, x7, x8, x9⟩ := b4.out.four))
    all_goals (go_wp2_with fail; go_meet; exact ⟨rfl, rfl, rfl, j9⟩)
  case rest =>
  obtain ⟨rfl, rfl, rfl, hj⟩ := hcut
  have kc := Lib.hid (k3.out.and hj.out)
  have bc := Lib.hid (b3.out.and hj.out)
  have hac := Lib.hid (harr2'.out.and hj.out)
  clear x1 x2 x3 x4 x5 x6 x7 x8 x9 harr2' harr3 hj k3 b3
  obtain ⟨x1, x2, x3, x4, x5, x6, x7, x8, x9⟩ := bc.out.four
  cases vo with
  | false =>
    go_wp2_with fail
    refine (HA.out _).mono ?_
    rintro e w12 ⟨rfl, hK12⟩
    go_wp2_with fail
    go_ret
    exact ⟨rfl, kc.out.and hK12⟩
  | true =>
    have HP' := Lib.hid (HP.out rfl)
    go_wp2_with fail
    refine (HP'.out _ A2 _ hac.out).mono ?_
    rintro e w10 ⟨Aq, cq, ds, dA, dc, rfl, hxq, haq, hdq, hK10⟩
    have kq := Lib.hid (kc.out.and hK10)
    have bq := Lib.hid (bc.out.and hK10)
    have HXq := Lib.hid hxq
    have HAq := Lib.hid haq
    have HDq := Lib.hid hdq
    clear hxq haq hdq hK10 x1 x2 x3 x4 x5 x6 x7 x8 x9
    have hkb : Kp NoB w10 ((w10.alloc (.cells #[.int .u32 s, .int .i64 h, .int .u32 i, .slice Aq n cq] 33)).alloc (.cells #[.int .i64 0, .int .i64 0, .int .i64 0, .slice dA 0 dc, .int .i64 0] 41)) := ((Kp.refl _ _).alloc _).alloc _
    have hb5 := (Bk.fresh w10 33 #[.int .u32 s, .int .i64 h, .int .u32 i, .slice Aq n cq]).alloc (.cells #[.int .i64 0, .int .i64 0, .int .i64 0, .slice dA 0 dc, .int .i64 0] 41)
    have hb6 := Bk.second w10 (.cells #[.int .u32 s, .int .i64 h, .int .u32 i, .slice Aq n cq] 33) 41 #[.int .i64 0, .int .i64 0, .int .i64 0, .slice dA 0 dc, .int .i64 0]
    obtain ⟨wb, hwb⟩ : ∃ wb, (w10.alloc (.cells #[.int .u32 s, .int .i64 h, .int .u32 i, .slice Aq n cq] 33)).alloc (.cells #[.int .i64 0, .int .i64 0, .int .i64 0, .slice dA 0 dc, .int .i64 0] 41) = wb := ⟨_, rfl⟩
    rw [hwb] at hkb hb5 hb6
    have KB := Lib.hid (kq.out.and hkb)
    have bb := Lib.hid (bq.out.and hkb)
    have HXb := Lib.hid (HXq.out.and hkb)
    have HAb := Lib.hid (HAq.out.and hkb)
    have HDb := Lib.hid (HDq.out.and hkb)
    obtain ⟨p5, hp5⟩ : ∃ p, w10.heap.size = p := ⟨_, rfl⟩
    rw [hp5] at hb5 hb6
    have HC : Hid (∀ w', Kp NoB wb w' → (w'.cell? ⟨w.heap.size, 0, none⟩ = some (.int .u32 s) ∧ w'.cell? ⟨w.heap.size, 1, none⟩ = some (.int .i64 h) ∧ w'.cell? ⟨w.heap.size, 2, none⟩ = some (.int .u32 i) ∧ w'.cell? ⟨w.heap.size, 3, none⟩ = some (.slice A n c)) ∧
        (w'.cell? ⟨p5, 0, none⟩ = some (.int .u32 s) ∧ w'.cell? ⟨p5, 1, none⟩ = some (.int .i64 h) ∧ w'.cell? ⟨p5, 2, none⟩ = some (.int .u32 i) ∧ w'.cell? ⟨p5, 3, none⟩ = some (.slice Aq n cq)) ∧
        (w'.cell? ⟨p5 + 1, 0, none⟩ = some (.int .i64 0) ∧ w'.cell? ⟨p5 + 1, 1, none⟩ = some (.int .i64 0) ∧ w'.cell? ⟨p5 + 1, 2, none⟩ = some (.int .i64 0) ∧ w'.cell? ⟨p5 + 1, 3, none⟩ = some (.slice dA 0 dc) ∧ w'.cell? ⟨p5 + 1, 4, none⟩ = some (.int .i64 0))) := Lib.hid (fun w' k => by
      have q3 := bb.out.and k
      have q5 := hb5.and k
      have q6 := hb6.and k
      exact ⟨⟨q3.cell 0, q3.cell 1, q3.cell 2, q3.cell 3⟩, ⟨q5.cell 0, q5.cell 1, q5.cell 2, q5.cell 3⟩, ⟨q6.cell 0, q6.cell 1, q6.cell 2, q6.cell 3, q6.cell 4⟩⟩)
    have HWB := Lib.hid hwb
    clear hkb hb5 hb6 hwb
    go_upto_region 10 with fail
    rw [HWB.out]
    obtain ⟨⟨x1, x2, x3, x4⟩, ⟨y1, y2, y3, y4⟩, ⟨z1, z2, z3, z4, z5⟩⟩ := HC.out wb (Kp.refl _ _)
    go_region_held3 (fun w' => w'.cell? ⟨w.heap.size, 0, none⟩ = some (.int .u32 s) ∧ w'.cell? ⟨w.heap.size, 1, none⟩ = some (.int .i64 h) ∧ w'.cell? ⟨w.heap.size, 2, none⟩ = some (.int .u32 i) ∧ w'.cell? ⟨w.heap.size, 3, none⟩ = some (.slice A n c) ∧
        w'.cell? ⟨p5, 0, none⟩ = some (.int .u32 s) ∧ w'.cell? ⟨p5, 1, none⟩ = some (.int .i64 h) ∧ w'.cell? ⟨p5, 2, none⟩ = some (.int .u32 i) ∧ w'.cell? ⟨p5, 3, none⟩ = some (.slice Aq n cq) ∧
        w'.cell? ⟨p5 + 1, 0, none⟩ = some (.int .i64 0) ∧ w'.cell? ⟨p5 + 1, 1, none⟩ = some (.int .i64 0) ∧ w'.cell? ⟨p5 + 1, 2, none⟩ = some (.int .i64 0) ∧ w'.cell? ⟨p5 + 1, 3, none⟩ = some (.slice dA 0 dc) ∧ w'.cell? ⟨p5 + 1, 4, none⟩ = some (.int .i64 0)) (go_keep)
      (first
        | (go_at_call 15; refine (HSM.out A7 _ ds _ (KB.out.and k7.out) (HX7.out) (HR7.out)).mono ?_; rintro e w8 ⟨rfl, hK8⟩; have k8 := Lib.hid (k7.out.and hK8); clear hK8; clear x1 x2 x3 x4 y1 y2 y3 y4 z1 z2 z3 z4 z5; obtain ⟨⟨x1, x2, x3, x4⟩, ⟨y1, y2, y3, y4⟩, ⟨z1, z2, z3, z4, z5⟩⟩ := HC.out _ k8.out)
        | (go_at_call 16; refine (HBK.out Aq _ ds _ (HXb.out.and k6.out) (HAb.out.and k6.out)).mono ?_; rintro e w7 ⟨A7, c7, rfl, hown7, hK7⟩; have k7 := Lib.hid (k6.out.and hK7); have HX7 := Lib.hid ((HXb.out.and k6.out).and hK7); have HR7 := Lib.hid (Arr.of_own hown7); clear hown7 hK7; clear x1 x2 x3 x4 y1 y2 y3 y4 z1 z2 z3 z4 z5; obtain ⟨⟨x1, x2, x3, x4⟩, ⟨y1, y2, y3, y4⟩, ⟨z1, z2, z3, z4, z5⟩⟩ := HC.out _ k7.out)
        | (go_at_call 14; refine (HVS.out dA _ _ (HDb.out.and k5.out)).mono ?_; rintro e w6 ⟨rfl, hK6⟩; have k6 := Lib.hid (k5.out.and hK6); clear hK6; clear x1 x2 x3 x4 y1 y2 y3 y4 z1 z2 z3 z4 z5; obtain ⟨⟨x1, x2, x3, x4⟩, ⟨y1, y2, y3, y4⟩, ⟨z1, z2, z3, z4, z5⟩⟩ := HC.out _ k6.out)
        | (go_at_call 5; refine (HA.out _).mono ?_; rintro e w5 ⟨rfl, hK5⟩; have k5 := Lib.hid ((Kp.refl NoB wb).drew.and hK5); clear hK5; clear x1 x2 x3 x4 y1 y2 y3 y4 z1 z2 z3 z4 z5; obtain ⟨⟨x1, x2, x3, x4⟩, ⟨y1, y2, y3, y4⟩, ⟨z1, z2, z3, z4, z5⟩⟩ := HC.out _ k5.out))
    go_wp2_with fail
    go_ret
    exact ⟨rfl, KB.out.and k8.out⟩

set_option maxRecDepth 100000 in
set_option maxHeartbeats 4000000 in
theorem oforms_row (z : ArgO) (w : World) (h : InOpen w z) (ld : Ld w) :
    Calls Tryd.prog 3 #[z.val] w (Stay (.bool true) w) := by
  obtain ⟨o, A, c⟩ := z
  obtain ⟨hb, hn, hc, cs, hx, ha⟩ := h
  simp only at *
  unfold ArgO.val
  simp only
  by_cases hfx : fewB o.caps = true
  · exact forms_few o A c cs w hb hx ha hfx ld
  · have hk0 := (Kp.refl NoB w).alloc (.cells #[.int .u32 o.sys, .int .i64 o.hold, .int .u32 o.id, .slice A o.caps.length c] 25)
    have H1 := Lib.hid (rfew_any A c o.caps cs _ (hx.and hk0) (ha.and hk0) (Nat.le_trans hn hc))
    rw [show fewB o.caps = false by simpa using hfx] at H1
    have HA := Lib.hid alive_any
    obtain ⟨x1, x2, x3, x4, x5, x6, x7, x8, x9⟩ := (Bk.fresh w 25 #[.int .u32 o.sys, .int .i64 o.hold, .int .u32 o.id, .slice A o.caps.length c]).four
    have hk0 := Lib.hid hk0
    obtain ⟨s, h, i, xs⟩ := o
    unfold OpenI.val
    simp only at *
    obtain ⟨n, hn'⟩ : ∃ n, xs.length = n := ⟨_, rfl⟩
    simp only [hn'] at H1 x1 x2 x3 x4 x5 x6 x7 x8 x9 hk0 ⊢
    clear hx ha hb hn hc hfx hn' ld
    go_enter Tryd.func3, Tryd.ntmps3
    go_wp2_with fail
    refine H1.out.mono ?_
    rintro e w1 ⟨rfl, rfl⟩
    go_wp2_with fail
    refine (HA.out _).mono ?_
    rintro e w2 ⟨rfl, hK2⟩
    go_wp2_with fail
    go_ret
    exact ⟨rfl, hk0.out.and hK2⟩

end Go.Proofs.YtilfheociidloaaDoor
