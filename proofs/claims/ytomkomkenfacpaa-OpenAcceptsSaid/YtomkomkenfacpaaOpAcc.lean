/- The walk of the law OpenAccepts: it returns true and makes only new blocks, for all bytes. -/
import Derived.Test.YtomkomkenfacpaaAccA
namespace Go.Proofs.Ytomkomkenfacpaa
open Go.RowKit
set_option linter.unusedVariables false
set_option linter.unusedSimpArgs false

set_option maxRecDepth 100000 in
set_option maxHeartbeats 16000000 in
theorem accepts_no (A0 : Option Addr) (c0 : Nat) (b : List Int) (w : World) (ha : Arr w A0 (bs b)) (hb : IsB b) (hc : b.length ≤ c0) (hcm : c0 ≤ maxLen) (hn : b.length ≤ 600) (s' a' : Int) (d' : List Int) (hbad : (stAt b 7).bad = some (s', a', d')) :
    Calls Try.prog 5 #[.slice A0 b.length c0] w (Stay (.bool true) w) := by
  have H1 := Lib.hid (rparse_any A0 c0 b w ha hb hc hcm (by omega))
  have H2 := Lib.hid (fun w' (k : Kp NoB w w') => parse_any A0 c0 b w' (ha.and k) hb (by omega))
  have HA := Lib.hid alive_any
  unfold Parsed at H1 H2
  rw [hbad] at H1 H2
  obtain ⟨o, ho⟩ : ∃ o, parsedO (stAt b 7) = o := ⟨_, rfl⟩
  simp only [ho] at H1 H2
  clear ho hbad ha hb hc hcm
  obtain ⟨n, hnn⟩ : ∃ n, b.length = n := ⟨_, rfl⟩
  rw [hnn] at H1 H2 hn ⊢
  obtain ⟨s, h, i, xs⟩ := o
  unfold OpenI.val VerdI.val vOf at *
  simp only at *
  obtain ⟨l, hl⟩ : ∃ n, xs.length = n := ⟨_, rfl⟩
  obtain ⟨dl, hdl⟩ : ∃ n, d'.length = n := ⟨_, rfl⟩
  simp only [hl, hdl] at *
  clear hnn hl hdl
  go_enter Try.func5, Try.ntmps5
  go_wp2_with fail
  refine H1.out.mono ?_
  rintro e w1 ⟨A1, c1, cs1, dA1, dc1, rfl, hx1, ha1, hd1, hK1⟩
  have KA := Lib.hid ((hK1.alloc (.cells #[.int .u32 s, .int .i64 h, .int .u32 i, .slice A1 l c1] 25)).alloc (.cells #[.int .i64 4, .int .i64 2, .int .i64 s', .slice dA1 dl dc1, .int .i64 a'] 39))
  have HB4 := Lib.hid (Bk.second w1 (.cells #[.int .u32 s, .int .i64 h, .int .u32 i, .slice A1 l c1] 25) 39 #[.int .i64 4, .int .i64 2, .int .i64 s', .slice dA1 dl dc1, .int .i64 a'])
  clear hK1 hx1 ha1 hd1
  go_wp2_with fail
  refine (H2.out _ KA.out).mono ?_
  rintro e w2 ⟨A2, c2, cs2, dA2, dc2, rfl, hx2, ha2, hd2, hK2⟩
  have hkb : Kp NoB w2 ((w2.alloc (.cells #[.int .u32 s, .int .i64 h, .int .u32 i, .slice A2 l c2] 32)).alloc (.cells #[.int .i64 4, .int .i64 2, .int .i64 s', .slice dA2 dl dc2, .int .i64 a'] 39)) := ((Kp.refl _ _).alloc _).alloc _
  have hb6 := Bk.second w2 (.cells #[.int .u32 s, .int .i64 h, .int .u32 i, .slice A2 l c2] 32) 39 #[.int .i64 4, .int .i64 2, .int .i64 s', .slice dA2 dl dc2, .int .i64 a']
  obtain ⟨wb, hwb⟩ : ∃ wb, (w2.alloc (.cells #[.int .u32 s, .int .i64 h, .int .u32 i, .slice A2 l c2] 32)).alloc (.cells #[.int .i64 4, .int .i64 2, .int .i64 s', .slice dA2 dl dc2, .int .i64 a'] 39) = wb := ⟨_, rfl⟩
  rw [hwb] at hkb hb6
  have hk2b := hK2.and hkb
  have KB := Lib.hid (KA.out.and hk2b)
  obtain ⟨p3, hp3⟩ : ∃ p, w1.heap.size = p := ⟨_, rfl⟩
  obtain ⟨p5, hp5⟩ : ∃ p, w2.heap.size = p := ⟨_, rfl⟩
  rw [hp3] at HB4
  rw [hp5] at hb6
  have HC : Hid (∀ w', Kp NoB wb w' → w'.cell? ⟨p3 + 1, 0, none⟩ = some (.int .i64 4) ∧ w'.cell? ⟨p5 + 1, 0, none⟩ = some (.int .i64 4) ∧ w'.cell? ⟨p5 + 1, 1, none⟩ = some (.int .i64 2)) := Lib.hid (fun w' k => by
    have q4 := (HB4.out.and hk2b).and k
    have q6 := hb6.and k
    exact ⟨q4.cell 0, q6.cell 0, q6.cell 1⟩)
  have HWB := Lib.hid hwb
  have hc5 := (HC.out wb (Kp.refl _ _)).1
  clear hK2 hx2 ha2 hd2 hkb hb6 hk2b hwb
  go_upto_region 5 with fail
  rw [HWB.out]
  go_wp2_with fail
  refine (HA.out _).mono ?_
  rintro e w5 ⟨rfl, hK5⟩
  have k5 := Lib.hid hK5
  clear hK5
  obtain ⟨x1, x2, x3⟩ := HC.out _ k5.out
  go_wp2_with fail
  go_ret
  exact ⟨rfl, KB.out.and k5.out⟩

set_option maxRecDepth 100000 in
set_option maxHeartbeats 16000000 in
theorem accepts_yes (A0 : Option Addr) (c0 : Nat) (b : List Int) (w : World) (ha : Arr w A0 (bs b)) (hb : IsB b) (hc : b.length ≤ c0) (hcm : c0 ≤ maxLen) (hn : b.length ≤ 600) (hbad : (stAt b 7).bad = none) :
    Calls Try.prog 5 #[.slice A0 b.length c0] w (Stay (.bool true) w) := by
  have H1 := Lib.hid (rparse_any A0 c0 b w ha hb hc hcm (by omega))
  have H2 := Lib.hid (fun w' (k : Kp NoB w w') => parse_any A0 c0 b w' (ha.and k) hb (by omega))
  have HA := Lib.hid alive_any
  have hpo : parsedO (stAt b 7) = (stAt b 7).o := by unfold parsedO; rw [hbad]; rfl
  obtain ⟨g1, g2, g3, g4⟩ := parsed_ok b hb hn hbad
  unfold Parsed at H1 H2
  rw [hbad, hpo] at H1 H2
  obtain ⟨o, ho⟩ : ∃ o, (stAt b 7).o = o := ⟨_, rfl⟩
  rw [ho] at H1 H2 g1 g2 g3 g4
  have hf := valid_form o g1
  have HCF : Hid (o.caps.length ≤ 1000000) := Lib.hid (by
    have := caps_fin b (by omega)
    rw [hpo, ho] at this
    omega)
  obtain ⟨f, hfo⟩ : ∃ f, openL o = f := ⟨_, rfl⟩
  have hfB : IsB f := hfo ▸ openL_isB g1 g4
  obtain ⟨r1, r2⟩ := parse_back o g1 g2
  rw [hfo] at r1 r2 g3
  have hpo2 : parsedO (stAt f 7) = o := by unfold parsedO; rw [r1, if_neg (by simp), r2]
  have HO := Lib.hid (fun A c cs w' (hx : CapL w' o.caps cs) (ha : Arr w' A cs) => obytes_any o A c cs w' g2 hx ha HCF.out (by omega))
  have hof : openF o = f := by unfold openF; rw [g1, if_pos rfl, hfo]
  unfold BytesO at HO
  rw [hof, g1] at HO
  have H3 := Lib.hid (fun A c w' (ha : Arr w' A (bs f)) => parse_any A c f w' ha hfB (by omega))
  unfold Parsed at H3
  rw [hpo2, r1] at H3
  have HS := Lib.hid (fun A B c d cs ds w' (hx : CapL w' o.caps cs) (ha : Arr w' A cs) (hy : CapL w' o.caps ds) (hb : Arr w' B ds) => osame_any o o A B c d cs ds w' hx ha hy hb HCF.out HCF.out)
  have hq : eqO o o = true := by rw [eqO_eq]; simp
  rw [hq] at HS
  clear ho hpo hpo2 hof hbad ha hb hc hcm g1 g2 g4 hf hfo hfB r1 r2 hq
  obtain ⟨n, hnn⟩ : ∃ n, b.length = n := ⟨_, rfl⟩
  obtain ⟨m, hmm⟩ : ∃ n, f.length = n := ⟨_, rfl⟩
  rw [hnn] at H1 H2 hn g3 ⊢
  rw [hmm] at g3
  obtain ⟨s, h, i, xs⟩ := o
  unfold OpenI.val VerdI.val vOf at *
  simp only [hmm] at *
  obtain ⟨l, hl⟩ : ∃ n, xs.length = n := ⟨_, rfl⟩
  simp only [hl, List.length_nil] at *
  clear hnn hmm hl
  have hle : decide ((m : Int) ≤ (n : Int)) = true := decide_eq_true (by omega)
  have hle' : (m : Int) ≤ (n : Int) := by omega
  clear g3
  go_enter Try.func5, Try.ntmps5
  go_wp2_with fail
  refine H1.out.mono ?_
  rintro e w1 ⟨A1, c1, cs1, dA1, dc1, rfl, hx1, ha1, hd1, hK1⟩
  have KA := Lib.hid ((hK1.alloc (.cells #[.int .u32 s, .int .i64 h, .int .u32 i, .slice A1 l c1] 25)).alloc (.cells #[.int .i64 0, .int .i64 0, .int .i64 0, .slice dA1 0 dc1, .int .i64 0] 39))
  have HB4 := Lib.hid (Bk.second w1 (.cells #[.int .u32 s, .int .i64 h, .int .u32 i, .slice A1 l c1] 25) 39 #[.int .i64 0, .int .i64 0, .int .i64 0, .slice dA1 0 dc1, .int .i64 0])
  clear hK1 hx1 ha1 hd1
  go_wp2_with fail
  refine (H2.out _ KA.out).mono ?_
  rintro e w2 ⟨A2, c2, cs2, dA2, dc2, rfl, hx2, ha2, hd2, hK2⟩
  have hkb : Kp NoB w2 ((w2.alloc (.cells #[.int .u32 s, .int .i64 h, .int .u32 i, .slice A2 l c2] 32)).alloc (.cells #[.int .i64 0, .int .i64 0, .int .i64 0, .slice dA2 0 dc2, .int .i64 0] 39)) := ((Kp.refl _ _).alloc _).alloc _
  have hb5 := (Bk.fresh w2 32 #[.int .u32 s, .int .i64 h, .int .u32 i, .slice A2 l c2]).alloc (.cells #[.int .i64 0, .int .i64 0, .int .i64 0, .slice dA2 0 dc2, .int .i64 0] 39)
  have hb6 := Bk.second w2 (.cells #[.int .u32 s, .int .i64 h, .int .u32 i, .slice A2 l c2] 32) 39 #[.int .i64 0, .int .i64 0, .int .i64 0, .slice dA2 0 dc2, .int .i64 0]
  obtain ⟨wb, hwb⟩ : ∃ wb, (w2.alloc (.cells #[.int .u32 s, .int .i64 h, .int .u32 i, .slice A2 l c2] 32)).alloc (.cells #[.int .i64 0, .int .i64 0, .int .i64 0, .slice dA2 0 dc2, .int .i64 0] 39) = wb := ⟨_, rfl⟩
  rw [hwb] at hkb hb5 hb6
  have hk2b := hK2.and hkb
  have KB := Lib.hid (KA.out.and hk2b)
  have HX2 := Lib.hid (hx2.and hkb)
  have HR2 := Lib.hid (ha2.and hkb)
  obtain ⟨p3, hp3⟩ : ∃ p, w1.heap.size = p := ⟨_, rfl⟩
  obtain ⟨p5, hp5⟩ : ∃ p, w2.heap.size = p := ⟨_, rfl⟩
  rw [hp3] at HB4
  rw [hp5] at hb5 hb6
  have HC : Hid (∀ w', Kp NoB wb w' → w'.cell? ⟨p3 + 1, 0, none⟩ = some (.int .i64 0) ∧ (w'.cell? ⟨p5, 0, none⟩ = some (.int .u32 s) ∧ w'.cell? ⟨p5, 1, none⟩ = some (.int .i64 h) ∧ w'.cell? ⟨p5, 2, none⟩ = some (.int .u32 i) ∧ w'.cell? ⟨p5, 3, none⟩ = some (.slice A2 l c2)) ∧ w'.cell? ⟨p5 + 1, 0, none⟩ = some (.int .i64 0)) := Lib.hid (fun w' k => by
    have q4 := (HB4.out.and hk2b).and k
    have q5 := hb5.and k
    have q6 := hb6.and k
    exact ⟨q4.cell 0, ⟨q5.cell 0, q5.cell 1, q5.cell 2, q5.cell 3⟩, q6.cell 0⟩)
  have HWB := Lib.hid hwb
  obtain ⟨x0, ⟨x1, x2, x3, x4⟩, x5⟩ := HC.out wb (Kp.refl _ _)
  clear hK2 hx2 ha2 hd2 hkb hb5 hb6 hk2b hwb
  go_upto_region 5 with fail
  rw [HWB.out]
  go_wp2_with fail
  refine (HO.out A2 _ cs2 _ HX2.out HR2.out).mono ?_
  rintro e w3 ⟨A3, c3, rfl, ha3, hlc3, hcm3, hK3⟩
  have HR3 := Lib.hid ha3
  have KC := Lib.hid hK3
  clear ha3 hK3 x0 x1 x2 x3 x4 x5
  go_wp2_with fail
  refine (H3.out A3 _ _ HR3.out).mono ?_
  rintro e w4 ⟨A4, c4, cs4, dA4, dc4, rfl, hx4, ha4, hd4, hK4⟩
  have hkd : Kp NoB w4 ((w4.alloc (.cells #[.int .u32 s, .int .i64 h, .int .u32 i, .slice A4 l c4] 32)).alloc (.cells #[.int .i64 0, .int .i64 0, .int .i64 0, .slice dA4 0 dc4, .int .i64 0] 39)) := ((Kp.refl _ _).alloc _).alloc _
  have hb9 := (Bk.fresh w4 32 #[.int .u32 s, .int .i64 h, .int .u32 i, .slice A4 l c4]).alloc (.cells #[.int .i64 0, .int .i64 0, .int .i64 0, .slice dA4 0 dc4, .int .i64 0] 39)
  have hb10 := Bk.second w4 (.cells #[.int .u32 s, .int .i64 h, .int .u32 i, .slice A4 l c4] 32) 39 #[.int .i64 0, .int .i64 0, .int .i64 0, .slice dA4 0 dc4, .int .i64 0]
  obtain ⟨wd, hwd⟩ : ∃ wd, (w4.alloc (.cells #[.int .u32 s, .int .i64 h, .int .u32 i, .slice A4 l c4] 32)).alloc (.cells #[.int .i64 0, .int .i64 0, .int .i64 0, .slice dA4 0 dc4, .int .i64 0] 39) = wd := ⟨_, rfl⟩
  rw [hwd] at hkd hb9 hb10
  have KD := Lib.hid ((KC.out.and hK4).and hkd)
  have HX4 := Lib.hid (hx4.and hkd)
  have HR4 := Lib.hid (ha4.and hkd)
  obtain ⟨p9, hp9⟩ : ∃ p, w4.heap.size = p := ⟨_, rfl⟩
  rw [hp9] at hb9 hb10
  have HE : Hid (∀ w', Kp NoB wd w' → (w'.cell? ⟨p9, 0, none⟩ = some (.int .u32 s) ∧ w'.cell? ⟨p9, 1, none⟩ = some (.int .i64 h) ∧ w'.cell? ⟨p9, 2, none⟩ = some (.int .u32 i) ∧ w'.cell? ⟨p9, 3, none⟩ = some (.slice A4 l c4)) ∧ w'.cell? ⟨p9 + 1, 0, none⟩ = some (.int .i64 0)) := Lib.hid (fun w' k => by
    have q5 := hb9.and k
    have q6 := hb10.and k
    exact ⟨⟨q5.cell 0, q5.cell 1, q5.cell 2, q5.cell 3⟩, q6.cell 0⟩)
  have HWD := Lib.hid hwd
  clear hK4 hx4 ha4 hd4 hkd hb9 hb10 hwd
  go_upto_region 9 with fail
  rw [HWD.out]
  obtain ⟨x0, ⟨x1, x2, x3, x4⟩, x5⟩ := HC.out wd KD.out
  obtain ⟨⟨y1, y2, y3, y4⟩, y5⟩ := HE.out wd (Kp.refl _ _)
  go_wp2_with fail
  refine (HA.out _).mono ?_
  rintro e w5 ⟨rfl, hK5⟩
  have k5 := Lib.hid hK5
  clear hK5 x0 x1 x2 x3 x4 x5 y1 y2 y3 y4 y5
  obtain ⟨x0, ⟨x1, x2, x3, x4⟩, x5⟩ := HC.out _ (KD.out.and k5.out)
  obtain ⟨⟨y1, y2, y3, y4⟩, y5⟩ := HE.out _ k5.out
  go_wp2_with fail
  refine (HS.out A2 A4 _ _ cs2 cs4 _ (HX2.out.and (KD.out.and k5.out)) (HR2.out.and (KD.out.and k5.out)) (HX4.out.and k5.out) (HR4.out.and k5.out)).mono ?_
  rintro e w6 ⟨rfl, hK6⟩
  have k6 := Lib.hid (k5.out.and hK6)
  clear hK6
  go_wp2_with fail
  go_ret
  exact ⟨rfl, KB.out.and (KD.out.and k6.out)⟩

theorem accepts_row (A : Option Addr) (n c : Nat) (b : List Int) (w : World) (h : InBytes w A n c b) :
    Calls Try.prog 5 #[.slice A n c] w (Stay (.bool true) w) := by
  obtain ⟨rfl, hc, hcm, ha, hb⟩ := h
  by_cases hn : b.length ≤ 600
  · cases hbad : (stAt b 7).bad with
    | none => exact accepts_yes A c b w ha hb hc hcm hn hbad
    | some v => exact accepts_no A c b w ha hb hc hcm hn v.1 v.2.1 v.2.2 hbad
  · have HA := Lib.hid alive_any
    obtain ⟨n, hnn⟩ : ∃ n, b.length = n := ⟨_, rfl⟩
    rw [hnn] at hn ⊢
    have hn' : (600 : Int) < (n : Int) := by omega
    clear hnn ha hb hc hcm hn
    go_enter Try.func5, Try.ntmps5
    go_wp2_with fail
    refine (HA.out _).mono ?_
    rintro e w8 ⟨rfl, hK8⟩
    go_wp2_with fail
    go_ret
    exact ⟨rfl, hK8⟩

end Go.Proofs.Ytomkomkenfacpaa
