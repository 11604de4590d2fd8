/- The reference's routes: Read: its contract by walking the Go text. (Printed by wip/tools/rnld.py.) -/
import Derived.Test.YtkkfigdfgagimaaRNlC
namespace Go.Proofs.Ytkkfigdfgagimaa
open Go.RowKit
set_option linter.unusedVariables false
set_option linter.unusedSimpArgs false

theorem RdV.keep' {S : Nat → Prop} {w w' : World} {B : Option Addr} {n d t : Nat} {zs : List Int} (h : RdV w B n d t zs) (k : Kp S w w') (hs : zs ≠ [] → ∀ ad, B = some ad → ¬ S ad.block) : RdV w' B n d t zs := by
  by_cases hz : zs = []
  · subst hz
    exact ⟨h.1, h.2.1, h.2.2.1, h.2.2.2.1, Arr.nil _ _, h.2.2.2.2.2⟩
  · exact h.keep k (hs hz)

theorem size_setCells (b : Nat) : ∀ (vs : List Value) (o : Nat) (w : World), (w.setCells b o vs).heap.size = w.heap.size
  | [], _, _ => rfl
  | v :: r, o, w => by
    rw [World.setCells, size_setCells b r (o + 1)]
    simp [World.setCell]
theorem Arr.litG {S : Nat → Prop} {w0 W : World} (k : Kp S w0 W) (g : Nat) (hg : W.heap.size = g) (t : TypeId) (vs : List Value) : Arr (W.alloc (.cells vs.toArray t)) (some ⟨g, 0, none⟩) vs := by
  subst hg
  exact Arr.lit W t vs

/-- What the loop keeps. -/
def RLoop (fam : Int) (add : Bool) (ys : List Int) (w W0 : World) (n : Nat) (A : Option Addr) (c : Nat) (wr : World) : Prop :=
  ∃ xs zs t B m d, xs.length = n ∧ ReadSt fam add ys xs zs t ∧ Bk wr w.heap.size 69 #[.slice B m d, .int .i64 t] ∧ RdV wr B m d t zs ∧ (zs ≠ [] → ∀ a, B = some a → a.block < w.heap.size) ∧ Kp (OnB w.heap.size) W0 wr ∧ wr.ownsRow W0.heap.size 31 19 (.slice A n c) n (flatE rtC xs)

set_option maxRecDepth 100000 in
set_option maxHeartbeats 4000000 in
theorem rnread_any (fam : Int) (add : Bool) (A : Option Addr) (c : Nat) (ys : List Int) (w : World) (hn : ys.length ≤ 1000000) (hc : ys.length ≤ c) (hcm : c ≤ 9223372036854775807) (ha : Arr w A (bs ys)) (hb : IsB ys) (hfb : -9223372036854775808 ≤ fam ∧ fam ≤ 9223372036854775807) :
    Calls Try.prog 21 #[.int .i64 fam, .bool add, .slice A ys.length c] w (NReadAny (readL fam add ys) w) := by
  obtain ⟨i0, hi, hz0, hz1, hz2⟩ := info_parts infoRt19
  have HIR := Lib.hid infoRdr
  have HI18 := Lib.hid (size_of infoPre).2
  have HI19 := Lib.hid (size_of infoRt).2
  have HI19z := Lib.hid (show (Try.prog.info? 31).map (·.size) = some (rtF 0).toArray.size from (size_of infoRt).2)
  have HZO := Lib.hid (show (rtF 0).toArray.all (·.oneCell') = true from all_oneCell_toArray (rtF_one 0))
  have HZE : Hid (RtI.val ⟨0, zeroP⟩ = .agg (rtF 0).toArray) := Lib.hid rfl
  have HFB := Lib.hid hfb
  have HL := Lib.hid (show RLoop fam add ys w (w.alloc (.cells #[.slice A ys.length c, .int .i64 0] 69)) 0 none 0 (w.alloc (.cells #[.slice A ys.length c, .int .i64 0] 69)) from
    ⟨[], ys, 0, A, ys.length, c, rfl, ReadSt.start fam add ys hb, Bk.fresh _ _ _, ⟨rfl, hc, hcm, by omega, ha.alloc _, hb⟩, fun hz a e => ha.lt (by simpa [bs] using hz) a e, Kp.refl _ _, World.ownsRow_nil _ _ _ _⟩)
  have HK1 := Lib.hid ((Kp.refl NoB w).alloc (.cells #[.slice A ys.length c, .int .i64 0] 69))
  obtain ⟨R, hR⟩ : ∃ R, readL fam add ys = R := ⟨_, rfl⟩
  have HR := Lib.hid hR
  rw [hR]
  obtain ⟨n, hnn⟩ : ∃ n, ys.length = n := ⟨_, rfl⟩
  have HN := Lib.hid hnn
  rw [hnn] at hn hc HL HK1 ⊢
  clear ha hb hR hnn hfb hc hcm
  go_enter Try.func21, Try.ntmps21
  go_wp2_with fail
  have HW0 : Hid ((w.alloc (.cells #[.slice A n c, .int .i64 0] 69)).heap.size = w.heap.size + 1) := Lib.hid (World.size_alloc _ _)
  obtain ⟨W0, hW0⟩ : ∃ W0, w.alloc (.cells #[.slice A n c, .int .i64 0] 69) = W0 := ⟨_, rfl⟩
  rw [hW0] at HL HK1 HW0 ⊢
  clear hW0
  go_loopw [9] (fun v wr => ∃ (m : Nat) (A' : Option Addr) (c' : Nat), v = .slice A' m c' ∧ Hid (RLoop fam add ys w W0 m A' c' wr)) (fun v _ => n + 1 - lenV v)
  case atStart => exact ⟨0, none, 0, rfl, HL⟩
  case round =>
    obtain ⟨m, A', c', rfl, HI⟩ := hrel
    obtain ⟨xs, zs, t, B, l, d, hxm, hst, hg8, hrv, hbl, hK, hown⟩ := HI.out
    have hzl : zs.length = l := hrv.1
    have hmn : m + l ≤ n := by have := hst.1; have := HN.out; omega
    obtain ⟨r1, r2, r3, r4, r5⟩ := hg8.two
    have HST := Lib.hid hst
    have HG8 := Lib.hid hg8
    have HRV := Lib.hid hrv
    have HBL := Lib.hid hbl
    have HK := Lib.hid hK
    have HO := Lib.hid hown
    have HXM := Lib.hid hxm
    have HSZ := Lib.hid (show w.heap.size < wr.heap.size ∧ W0.heap.size ≤ wr.heap.size from ⟨hg8.lt, hK.size⟩)
    have HOL : Hid (∀ b, (Value.slice A' m c').ownBlock = some b → ¬ b = wr.heap.size) := Lib.hid (fun b hb e => by have := (hown.lt b hb).2; omega)
    have HLZ := Lib.hid hzl
    clear hst hg8 hrv hbl hK hown hxm HI
    by_cases hz : zs = []
    · subst hz
      obtain rfl : l = 0 := by simpa using hzl.symm
      have hfin : R = (some xs, -1) := HR.out.symm.trans HST.out.done
      have HF := Lib.hid hfin
      clear hfin hzl
      go_wp2_with fail
      go_ret2
      rw [HF.out]
      have hx := HXM.out
      subst hx
      exact ⟨A', c', rfl, own_down HO.out HK1.out.size, HK1.out.new HK.out (Nat.le_refl _)⟩
    have hl0 : 0 < l := by have := List.length_pos_iff.2 hz; omega
    have HZ := Lib.hid hz
    clear hz hzl
    rcases hr : readR fam add zs with _ | ⟨x, k⟩
    · have HF := Lib.hid (show R = (none, (t : Int)) from HR.out.symm.trans (HST.out.fail HZ.out hr))
      unfold readR at hr
      cases add with
      | false =>
        simp only [Bool.false_eq_true, if_false] at hr
        rcases hq : readP fam zs with _ | ⟨p, k'⟩
        rotate_left
        · simp [hq] at hr
        clear hr
        have HP1 := Lib.hid (fun (W : World) (h : RdV W B l d t zs) => rp1_no hq B l d t W h)
        have HPL := Lib.hid (preC_length (p := zeroP) rfl)
        have HPO := Lib.hid (all_oneCell_toArray (preC_one zeroP))
        unfold rv at HP1
        unfold RPReadNo PreI.val at HP1
        obtain ⟨cP, hcP⟩ : ∃ cP, preC zeroP = cP := ⟨_, rfl⟩
        rw [hcP] at HP1 HPL HPO
        clear hcP hq
        have G8 := Lib.hid (HG8.out.alloc (.cells (rtF 0).toArray 31))
        have GX := Lib.hid (Bk.fresh wr 31 (rtF 0).toArray)
        have KW := Lib.hid (HK.out.alloc (.cells (rtF 0).toArray 31))
        have OW := Lib.hid (HO.out.alloc (.cells (rtF 0).toArray 31))
        have RV := Lib.hid (HRV.out.and ((Kp.refl NoB wr).alloc (.cells (rtF 0).toArray 31)))
        go_wp2_with (first
          | (refine wpList_store_new (w := wr) rfl 31 (.tmp 11) (.tmp 21) rfl (rtF 0).toArray (rtF 0).toArray rfl ?_ 31 HI19z.out rfl HZO.out ?_; exact HZE.out)
          | (refine wpList_load_row rfl 69 (.tmp 8) rfl w.heap.size rfl 69 _ (0, 0) _ G8.out Try.underlying69 rfl HIR.out ?_)
          | (go_at_call 40; refine (HP1.out _ RV.out).mono ?_; (try unfold rv); rintro e w3 ⟨B2, n2, d2, t2, rfl, hK3⟩; replace G8 := Lib.hid (G8.out.and hK3); replace GX := Lib.hid (GX.out.and hK3); replace KW := Lib.hid (KW.out.and hK3); replace OW := Lib.hid (hK3.own OW.out (fun _ _ q => q)); clear hK3)
          | (refine wpList_store_row rfl 69 (.tmp 8) (.tmp 35) rfl w.heap.size #[.slice B2 n2 d2, .int .i64 t2] rfl rfl 69 _ G8.out HIR.out rfl (rv_one _ _ _ _) ?_; replace KW := Lib.hid (Kp.row (S := OnB w.heap.size) KW.out (fun _ => rfl) #[.slice B2 n2 d2, .int .i64 t2]); replace GX := Lib.hid (GX.out.row_far (g := w.heap.size) (by have := HSZ.out; omega) #[.slice B2 n2 d2, .int .i64 t2]); replace OW := Lib.hid ((Kp.row (S := OnB w.heap.size) (Kp.refl _ _) (fun _ => rfl) #[.slice B2 n2 d2, .int .i64 t2]).own OW.out (fun b hb => by have := own_base OW.out b hb; have := HW0.out; unfold OnB; omega)); replace G8 := Lib.hid (G8.out.row #[.slice B2 n2 d2, .int .i64 t2]))
          | (refine wpList_store_mid rfl 29 (.tmp 38) (.tmp 36) rfl wr.heap.size 1 cP.toArray rfl rfl (there_bk GX.out 1 _ (by rw [rtF_length, List.size_toArray, HPL.out]; decide)) (by rw [List.size_toArray, HPL.out]; exact HI18.out) HPO.out ?_; replace KW := Lib.hid (Kp.setCells (S := OnB w.heap.size) (b := wr.heap.size) (fun h => by have := HSZ.out; omega) cP 1 KW.out)))
        go_ret2
        rw [HF.out]
        exact ⟨rfl, HK1.out.new KW.out (Nat.le_refl _)⟩

      | true =>
        simp only [if_true] at hr
        by_cases h4 : zs.length < 4
        · clear hr
          have HN4 := Lib.hid (fun W => rnumber_short B l d t 4 W (by decide) (by decide) (by have := HLZ.out; omega))
          unfold rv at HN4
          clear h4
          have G8 := Lib.hid (HG8.out.alloc (.cells (rtF 0).toArray 31))
          have GX := Lib.hid (Bk.fresh wr 31 (rtF 0).toArray)
          have KW := Lib.hid (HK.out.alloc (.cells (rtF 0).toArray 31))
          have OW := Lib.hid (HO.out.alloc (.cells (rtF 0).toArray 31))
          have RV := Lib.hid (HRV.out.and ((Kp.refl NoB wr).alloc (.cells (rtF 0).toArray 31)))
          go_wp2_with (first
            | (refine wpList_store_new (w := wr) rfl 31 (.tmp 11) (.tmp 21) rfl (rtF 0).toArray (rtF 0).toArray rfl ?_ 31 HI19z.out rfl HZO.out ?_; exact HZE.out)
            | (refine wpList_load_row rfl 69 (.tmp 8) rfl w.heap.size rfl 69 _ (0, 0) _ G8.out Try.underlying69 rfl HIR.out ?_)
            | (go_at_call 39; (with_reducible refine (HN4.out _).mono ?_); rintro e w2 ⟨rfl, hK2⟩; replace G8 := Lib.hid (G8.out.and hK2); replace GX := Lib.hid (GX.out.and hK2); replace KW := Lib.hid (KW.out.and hK2); replace OW := Lib.hid (hK2.own OW.out (fun _ _ q => q)); clear hK2)
            | (refine wpList_store_row rfl 69 (.tmp 8) (.tmp 26) rfl w.heap.size #[.slice B l d, .int .i64 t] rfl rfl 69 _ G8.out HIR.out rfl (rv_one _ _ _ _) ?_; replace KW := Lib.hid (Kp.row (S := OnB w.heap.size) KW.out (fun _ => rfl) #[.slice B l d, .int .i64 t]); replace GX := Lib.hid (GX.out.row_far (g := w.heap.size) (by have := HSZ.out; omega) #[.slice B l d, .int .i64 t]); replace OW := Lib.hid ((Kp.row (S := OnB w.heap.size) (Kp.refl _ _) (fun _ => rfl) #[.slice B l d, .int .i64 t]).own OW.out (fun b hb => by have := own_base OW.out b hb; have := HW0.out; unfold OnB; omega)); replace G8 := Lib.hid (G8.out.row #[.slice B l d, .int .i64 t]); have z1 := GX.out.cell 0; have z2 := GX.out.frozen 0; change _ = some (Value.int .u32 0) at z1; replace KW := Lib.hid (KW.out.setCell (p := ⟨wr.heap.size, 0, none⟩) (fun h => by have h : wr.heap.size < W0.heap.size := h; have := HSZ.out; omega) (.int .u32 0)); replace OW := Lib.hid (((Kp.refl (OnB wr.heap.size) _).setCell (p := ⟨wr.heap.size, 0, none⟩) (fun _ => rfl) (.int .u32 0)).own OW.out (fun b hb e => HOL.out b hb e)); replace G8 := Lib.hid (G8.out.far (p := ⟨wr.heap.size, 0, none⟩) (by have := HSZ.out; show w.heap.size ≠ wr.heap.size; omega) (.int .u32 0)); replace GX := Lib.hid (show Bk _ _ _ (rtF 0).toArray from GX.out.set 0 (.int .u32 0))))
          go_ret2
          rw [HF.out]
          exact ⟨rfl, HK1.out.new KW.out (Nat.le_refl _)⟩

        · rw [if_neg h4] at hr
          rcases hq : readP fam (zs.drop 4) with _ | ⟨p, k'⟩
          rotate_left
          · simp [hq] at hr
          clear hr
          have HN4 := Lib.hid (fun (W : World) (h : RdV W B l d t zs) => rn4_yes B l d t zs W h (by have := HLZ.out; omega))
          have HP1 := Lib.hid (fun (B1 : Option Addr) (n1 d1 : Nat) (W : World) (h : RdV W B1 n1 d1 (t + 4) (zs.drop 4)) => rp1_no hq B1 n1 d1 (t + 4) W h)
          have HPL := Lib.hid (preC_length (p := zeroP) rfl)
          have HPO := Lib.hid (all_oneCell_toArray (preC_one zeroP))
          obtain ⟨v, hv⟩ : ∃ v, big (zs.take 4) = v := ⟨_, rfl⟩
          rw [hv] at HN4
          obtain ⟨t4, ht4⟩ : ∃ t4, t + 4 = t4 := ⟨_, rfl⟩
          rw [ht4] at HN4 HP1
          unfold RN4 rv at HN4
          unfold rv at HP1
          unfold RPReadNo PreI.val at HP1
          obtain ⟨cP, hcP⟩ : ∃ cP, preC zeroP = cP := ⟨_, rfl⟩
          rw [hcP] at HP1 HPL HPO
          clear hcP hq hv ht4 h4
          have G8 := Lib.hid (HG8.out.alloc (.cells (rtF 0).toArray 31))
          have GX := Lib.hid (Bk.fresh wr 31 (rtF 0).toArray)
          have KW := Lib.hid (HK.out.alloc (.cells (rtF 0).toArray 31))
          have OW := Lib.hid (HO.out.alloc (.cells (rtF 0).toArray 31))
          have RV := Lib.hid (HRV.out.and ((Kp.refl NoB wr).alloc (.cells (rtF 0).toArray 31)))
          go_wp2_with (first
            | (refine wpList_store_new (w := wr) rfl 31 (.tmp 11) (.tmp 21) rfl (rtF 0).toArray (rtF 0).toArray rfl ?_ 31 HI19z.out rfl HZO.out ?_; exact HZE.out)
            | (refine wpList_load_row rfl 69 (.tmp 8) rfl w.heap.size rfl 69 _ (0, 0) _ G8.out Try.underlying69 rfl HIR.out ?_)
            | (go_at_call 39; refine (HN4.out _ RV.out).mono ?_; (try unfold rv); rintro e w2 ⟨B1, n1, d1, rfl, hR, hK2, hb1⟩; replace G8 := Lib.hid (G8.out.and hK2); replace GX := Lib.hid (GX.out.and hK2); replace KW := Lib.hid (KW.out.and hK2); replace OW := Lib.hid (hK2.own OW.out (fun _ _ q => q)); have HB1 := Lib.hid (show zs.drop 4 ≠ [] → ∀ a, B1 = some a → a.block < w.heap.size from fun hz a ha => by obtain ⟨b, hb, e⟩ := hb1 a ha; rw [e]; exact HBL.out (fun h => hz (by rw [h]; rfl)) b hb); clear hb1; replace RV := Lib.hid hR; clear hR hK2)
            | (refine wpList_store_row rfl 69 (.tmp 8) (.tmp 26) rfl w.heap.size #[.slice B1 n1 d1, .int .i64 t4] rfl rfl 69 _ G8.out HIR.out rfl (rv_one _ _ _ _) ?_; replace KW := Lib.hid (Kp.row (S := OnB w.heap.size) KW.out (fun _ => rfl) #[.slice B1 n1 d1, .int .i64 t4]); replace GX := Lib.hid (GX.out.row_far (g := w.heap.size) (by have := HSZ.out; omega) #[.slice B1 n1 d1, .int .i64 t4]); replace OW := Lib.hid ((Kp.row (S := OnB w.heap.size) (Kp.refl _ _) (fun _ => rfl) #[.slice B1 n1 d1, .int .i64 t4]).own OW.out (fun b hb => by have := own_base OW.out b hb; have := HW0.out; unfold OnB; omega)); replace G8 := Lib.hid (G8.out.row #[.slice B1 n1 d1, .int .i64 t4]); replace RV := Lib.hid (RV.out.keep' (Kp.row (S := OnB w.heap.size) (Kp.refl _ _) (fun _ => rfl) #[.slice B1 n1 d1, .int .i64 t4]) (fun hz a ha e => by have := HB1.out hz a ha; unfold OnB at e; omega)); have z1 := GX.out.cell 0; have z2 := GX.out.frozen 0; change _ = some (Value.int .u32 0) at z1; replace KW := Lib.hid (KW.out.setCell (p := ⟨wr.heap.size, 0, none⟩) (fun h => by have h : wr.heap.size < W0.heap.size := h; have := HSZ.out; omega) (.int .u32 v)); replace OW := Lib.hid (((Kp.refl (OnB wr.heap.size) _).setCell (p := ⟨wr.heap.size, 0, none⟩) (fun _ => rfl) (.int .u32 v)).own OW.out (fun b hb e => HOL.out b hb e)); replace G8 := Lib.hid (G8.out.far (p := ⟨wr.heap.size, 0, none⟩) (by have := HSZ.out; show w.heap.size ≠ wr.heap.size; omega) (.int .u32 v)); replace GX := Lib.hid (show Bk _ _ _ (rtF v).toArray from GX.out.set 0 (.int .u32 v)); replace RV := Lib.hid (RV.out.keep' ((Kp.refl (OnB wr.heap.size) _).setCell (p := ⟨wr.heap.size, 0, none⟩) (fun _ => rfl) (.int .u32 v)) (fun hz a ha e => by have := HB1.out hz a ha; have := HSZ.out; unfold OnB at e; omega)))
            | (go_at_call 40; refine (HP1.out B1 n1 d1 _ RV.out).mono ?_; (try unfold rv); rintro e w3 ⟨B2, n2, d2, t2, rfl, hK3⟩; replace G8 := Lib.hid (G8.out.and hK3); replace GX := Lib.hid (GX.out.and hK3); replace KW := Lib.hid (KW.out.and hK3); replace OW := Lib.hid (hK3.own OW.out (fun _ _ q => q)); clear hK3)
            | (refine wpList_store_row rfl 69 (.tmp 8) (.tmp 35) rfl w.heap.size #[.slice B2 n2 d2, .int .i64 t2] rfl rfl 69 _ G8.out HIR.out rfl (rv_one _ _ _ _) ?_; replace KW := Lib.hid (Kp.row (S := OnB w.heap.size) KW.out (fun _ => rfl) #[.slice B2 n2 d2, .int .i64 t2]); replace GX := Lib.hid (GX.out.row_far (g := w.heap.size) (by have := HSZ.out; omega) #[.slice B2 n2 d2, .int .i64 t2]); replace OW := Lib.hid ((Kp.row (S := OnB w.heap.size) (Kp.refl _ _) (fun _ => rfl) #[.slice B2 n2 d2, .int .i64 t2]).own OW.out (fun b hb => by have := own_base OW.out b hb; have := HW0.out; unfold OnB; omega)); replace G8 := Lib.hid (G8.out.row #[.slice B2 n2 d2, .int .i64 t2]))
            | (refine wpList_store_mid rfl 29 (.tmp 38) (.tmp 36) rfl wr.heap.size 1 cP.toArray rfl rfl (there_bk GX.out 1 _ (by rw [rtF_length, List.size_toArray, HPL.out]; decide)) (by rw [List.size_toArray, HPL.out]; exact HI18.out) HPO.out ?_; replace KW := Lib.hid (Kp.setCells (S := OnB w.heap.size) (b := wr.heap.size) (fun h => by have := HSZ.out; omega) cP 1 KW.out)))
          go_ret2
          rw [HF.out]
          exact ⟨rfl, HK1.out.new KW.out (Nat.le_refl _)⟩

    · have hg := readR_good hr HST.out.2.1 HFB.out
      have HST2 := Lib.hid (HST.out.step HFB.out HZ.out hr)
      have HXL := Lib.hid (rtC_length hg.1.2.2.2.1)
      have HXV := Lib.hid (rtC_one x)
      have HXO := Lib.hid (all_oneCell_toArray (rtC_one x))
      have HSN := Lib.hid (flatE_snoc rtC xs x)
      have HXB := Lib.hid hg.1.2.2.2.1
      clear hg
      unfold readR at hr
      cases add with
      | false =>
        simp only [Bool.false_eq_true, if_false] at hr
        rcases hq : readP fam zs with _ | ⟨p, k'⟩
        · simp [hq] at hr
        simp [hq] at hr
        obtain ⟨rfl, rfl⟩ := hr
        have HP1 := Lib.hid (fun (W : World) (h : RdV W B l d t zs) => rp1_yes hq B l d t W h)
        have HPL := Lib.hid (preC_length (p := p) HXB.out)
        have HPO := Lib.hid (all_oneCell_toArray (preC_one p))
        have HSP := Lib.hid (splice_rt 0 p HXB.out)
        have HZS : Hid (zs = [] → zs.drop k' = []) := Lib.hid (fun h => by rw [h]; simp)
        obtain ⟨ZS, hZS⟩ : ∃ ZS, zs.drop k' = ZS := ⟨_, rfl⟩
        obtain ⟨T2, hT2⟩ : ∃ T2, t + k' = T2 := ⟨_, rfl⟩
        rw [hZS, hT2] at HST2 HP1
        rw [hZS] at HZS
        unfold rv at HP1
        unfold RP1 rv PreI.val at HP1
        obtain ⟨cP, hcP⟩ : ∃ cP, preC p = cP := ⟨_, rfl⟩
        rw [hcP] at HP1 HPL HPO HSP
        obtain ⟨cX, hcX⟩ : ∃ cX, rtC ⟨0, p⟩ = cX := ⟨_, rfl⟩
        rw [hcX] at HXL HXV HXO HSN HSP
        obtain ⟨x, hx⟩ : ∃ x : RtI, ⟨0, p⟩ = x := ⟨_, rfl⟩
        rw [hx] at HST2 HSN
        clear hcP hcX hq hZS hT2 hx HXB
        have G8 := Lib.hid (HG8.out.alloc (.cells (rtF 0).toArray 31))
        have GX := Lib.hid (Bk.fresh wr 31 (rtF 0).toArray)
        have KW := Lib.hid (HK.out.alloc (.cells (rtF 0).toArray 31))
        have OW := Lib.hid (HO.out.alloc (.cells (rtF 0).toArray 31))
        have RV := Lib.hid (HRV.out.and ((Kp.refl NoB wr).alloc (.cells (rtF 0).toArray 31)))
        go_wp2_with (first
          | (refine wpList_store_new (w := wr) rfl 31 (.tmp 11) (.tmp 21) rfl (rtF 0).toArray (rtF 0).toArray rfl ?_ 31 HI19z.out rfl HZO.out ?_; exact HZE.out)
          | (refine wpList_load_row rfl 69 (.tmp 8) rfl w.heap.size rfl 69 _ (0, 0) _ G8.out Try.underlying69 rfl HIR.out ?_)
          | (go_at_call 40; refine (HP1.out _ RV.out).mono ?_; (try unfold rv); rintro e w3 ⟨B2, n2, d2, rfl, hR, hK3, hb2⟩; replace G8 := Lib.hid (G8.out.and hK3); replace GX := Lib.hid (GX.out.and hK3); replace KW := Lib.hid (KW.out.and hK3); replace OW := Lib.hid (hK3.own OW.out (fun _ _ q => q)); have HB2 := Lib.hid (show ZS ≠ [] → ∀ a, B2 = some a → a.block < w.heap.size from fun hz a ha => by obtain ⟨b, hb, e⟩ := hb2 a ha; rw [e]; exact HBL.out (fun h => hz (HZS.out h)) b hb); clear hb2; replace RV := Lib.hid hR; clear hR hK3)
          | (refine wpList_store_row rfl 69 (.tmp 8) (.tmp 35) rfl w.heap.size #[.slice B2 n2 d2, .int .i64 T2] rfl rfl 69 _ G8.out HIR.out rfl (rv_one _ _ _ _) ?_; replace KW := Lib.hid (Kp.row (S := OnB w.heap.size) KW.out (fun _ => rfl) #[.slice B2 n2 d2, .int .i64 T2]); replace GX := Lib.hid (GX.out.row_far (g := w.heap.size) (by have := HSZ.out; omega) #[.slice B2 n2 d2, .int .i64 T2]); replace OW := Lib.hid ((Kp.row (S := OnB w.heap.size) (Kp.refl _ _) (fun _ => rfl) #[.slice B2 n2 d2, .int .i64 T2]).own OW.out (fun b hb => by have := own_base OW.out b hb; have := HW0.out; unfold OnB; omega)); replace G8 := Lib.hid (G8.out.row #[.slice B2 n2 d2, .int .i64 T2]); replace RV := Lib.hid (RV.out.keep' (Kp.row (S := OnB w.heap.size) (Kp.refl _ _) (fun _ => rfl) #[.slice B2 n2 d2, .int .i64 T2]) (fun hz a ha e => by have := HB2.out hz a ha; unfold OnB at e; omega)))
          | (refine wpList_store_mid rfl 29 (.tmp 38) (.tmp 36) rfl wr.heap.size 1 cP.toArray rfl rfl (there_bk GX.out 1 _ (by rw [rtF_length, List.size_toArray, HPL.out]; decide)) (by rw [List.size_toArray, HPL.out]; exact HI18.out) HPO.out ?_; replace KW := Lib.hid (Kp.setCells (S := OnB w.heap.size) (b := wr.heap.size) (fun h => by have := HSZ.out; omega) cP 1 KW.out); replace OW := Lib.hid ((Kp.setCells (S := OnB wr.heap.size) (b := wr.heap.size) (fun _ => rfl) cP 1 (Kp.refl _ _)).own OW.out (fun b hb e => HOL.out b hb e)); replace G8 := Lib.hid (Bk.setCells_far (b := w.heap.size) (c := wr.heap.size) (by have := HSZ.out; omega) cP 1 G8.out); replace RV := Lib.hid (RV.out.keep' (Kp.setCells (S := OnB wr.heap.size) (b := wr.heap.size) (fun _ => rfl) cP 1 (Kp.refl _ _)) (fun hz a ha e => by have := HB2.out hz a ha; have := HSZ.out; unfold OnB at e; omega)); replace GX := Lib.hid (show Bk _ _ _ cX.toArray from by have h := Bk.setCells cP 1 GX.out (by rw [rtF_length, HPL.out]; decide); rwa [HSP.out] at h))
          | (refine wpList_load_at rfl 31 (.tmp 11) rfl ⟨wr.heap.size, 0, none⟩ rfl cX _ (CellsAt.of_bk GX.out) Try.underlying31 rfl (by rw [HXL.out]; exact HI19.out) ?_)
          | (refine wpList_build_row rfl 22 (.tmp 43) rfl cX rfl 31 i0 (.agg (rtF 0).toArray) 19 Try.underlying22 hi hz0 hz1 rfl (by decide) HXL.out (by decide) w3.heap.size (by rw [size_setCells, size_setRow]) ?_; have KA := Lib.hid (KW.out.alloc (.cells cX.toArray 31)); have OA := Lib.hid (OW.out.alloc (.cells cX.toArray 31)); have GA := Lib.hid (G8.out.alloc (.cells cX.toArray 31)); have RA := Lib.hid (RV.out.and ((Kp.refl NoB _).alloc (.cells cX.toArray 31))); have AA := Lib.hid (Arr.litG KW.out w3.heap.size (by rw [size_setCells, size_setRow]) 31 cX))
          | (at_builtin; refine wpList_app KA.out rfl (.tmp 42) (.tmp 44) 22 rfl 31 i0 (.agg (rtF 0).toArray) 19 40 Try.underlying22 hi hz0 hz1 hz2 rfl (by decide) (.slice A' m c') m (flatE rtC xs) rfl OA.out (some ⟨w3.heap.size, 0, none⟩) 1 1 cX rfl HXL.out AA.out HXV.out (by omega) (by decide) (m + 1) rfl ?_; intro A3 c3 w9 hown3 hK9 hG _; replace hown3 := Lib.hid hown3; replace hK9 := Lib.hid hK9; replace hG := Lib.hid hG))
        have hge : ∀ b, b < W0.heap.size → ¬ some b = (Value.slice A' m c').ownBlock := fun b hb => own_ge OA.out hb
        have hg2 := Kp.of_grown hG.out
        have hw0 := HW0.out
        refine ⟨⟨m + 1, A3, c3, rfl, Lib.hid ⟨xs ++ [x], ZS, T2, B2, n2, d2, by simp [HXM.out], HST2.out, GA.out.keep hg2 (hge _ (by omega)), RA.out.keep' hg2 (fun hz a ha => hge _ (by have := HB2.out hz a ha; omega)), HB2.out, hK9.out, ?_⟩⟩, by simp only [lenV]; omega⟩
        rw [HSN.out]
        exact hown3.out

      | true =>
        simp only [if_true] at hr
        by_cases h4 : zs.length < 4
        · simp [h4] at hr
        rw [if_neg h4] at hr
        rcases hq : readP fam (zs.drop 4) with _ | ⟨p, k'⟩
        · simp [hq] at hr
        simp [hq] at hr
        obtain ⟨rfl, rfl⟩ := hr
        have HN4 := Lib.hid (fun (W : World) (h : RdV W B l d t zs) => rn4_yes B l d t zs W h (by have := HLZ.out; omega))
        have HP1 := Lib.hid (fun (B1 : Option Addr) (n1 d1 : Nat) (W : World) (h : RdV W B1 n1 d1 (t + 4) (zs.drop 4)) => rp1_yes hq B1 n1 d1 (t + 4) W h)
        rw [List.drop_drop, Nat.add_assoc] at HP1
        have HPL := Lib.hid (preC_length (p := p) HXB.out)
        have HPO := Lib.hid (all_oneCell_toArray (preC_one p))
        have HZS : Hid (zs.drop 4 = [] → zs.drop (4 + k') = []) := Lib.hid (fun h => by rw [← List.drop_drop, h]; simp)
        obtain ⟨v, hv⟩ : ∃ v, big (zs.take 4) = v := ⟨_, rfl⟩
        rw [hv] at HN4 HST2 HXL HXV HXO HSN HXB
        have HSP := Lib.hid (splice_rt v p HXB.out)
        obtain ⟨ZS, hZS⟩ : ∃ ZS, zs.drop (4 + k') = ZS := ⟨_, rfl⟩
        obtain ⟨T2, hT2⟩ : ∃ T2, t + (4 + k') = T2 := ⟨_, rfl⟩
        obtain ⟨t4, ht4⟩ : ∃ t4, t + 4 = t4 := ⟨_, rfl⟩
        rw [hZS, hT2] at HST2 HP1
        rw [hZS] at HZS
        rw [ht4] at HN4 HP1
        unfold RN4 rv at HN4
        unfold rv at HP1
        unfold RP1 rv PreI.val at HP1
        obtain ⟨cP, hcP⟩ : ∃ cP, preC p = cP := ⟨_, rfl⟩
        rw [hcP] at HP1 HPL HPO HSP
        obtain ⟨cX, hcX⟩ : ∃ cX, rtC ⟨v, p⟩ = cX := ⟨_, rfl⟩
        rw [hcX] at HXL HXV HXO HSN HSP
        obtain ⟨x, hx⟩ : ∃ x : RtI, ⟨v, p⟩ = x := ⟨_, rfl⟩
        rw [hx] at HST2 HSN
        clear hcP hcX hq hZS hT2 ht4 hv hx HXB h4
        have G8 := Lib.hid (HG8.out.alloc (.cells (rtF 0).toArray 31))
        have GX := Lib.hid (Bk.fresh wr 31 (rtF 0).toArray)
        have KW := Lib.hid (HK.out.alloc (.cells (rtF 0).toArray 31))
        have OW := Lib.hid (HO.out.alloc (.cells (rtF 0).toArray 31))
        have RV := Lib.hid (HRV.out.and ((Kp.refl NoB wr).alloc (.cells (rtF 0).toArray 31)))
        go_wp2_with (first
          | (refine wpList_store_new (w := wr) rfl 31 (.tmp 11) (.tmp 21) rfl (rtF 0).toArray (rtF 0).toArray rfl ?_ 31 HI19z.out rfl HZO.out ?_; exact HZE.out)
          | (refine wpList_load_row rfl 69 (.tmp 8) rfl w.heap.size rfl 69 _ (0, 0) _ G8.out Try.underlying69 rfl HIR.out ?_)
          | (go_at_call 39; refine (HN4.out _ RV.out).mono ?_; (try unfold rv); rintro e w2 ⟨B1, n1, d1, rfl, hR, hK2, hb1⟩; replace G8 := Lib.hid (G8.out.and hK2); replace GX := Lib.hid (GX.out.and hK2); replace KW := Lib.hid (KW.out.and hK2); replace OW := Lib.hid (hK2.own OW.out (fun _ _ q => q)); have HB1 := Lib.hid (show zs.drop 4 ≠ [] → ∀ a, B1 = some a → a.block < w.heap.size from fun hz a ha => by obtain ⟨b, hb, e⟩ := hb1 a ha; rw [e]; exact HBL.out (fun h => hz (by rw [h]; rfl)) b hb); clear hb1; replace RV := Lib.hid hR; clear hR hK2)
          | (refine wpList_store_row rfl 69 (.tmp 8) (.tmp 26) rfl w.heap.size #[.slice B1 n1 d1, .int .i64 t4] rfl rfl 69 _ G8.out HIR.out rfl (rv_one _ _ _ _) ?_; replace KW := Lib.hid (Kp.row (S := OnB w.heap.size) KW.out (fun _ => rfl) #[.slice B1 n1 d1, .int .i64 t4]); replace GX := Lib.hid (GX.out.row_far (g := w.heap.size) (by have := HSZ.out; omega) #[.slice B1 n1 d1, .int .i64 t4]); replace OW := Lib.hid ((Kp.row (S := OnB w.heap.size) (Kp.refl _ _) (fun _ => rfl) #[.slice B1 n1 d1, .int .i64 t4]).own OW.out (fun b hb => by have := own_base OW.out b hb; have := HW0.out; unfold OnB; omega)); replace G8 := Lib.hid (G8.out.row #[.slice B1 n1 d1, .int .i64 t4]); replace RV := Lib.hid (RV.out.keep' (Kp.row (S := OnB w.heap.size) (Kp.refl _ _) (fun _ => rfl) #[.slice B1 n1 d1, .int .i64 t4]) (fun hz a ha e => by have := HB1.out hz a ha; unfold OnB at e; omega)); have z1 := GX.out.cell 0; have z2 := GX.out.frozen 0; change _ = some (Value.int .u32 0) at z1; replace KW := Lib.hid (KW.out.setCell (p := ⟨wr.heap.size, 0, none⟩) (fun h => by have h : wr.heap.size < W0.heap.size := h; have := HSZ.out; omega) (.int .u32 v)); replace OW := Lib.hid (((Kp.refl (OnB wr.heap.size) _).setCell (p := ⟨wr.heap.size, 0, none⟩) (fun _ => rfl) (.int .u32 v)).own OW.out (fun b hb e => HOL.out b hb e)); replace G8 := Lib.hid (G8.out.far (p := ⟨wr.heap.size, 0, none⟩) (by have := HSZ.out; show w.heap.size ≠ wr.heap.size; omega) (.int .u32 v)); replace GX := Lib.hid (show Bk _ _ _ (rtF v).toArray from GX.out.set 0 (.int .u32 v)); replace RV := Lib.hid (RV.out.keep' ((Kp.refl (OnB wr.heap.size) _).setCell (p := ⟨wr.heap.size, 0, none⟩) (fun _ => rfl) (.int .u32 v)) (fun hz a ha e => by have := HB1.out hz a ha; have := HSZ.out; unfold OnB at e; omega)))
          | (go_at_call 40; refine (HP1.out B1 n1 d1 _ RV.out).mono ?_; (try unfold rv); rintro e w3 ⟨B2, n2, d2, rfl, hR, hK3, hb2⟩; replace G8 := Lib.hid (G8.out.and hK3); replace GX := Lib.hid (GX.out.and hK3); replace KW := Lib.hid (KW.out.and hK3); replace OW := Lib.hid (hK3.own OW.out (fun _ _ q => q)); have HB2 := Lib.hid (show ZS ≠ [] → ∀ a, B2 = some a → a.block < w.heap.size from fun hz a ha => by obtain ⟨b, hb, e⟩ := hb2 a ha; rw [e]; exact HB1.out (fun h => hz (HZS.out h)) b hb); clear hb2; replace RV := Lib.hid hR; clear hR hK3)
          | (refine wpList_store_row rfl 69 (.tmp 8) (.tmp 35) rfl w.heap.size #[.slice B2 n2 d2, .int .i64 T2] rfl rfl 69 _ G8.out HIR.out rfl (rv_one _ _ _ _) ?_; replace KW := Lib.hid (Kp.row (S := OnB w.heap.size) KW.out (fun _ => rfl) #[.slice B2 n2 d2, .int .i64 T2]); replace GX := Lib.hid (GX.out.row_far (g := w.heap.size) (by have := HSZ.out; omega) #[.slice B2 n2 d2, .int .i64 T2]); replace OW := Lib.hid ((Kp.row (S := OnB w.heap.size) (Kp.refl _ _) (fun _ => rfl) #[.slice B2 n2 d2, .int .i64 T2]).own OW.out (fun b hb => by have := own_base OW.out b hb; have := HW0.out; unfold OnB; omega)); replace G8 := Lib.hid (G8.out.row #[.slice B2 n2 d2, .int .i64 T2]); replace RV := Lib.hid (RV.out.keep' (Kp.row (S := OnB w.heap.size) (Kp.refl _ _) (fun _ => rfl) #[.slice B2 n2 d2, .int .i64 T2]) (fun hz a ha e => by have := HB2.out hz a ha; unfold OnB at e; omega)))
          | (refine wpList_store_mid rfl 29 (.tmp 38) (.tmp 36) rfl wr.heap.size 1 cP.toArray rfl rfl (there_bk GX.out 1 _ (by rw [rtF_length, List.size_toArray, HPL.out]; decide)) (by rw [List.size_toArray, HPL.out]; exact HI18.out) HPO.out ?_; replace KW := Lib.hid (Kp.setCells (S := OnB w.heap.size) (b := wr.heap.size) (fun h => by have := HSZ.out; omega) cP 1 KW.out); replace OW := Lib.hid ((Kp.setCells (S := OnB wr.heap.size) (b := wr.heap.size) (fun _ => rfl) cP 1 (Kp.refl _ _)).own OW.out (fun b hb e => HOL.out b hb e)); replace G8 := Lib.hid (Bk.setCells_far (b := w.heap.size) (c := wr.heap.size) (by have := HSZ.out; omega) cP 1 G8.out); replace RV := Lib.hid (RV.out.keep' (Kp.setCells (S := OnB wr.heap.size) (b := wr.heap.size) (fun _ => rfl) cP 1 (Kp.refl _ _)) (fun hz a ha e => by have := HB2.out hz a ha; have := HSZ.out; unfold OnB at e; omega)); replace GX := Lib.hid (show Bk _ _ _ cX.toArray from by have h := Bk.setCells cP 1 GX.out (by rw [rtF_length, HPL.out]; decide); rwa [HSP.out] at h))
          | (refine wpList_load_at rfl 31 (.tmp 11) rfl ⟨wr.heap.size, 0, none⟩ rfl cX _ (CellsAt.of_bk GX.out) Try.underlying31 rfl (by rw [HXL.out]; exact HI19.out) ?_)
          | (refine wpList_build_row rfl 22 (.tmp 43) rfl cX rfl 31 i0 (.agg (rtF 0).toArray) 19 Try.underlying22 hi hz0 hz1 rfl (by decide) HXL.out (by decide) w3.heap.size (by rw [size_setCells, size_setRow]) ?_; have KA := Lib.hid (KW.out.alloc (.cells cX.toArray 31)); have OA := Lib.hid (OW.out.alloc (.cells cX.toArray 31)); have GA := Lib.hid (G8.out.alloc (.cells cX.toArray 31)); have RA := Lib.hid (RV.out.and ((Kp.refl NoB _).alloc (.cells cX.toArray 31))); have AA := Lib.hid (Arr.litG KW.out w3.heap.size (by rw [size_setCells, size_setRow]) 31 cX))
          | (at_builtin; refine wpList_app KA.out rfl (.tmp 42) (.tmp 44) 22 rfl 31 i0 (.agg (rtF 0).toArray) 19 40 Try.underlying22 hi hz0 hz1 hz2 rfl (by decide) (.slice A' m c') m (flatE rtC xs) rfl OA.out (some ⟨w3.heap.size, 0, none⟩) 1 1 cX rfl HXL.out AA.out HXV.out (by omega) (by decide) (m + 1) rfl ?_; intro A3 c3 w9 hown3 hK9 hG _; replace hown3 := Lib.hid hown3; replace hK9 := Lib.hid hK9; replace hG := Lib.hid hG))
        have hge : ∀ b, b < W0.heap.size → ¬ some b = (Value.slice A' m c').ownBlock := fun b hb => own_ge OA.out hb
        have hg2 := Kp.of_grown hG.out
        have hw0 := HW0.out
        refine ⟨⟨m + 1, A3, c3, rfl, Lib.hid ⟨xs ++ [x], ZS, T2, B2, n2, d2, by simp [HXM.out], HST2.out, GA.out.keep hg2 (hge _ (by omega)), RA.out.keep' hg2 (fun hz a ha => hge _ (by have := HB2.out hz a ha; omega)), HB2.out, hK9.out, ?_⟩⟩, by simp only [lenV]; omega⟩
        rw [HSN.out]
        exact hown3.out

end Go.Proofs.Ytkkfigdfgagimaa
