/- Package nlri: Read: its contract by walking the Go text. -/
import Derived.Test.YtkkfigdfgagimaaNlG
import Derived.Test.YtkkfigdfgagimaaBuildR
namespace Go.Proofs.Ytkkfigdfgagimaa
open Go.RowKit
set_option linter.unusedVariables false
set_option linter.unusedSimpArgs false

theorem next_some {fam : Int} {add : Bool} {ys : List Int} {x : RtI} {k : Nat} (hp : readR fam add ys = some (x, k)) (ba bf br q r t : Nat) (w : World) (h : Rd w q r ys t) (ha : Bk w ba 4 #[.bool add]) (hf : Bk w bf 3 #[.int .i64 fam]) (hr : Bk w br 59 #[.pointer (some ⟨r, 0, none⟩)])
    (hba : ba ≠ r) (hbf : bf ≠ r) (hbr : br ≠ r) (hB : IsB ys) (hfb : -9223372036854775808 ≤ fam ∧ fam ≤ 9223372036854775807) :
    Calls Try.prog 34 #[.pointer (some ⟨ba, 0, none⟩), .pointer (some ⟨br, 0, none⟩), .pointer (some ⟨bf, 0, none⟩)] w (NextYes x (ys.drop k) (t + k) q r w) := by
  unfold readR at hp
  cases add with
  | false =>
    simp only [Bool.false_eq_true, if_false] at hp
    rcases h' : readP fam ys with _ | ⟨p, k'⟩
    · simp [h'] at hp
    · simp [h'] at hp
      obtain ⟨rfl, rfl⟩ := hp
      exact next_plain_some fam ys p _ h' ba bf br q r t w h ha hf hr hB hfb
  | true =>
    simp only [if_true] at hp
    split at hp
    · cases hp
    · rename_i h4
      rcases h' : readP fam (ys.drop 4) with _ | ⟨p, k'⟩
      · simp [h'] at hp
      · simp [h'] at hp
        obtain ⟨rfl, rfl⟩ := hp
        exact next_add_some fam ys p k' (by omega) h' ba bf br q r t w h ha hf hr hba hbf hbr hB hfb
theorem next_none {fam : Int} {add : Bool} {ys : List Int} (hp : readR fam add ys = none) (ba bf br q r t : Nat) (w : World) (h : Rd w q r ys t) (ha : Bk w ba 4 #[.bool add]) (hf : Bk w bf 3 #[.int .i64 fam]) (hr : Bk w br 59 #[.pointer (some ⟨r, 0, none⟩)])
    (hba : ba ≠ r) (hbf : bf ≠ r) (hbr : br ≠ r) :
    Calls Try.prog 34 #[.pointer (some ⟨ba, 0, none⟩), .pointer (some ⟨br, 0, none⟩), .pointer (some ⟨bf, 0, none⟩)] w (NextNo r w) := by
  unfold readR at hp
  cases add with
  | false =>
    simp only [Bool.false_eq_true, if_false] at hp
    rcases h' : readP fam ys with _ | ⟨p, k'⟩
    · exact next_plain_none fam ys h' ba bf br q r t w h ha hf hr
    · simp [h'] at hp
  | true =>
    simp only [if_true] at hp
    split at hp
    · rename_i h4
      exact next_short fam ys h4 ba bf br q r t w h ha hr
    · rename_i h4
      rcases h' : readP fam (ys.drop 4) with _ | ⟨p, k'⟩
      · exact next_add_none fam ys (by omega) h' ba bf br q r t w h ha hf hr hba hbf hbr
      · simp [h'] at hp

theorem infoRt19 : (Try.prog.info? 31).map (fun i => (i.zero, i.size, i.bytes)) = some (some (.agg (rtF 0).toArray), 19, 40) := infoRt

theorem Arr.lit2 (w : World) (o : Obj) (t : TypeId) (vs : List Value) : Arr ((w.alloc o).alloc (.cells vs.toArray t)) (some ⟨w.heap.size + 1, 0, none⟩) vs := by
  have := Arr.lit (w.alloc o) t vs
  rwa [World.size_alloc] at this
/-- What the loop keeps. -/
def NLoop (fam : Int) (add : Bool) (ys : List Int) (ba bf br q r : Nat) (W0 : World) (n : Nat) (A : Option Addr) (c : Nat) (wr : World) : Prop :=
  ∃ xs zs t, xs.length = n ∧ ReadSt fam add ys xs zs t ∧ Rd wr q r zs t ∧ Bk wr ba 4 #[.bool add] ∧ Bk wr bf 3 #[.int .i64 fam] ∧ Bk wr br 59 #[.pointer (some ⟨r, 0, none⟩)] ∧ Kp (OnB r) W0 wr ∧ wr.ownsRow W0.heap.size 31 19 (.slice A n c) n (flatE rtC xs)

set_option maxRecDepth 100000 in
set_option maxHeartbeats 4000000 in
theorem nread_any (fam : Int) (add : Bool) (A : Option Addr) (c : Nat) (ys : List Int) (w : World) (hn : ys.length ≤ 1000000) (ha : Arr w A (bs ys)) (hb : IsB ys) (hfb : -9223372036854775808 ≤ fam ∧ fam ≤ 9223372036854775807) :
    Calls Try.prog 20 #[.int .i64 fam, .bool add, .slice A ys.length c] w (NReadAny (readL fam add ys) w) := by
  obtain ⟨i0, hi, hz0, hz1, hz2⟩ := info_parts infoRt19
  have HW := Lib.hid (new_any A c ys ((w.alloc (.cells #[.int .i64 fam] 3)).alloc (.cells #[.bool add] 4)) (by omega) ((ha.alloc _).alloc _) hb)
  have HST := Lib.hid (ReadSt.start fam add ys hb)
  have HBF := Lib.hid ((Bk.fresh w 3 #[.int .i64 fam]).alloc (.cells #[.bool add] 4))
  have HBA := Lib.hid (Bk.second w (.cells #[.int .i64 fam] 3) 4 #[.bool add])
  have HFB := Lib.hid hfb
  obtain ⟨R, hR⟩ : ∃ R, readL fam add ys = R := ⟨_, rfl⟩
  have HR := Lib.hid hR
  rw [hR]
  obtain ⟨n, hnn⟩ : ∃ n, ys.length = n := ⟨_, rfl⟩
  have HN := Lib.hid hnn
  rw [hnn] at hn HW ⊢
  clear ha hb hR hnn hfb
  go_enter Try.func20, Try.ntmps20
  go_wp2_with (go_at_call 33; refine HW.out.mono ?_; rintro e w1 ⟨q, r, rfl, hrs, hqs, hne, hR1, hK1⟩)
  obtain ⟨q1, hq1, hR1⟩ := hR1.old
  have hr1 := hR1.lt
  simp only [World.size_alloc] at hrs
  have HL := Lib.hid (show NLoop fam add ys (w.heap.size + 1) w.heap.size w1.heap.size q1 r (w1.alloc (.cells #[.pointer (some ⟨r, 0, none⟩)] 59)) 0 none 0 (w1.alloc (.cells #[.pointer (some ⟨r, 0, none⟩)] 59)) from
    ⟨[], ys, 0, rfl, HST.out, hR1.and ((Kp.refl _ _).alloc _), (HBA.out.and hK1).alloc _, (HBF.out.and hK1).alloc _, Bk.fresh _ _ _, Kp.refl _ _, World.ownsRow_nil _ _ _ _⟩)
  have HK1 := Lib.hid ((((Kp.refl NoB w).alloc _).alloc _).and hK1 |>.alloc (.cells #[.pointer (some ⟨r, 0, none⟩)] 59))
  obtain ⟨W0, hW0⟩ : ∃ W0, w1.alloc (.cells #[.pointer (some ⟨r, 0, none⟩)] 59) = W0 := ⟨_, rfl⟩
  have hsz : W0.heap.size = w1.heap.size + 1 := by rw [← hW0, World.size_alloc]
  have hsz1 := HK1.out.size
  rw [hW0] at HL HK1 hsz1
  obtain ⟨br, hbr⟩ : ∃ br, w1.heap.size = br := ⟨_, rfl⟩
  rw [hbr] at HL hsz
  have HQ := Lib.hid (show r < br ∧ q1 < br ∧ w.heap.size + 2 ≤ r from ⟨by omega, by omega, by omega⟩)
  clear hR1 hK1 hne hqs hrs hq1 hr1
  rw [hW0, hbr]
  have HSZ := Lib.hid (And.intro hsz hsz1)
  clear hW0 hbr hsz hsz1 HBA HBF HST
  go_loopw [10] (fun v wr => ∃ (m : Nat) (A' : Option Addr) (c' : Nat), v = .slice A' m c' ∧ Hid (NLoop fam add ys (w.heap.size + 1) w.heap.size br q1 r W0 m A' c' wr)) (fun v _ => n + 1 - lenV v)
  case atStart => exact ⟨0, none, 0, rfl, HL⟩
  case round =>
    obtain ⟨m, A', c', rfl, HI⟩ := hrel
    obtain ⟨xs, zs, t, hxm, hst, hRd, hBA, hBF, hBR, hK, hown⟩ := HI.out
    have hmn : m + zs.length ≤ n := by have := hst.1; have := HN.out; omega
    obtain ⟨r1, r2, r3⟩ := hBR.one
    have HRd := Lib.hid hRd
    have HST := Lib.hid hst
    have HBA := Lib.hid hBA
    have HBF := Lib.hid hBF
    have HBR := Lib.hid hBR
    have HK := Lib.hid hK
    have HO := Lib.hid hown
    have HXM := Lib.hid hxm
    have HLF := Lib.hid ((left_q wr q1 r zs t hRd).mono (R' := fun e w' => e = .returned (.int .i64 zs.length) ∧ wr = w') (fun e w' h => ⟨h.1, h.2.symm⟩))
    have HAT := Lib.hid ((at_q wr q1 r zs t hRd).mono (R' := fun e w' => e = .returned (.int .i64 t) ∧ wr = w') (fun e w' h => ⟨h.1, h.2.symm⟩))
    clear hst hRd hBA hBF hBR hK hown hxm HI
    by_cases hz : zs = []
    · subst hz
      have hfin : R = (some xs, -1) := HR.out.symm.trans HST.out.done
      have HF := Lib.hid hfin
      clear hfin
      go_wp2_with (go_at_call 37; refine HLF.out.mono ?_; rintro e w2 ⟨rfl, rfl⟩)
      go_ret2
      rw [HF.out]
      have hx := HXM.out
      subst hx
      exact ⟨A', c', rfl, own_down HO.out HK1.out.size, HK1.out.new HK.out (by have := HQ.out; omega)⟩
    · have hzl : 0 < zs.length := List.length_pos_iff.2 hz
      obtain ⟨l, hl⟩ : ∃ l, zs.length = l := ⟨_, rfl⟩
      have HZL := Lib.hid hl
      rw [hl] at hzl hmn HLF
      have HZ := Lib.hid hz
      clear hl hz
      rcases hr : readR fam add zs with _ | ⟨x, k⟩
      · have hfin : R = (none, (t : Int)) := HR.out.symm.trans (HST.out.fail HZ.out hr)
        have HF := Lib.hid hfin
        have HNX := Lib.hid (next_none hr (w.heap.size + 1) w.heap.size br q1 r t wr HRd.out HBA.out HBF.out HBR.out (by have := HQ.out; omega) (by have := HQ.out; omega) (by have := HQ.out; omega))
        clear hfin hr
        go_wp2_with (first
          | (go_at_call 37; refine HLF.out.mono ?_; rintro e w2 ⟨rfl, rfl⟩)
          | (go_at_call 38; refine HAT.out.mono ?_; rintro e w2 ⟨rfl, rfl⟩)
          | (go_at_call 34; refine HNX.out.mono ?_; rintro e w2 ⟨cs, rfl, hcl, hco, hK2⟩; have HCL := Lib.hid hcl; have HCO := Lib.hid (all_oneCell_toArray hco); replace hK2 := Lib.hid hK2; clear hcl hco)
          | (refine wpList_store_new (w := w2) rfl 31 (.tmp 12) (.tmp 25) rfl (rtF 0).toArray cs.toArray rfl rfl 31 (by rw [List.size_toArray, HCL.out]; exact (size_of infoRt).2) (by rw [List.size_toArray, List.size_toArray, HCL.out, rtF_length]) HCO.out ?_))
        go_ret2
        rw [HF.out]
        exact ⟨rfl, HK1.out.new ((HK.out.same hK2.out).alloc _) (by have := HQ.out; omega)⟩
      · have hg := readR_good hr HST.out.2.1 HFB.out
        have HNX := Lib.hid (next_some hr (w.heap.size + 1) w.heap.size br q1 r t wr HRd.out HBA.out HBF.out HBR.out (by have := HQ.out; omega) (by have := HQ.out; omega) (by have := HQ.out; omega) HST.out.2.1 HFB.out)
        have HST2 := Lib.hid (HST.out.step HFB.out HZ.out hr)
        have HCL := Lib.hid (rtC_length hg.1.2.2.2.1)
        have HCV := Lib.hid (rtC_one x)
        have HCO := Lib.hid (all_oneCell_toArray (rtC_one x))
        have HSN := Lib.hid (flatE_snoc rtC xs x)
        unfold NextYes RtI.val at HNX
        obtain ⟨cs, hcs⟩ : ∃ cs, rtC x = cs := ⟨_, rfl⟩
        rw [hcs] at HNX HCL HCV HCO HSN
        clear hr hg hcs
        have HSP : Hid (∀ b, (Value.slice A' m c').ownBlock = some b → b ≠ r) := Lib.hid (fun b hb => by have h1 := own_base HO.out b hb; have h2 := HQ.out; have h3 := HSZ.out; omega)
        go_wp2_with (first
          | (go_at_call 37; refine HLF.out.mono ?_; rintro e w2 ⟨rfl, rfl⟩)
          | (go_at_call 38; refine HAT.out.mono ?_; rintro e w2 ⟨rfl, rfl⟩)
          | (go_at_call 34; refine HNX.out.mono ?_; rintro e w2 ⟨rfl, hR2, hK2⟩; replace hK2 := Lib.hid hK2; replace hR2 := Lib.hid hR2)
          | (refine wpList_store_new (w := w2) rfl 31 (.tmp 12) (.tmp 25) rfl (rtF 0).toArray cs.toArray rfl rfl 31 (by rw [List.size_toArray, HCL.out]; exact (size_of infoRt).2) (by rw [List.size_toArray, List.size_toArray, HCL.out, rtF_length]) HCO.out ?_)
          | (refine wpList_load_at rfl 31 (.tmp 12) rfl ⟨w2.heap.size, 0, none⟩ rfl cs _ (CellsAt.of_bk (Bk.fresh w2 _ _)) Try.underlying31 rfl (by rw [HCL.out]; exact (size_of infoRt).2) ?_)
          | (refine wpList_build_row rfl 22 (.tmp 31) rfl cs rfl 31 i0 (.agg (rtF 0).toArray) 19 Try.underlying22 hi hz0 hz1 rfl (by decide) HCL.out (by decide) (w2.heap.size + 1) (by simp) ?_)
          | (at_builtin; refine wpList_app (((HK.out.same hK2.out).alloc _).alloc _) rfl (.tmp 30) (.tmp 32) 22 rfl 31 i0 (.agg (rtF 0).toArray) 19 40 Try.underlying22 hi hz0 hz1 hz2 rfl (by decide) (.slice A' m c') m (flatE rtC xs) rfl (((hK2.out.alloc _).alloc _).own HO.out (fun b hb => HSP.out b hb)) (some ⟨w2.heap.size + 1, 0, none⟩) 1 1 cs rfl HCL.out (Arr.lit2 w2 _ _ _) HCV.out (by omega) (by decide) (m + 1) rfl ?_; intro A3 c3 w3 hown3 hK3 hG _; replace hown3 := Lib.hid hown3; replace hK3 := Lib.hid hK3; replace hG := Lib.hid hG))
        have hq := HQ.out
        have hs := HSZ.out
        have hge : ∀ b, b < W0.heap.size → ¬ some b = (Value.slice A' m c').ownBlock := fun b hb => own_ge HO.out hb
        have hg2 := Kp.of_grown hG.out
        refine ⟨⟨m + 1, A3, c3, rfl, Lib.hid ⟨xs ++ [x], zs.drop k, t + k, by simp [HXM.out], HST2.out, ?_, ?_, ?_, ?_, hK3.out, ?_⟩⟩, by simp only [lenV]; omega⟩
        · exact ((hR2.out.and ((Kp.refl _ _).alloc _)).and ((Kp.refl _ _).alloc _)).keep hg2 (hge r (by omega)) (fun _ => hge q1 (by omega))
        · exact (((HBA.out.keep hK2.out (fun e => by unfold OnB at e; omega)).alloc _).alloc _).keep hg2 (hge _ (by omega))
        · exact (((HBF.out.keep hK2.out (fun e => by unfold OnB at e; omega)).alloc _).alloc _).keep hg2 (hge _ (by omega))
        · exact (((HBR.out.keep hK2.out (fun e => by unfold OnB at e; omega)).alloc _).alloc _).keep hg2 (hge _ (by omega))
        · rw [HSN.out]
          exact hown3.out

end Go.Proofs.Ytkkfigdfgagimaa
