/- nlri.Split: its contract by walking the Go text. Printed by wip/tools/spld.py. -/
import Derived.Test.YtkkfigdfgagimaaSplC
import Derived.Test.YtkkfigdfgagimaaNlI
namespace Go.Proofs.Ytkkfigdfgagimaa
open Go.RowKit
set_option linter.unusedVariables false
set_option linter.unusedSimpArgs false

theorem wp_load_one {P : Program} {op : Oper} {a : Act} {w : World} {K : Act → World → Prop} {Q : Exit → Act → World → Prop} (ty : TypeId) (x : Operand) (ho : op.op = .load ty x)
    (p : Addr) (hx : a.eval x = .pointer (some p)) (v : Value) (hc : w.cell? p = some v) (e : TypeId) (hu : P.underlying ty = some (.slice e)) (hd : True = True)
    (h : K (a.put op.dst v) w) : op.wp P a w K Q := by
  have hagg : (isAgg ty).run P w = .ok false w := by
    unfold isAgg
    rw [Sem.run_bind, run_underlying hu w]
    simp
  unfold Oper.wp execOp
  simp only [ho, hx, Instr.loadAt, Instr.sureAddr, Sem.run_bind, Sem.run_pure, Result.andThen_ok]
  have hl : (loadVar ty p).run P w = .ok v w := by simp [loadVar, Sem.run_bind, hagg, hc]
  rw [hl]
  exact h

theorem splitAny_pa {w wr : World} {gs : List (List RtI)} {A : Option Addr} {gl c : Nat} {cs : List Value} (h : PA w wr gs A gl c cs) {o : Option (List (List RtI))} (ho : o = some gs) (e : Ending)
    (he : e = .returned (.tuple #[.slice A gl c, .bool true])) : SplitAny o w e wr := by
  subst ho
  have h1 := h.hgl
  subst h1
  exact ⟨A, c, cs, he, h.own, h.gl, h.kp⟩

set_option maxRecDepth 100000 in
set_option maxHeartbeats 16000000 in
theorem nsplit_good (most fam : Int) (add : Bool) (A0 : Option Addr) (c0 : Nat) (xs : List RtI) (w : World) (hx : RtL w A0 xs) (hn : xs.length ≤ 1000) (hv : validL fam add xs = true) (hmo : -9223372036854775808 ≤ most ∧ most ≤ 9223372036854775807) :
    Calls Try.prog 14 #[.int .i64 most, .int .i64 fam, .bool add, .slice A0 xs.length c0] w (SplitAny (splitO most fam add xs) w) := by
  have HV := Lib.hid (nvalid_any fam add A0 c0 xs w hx (by omega))
  have HP := Lib.hid (validL_pre hv)
  rw [hv] at HV
  have HSO := Lib.hid (show splitO most fam add xs = (spRun most add xs sp0).map spGroups by unfold splitO; rw [if_pos hv])
  have HX := Lib.hid hx
  clear hx hv
  obtain ⟨i0, hi, hz0, hz1, hz2⟩ := info_parts infoRt19
  obtain ⟨iS, hiS, hs0, hs1, hs2⟩ := info_parts infoRtS
  obtain ⟨R, hR⟩ : ∃ R, splitO most fam add xs = R := ⟨_, rfl⟩
  rw [hR] at HSO ⊢
  clear hR
  obtain ⟨n, hnn⟩ : ∃ n, xs.length = n := ⟨_, rfl⟩
  have HN := Lib.hid hnn
  rw [hnn] at hn HV ⊢
  clear hnn
  go_enter Try.func14, Try.ntmps14
  go_wp2_with (go_at_call 22; refine HV.out.mono ?_; rintro e w1 ⟨rfl, hK1⟩)
  go_loopw [10, 11, 23] (fun vo vl i wr => ∃ (j gl c : Nat) (left : Int) (A : Option Addr) (s : SpS) (cs : List Value), j ≤ n ∧ i = .int .i64 j ∧ vl = .int .i64 left ∧ vo = .slice A gl c ∧ Hid (spRun most add (xs.take j) sp0 = some s) ∧ Hid (PA w wr (spGroups s) A gl c cs) ∧ Hid (s.now = [] → left = -1) ∧ Hid (s.now ≠ [] → left = most - (s.n : Int) ∧ ∃ lim B nl d csO, cs = csO ++ [.slice B nl d] ∧ ∃ ol, gl = ol + 1 ∧ RP w wr lim s.out s.now A ol c B nl d csO)) (fun _ _ i _ => n - (intOf i).toNat)
  case atStart => exact ⟨0, 0, 0, -1, none, sp0, [], Nat.zero_le _, rfl, rfl, rfl, Lib.hid rfl, Lib.hid (PA.zero hK1), Lib.hid (fun _ => rfl), Lib.hid (fun h => absurd rfl h)⟩
  case round =>
    obtain ⟨j, gl, c, left, A, s, cs, hj, rfl, rfl, rfl, HRUN, HPA, HL0, HL1⟩ := hrel
    have hI := spI_of (most := most) (add := add) (by rw [HN.out]; exact hj) HRUN.out
    have hgn : gl ≤ j := by have h0 := hI.groups.2.2; have h1 := HPA.out.hgl; have h3 := List.length_take_le j xs; omega
    have hnow : s.now.length ≤ j := by have h0 := hI.few; have h3 := List.length_take_le j xs; omega
    have HOW := Lib.hid hI
    clear hI
    by_cases hlt : j < n
    · obtain ⟨ad, x, hxj, hxB, hA, hc⟩ := HX.out.at (by rw [HN.out]; exact hlt)
      subst hA
      have HC := Lib.hid hc
      have HI := Lib.hid (show (Try.prog.info? 31).map (·.size) = some (rtC x).length by rw [rtC_length hxB.2.2.2.1]; exact (size_of infoRt).2)
      have HCL := Lib.hid (rtC_length hxB.2.2.2.1)
      have HCV := Lib.hid (rtC_one x)
      have HO1 := Lib.hid (all_oneCell_toArray (rtC_one x))
      have hpv := HP.out x (List.mem_of_getElem? hxj)
      have HFM := Lib.hid (fun w => form_any add x w hxB hpv)
      have hfl := formR_len (add := add) hpv
      have hfp := formR_pos add x
      unfold RtI.val at HFM
      have HXJ := Lib.hid hxj
      have HSTEP := Lib.hid (show spStep most add s x = if most < ((formR add x).length : Int) then none else if s.now ≠ [] ∧ most < (s.n : Int) + ((formR add x).length : Int) then some ⟨s.out ++ [s.now], [x], (formR add x).length⟩ else some ⟨s.out, s.now ++ [x], s.n + (formR add x).length⟩ from rfl)
      obtain ⟨rs, hrs⟩ : ∃ rs, rtC x = rs := ⟨_, rfl⟩
      have HRX := Lib.hid hrs
      obtain ⟨L, hL⟩ : ∃ L, formR add x = L := ⟨_, rfl⟩
      rw [hrs] at HFM HC HI HCL HCV HO1
      rw [hL] at HFM hfl hfp HSTEP
      obtain ⟨l, hl⟩ : ∃ l, L.length = l := ⟨_, rfl⟩
      unfold FormedR at HFM
      simp only [hl] at HFM HSTEP
      rw [hl] at hfl hfp
      have HI2 := Lib.hid (show (Try.prog.info? 31).map (·.size) = some rs.toArray.size from by rw [List.size_toArray]; exact HI.out)
      have HS19 := Lib.hid (show rs.toArray.size = 19 by rw [List.size_toArray]; exact HCL.out)
      clear hc hxj hxB hpv hrs hL hl
      have HKP := Lib.hid HPA.out.kp
      by_cases hbig : most < (l : Int)
      · have hfin : R = none := by rw [HSO.out, spRun_no HRUN.out HXJ.out (by rw [HSTEP.out, if_pos hbig])]; rfl
        have HF := Lib.hid hfin
        clear hfin
        go_wp2_with (first
          | (refine wpList_load_at rfl 31 (.tmp 25) rfl (ad.add (j * 19)) rfl rs _ (HC.out.and HKP.out) Try.underlying31 rfl HI.out ?_)
          | (refine wpList_store_new (w := wr) rfl 31 (.tmp 13) (.tmp 26) rfl _ rs.toArray rfl rfl 31 HI2.out HS19.out.symm HO1.out ?_)
          | (refine wpList_load_at rfl 31 (.tmp 13) rfl ⟨wr.heap.size, 0, none⟩ rfl rs _ (CellsAt.of_bk (Bk.fresh wr _ _)) Try.underlying31 rfl HI.out ?_)
          | (go_at_call 31; (with_reducible refine (HFM.out _).mono ?_); rintro e w2 ⟨A2, c2, rfl, hown2, hK2⟩; clear hown2; have HK2 := Lib.hid (((Kp.refl NoB wr).alloc (.cells rs.toArray 31)).and hK2); have HB2 := Lib.hid ((Bk.fresh wr 31 rs.toArray).and hK2); clear hK2))
        go_ret2
        rw [HF.out]
        exact ⟨rfl, HKP.out.and HK2.out⟩
      · by_cases hnew : left < (l : Int)
        · have hst : spStep most add s x = some ⟨spGroups s, [x], l⟩ := by
            rw [HSTEP.out, if_neg hbig]
            by_cases hz : s.now = []
            · obtain ⟨h1, h2⟩ := HOW.out.start hz
              rw [if_neg (fun q => q.1 hz)]
              unfold spGroups
              rw [if_pos hz, hz, h2, List.nil_append, Nat.zero_add]
            · have h1 := (HL1.out hz).1
              rw [if_pos ⟨hz, by omega⟩]
              unfold spGroups
              rw [if_neg hz]
          have HR2 := Lib.hid (spRun_yes HRUN.out HXJ.out hst)
          have hw1 : IntKind.i64.wrap (most - (l : Int)) = most - (l : Int) := by rw [IntKind.wrap_i64]; omega
          have hw2 : IntKind.i64.wrap (((gl + 1 : Nat) : Int) - 1) = (gl : Int) := by rw [IntKind.wrap_i64]; omega
          have hb0 : (0 : Int) ≤ (gl : Int) := by omega
          have hb1 : (gl : Int) < ((gl + 1 : Nat) : Int) := by omega
          have hb2 : (gl : Int) < (gl : Int) + 1 := by omega
          have HONE : Hid (∀ u ∈ [Value.slice none 0 0], u.oneCell' = true) := Lib.hid (by simp [Value.oneCell'])
          have HBY : Hid ((gl + 1) * 24 ≤ 140737488355328) := Lib.hid (by omega)
          clear hst HSTEP HL0 HL1
          go_wp2_with (first
            | (refine wpList_load_at rfl 31 (.tmp 25) rfl (ad.add (j * 19)) rfl rs _ (HC.out.and HKP.out) Try.underlying31 rfl HI.out ?_)
            | (refine wpList_store_new (w := wr) rfl 31 (.tmp 13) (.tmp 26) rfl _ rs.toArray rfl rfl 31 HI2.out HS19.out.symm HO1.out ?_)
            | (refine wpList_load_at rfl 31 (.tmp 13) rfl ⟨wr.heap.size, 0, none⟩ rfl rs _ (CellsAt.of_bk (Bk.fresh wr _ _)) Try.underlying31 rfl HI.out ?_)
            | (go_at_call 31; (with_reducible refine (HFM.out _).mono ?_); rintro e w2 ⟨A2, c2, rfl, hown2, hK2⟩; clear hown2; have HK2 := Lib.hid (((Kp.refl NoB wr).alloc (.cells rs.toArray 31)).and hK2); have HB2 := Lib.hid ((Bk.fresh wr 31 rs.toArray).and hK2); clear hK2)
            | (at_builtin; refine wpList_appb w.heap.size ?hb rfl (.tmp 37) (.tmp 38) 35 ?ho 22 iS (.slice none 0 0) 1 24 Try.underlying35 hiS hs0 hs1 hs2 ?hzs ?hsz (.slice A gl c) gl cs ?hs ?hown (some ⟨w2.heap.size, 0, none⟩) 1 1 [.slice none 0 0] ?hx ?hl ?ha ?h1 ?hbytes ?hby0 (gl + 1) ?hN ?h; exact ((HPA.out.and HK2.out).alloc _).kp.size; rfl; rfl; decide; rfl; exact ((HPA.out.and HK2.out).alloc _).own; rfl; rfl; exact Arr.one w2 _ _; exact HONE.out; exact HBY.out; decide; rfl; intro A3 c3 w3 hown3 hG3 _; have HRP := Lib.hid (((HPA.out.and HK2.out).alloc _).push hG3 hown3); have HBX := Lib.hid ((HB2.out.alloc (.cells #[.slice none 0 0] 22)).keep (Kp.of_grown hG3) (((HPA.out.and HK2.out).alloc (.cells #[.slice none 0 0] 22)).bk (HB2.out.alloc (.cells #[.slice none 0 0] 22)))); clear hown3 hG3; obtain ⟨g, rfl, hcg, hfg⟩ := HRP.out.cell; clear hcg hfg))
          have HGX := Lib.hid (HRP.out.bk HBX.out)
          have HND : Hid (¬ some wr.heap.size = (Value.slice none 0 0).ownBlock) := Lib.hid (fun h => by cases h)
          have HRD := Lib.hid HRP.out.drew
          obtain ⟨g9, e9, hcg, -⟩ := HRD.out.cell
          injection e9 with e9
          injection e9 with e9 _ _
          subst e9
          have HCG := Lib.hid hcg
          clear hcg
          refine wp_region_noPanic ?_
          refine wp_region_held_drew (S := fun w' => Bk w' wr.heap.size 31 rs.toArray) (by kernel_rfl) HBX.out.drew (fun hHeld => ?_)
          refine wpAnyH_take (i := 0) (oi := ⟨some 44, _, _, _, _, _⟩) (v := ?_) rfl (by kernel_rfl) (by kernel_rfl) (by kernel_rfl) (fun _ _ _ h => h) (Or.inl ⟨by rfl, fun w hSw => ?_⟩) (by assumption) ?_
          rotate_left
          · clear hSw
            go_simp
            with_reducible rfl
          try simp only [Act.put, List.setIfInBounds_toArray, List.set_cons_zero, List.set_cons_succ]
          refine wpAnyH_take (i := 1) (oi := ⟨some 45, _, _, _, _, _⟩) (v := ?_) rfl (by kernel_rfl) (by kernel_rfl) (by kernel_rfl) (fun _ _ _ h => h) (Or.inl ⟨by rfl, fun w hSw => ?_⟩) (by assumption) ?_
          rotate_left
          · clear hSw
            go_simp
            with_reducible rfl
          try simp only [Act.put, List.setIfInBounds_toArray, List.set_cons_zero, List.set_cons_succ]
          refine wpAnyH_take (i := 2) (oi := ⟨some 46, _, _, _, _, _⟩) (v := ?_) rfl (by kernel_rfl) (by kernel_rfl) (by kernel_rfl) (fun _ _ _ h => h) (Or.inl ⟨by rfl, fun w hSw => ?_⟩) (by assumption) ?_
          rotate_left
          · clear hSw
            go_simp
            with_reducible rfl
          try simp only [Act.put, List.setIfInBounds_toArray, List.set_cons_zero, List.set_cons_succ]
          refine wpAnyH_take (i := 3) (oi := ⟨some 47, _, _, _, _, _⟩) (v := ?_) rfl (by kernel_rfl) (by kernel_rfl) (by kernel_rfl) (fun _ _ _ h => h) (Or.inl ⟨by rfl, fun w hSw => ?_⟩) (by assumption) ?_
          rotate_left
          · clear hSw
            go_simp
            with_reducible rfl
          try simp only [Act.put, List.setIfInBounds_toArray, List.set_cons_zero, List.set_cons_succ]
          refine wpAnyH_take (i := 4) (oi := ⟨some 48, _, _, _, _, _⟩) (v := .pointer (some ⟨g, gl, none⟩)) rfl (by kernel_rfl) (by kernel_rfl) (by kernel_rfl) (fun _ _ _ h => h) (Or.inl ⟨by rfl, fun w hSw => ?_⟩) (by assumption) ?_
          · clear hSw
            go_simp
          try simp only [Act.put, List.setIfInBounds_toArray, List.set_cons_zero, List.set_cons_succ]
          refine wpAnyH_take (i := 6) (oi := ⟨some 50, _, _, _, _, _⟩) (v := .agg rs.toArray) rfl (by kernel_rfl) (by kernel_rfl) (by kernel_rfl) (fun _ _ _ h => h) (yieldsIf_load_at (by rfl) 31 _ rfl ⟨wr.heap.size, 0, none⟩ rfl rs _ (fun w hSw => CellsAt.of_bk hSw) Try.underlying31 rfl HI.out) (by assumption) ?_
          try simp only [Act.put, List.setIfInBounds_toArray, List.set_cons_zero, List.set_cons_succ]
          refine wpAnyH_ready (rs := [5, 7]) (by kernel_rfl) (by simp) ?_
          refine AllReadyH.cons (o := ⟨some 49, _, _, _, _, _⟩) rfl (fun K hK => ?_) (AllReadyH.cons (o := ⟨some 51, _, _, _, _, _⟩) rfl (fun K hK => ?_) AllReadyH.nil)
          · rw [if_pos (by rfl)]
            refine wp_load_one 22 (.tmp 48) rfl ⟨g, gl, none⟩ rfl _ HCG.out _ Try.underlying22 rfl ?_
            refine hK.out _ _ HBX.out.drew (fun hHeld => ?_)
            clear hK K
            try simp only [Act.put, List.setIfInBounds_toArray, List.set_cons_zero, List.set_cons_succ]
            refine wpAnyH_ready (rs := [7]) (by kernel_rfl) (by simp) ?_
            refine AllReadyH.cons (o := ⟨some 51, _, _, _, _, _⟩) rfl (fun K hK => ?_) AllReadyH.nil
            rw [if_pos (by rfl)]
            refine wp_build_row 22 (.tmp 50) rfl rs rfl 31 i0 (.agg (rtF 0).toArray) 19 Try.underlying22 hi hz0 hz1 rfl (by decide) HCL.out (by decide) w3.heap.size rfl ?_
            refine hK.out _ _ (HBX.out.drew.alloc _) (fun hHeld => ?_)
            clear hK K
            try simp only [Act.put, List.setIfInBounds_toArray, List.set_cons_zero, List.set_cons_succ]
            refine wpAnyH_ready (rs := [8]) (by kernel_rfl) (by simp) ?_
            refine AllReadyH.cons (o := ⟨some 52, _, _, _, _, _⟩) rfl (fun K hK => ?_) AllReadyH.nil
            rw [if_pos (by rfl)]
            refine wp_appb w3.heap.size (HRD.out.alloc _).hi (.tmp 49) (.tmp 51) 22 rfl 31 i0 (.agg (rtF 0).toArray) 19 40 Try.underlying22 hi hz0 hz1 hz2 rfl (by decide) (.slice none 0 0) 0 (flatE rtC []) rfl (HRD.out.alloc _).nw (some ⟨w3.heap.size, 0, none⟩) 1 1 rs rfl HCL.out (Arr.lit w3.drew _ _) HCV.out (by omega) (by decide) (0 + 1) rfl ?_
            intro B4 d4 w4 hown4 hG4 _
            replace hown4 := Lib.hid hown4
            replace hG4 := Lib.hid hG4
            have HB4 := Lib.hid (((HBX.out.drew).alloc _).keep (Kp.of_grown hG4.out) HND.out)
            refine hK.out _ _ HB4.out (fun hHeld => ?_)
            clear hK K
            try simp only [Act.put, List.setIfInBounds_toArray, List.set_cons_zero, List.set_cons_succ]
            refine wpAnyH_take (i := 9) (oi := ⟨some 53, _, _, _, _, _⟩) (v := .pointer (some ⟨g, gl, none⟩)) rfl (by kernel_rfl) (by kernel_rfl) (by kernel_rfl) (fun _ _ _ h => h) (Or.inl ⟨by rfl, fun w hSw => ?_⟩) (by assumption) ?_
            · clear hSw
              go_simp
            try simp only [Act.put, List.setIfInBounds_toArray, List.set_cons_zero, List.set_cons_succ]
            refine wpAnyH_ready (rs := [10]) (by kernel_rfl) (by simp) ?_
            refine AllReadyH.cons (o := ⟨none, _, _, _, _, _⟩) rfl (fun K hK => ?_) AllReadyH.nil
            rw [if_pos (by rfl)]
            refine wp_store_one 22 (.tmp 53) (.tmp 52) rfl g gl (.slice B4 (0 + 1) d4) rfl rfl rfl (size_of infoRtS).2 ((HRD.out.alloc _).cell3 hG4.out).1 ((HRD.out.alloc _).cell3 hG4.out).2 rfl ?_
            refine hK.out _ _ (HB4.out.far (p := ⟨g, gl, none⟩) HGX.out _) (fun hHeld => ?_)
            clear hK K
            try simp only [Act.put, List.setIfInBounds_toArray, List.set_cons_zero, List.set_cons_succ]
            refine wpAnyH_done (by kernel_rfl) ?_ _
            refine NoPanic.normal ?_
            have HPUT := Lib.hid ((HRD.out.alloc _).put (x := x) hG4.out (by rw [HRX.out]; exact hown4.out))
            go_wp2_with fail
            go_roundw
            case rel => exact ⟨j + 1, gl + 1, c3, most - (l : Int), some ⟨g, 0, none⟩, ⟨spGroups s, [x], l⟩, cs ++ [.slice B4 (0 + 1) d4], by omega, by go_num, rfl, rfl, HR2, Lib.hid (by have h9 := HPUT.out.pa; simpa [spGroups] using h9), Lib.hid (fun h => by simp at h), Lib.hid (fun _ => ⟨rfl, _, B4, 0 + 1, d4, cs, rfl, gl, rfl, HPUT.out⟩)⟩
            case measure => simp [intOf]; omega
          · rw [if_pos (by rfl)]
            refine wp_build_row 22 (.tmp 50) rfl rs rfl 31 i0 (.agg (rtF 0).toArray) 19 Try.underlying22 hi hz0 hz1 rfl (by decide) HCL.out (by decide) w3.heap.size rfl ?_
            refine hK.out _ _ (HBX.out.drew.alloc _) (fun hHeld => ?_)
            clear hK K
            try simp only [Act.put, List.setIfInBounds_toArray, List.set_cons_zero, List.set_cons_succ]
            refine wpAnyH_ready (rs := [5]) (by kernel_rfl) (by simp) ?_
            refine AllReadyH.cons (o := ⟨some 49, _, _, _, _, _⟩) rfl (fun K hK => ?_) AllReadyH.nil
            rw [if_pos (by rfl)]
            refine wp_load_one 22 (.tmp 48) rfl ⟨g, gl, none⟩ rfl _ (((Kp.refl NoB _).alloc _).cell HCG.out (fun q => q)) _ Try.underlying22 rfl ?_
            refine hK.out _ _ (HBX.out.drew.alloc _) (fun hHeld => ?_)
            clear hK K
            try simp only [Act.put, List.setIfInBounds_toArray, List.set_cons_zero, List.set_cons_succ]
            refine wpAnyH_ready (rs := [8]) (by kernel_rfl) (by simp) ?_
            refine AllReadyH.cons (o := ⟨some 52, _, _, _, _, _⟩) rfl (fun K hK => ?_) AllReadyH.nil
            rw [if_pos (by rfl)]
            refine wp_appb w3.heap.size (HRD.out.alloc _).hi (.tmp 49) (.tmp 51) 22 rfl 31 i0 (.agg (rtF 0).toArray) 19 40 Try.underlying22 hi hz0 hz1 hz2 rfl (by decide) (.slice none 0 0) 0 (flatE rtC []) rfl (HRD.out.alloc _).nw (some ⟨w3.heap.size, 0, none⟩) 1 1 rs rfl HCL.out (Arr.lit w3.drew _ _) HCV.out (by omega) (by decide) (0 + 1) rfl ?_
            intro B4 d4 w4 hown4 hG4 _
            replace hown4 := Lib.hid hown4
            replace hG4 := Lib.hid hG4
            have HB4 := Lib.hid (((HBX.out.drew).alloc _).keep (Kp.of_grown hG4.out) HND.out)
            refine hK.out _ _ HB4.out (fun hHeld => ?_)
            clear hK K
            try simp only [Act.put, List.setIfInBounds_toArray, List.set_cons_zero, List.set_cons_succ]
            refine wpAnyH_take (i := 9) (oi := ⟨some 53, _, _, _, _, _⟩) (v := .pointer (some ⟨g, gl, none⟩)) rfl (by kernel_rfl) (by kernel_rfl) (by kernel_rfl) (fun _ _ _ h => h) (Or.inl ⟨by rfl, fun w hSw => ?_⟩) (by assumption) ?_
            · clear hSw
              go_simp
            try simp only [Act.put, List.setIfInBounds_toArray, List.set_cons_zero, List.set_cons_succ]
            refine wpAnyH_ready (rs := [10]) (by kernel_rfl) (by simp) ?_
            refine AllReadyH.cons (o := ⟨none, _, _, _, _, _⟩) rfl (fun K hK => ?_) AllReadyH.nil
            rw [if_pos (by rfl)]
            refine wp_store_one 22 (.tmp 53) (.tmp 52) rfl g gl (.slice B4 (0 + 1) d4) rfl rfl rfl (size_of infoRtS).2 ((HRD.out.alloc _).cell3 hG4.out).1 ((HRD.out.alloc _).cell3 hG4.out).2 rfl ?_
            refine hK.out _ _ (HB4.out.far (p := ⟨g, gl, none⟩) HGX.out _) (fun hHeld => ?_)
            clear hK K
            try simp only [Act.put, List.setIfInBounds_toArray, List.set_cons_zero, List.set_cons_succ]
            refine wpAnyH_done (by kernel_rfl) ?_ _
            refine NoPanic.normal ?_
            have HPUT := Lib.hid ((HRD.out.alloc _).put (x := x) hG4.out (by rw [HRX.out]; exact hown4.out))
            go_wp2_with fail
            go_roundw
            case rel => exact ⟨j + 1, gl + 1, c3, most - (l : Int), some ⟨g, 0, none⟩, ⟨spGroups s, [x], l⟩, cs ++ [.slice B4 (0 + 1) d4], by omega, by go_num, rfl, rfl, HR2, Lib.hid (by have h9 := HPUT.out.pa; simpa [spGroups] using h9), Lib.hid (fun h => by simp at h), Lib.hid (fun _ => ⟨rfl, _, B4, 0 + 1, d4, cs, rfl, gl, rfl, HPUT.out⟩)⟩
            case measure => simp [intOf]; omega
        · have hz : s.now ≠ [] := fun hz => by have := HL0.out hz; omega
          obtain ⟨hleft, lim, B, nl, d, csO, rfl, ol, rfl, hRP⟩ := HL1.out hz
          subst hleft
          have hst : spStep most add s x = some ⟨s.out, s.now ++ [x], s.n + l⟩ := by
            rw [HSTEP.out, if_neg hbig, if_neg (fun q => by have := q.2; omega)]
          have HR2 := Lib.hid (spRun_yes HRUN.out HXJ.out hst)
          have hfit := HOW.out.fits hz
          have hnl : nl ≤ j := by rw [← hRP.hnl]; exact hnow
          have HRP0 := Lib.hid hRP
          obtain ⟨g, rfl, hcg0, -⟩ := hRP.cell
          clear hcg0
          have HGX0 : Hid (∀ b, (Value.slice B nl d).ownBlock = some b → b < wr.heap.size) := Lib.hid (fun b hb => (HRP0.out.nw.lt b hb).2)
          have hw1 : IntKind.i64.wrap (most - (s.n : Int) - (l : Int)) = most - (s.n : Int) - (l : Int) := by rw [IntKind.wrap_i64]; omega
          have hw2 : IntKind.i64.wrap (((ol + 1 : Nat) : Int) - 1) = (ol : Int) := by rw [IntKind.wrap_i64]; omega
          have hb0 : (0 : Int) ≤ (ol : Int) := by omega
          have hb1 : (ol : Int) < ((ol + 1 : Nat) : Int) := by omega
          have hb2 : (ol : Int) < (ol : Int) + 1 := by omega
          clear hst HSTEP HL0 HL1 hRP
          go_wp2_with (first
            | (refine wpList_load_at rfl 31 (.tmp 25) rfl (ad.add (j * 19)) rfl rs _ (HC.out.and HKP.out) Try.underlying31 rfl HI.out ?_)
            | (refine wpList_store_new (w := wr) rfl 31 (.tmp 13) (.tmp 26) rfl _ rs.toArray rfl rfl 31 HI2.out HS19.out.symm HO1.out ?_)
            | (refine wpList_load_at rfl 31 (.tmp 13) rfl ⟨wr.heap.size, 0, none⟩ rfl rs _ (CellsAt.of_bk (Bk.fresh wr _ _)) Try.underlying31 rfl HI.out ?_)
            | (go_at_call 31; (with_reducible refine (HFM.out _).mono ?_); rintro e w2 ⟨A2, c2, rfl, hown2, hK2⟩; clear hown2; have HK2 := Lib.hid (((Kp.refl NoB wr).alloc (.cells rs.toArray 31)).and hK2); have HB2 := Lib.hid ((Bk.fresh wr 31 rs.toArray).and hK2); clear hK2))
          have HBX := HB2
          have HRP := Lib.hid (HRP0.out.and HK2.out)
          have HGX := Lib.hid (HRP.out.bk HBX.out)
          have HND : Hid (¬ some wr.heap.size = (Value.slice B nl d).ownBlock) := Lib.hid (fun h => by have := HGX0.out _ h.symm; omega)
          have HRD := Lib.hid HRP.out.drew
          obtain ⟨g9, e9, hcg, -⟩ := HRD.out.cell
          injection e9 with e9
          injection e9 with e9 _ _
          subst e9
          have HCG := Lib.hid hcg
          clear hcg
          refine wp_region_noPanic ?_
          refine wp_region_held_drew (S := fun w' => Bk w' wr.heap.size 31 rs.toArray) (by kernel_rfl) HBX.out.drew (fun hHeld => ?_)
          refine wpAnyH_take (i := 0) (oi := ⟨some 44, _, _, _, _, _⟩) (v := ?_) rfl (by kernel_rfl) (by kernel_rfl) (by kernel_rfl) (fun _ _ _ h => h) (Or.inl ⟨by rfl, fun w hSw => ?_⟩) (by assumption) ?_
          rotate_left
          · clear hSw
            go_simp
            with_reducible rfl
          try simp only [Act.put, List.setIfInBounds_toArray, List.set_cons_zero, List.set_cons_succ]
          refine wpAnyH_take (i := 1) (oi := ⟨some 45, _, _, _, _, _⟩) (v := ?_) rfl (by kernel_rfl) (by kernel_rfl) (by kernel_rfl) (fun _ _ _ h => h) (Or.inl ⟨by rfl, fun w hSw => ?_⟩) (by assumption) ?_
          rotate_left
          · clear hSw
            go_simp
            with_reducible rfl
          try simp only [Act.put, List.setIfInBounds_toArray, List.set_cons_zero, List.set_cons_succ]
          refine wpAnyH_take (i := 2) (oi := ⟨some 46, _, _, _, _, _⟩) (v := ?_) rfl (by kernel_rfl) (by kernel_rfl) (by kernel_rfl) (fun _ _ _ h => h) (Or.inl ⟨by rfl, fun w hSw => ?_⟩) (by assumption) ?_
          rotate_left
          · clear hSw
            go_simp
            with_reducible rfl
          try simp only [Act.put, List.setIfInBounds_toArray, List.set_cons_zero, List.set_cons_succ]
          refine wpAnyH_take (i := 3) (oi := ⟨some 47, _, _, _, _, _⟩) (v := ?_) rfl (by kernel_rfl) (by kernel_rfl) (by kernel_rfl) (fun _ _ _ h => h) (Or.inl ⟨by rfl, fun w hSw => ?_⟩) (by assumption) ?_
          rotate_left
          · clear hSw
            go_simp
            with_reducible rfl
          try simp only [Act.put, List.setIfInBounds_toArray, List.set_cons_zero, List.set_cons_succ]
          refine wpAnyH_take (i := 4) (oi := ⟨some 48, _, _, _, _, _⟩) (v := .pointer (some ⟨g, ol, none⟩)) rfl (by kernel_rfl) (by kernel_rfl) (by kernel_rfl) (fun _ _ _ h => h) (Or.inl ⟨by rfl, fun w hSw => ?_⟩) (by assumption) ?_
          · clear hSw
            go_simp
          try simp only [Act.put, List.setIfInBounds_toArray, List.set_cons_zero, List.set_cons_succ]
          refine wpAnyH_take (i := 6) (oi := ⟨some 50, _, _, _, _, _⟩) (v := .agg rs.toArray) rfl (by kernel_rfl) (by kernel_rfl) (by kernel_rfl) (fun _ _ _ h => h) (yieldsIf_load_at (by rfl) 31 _ rfl ⟨wr.heap.size, 0, none⟩ rfl rs _ (fun w hSw => CellsAt.of_bk hSw) Try.underlying31 rfl HI.out) (by assumption) ?_
          try simp only [Act.put, List.setIfInBounds_toArray, List.set_cons_zero, List.set_cons_succ]
          refine wpAnyH_ready (rs := [5, 7]) (by kernel_rfl) (by simp) ?_
          refine AllReadyH.cons (o := ⟨some 49, _, _, _, _, _⟩) rfl (fun K hK => ?_) (AllReadyH.cons (o := ⟨some 51, _, _, _, _, _⟩) rfl (fun K hK => ?_) AllReadyH.nil)
          · rw [if_pos (by rfl)]
            refine wp_load_one 22 (.tmp 48) rfl ⟨g, ol, none⟩ rfl _ HCG.out _ Try.underlying22 rfl ?_
            refine hK.out _ _ HBX.out.drew (fun hHeld => ?_)
            clear hK K
            try simp only [Act.put, List.setIfInBounds_toArray, List.set_cons_zero, List.set_cons_succ]
            refine wpAnyH_ready (rs := [7]) (by kernel_rfl) (by simp) ?_
            refine AllReadyH.cons (o := ⟨some 51, _, _, _, _, _⟩) rfl (fun K hK => ?_) AllReadyH.nil
            rw [if_pos (by rfl)]
            refine wp_build_row 22 (.tmp 50) rfl rs rfl 31 i0 (.agg (rtF 0).toArray) 19 Try.underlying22 hi hz0 hz1 rfl (by decide) HCL.out (by decide) w2.heap.size rfl ?_
            refine hK.out _ _ (HBX.out.drew.alloc _) (fun hHeld => ?_)
            clear hK K
            try simp only [Act.put, List.setIfInBounds_toArray, List.set_cons_zero, List.set_cons_succ]
            refine wpAnyH_ready (rs := [8]) (by kernel_rfl) (by simp) ?_
            refine AllReadyH.cons (o := ⟨some 52, _, _, _, _, _⟩) rfl (fun K hK => ?_) AllReadyH.nil
            rw [if_pos (by rfl)]
            refine wp_appb lim (HRD.out.alloc _).hi (.tmp 49) (.tmp 51) 22 rfl 31 i0 (.agg (rtF 0).toArray) 19 40 Try.underlying22 hi hz0 hz1 hz2 rfl (by decide) (.slice B nl d) nl (flatE rtC s.now) rfl (HRD.out.alloc _).nw (some ⟨w2.heap.size, 0, none⟩) 1 1 rs rfl HCL.out (Arr.lit w2.drew _ _) HCV.out (by omega) (by decide) (nl + 1) rfl ?_
            intro B4 d4 w4 hown4 hG4 _
            replace hown4 := Lib.hid hown4
            replace hG4 := Lib.hid hG4
            have HB4 := Lib.hid (((HBX.out.drew).alloc _).keep (Kp.of_grown hG4.out) HND.out)
            refine hK.out _ _ HB4.out (fun hHeld => ?_)
            clear hK K
            try simp only [Act.put, List.setIfInBounds_toArray, List.set_cons_zero, List.set_cons_succ]
            refine wpAnyH_take (i := 9) (oi := ⟨some 53, _, _, _, _, _⟩) (v := .pointer (some ⟨g, ol, none⟩)) rfl (by kernel_rfl) (by kernel_rfl) (by kernel_rfl) (fun _ _ _ h => h) (Or.inl ⟨by rfl, fun w hSw => ?_⟩) (by assumption) ?_
            · clear hSw
              go_simp
            try simp only [Act.put, List.setIfInBounds_toArray, List.set_cons_zero, List.set_cons_succ]
            refine wpAnyH_ready (rs := [10]) (by kernel_rfl) (by simp) ?_
            refine AllReadyH.cons (o := ⟨none, _, _, _, _, _⟩) rfl (fun K hK => ?_) AllReadyH.nil
            rw [if_pos (by rfl)]
            refine wp_store_one 22 (.tmp 53) (.tmp 52) rfl g ol (.slice B4 (nl + 1) d4) rfl rfl rfl (size_of infoRtS).2 ((HRD.out.alloc _).cell3 hG4.out).1 ((HRD.out.alloc _).cell3 hG4.out).2 rfl ?_
            refine hK.out _ _ (HB4.out.far (p := ⟨g, ol, none⟩) HGX.out _) (fun hHeld => ?_)
            clear hK K
            try simp only [Act.put, List.setIfInBounds_toArray, List.set_cons_zero, List.set_cons_succ]
            refine wpAnyH_done (by kernel_rfl) ?_ _
            refine NoPanic.normal ?_
            have HPUT := Lib.hid ((HRD.out.alloc _).put (x := x) hG4.out (by rw [HRX.out]; exact hown4.out))
            go_wp2_with fail
            go_roundw
            case rel => exact ⟨j + 1, ol + 1, c, most - (s.n : Int) - (l : Int), some ⟨g, 0, none⟩, ⟨s.out, s.now ++ [x], s.n + l⟩, csO ++ [.slice B4 (nl + 1) d4], by omega, by go_num, rfl, rfl, HR2, Lib.hid (by have h9 := HPUT.out.pa; simpa [spGroups] using h9), Lib.hid (fun h => by simp at h), Lib.hid (fun _ => ⟨by simp only; omega, _, B4, nl + 1, d4, csO, rfl, ol, rfl, HPUT.out⟩)⟩
            case measure => simp [intOf]; omega
          · rw [if_pos (by rfl)]
            refine wp_build_row 22 (.tmp 50) rfl rs rfl 31 i0 (.agg (rtF 0).toArray) 19 Try.underlying22 hi hz0 hz1 rfl (by decide) HCL.out (by decide) w2.heap.size rfl ?_
            refine hK.out _ _ (HBX.out.drew.alloc _) (fun hHeld => ?_)
            clear hK K
            try simp only [Act.put, List.setIfInBounds_toArray, List.set_cons_zero, List.set_cons_succ]
            refine wpAnyH_ready (rs := [5]) (by kernel_rfl) (by simp) ?_
            refine AllReadyH.cons (o := ⟨some 49, _, _, _, _, _⟩) rfl (fun K hK => ?_) AllReadyH.nil
            rw [if_pos (by rfl)]
            refine wp_load_one 22 (.tmp 48) rfl ⟨g, ol, none⟩ rfl _ (((Kp.refl NoB _).alloc _).cell HCG.out (fun q => q)) _ Try.underlying22 rfl ?_
            refine hK.out _ _ (HBX.out.drew.alloc _) (fun hHeld => ?_)
            clear hK K
            try simp only [Act.put, List.setIfInBounds_toArray, List.set_cons_zero, List.set_cons_succ]
            refine wpAnyH_ready (rs := [8]) (by kernel_rfl) (by simp) ?_
            refine AllReadyH.cons (o := ⟨some 52, _, _, _, _, _⟩) rfl (fun K hK => ?_) AllReadyH.nil
            rw [if_pos (by rfl)]
            refine wp_appb lim (HRD.out.alloc _).hi (.tmp 49) (.tmp 51) 22 rfl 31 i0 (.agg (rtF 0).toArray) 19 40 Try.underlying22 hi hz0 hz1 hz2 rfl (by decide) (.slice B nl d) nl (flatE rtC s.now) rfl (HRD.out.alloc _).nw (some ⟨w2.heap.size, 0, none⟩) 1 1 rs rfl HCL.out (Arr.lit w2.drew _ _) HCV.out (by omega) (by decide) (nl + 1) rfl ?_
            intro B4 d4 w4 hown4 hG4 _
            replace hown4 := Lib.hid hown4
            replace hG4 := Lib.hid hG4
            have HB4 := Lib.hid (((HBX.out.drew).alloc _).keep (Kp.of_grown hG4.out) HND.out)
            refine hK.out _ _ HB4.out (fun hHeld => ?_)
            clear hK K
            try simp only [Act.put, List.setIfInBounds_toArray, List.set_cons_zero, List.set_cons_succ]
            refine wpAnyH_take (i := 9) (oi := ⟨some 53, _, _, _, _, _⟩) (v := .pointer (some ⟨g, ol, none⟩)) rfl (by kernel_rfl) (by kernel_rfl) (by kernel_rfl) (fun _ _ _ h => h) (Or.inl ⟨by rfl, fun w hSw => ?_⟩) (by assumption) ?_
            · clear hSw
              go_simp
            try simp only [Act.put, List.setIfInBounds_toArray, List.set_cons_zero, List.set_cons_succ]
            refine wpAnyH_ready (rs := [10]) (by kernel_rfl) (by simp) ?_
            refine AllReadyH.cons (o := ⟨none, _, _, _, _, _⟩) rfl (fun K hK => ?_) AllReadyH.nil
            rw [if_pos (by rfl)]
            refine wp_store_one 22 (.tmp 53) (.tmp 52) rfl g ol (.slice B4 (nl + 1) d4) rfl rfl rfl (size_of infoRtS).2 ((HRD.out.alloc _).cell3 hG4.out).1 ((HRD.out.alloc _).cell3 hG4.out).2 rfl ?_
            refine hK.out _ _ (HB4.out.far (p := ⟨g, ol, none⟩) HGX.out _) (fun hHeld => ?_)
            clear hK K
            try simp only [Act.put, List.setIfInBounds_toArray, List.set_cons_zero, List.set_cons_succ]
            refine wpAnyH_done (by kernel_rfl) ?_ _
            refine NoPanic.normal ?_
            have HPUT := Lib.hid ((HRD.out.alloc _).put (x := x) hG4.out (by rw [HRX.out]; exact hown4.out))
            go_wp2_with fail
            go_roundw
            case rel => exact ⟨j + 1, ol + 1, c, most - (s.n : Int) - (l : Int), some ⟨g, 0, none⟩, ⟨s.out, s.now ++ [x], s.n + l⟩, csO ++ [.slice B4 (nl + 1) d4], by omega, by go_num, rfl, rfl, HR2, Lib.hid (by have h9 := HPUT.out.pa; simpa [spGroups] using h9), Lib.hid (fun h => by simp at h), Lib.hid (fun _ => ⟨by simp only; omega, _, B4, nl + 1, d4, csO, rfl, ol, rfl, HPUT.out⟩)⟩
            case measure => simp [intOf]; omega
    · have hj' : j = n := by omega
      have hfin : R = some (spGroups s) := by
        have h1 := HRUN.out
        rw [List.take_of_length_le (by rw [HN.out]; omega)] at h1
        rw [HSO.out, h1]
        rfl
      have HF := Lib.hid hfin
      clear hfin
      go_wp2
      go_ret2
      exact splitAny_pa HPA.out HF.out _ rfl

theorem nsplit_bad (most fam : Int) (add : Bool) (A0 : Option Addr) (c0 : Nat) (xs : List RtI) (w : World) (hx : RtL w A0 xs) (hn : xs.length ≤ 1000) (hv : validL fam add xs = false) :
    Calls Try.prog 14 #[.int .i64 most, .int .i64 fam, .bool add, .slice A0 xs.length c0] w (SplitAny (splitO most fam add xs) w) := by
  have HV := Lib.hid (nvalid_any fam add A0 c0 xs w hx (by omega))
  rw [hv] at HV
  have hs : splitO most fam add xs = none := by unfold splitO; rw [hv]; rfl
  rw [hs]
  clear hx hv hs
  obtain ⟨n, hnn⟩ : ∃ n, xs.length = n := ⟨_, rfl⟩
  rw [hnn] at hn HV ⊢
  clear hnn
  go_enter Try.func14, Try.ntmps14
  go_wp2_with (go_at_call 22; refine HV.out.mono ?_; rintro e w1 ⟨rfl, hK1⟩)
  go_ret2
  exact ⟨rfl, hK1⟩
theorem nsplit_any (most fam : Int) (add : Bool) (A0 : Option Addr) (c0 : Nat) (xs : List RtI) (w : World) (hx : RtL w A0 xs) (hn : xs.length ≤ 1000) (hmo : -9223372036854775808 ≤ most ∧ most ≤ 9223372036854775807) :
    Calls Try.prog 14 #[.int .i64 most, .int .i64 fam, .bool add, .slice A0 xs.length c0] w (SplitAny (splitO most fam add xs) w) := by
  by_cases hv : validL fam add xs = true
  · exact nsplit_good most fam add A0 c0 xs w hx hn hv hmo
  · exact nsplit_bad most fam add A0 c0 xs w hx hn (by simpa using hv)

end Go.Proofs.Ytkkfigdfgagimaa
