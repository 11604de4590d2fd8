/- nlri.Unique: its contract, walked. -/
import Derived.Test.YtkkfigdfgagimaaUniD
namespace Go.Proofs.Ytkkfigdfgagimaa
open Go.RowKit Go.Shelf
set_option linter.unusedVariables false
set_option linter.unusedSimpArgs false
attribute [local go_sem] Oper.semAt_some

theorem uniq_end {w W : World} {D : Nat} {ys : List RtB} {xs : List RtI} {v : Value} (hD : w.heap.size ≤ D) (hS : ys.map (·.1) = uniqL xs) (ho : W.ownsRow w.heap.size 31 19 v ys.length (flatE rtC (ys.map (·.1)))) (hB : Below w.heap.size w W)
    (hK : W.heap[D]? = some (.deferred (some []))) : JoinedR w (uniqL xs) (.returned v) (W.putObj D (.deferred none)) := by
  have hl : ys.length = (uniqL xs).length := by rw [← hS, List.length_map]
  have hne : v.ownBlock = none ∨ v.ownBlock ≠ some D := by
    rcases ho.2 with ⟨rfl, _⟩ | ⟨g, cap, cur, rfl, _, hh, _⟩
    · exact .inl rfl
    · refine .inr (fun e => ?_)
      injection e with e
      subst e
      rw [hK] at hh
      cases hh
  have ho2 := ho.kept (grownBy_putObj' W D (.deferred none)) hne
  rw [hS, hl] at ho2
  obtain ⟨A, c, rfl, _⟩ := own_form ho2
  exact ⟨A, c, rfl, ho2, Kp.of_below (hB.trans (belowK_b (w := w) (Nat.le_refl _) W D _ _ hD hK rfl rfl))⟩

set_option maxRecDepth 100000 in
set_option maxHeartbeats 8000000 in
theorem nuniq_any (A : Option Addr) (c : Nat) (xs : List RtI) (w : World) (hx : RtL w A xs) (hlen : xs.length ≤ 1000) :
    Calls Try.prog 10 #[.slice A xs.length c] w (JoinedR w (uniqL xs)) := by
  have HS := Lib.hid (fun n hn l Bs B3 J Jx W => first1_in w n hn l Bs B3 A c xs hx hlen J Jx W)
  obtain ⟨i0, hi, hz0, hz1, hz2⟩ := info_parts infoRt19
  obtain ⟨m, hm⟩ : ∃ m, xs.length = m := ⟨_, rfl⟩
  rw [hm] at HS hlen ⊢
  clear hx hm
  refine (callsIn_wide (n := 4)).1 ?_
  refine callsIn_of_wp_marks Try.func10 rfl trivial ?_ rfl
  simp only [Try.ntmps10, List.size_toArray, List.length_cons, List.length_nil, Nat.reduceAdd, Nat.reduceSub, Array.replicate_succ, Array.replicate_zero, List.push_toArray, List.append_toArray, List.nil_append, List.cons_append]
  gi_wp2_with (refine ⟨trivial, ?_⟩; gi_at_call 28; refine (callsIn_wide.2 (first_any A m c _)).mono ?_; rintro e w' ⟨rfl, rfl⟩)
  have c0 := (Bk.fresh w 22 #[.slice none 0 0])
  have c1 := (Bk.second w (.cells #[.slice none 0 0] 22) 22 #[.slice A m c])
  have e3 : (w.alloc (.cells #[.slice none 0 0] 22)).heap.size = w.heap.size + 1 := by simp
  try rw [e3]
  obtain ⟨W0, hW0⟩ : ∃ W0, (w.alloc (.cells #[.slice none 0 0] 22)).alloc (.cells #[.slice A m c] 22) = W0 := ⟨_, rfl⟩
  have hB0 : Below w.heap.size w W0 := by
    rw [← hW0]
    exact ((Below.refl _ w).alloc (Nat.le_refl _) _).alloc (by simp) _
  have hsz : W0.heap.size = w.heap.size + 1 + 1 := by rw [← hW0]; simp
  have d0 : Bk W0 w.heap.size 22 #[.slice none 0 0] := by rw [← hW0]; exact c0.alloc _
  have d1 : Bk W0 (w.heap.size + 1) 22 #[.slice A m c] := by rw [← hW0]; exact c1
  rw [hW0]
  clear c0 c1 e3 hW0
  refine wpIn_rangeFunc_ownH rfl (by decide) (gf := 47) (lb := #[.pointer (some ⟨w.heap.size + 1, 0, none⟩)]) rfl trivial (enters_of Try.func47 (by kernel_rfl) rfl)
    (encs := fun x : RtB => #[x.1.val]) (Kp := KpU w.heap.size w.heap.size) (S := fun ys => ys.map (·.1) = uniqL xs) (Sp := fun pre => pre.map (·.1) <+: uniqL xs) (N := m)
    (fun l J Jx W hW hJ hJx hY h0 => HS.out 3 (by decide) l (w.heap.size + 1) w.heap.size J Jx W (hB0.trans (hW.mono (by omega))) hJ hY ((hW.cell (p := ⟨w.heap.size + 1, 0, none⟩) (show w.heap.size + 1 < W0.heap.size by omega)).trans (d1.cell 0)) ((hW.cell (p := ⟨w.heap.size, 0, none⟩) (show w.heap.size < W0.heap.size by omega)).trans (d0.cell 0)) h0)
    KpU.trans (kpU_b (by omega) (by omega)) (Below.refl _ _) (fun _ => rfl)
    (fun pre W => OutI w.heap.size w.heap.size pre W ∧ Below w.heap.size w W)
    (fun c pre W => False)
    (OwnFrom.and (Own.from (outI_own _ _) _) (ownFrom_below (Nat.le_refl _) (by omega)))
    (fun c => fun s X Y row h _ _ => h)
    ⟨⟨_, d0, World.ownsRow_nil _ _ _ _⟩, hB0⟩
    (fun x a' W => ∃ Bx, w.heap.size < Bx ∧ Bk W Bx 31 (rtC x.1).toArray ∧ a' = { tmps := #[.slice A m c, undef, .slice none 0 0, .pointer (some ⟨w.heap.size, 0, none⟩), .pointer (some ⟨Bx, 0, none⟩), .slice A m c, .func (.func 47) #[] #[.pointer (some ⟨w.heap.size + 1, 0, none⟩)], x.1.val, undef, undef, undef, undef, undef], defers := [] })
    (fun x a' => fun s X Y row h hg hr => by
      obtain ⟨Bx, h1, h2, h3⟩ := h
      refine ⟨Bx, h1, (hg.block Bx h2.lt (fun e => ?_)).trans h2, h3⟩
      obtain ⟨o, q1, q2⟩ := (hr Bx e.symm).2
      unfold Bk at h2
      rw [h2] at q1
      cases q1
      cases q2) ?assign ?body ?done ?stop
  case assign =>
    rintro l pre x W K ⟨⟨v, hb, ho⟩, hB⟩ hK
    have HCL := Lib.hid (rtC_length x.2.2.2.2.1)
    have HO1 := Lib.hid (all_oneCell_toArray (rtC_one x.1))
    have HK := Lib.hid (hK)
    unfold RtI.val at HK ⊢
    obtain ⟨rs, hrs⟩ : ∃ rs, rtC x.1 = rs := ⟨_, rfl⟩
    have HRX := Lib.hid hrs
    rw [hrs] at HCL HO1 HK ⊢
    have HI2 := Lib.hid (show (Try.prog.info? 31).map (·.size) = some rs.toArray.size from by rw [List.size_toArray, HCL.out]; exact (size_of infoRt).2)
    have HS19 := Lib.hid (show rs.toArray.size = 19 by rw [List.size_toArray]; exact HCL.out)
    clear hrs hK
    gi_wp2_with (refine wpListIn_store_new (w := W) rfl 31 (.tmp 4) (.tmp 7) rfl _ rs.toArray rfl rfl 31 HI2.out HS19.out.symm HO1.out ?_)
    exact HK.out _ _ ((KeepsOthers.alloc _ _).from _) (KpU.alloc hB.size hb.lt _) ⟨⟨v, hb.alloc _, ho.kept (World.grownBy_alloc _ _ none) (by cases h : v.ownBlock <;> simp [h])⟩, (hB.trans ((Below.refl _ _).alloc hB.size _))⟩ ⟨W.heap.size, hb.lt, Bk.fresh _ _ _, rfl⟩
  case body =>
    rintro l pre x a' W hl ⟨r, hr⟩ ⟨⟨v, hb, ho⟩, hB⟩ ⟨Bx, hBx, hbk, rfl⟩ hlt
    have HCL := Lib.hid (rtC_length x.2.2.2.2.1)
    have HCV := Lib.hid (rtC_one x.1)
    unfold RtI.val
    have hPut := @outI_put w.heap.size w.heap.size W
    obtain ⟨A0, c0, rfl, _⟩ := own_form ho
    obtain ⟨k, hk⟩ : ∃ k, pre.length = k := ⟨_, rfl⟩
    have HKK := Lib.hid hk
    have HO := Lib.hid ho
    have HBX := Lib.hid hb
    have HBB := Lib.hid hB
    obtain ⟨rs, hrs⟩ : ∃ rs, rtC x.1 = rs := ⟨_, rfl⟩
    have HRX := Lib.hid hrs
    have HBK := Lib.hid hbk
    rw [hk] at HO hlt
    rw [hk] at HBX
    rw [hrs] at HCL HCV HBK ⊢
    have HI := Lib.hid (show (Try.prog.info? 31).map (·.size) = some rs.length by rw [HCL.out]; exact (size_of infoRt).2)
    have b1 := HBX.out.cell
    have b2 := HBX.out.frozen
    clear hk ho hb hB hrs hbk hr hPut
    gi_wp2_with (first
      | (refine wpListIn_load_at rfl 31 (.tmp 4) rfl ⟨Bx, 0, none⟩ rfl rs _ (CellsAt.of_bk HBK.out) Try.underlying31 rfl HI.out ?_)
      | (refine wpListIn_build_row rfl 22 (.tmp 9) rfl rs rfl 31 i0 (.agg (rtF 0).toArray) 19 Try.underlying22 hi hz0 hz1 rfl (by decide) HCL.out (by decide) ?_)
      | (gi_at_builtin; refine wpListIn_appb w.heap.size ?_ rfl (.tmp 8) (.tmp 10) 22 rfl 31 i0 (.agg (rtF 0).toArray) 19 40 Try.underlying22 hi hz0 hz1 hz2 rfl (by decide) (.slice A0 k c0) k (flatE rtC (pre.map (·.1))) rfl ?_ (some ⟨W.heap.size, 0, none⟩) 1 1 rs rfl HCL.out (Arr.lit W _ _) HCV.out (by omega) (by decide) (k + 1) rfl ?_; exact ((Below.refl W.heap.size W).alloc (Nat.le_refl _) _).size |> Nat.le_trans HBB.out.size; exact HO.out.kept (World.grownBy_alloc _ _ none) (by cases A0 <;> simp [Value.ownBlock]); intro A3 c3 w3 hown3 hG3 hat3; have hq := Boxed.appended (tmp := .cells rs.toArray 31) HBX.out (Ne.symm ne_rt) HO.out HBB.out.size (Nat.le_refl _) hown3 hG3; have z1 := hq.1.cell; have z2 := hq.1.frozen; clear hq; replace hown3 := Lib.hid hown3; replace hG3 := Lib.hid hG3; replace hat3 := Lib.hid hat3))
    have hk := HKK.out
    subst hk
    obtain ⟨p1, p2, p3⟩ := outI_put (x := x) HBB.out.size (Nat.le_refl _) HBX.out HO.out (by rw [HRX.out]; exact hown3.out) hG3.out hat3.out
    exact ⟨p1.from _, p2, p3, HBB.out.trans p2.below⟩
  case done =>
    rintro D ys W hD hS ⟨⟨v, hb, ho⟩, hB⟩ hK
    have b1 := hb.cell
    gi_wp2
    refine ⟨by simp, .inl ⟨_, _, rfl, run_takeDeferred hK, ?_⟩⟩
    refine ⟨v, ?_, ?_⟩
    · simp [results, Try.f10, go_sem]
    · exact uniq_end (by omega) hS ho hB hK
  case stop =>
    rintro D c pre W hD hpre h
    exact h.elim

end Go.Proofs.Ytkkfigdfgagimaa
