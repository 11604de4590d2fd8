/- The iterator nlri.first: its contract (a range over a function). -/
import Derived.Test.YtkkfigdfgagimaaUniB
import Derived.Carry
namespace Go.Proofs.Ytkkfigdfgagimaa
open Go.RowKit Go.Shelf
set_option linter.unusedVariables false
set_option linter.unusedSimpArgs false
attribute [local go_sem] Oper.semAt_some

theorem uniq_pre (xs : List RtI) : ∀ acc : List RtI, acc <+: xs.foldl uniqStep acc := by
  induction xs with
  | nil => intro acc; exact List.prefix_refl _
  | cons x xs ih =>
    intro acc
    rw [List.foldl_cons]
    refine List.IsPrefix.trans ?_ (ih _)
    unfold uniqStep
    split
    · exact List.prefix_refl _
    · exact List.prefix_append _ _
theorem uniqL_take (xs : List RtI) (j : Nat) : uniqL (xs.take j) <+: uniqL xs := by
  have h : uniqL xs = (xs.drop j).foldl uniqStep (uniqL (xs.take j)) := by
    unfold uniqL
    rw [← List.foldl_append, List.take_append_drop]
  rw [h]
  exact uniq_pre _ _

/-- Between two rounds. -/
structure US (w0 wr : World) (B3 bm m : Nat) (us : List RtI) : Prop where
  below : Below w0.heap.size w0 wr
  set : SetR wr bm m us
  ne : B3 ≠ bm
  lt3 : B3 < wr.heap.size
  ob : ∀ v, wr.cell? ⟨B3, 0, none⟩ = some v → ∀ b, v.ownBlock = some b → b ≠ bm ∧ b < wr.heap.size
section
variable {w0 wr w1 w2 : World} {B3 bm m : Nat} {us : List RtI}
theorem US.alloc (h : US w0 wr B3 bm m us) (o : Obj) : US w0 (wr.alloc o) B3 bm m us := by
  refine ⟨h.below.trans ((Below.refl _ _).alloc h.below.size o), h.set.and ((Kp.refl _ _).alloc o), h.ne, by have := h.lt3; simp; omega, fun v hv b hb => ?_⟩
  have hc : wr.cell? ⟨B3, 0, none⟩ = some v := by
    rw [← hv]
    exact ((Below.refl wr.heap.size wr).alloc (Nat.le_refl _) o |>.cell (p := ⟨B3, 0, none⟩) h.lt3).symm
  obtain ⟨h1, h2⟩ := h.ob v hc b hb
  exact ⟨h1, by simp; omega⟩
theorem US.round (h : US w0 wr B3 bm m us) (k : KpU w0.heap.size B3 wr w2) : US w0 w2 B3 bm m us := by
  have hl := h.set.lt
  refine ⟨h.below.trans k.below, ?_, h.ne, by have := h.lt3; have := k.below.size; omega, fun v' hv' b hb => ?_⟩
  · obtain ⟨D, ⟨es, c, hh, r⟩, r2⟩ := h.set
    exact ⟨D, ⟨es, c, k.keep bm _ hh (.inr rfl) (fun e => h.ne e.symm) (fun v hv e => (h.ob v hv bm e).1 rfl), r⟩, r2⟩
  · obtain ⟨v, hv, h1⟩ := k.own v' hv'
    have s := k.below.size
    rcases h1 b hb with h2 | h2
    · have := h.ob v hv b h2
      exact ⟨this.1, by omega⟩
    · exact ⟨by omega, h2.2⟩
theorem US.upd (h : US w0 wr B3 bm m us) (hb : w0.heap.size ≤ bm) {us' : List RtI} (hs : SetR w2 bm (m + 1) us') (hg : wr.grownBy w2 (some bm)) : US w0 w2 B3 bm (m + 1) us' := by
  refine ⟨h.below.trans ((Below.refl _ _).grown hg h.below.size (fun k e => by cases e; exact hb)), hs, h.ne, by have := h.lt3; have := hg.size; omega, fun v hv b hbb => ?_⟩
  have s := hg.size
  have hc : wr.cell? ⟨B3, 0, none⟩ = some v := by
    rw [← hv]
    unfold World.cell?
    rw [hg.block B3 h.lt3 (fun e => h.ne (by injection e))]
  have := h.ob v hc b hbb
  exact ⟨this.1, by omega⟩
end

theorem first_any (A : Option Addr) (n c : Nat) (w : World) :
    Calls Try.prog 28 #[.slice A n c] w fun e w' => e = .returned (.func (.func 47) #[] #[.pointer (some ⟨w.heap.size, 0, none⟩)]) ∧ w' = w.alloc (.cells #[.slice A n c] 22) := by
  go_enter Try.func28, Try.ntmps28
  go_wp2
  go_ret
  exact ⟨by simp, rfl⟩

set_option maxRecDepth 100000 in
set_option maxHeartbeats 8000000 in
/-- The closure: yields the routes that were not there before, in order. -/
theorem first1_in (w0 : World) (n : Nat) (hn : 1 ≤ n) (l Bs B3 : Nat) (A : Option Addr) (c : Nat) (xs : List RtI) (hx : RtL w0 A xs) (hlen : xs.length ≤ 1000) (J Jx : List RtB → World → Prop)
    (W : World) (hb0 : Below w0.heap.size w0 W) (hJ : AbidesFrom W.heap.size J)
    (hY : ∀ pre x W1, J pre W1 → pre.length < xs.length → YieldAt Fence.wide (n - 1) Try.prog l #[x.1.val] W1 fun e W' =>
      (e = .returned (.bool true) ∧ J (pre ++ [x]) W' ∧ KpU w0.heap.size B3 W1 W') ∨ (e = .returned (.bool false) ∧ Jx (pre ++ [x]) W'))
    (hBs : W.cell? ⟨Bs, 0, none⟩ = some (.slice A xs.length c)) (hB3 : W.cell? ⟨B3, 0, none⟩ = some (.slice none 0 0)) (h0 : J [] W) :
    CallsIn Fence.wide n Try.prog 47 #[.func (.yield l) #[] #[], .pointer (some ⟨Bs, 0, none⟩)] W fun e W' => (∃ v, e = .returned v) ∧
      ((∃ ys : List RtB, ys.map (·.1) = uniqL xs ∧ J ys W') ∨ (∃ pre : List RtB, (pre.map (·.1) <+: uniqL xs) ∧ Jx pre W')) := by
  have HX := Lib.hid hx
  have HP := Lib.hid (uniqL_take xs)
  have HLE := Lib.hid (fun j => uniqL_le (xs.take j))
  obtain ⟨m, hm⟩ : ∃ m, xs.length = m := ⟨_, rfl⟩
  have HM := Lib.hid hm
  have HF : Hid (∀ j, j = m → xs.take j = xs) := Lib.hid (fun j hj => List.take_of_length_le (by omega))
  rw [hm] at hlen hY hBs
  have hbs := World.block_lt_of_cell? _ _ hBs
  have hb3 := World.block_lt_of_cell? _ _ hB3
  clear hm hx
  have HS0 : Hid (US w0 (W.alloc (.map #[] 0)) B3 W.heap.size 0 []) := Lib.hid ⟨hb0.trans ((Below.refl _ _).alloc hb0.size _), SetR.made W, by have h : B3 < W.heap.size := hb3; omega, by have h : B3 < W.heap.size := hb3; simp; omega, fun v hv b hb => by
    have hc : W.cell? ⟨B3, 0, none⟩ = some v := by
      rw [← hv]
      exact ((Below.refl W.heap.size W).alloc (Nat.le_refl _) (.map #[] 0) |>.cell (p := ⟨B3, 0, none⟩) hb3).symm
    rw [hB3] at hc
    injection hc with hc
    subst hc
    cases hb⟩
  have HJ0 : Hid (J [] (W.alloc (.map #[] 0))) := Lib.hid (hJ [] W _ none h0 (World.grownBy_alloc W (.map #[] 0) none) (fun r e => by cases e))
  have hBs' : (W.alloc (.map #[] 0)).cell? ⟨Bs, 0, none⟩ = some (.slice A m c) := ((Kp.refl NoB _).alloc _).cell hBs (fun q => q)
  have HSZ := Lib.hid hb0.size
  clear hb0 hbs hB3 hb3 h0
  have hmm := @run_makeMap Try.prog
  refine callsIn_of_wp Try.func47 rfl trivial ?_ rfl
  simp only [Try.ntmps47, List.size_toArray, List.length_cons, List.length_nil, Nat.reduceAdd, Nat.reduceSub, Array.replicate_succ, Array.replicate_zero, List.push_toArray, List.append_toArray, List.nil_append, List.cons_append]
  gi_wp2
  gi_loopw [9] (fun i wr => ∃ (j : Nat) (pre : List RtB), j ≤ m ∧ i = .int .i64 j ∧ Hid (pre.map (·.1) = uniqL (xs.take j)) ∧ Hid (J pre wr) ∧ Hid (US w0 wr B3 W.heap.size j (xs.take j))) (fun i _ => m - (intOf i).toNat)
  case atStart => exact ⟨0, [], Nat.zero_le _, rfl, Lib.hid rfl, HJ0, HS0⟩
  case round =>
    obtain ⟨j, pre, hj, rfl, HPR, HJS, HUS⟩ := hrel
    by_cases hlt : j < m
    · obtain ⟨ad, x, hxj, hxB, hA, hc⟩ := (HX.out.and (Kp.of_below HUS.out.below)).at (by rw [HM.out]; exact hlt)
      subst hA
      have HC := Lib.hid hc
      have HI := Lib.hid (show (Try.prog.info? 31).map (·.size) = some (rtC x).length by rw [rtC_length hxB.2.2.2.1]; exact (size_of infoRt).2)
      have HCL := Lib.hid (rtC_length hxB.2.2.2.1)
      have HO1 := Lib.hid (all_oneCell_toArray (rtC_one x))
      have HTK := Lib.hid (take_snocR xs j x hxj)
      have hW : uniqL (xs.take (j + 1)) = uniqStep (uniqL (xs.take j)) x := by rw [take_snocR xs j x hxj, uniqL_snoc]
      have hmem := uniqL_mem (xs.take j) x
      have hle : pre.length < m := by
        have h1 := congrArg List.length HPR.out
        rw [List.length_map] at h1
        have h2 := HLE.out j
        rw [List.length_take] at h2
        omega
      obtain ⟨rs, hrs⟩ : ∃ rs, rtC x = rs := ⟨_, rfl⟩
      have HRX := Lib.hid hrs
      have HXB := Lib.hid hxB
      rw [hrs] at HC HI HCL HO1
      have HI2 := Lib.hid (show (Try.prog.info? 31).map (·.size) = some rs.toArray.size from by rw [List.size_toArray]; exact HI.out)
      have HS19 := Lib.hid (show rs.toArray.size = 19 by rw [List.size_toArray]; exact HCL.out)
      have hJa := hJ pre wr _ none HJS.out (World.grownBy_alloc wr (.cells rs.toArray 31) none) (fun r e => by cases e)
      have HUA := Lib.hid (HUS.out.alloc (.cells rs.toArray 31))
      have HBX := Lib.hid (Bk.fresh wr 31 rs.toArray)
      by_cases hin : x ∈ xs.take j
      · have HW := Lib.hid (show uniqL (xs.take (j + 1)) = uniqL (xs.take j) by rw [hW]; unfold uniqStep; rw [if_pos (hmem.2 hin)])
        have HIN := Lib.hid (decide_eq_true hin)
        have HJA := Lib.hid hJa
        clear hin hmem hW hJa hc hxj hxB hrs
        gi_wp2_with (first
          | (refine wpListIn_load_at rfl 31 (.tmp 11) rfl (ad.add (j * 19)) rfl rs _ HC.out Try.underlying31 rfl HI.out ?_)
          | (refine wpListIn_store_new (w := wr) rfl 31 (.tmp 5) (.tmp 12) rfl _ rs.toArray rfl rfl 31 HI2.out HS19.out.symm HO1.out ?_)
          | (refine wpListIn_load_at rfl 31 (.tmp 5) rfl ⟨wr.heap.size, 0, none⟩ rfl rs _ (CellsAt.of_bk HBX.out) Try.underlying31 rfl HI.out ?_)
          | (refine wpListIn_look rfl (.tmp 13) (.tmp 14) rfl HUA.out.set x HXB.out rfl rs HRX.out rfl true HIN.out ?_)
          | (refine wpListIn_upd rfl (.tmp 23) (.tmp 24) _ rfl HUA.out.set (by omega) x HXB.out rfl rs HRX.out rfl rfl ?_; intro w5 hset5 hg5; have HS5 := Lib.hid hset5; have HG5 := Lib.hid hg5; clear hset5 hg5))
        refine ⟨fun _ h => (by cases h), ?_⟩
        gi_wp2_with (first
          | (refine wpListIn_load_at rfl 31 (.tmp 5) rfl ⟨wr.heap.size, 0, none⟩ rfl rs _ (CellsAt.of_bk HBX.out) Try.underlying31 rfl HI.out ?_)
          | (refine wpListIn_upd rfl (.tmp 23) (.tmp 24) _ rfl HUA.out.set (by omega) x HXB.out rfl rs HRX.out rfl rfl ?_; intro w5 hset5 hg5; have HS5 := Lib.hid hset5; have HG5 := Lib.hid hg5; clear hset5 hg5))
        go_roundw
        case rel =>
          refine ⟨j + 1, pre, by omega, by go_num, Lib.hid (by rw [HW.out]; exact HPR.out), Lib.hid ?_, Lib.hid ?_⟩
          · exact hJ pre _ _ (some W.heap.size) HJA.out HG5.out (fun r e => by
              cases e
              obtain ⟨D, ⟨es, c, hh, _⟩, _⟩ := HUA.out.set
              exact ⟨Nat.le_refl _, _, hh, rfl⟩)
          · rw [HTK.out]
            exact HUA.out.upd HSZ.out HS5.out HG5.out
        case measure => simp [intOf]; omega
      · have HW := Lib.hid (show uniqL (xs.take (j + 1)) = uniqL (xs.take j) ++ [x] by rw [hW]; unfold uniqStep; rw [if_neg (fun q => hin (hmem.1 q))])
        have HIN := Lib.hid (decide_eq_false hin)
        have hY1 := hY pre ⟨x, HXB.out⟩ _ hJa hle
        unfold RtI.val at hY1
        rw [hrs] at hY1
        obtain ⟨fn, tmps, assign, body, hy, hR⟩ := hY1
        have HR := Lib.hid hR
        have HB3 := Lib.hid HUS.out.lt3
        have HOB := Lib.hid HUA.out.ob
        clear hin hmem hW hJa hc hxj hxB hrs hR
        gi_wp2_with (first
          | (refine wpListIn_load_at rfl 31 (.tmp 11) rfl (ad.add (j * 19)) rfl rs _ HC.out Try.underlying31 rfl HI.out ?_)
          | (refine wpListIn_store_new (w := wr) rfl 31 (.tmp 5) (.tmp 12) rfl _ rs.toArray rfl rfl 31 HI2.out HS19.out.symm HO1.out ?_)
          | (refine wpListIn_load_at rfl 31 (.tmp 5) rfl ⟨wr.heap.size, 0, none⟩ rfl rs _ (CellsAt.of_bk HBX.out) Try.underlying31 rfl HI.out ?_)
          | (refine wpListIn_look rfl (.tmp 13) (.tmp 14) rfl HUA.out.set x HXB.out rfl rs HRX.out rfl false HIN.out ?_))
        refine HR.out.mono ?_
        rintro e W3 (⟨rfl, hJ3, hk3⟩ | ⟨rfl, hJx3⟩)
        · have HU3 := Lib.hid (HUA.out.round hk3)
          have HBY : Hid (Bk W3 wr.heap.size 31 rs.toArray) := Lib.hid (hk3.keep wr.heap.size _ HBX.out (.inl rfl) (by have := HB3.out; omega) (fun v hv e => by
            have hc : wr.cell? ⟨B3, 0, none⟩ = some v := by
              rw [← hv]
              exact ((Below.refl wr.heap.size wr).alloc (Nat.le_refl _) _ |>.cell (p := ⟨B3, 0, none⟩) HB3.out).symm
            have := (HUS.out.ob v hc _ e).2
            omega))
          have HJ3 := Lib.hid hJ3
          clear hJ3 hk3
          gi_wp2_with (first
            | (refine wpListIn_load_at rfl 31 (.tmp 5) rfl ⟨wr.heap.size, 0, none⟩ rfl rs _ (CellsAt.of_bk HBY.out) Try.underlying31 rfl HI.out ?_)
            | (refine wpListIn_upd rfl (.tmp 23) (.tmp 24) _ rfl HU3.out.set (by omega) x HXB.out rfl rs HRX.out rfl rfl ?_; intro w5 hset5 hg5; have HS5 := Lib.hid hset5; have HG5 := Lib.hid hg5; clear hset5 hg5))
          go_roundw
          case rel =>
            refine ⟨j + 1, pre ++ [⟨x, HXB.out⟩], by omega, by go_num, Lib.hid (by rw [HW.out, List.map_append, HPR.out]; rfl), Lib.hid ?_, Lib.hid ?_⟩
            · exact hJ _ _ _ (some W.heap.size) HJ3.out HG5.out (fun r e => by
                cases e
                obtain ⟨D, ⟨es, c, hh, _⟩, _⟩ := HU3.out.set
                exact ⟨Nat.le_refl _, _, hh, rfl⟩)
            · rw [HTK.out]
              exact HU3.out.upd HSZ.out HS5.out HG5.out
          case measure => simp [intOf]; omega
        · gi_wp2
          refine bodyPost_ret (results_none rfl _ _ _) rfl ?_
          refine ⟨⟨_, rfl⟩, .inr ⟨pre ++ [⟨x, HXB.out⟩], ?_, hJx3⟩⟩
          rw [List.map_append, HPR.out]
          have := HP.out (j + 1)
          rw [HW.out] at this
          exact this
    · have hj' : j = m := by omega
      have HFF := Lib.hid (HF.out j hj')
      gi_wp2
      go_end0
      exact ⟨⟨_, rfl⟩, .inl ⟨pre, by rw [HPR.out, HFF.out], HJS.out⟩⟩

end Go.Proofs.Ytkkfigdfgagimaa
