/- The reference's routes: right, Valid, form: contracts by walking the Go text. -/
import Derived.Test.YtkkfigdfgagimaaRPreB
import Derived.Test.YtkkfigdfgagimaaROf
import Derived.Test.YtkkfigdfgagimaaNlD
namespace Go.Proofs.Ytkkfigdfgagimaa
open Go.RowKit
set_option linter.unusedVariables false
set_option linter.unusedSimpArgs false

set_option maxRecDepth 100000 in
set_option maxHeartbeats 4000000 in
theorem right_any (fam : Int) (add : Bool) (x : RtI) (w : World) (hB : x.B) : Calls Try.prog 44 #[.int .i64 fam, .bool add, x.val] w (Stay (.bool (okR fam add x)) w) := by
  have HV := Lib.hid (fun w => rvalid_any x.pre w hB.2)
  have hi : (Try.prog.info? 29).map (·.size) = some (preC x.pre).length := by rw [preC_length hB.2.2.2.1]; exact (size_of infoPre).2
  have HI := Lib.hid hi
  have HRT := Lib.hid (fun (W : World) (b : Nat) (h : Bk W b 31 (rtC x).toArray) => (⟨h.rt.1, h.rt.2, h.rt.2 0 _ rfl⟩ : W.cell? ⟨b, 0, none⟩ = some (.int .u32 x.path) ∧ W.rangeAt b 1 (preC x.pre) ∧ W.cell? ⟨b, 1, none⟩ = some (.int .i64 x.pre.fam)))
  unfold okR
  unfold PreI.val at HV
  unfold RtI.val
  obtain ⟨cs, hcs⟩ : ∃ cs, preC x.pre = cs := ⟨_, rfl⟩
  rw [hcs] at HV HRT HI
  obtain ⟨rs, hrs⟩ : ∃ rs, (rtC x).toArray = rs := ⟨_, rfl⟩
  rw [hrs] at HRT ⊢
  obtain ⟨path, hpath⟩ : ∃ path, x.path = path := ⟨_, rfl⟩
  obtain ⟨f, hff⟩ : ∃ f, x.pre.fam = f := ⟨_, rfl⟩
  obtain ⟨v, hv⟩ : ∃ v, validP x.pre = v := ⟨_, rfl⟩
  rw [hpath, hff] at HRT ⊢
  rw [hv] at HV ⊢
  clear hcs hrs hpath hi hff hv hB
  have HB0 := Lib.hid (Bk.fresh w 31 rs)
  obtain ⟨x1, x2, x3⟩ := HRT.out _ _ HB0.out
  have HX := Lib.hid x2
  clear x2 x1 x3
  rcases v with _ | _
  · simp only [Bool.false_and]
    go_enter Try.func44, Try.ntmps44
    go_wp2_with (first
      | (refine wpList_load_mid rfl 29 (.tmp 7) rfl w.heap.size 1 rfl cs _ HX.out Try.underlying29 rfl HI.out ?_)
      | (go_at_call 64; (with_reducible refine (HV.out _).mono ?_); rintro e w1 ⟨rfl, hK1⟩))
    go_ret
    exact ⟨rfl, ((Kp.refl _ _).alloc _).and hK1⟩
  · by_cases h1 : f = fam
    · subst h1
      have h1' : (f == f) = true := by simp
      simp only [decide_true, Bool.true_and]
      rcases add with _ | _
      · simp only [Bool.false_or]
        rw [show decide (path = 0) = (path == 0) by rw [Bool.eq_iff_iff]; simp]
        go_enter Try.func44, Try.ntmps44
        go_wp2_with (first
          | (refine wpList_load_mid rfl 29 (.tmp 7) rfl w.heap.size 1 rfl cs _ HX.out Try.underlying29 rfl HI.out ?_)
          | (go_at_call 64; (with_reducible refine (HV.out _).mono ?_); rintro e w1 ⟨rfl, hK1⟩; obtain ⟨z1, z2, z3⟩ := HRT.out _ _ (HB0.out.and hK1); replace z2 := Lib.hid z2))
        go_ret
        exact ⟨rfl, ((Kp.refl _ _).alloc _).and hK1⟩
      · simp only [Bool.true_or]
        go_enter Try.func44, Try.ntmps44
        go_wp2_with (first
          | (refine wpList_load_mid rfl 29 (.tmp 7) rfl w.heap.size 1 rfl cs _ HX.out Try.underlying29 rfl HI.out ?_)
          | (go_at_call 64; (with_reducible refine (HV.out _).mono ?_); rintro e w1 ⟨rfl, hK1⟩; obtain ⟨z1, z2, z3⟩ := HRT.out _ _ (HB0.out.and hK1); replace z2 := Lib.hid z2))
        go_ret
        exact ⟨rfl, ((Kp.refl _ _).alloc _).and hK1⟩
    · have h1' : (f == fam) = false := by simpa using h1
      rw [decide_eq_false h1]
      simp only [Bool.and_false, Bool.false_and]
      go_enter Try.func44, Try.ntmps44
      go_wp2_with (first
        | (refine wpList_load_mid rfl 29 (.tmp 7) rfl w.heap.size 1 rfl cs _ HX.out Try.underlying29 rfl HI.out ?_)
        | (go_at_call 64; (with_reducible refine (HV.out _).mono ?_); rintro e w1 ⟨rfl, hK1⟩; obtain ⟨z1, z2, z3⟩ := HRT.out _ _ (HB0.out.and hK1); replace z2 := Lib.hid z2))
      go_ret
      exact ⟨rfl, ((Kp.refl _ _).alloc _).and hK1⟩

set_option maxRecDepth 100000 in
set_option maxHeartbeats 2000000 in
theorem rnvalid_any (fam : Int) (add : Bool) (A : Option Addr) (c : Nat) (xs : List RtI) (w : World) (hx : RtL w A xs) (hn : xs.length ≤ 1000000) :
    Calls Try.prog 23 #[.int .i64 fam, .bool add, .slice A xs.length c] w (Stay (.bool (validL fam add xs)) w) := by
  have HX := Lib.hid hx
  clear hx
  obtain ⟨n, hnn⟩ : ∃ n, xs.length = n := ⟨_, rfl⟩
  have HN := Lib.hid hnn
  rw [hnn] at hn ⊢
  clear hnn
  go_enter Try.func23, Try.ntmps23
  go_wp2
  go_loopw [7] (fun i wr => ∃ j : Nat, j ≤ n ∧ i = .int .i64 j ∧ Hid (Kp NoB w wr) ∧ Hid (UptoR (okR fam add) xs j)) (fun i _ => n - (intOf i).toNat)
  case atStart => exact ⟨0, Nat.zero_le _, rfl, Lib.hid (Kp.refl _ _), Lib.hid (UptoR.zero _ _)⟩
  case round =>
    obtain ⟨j, hj, rfl, HK, HU⟩ := hrel
    by_cases hlt : j < n
    · obtain ⟨ad, x, hxj, hxB, hA, hc⟩ := (HX.out.and HK.out).at (by rw [HN.out]; exact hlt)
      subst hA
      have HC := Lib.hid hc
      have HXJ := Lib.hid hxj
      have HI := Lib.hid (show (Try.prog.info? 31).map (·.size) = some (rtC x).length by rw [rtC_length hxB.2.2.2.1]; exact (size_of infoRt).2)
      have HB := Lib.hid (right_any fam add x wr hxB)
      clear hc hxj hxB
      unfold RtI.val at HB
      obtain ⟨rs, hrs⟩ : ∃ rs, rtC x = rs := ⟨_, rfl⟩
      rw [hrs] at HB HC HI
      clear hrs
      rcases hv : okR fam add x with _ | _
      · rw [hv] at HB
        have HV := Lib.hid hv
        clear hv
        go_wp2_with (first
          | (refine wpList_load_at rfl 31 (.tmp 18) rfl (ad.add (j * 19)) rfl rs _ HC.out Try.underlying31 rfl HI.out ?_)
          | (go_at_call 44; refine HB.out.mono ?_; rintro e w1 ⟨rfl, hK1⟩))
        go_ret
        rw [show validL fam add xs = false from allR_no HXJ.out HV.out]
        exact ⟨rfl, HK.out.and hK1⟩
      · rw [hv] at HB
        have HV := Lib.hid hv
        clear hv
        go_wp2_with (first
          | (refine wpList_load_at rfl 31 (.tmp 18) rfl (ad.add (j * 19)) rfl rs _ HC.out Try.underlying31 rfl HI.out ?_)
          | (go_at_call 44; refine HB.out.mono ?_; rintro e w1 ⟨rfl, hK1⟩))
        go_roundw
        case rel => exact ⟨j + 1, by omega, by go_num, Lib.hid (HK.out.and hK1), Lib.hid (HU.out.succ HXJ.out HV.out)⟩
        case measure => simp [intOf]; omega
    · have hj : j = n := by omega
      subst hj
      have ht : validL fam add xs = true := HU.out.all HN.out.symm
      go_wp2
      go_ret
      rw [ht]
      exact ⟨rfl, HK.out⟩

set_option maxRecDepth 100000 in
set_option maxHeartbeats 4000000 in
theorem rform_any (add : Bool) (x : RtI) (w : World) (hB : x.B) (hv : validP x.pre = true) : Calls Try.prog 32 #[.bool add, x.val] w (FormedR w (formR add x)) := by
  have HBY := Lib.hid (fun w => rbytes_good x.pre w hB.2 hv)
  have hl17 := formP_len hv
  have hib := formP_isB hB.2 hv
  obtain ⟨⟨hp0, hp1⟩, -, -, ha, -⟩ := hB
  unfold formR
  unfold PreI.val at HBY
  unfold RtI.val
  have HRT := Lib.hid (fun (W : World) (b : Nat) (h : Bk W b 31 (rtC x).toArray) => h.rt)
  have hi : (Try.prog.info? 29).map (·.size) = some (preC x.pre).length := by rw [preC_length ha]; exact (size_of infoPre).2
  have HI := Lib.hid hi
  obtain ⟨L, hL⟩ : ∃ L, formP x.pre = L := ⟨_, rfl⟩
  rw [hL] at HBY hl17 hib ⊢
  obtain ⟨cs, hcs⟩ : ∃ cs, preC x.pre = cs := ⟨_, rfl⟩
  rw [hcs] at HBY HRT HI
  obtain ⟨rs, hrs⟩ : ∃ rs, (rtC x).toArray = rs := ⟨_, rfl⟩
  rw [hrs] at HRT ⊢
  obtain ⟨path, hpath⟩ : ∃ path, x.path = path := ⟨_, rfl⟩
  rw [hpath] at HRT hp0 hp1 ⊢
  clear hL hcs hrs hpath hi hv ha
  have HB0 := Lib.hid (Bk.fresh w 31 rs)
  obtain ⟨x1, x2⟩ := HRT.out _ _ HB0.out
  have HX := Lib.hid x2
  clear x2
  obtain ⟨i0, hi, hz0, hz1, hz2⟩ := info_parts infoU8
  cases add
  · simp only [Bool.false_eq_true, if_false]
    go_enter Try.func32, Try.ntmps32
    go_wp2_with (first
      | (refine wpList_load_mid rfl 29 (.tmp 13) rfl w.heap.size 1 rfl cs _ HX.out Try.underlying29 rfl HI.out ?_)
      | (go_at_call 51; (with_reducible refine (HBY.out _).mono ?_); rintro e w1 ⟨A1, c1, rfl, hown1, hK1⟩; replace hown1 := Lib.hid hown1; replace hK1 := Lib.hid hK1)
      | (at_builtin; refine wpList_app (((Kp.refl NoB w).alloc _).and hK1.out) rfl (.tmp 18) (.tmp 19) 42 rfl 5 i0 (.int .u8 0) 1 1 Try.underlying42 hi hz0 hz1 hz2 rfl (by decide) (.slice none 0 0) 0 [] rfl (World.ownsRow_nil _ _ _ _) A1 L.length c1 (bs L) rfl (by rw [bs_length, Nat.mul_one]) (Arr.of_own hown1.out) (bs_one L) (by omega) (by decide) L.length (by omega) ?_; intro A3 c3 w3 hown3 hK3 hG _))
    go_ret
    exact ⟨A3, c3, rfl, by simpa using hown3, hK3⟩
  · simp only [if_true]
    have HP := Lib.hid (fun w => rof_4 path w hp0 (by omega))
    obtain ⟨M, hM⟩ : ∃ M, putL 4 path ++ L = M := ⟨_, rfl⟩
    have HM := Lib.hid hM
    have HML := Lib.hid (show M.length = 4 + L.length by rw [← hM]; simp [putL_length])
    have HMB := Lib.hid (show bs (putL 4 path) ++ bs L = bs M by rw [← hM, bs_append])
    rw [hM]
    clear hM
    go_enter Try.func32, Try.ntmps32
    go_wp2_with (first
      | (go_at_call 50; (with_reducible refine (HP.out _).mono ?_); rintro e w1 ⟨A1, c1, rfl, hown1, hK1⟩; obtain ⟨-, z2⟩ := HRT.out _ _ (HB0.out.and hK1); have HX1 := Lib.hid z2; clear z2; replace hown1 := Lib.hid (own_down (base' := w.heap.size) hown1 (by simp)); replace hK1 := Lib.hid (((Kp.refl NoB w).alloc (.cells rs 31)).and hK1))
      | (refine wpList_load_mid rfl 29 (.tmp 13) rfl w.heap.size 1 rfl cs _ HX1.out Try.underlying29 rfl HI.out ?_)
      | (go_at_call 51; (with_reducible refine (HBY.out _).mono ?_); rintro e w2 ⟨A2, c2, rfl, hown2, hK2⟩; replace hown2 := Lib.hid hown2; replace hK2 := Lib.hid hK2)
      | (at_builtin; refine wpList_app (hK1.out.and hK2.out) rfl (.tmp 18) (.tmp 19) 42 rfl 5 i0 (.int .u8 0) 1 1 Try.underlying42 hi hz0 hz1 hz2 rfl (by decide) (.slice A1 4 c1) 4 (bs (putL 4 path)) rfl (hK2.out.own hown1.out (fun _ _ q => q)) A2 L.length c2 (bs L) rfl (by rw [bs_length, Nat.mul_one]) (Arr.of_own hown2.out) (bs_one L) (by omega) (by decide) M.length HML.out ?_; intro A3 c3 w3 hown3 hK3 hG _; replace hown3 := Lib.hid hown3))
    go_ret
    exact ⟨A3, c3, rfl, by rw [← HMB.out]; exact hown3.out, hK3⟩

end Go.Proofs.Ytkkfigdfgagimaa
