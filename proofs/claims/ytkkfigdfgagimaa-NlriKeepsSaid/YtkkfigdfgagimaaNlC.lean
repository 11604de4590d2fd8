/- Package nlri: Valid: its contract by walking the Go text. -/
import Derived.Test.YtkkfigdfgagimaaNlB
namespace Go.Proofs.Ytkkfigdfgagimaa
open Go.RowKit
set_option linter.unusedVariables false
set_option linter.unusedSimpArgs false

set_option maxRecDepth 100000 in
set_option maxHeartbeats 2000000 in
theorem vindex_any (fam : Int) (add : Bool) (A : Option Addr) (c bf ba : Nat) (xs : List RtI) (w : World) (hx : RtL w A xs) (hn : xs.length ≤ 1000000) (hf : Bk w bf 3 #[.int .i64 fam]) (ha : Bk w ba 4 #[.bool add]) :
    Calls Try.prog 62 #[.slice A xs.length c, .func (.func 42) #[] #[.pointer (some ⟨bf, 0, none⟩), .pointer (some ⟨ba, 0, none⟩)]] w fun e w' => (∃ r : Int, e = .returned (.int .i64 r) ∧ (decide (0 ≤ r) = !validL fam add xs)) ∧ Kp NoB w w' := by
  have HX := Lib.hid hx
  have HF := Lib.hid hf
  have HA := Lib.hid ha
  clear hx hf ha
  obtain ⟨n, hnn⟩ : ∃ n, xs.length = n := ⟨_, rfl⟩
  have HN := Lib.hid hnn
  rw [hnn] at hn ⊢
  clear hnn
  go_enter Try.func62, Try.ntmps62
  go_wp2
  go_loopw [8] (fun i wr => ∃ j : Nat, j ≤ n ∧ i = .int .i64 j ∧ Hid (Kp NoB w wr) ∧ Hid (UptoR (okR fam add) xs j)) (fun i _ => n - (intOf i).toNat)
  case atStart => exact ⟨0, Nat.zero_le _, rfl, Lib.hid (Kp.refl _ _), Lib.hid (UptoR.zero _ _)⟩
  case round =>
    obtain ⟨j, hj, rfl, HK, HU⟩ := hrel
    by_cases hlt : j < n
    · obtain ⟨ad, x, hxj, hxB, hA, hc⟩ := (HX.out.and HK.out).at (by rw [HN.out]; exact hlt)
      subst hA
      have HC := Lib.hid hc
      have HXJ := Lib.hid hxj
      have HI := Lib.hid (show (Try.prog.info? 31).map (·.size) = some (rtC x).length by rw [rtC_length hxB.2.2.2.1]; exact (size_of infoRt).2)
      have HB := Lib.hid (bad_any fam add x bf ba wr hxB (HF.out.and HK.out) (HA.out.and HK.out))
      clear hc hxj hxB
      unfold RtI.val at HB
      obtain ⟨rs, hrs⟩ : ∃ rs, rtC x = rs := ⟨_, rfl⟩
      rw [hrs] at HB HC HI
      clear hrs
      rcases hv : okR fam add x with _ | _
      · rw [hv] at HB
        have HV := Lib.hid hv
        clear hv
        go_wp2_with (first
          | (refine wpList_load_at rfl 31 _ rfl (ad.add (j * 19)) rfl rs _ HC.out Try.underlying31 rfl HI.out ?_)
          | (go_at_call 42; refine HB.out.mono ?_; rintro e w1 ⟨rfl, hK1⟩))
        go_ret
        refine ⟨⟨j, rfl, ?_⟩, HK.out.and hK1⟩
        rw [show validL fam add xs = false from allR_no HXJ.out HV.out]
        simp
      · rw [hv] at HB
        have HV := Lib.hid hv
        clear hv
        go_wp2_with (first
          | (refine wpList_load_at rfl 31 _ rfl (ad.add (j * 19)) rfl rs _ HC.out Try.underlying31 rfl HI.out ?_)
          | (go_at_call 42; refine HB.out.mono ?_; rintro e w1 ⟨rfl, hK1⟩))
        go_roundw
        case rel => exact ⟨j + 1, by omega, by go_num, Lib.hid (HK.out.and hK1), Lib.hid (HU.out.succ HXJ.out HV.out)⟩
        case measure => simp [intOf]; omega
    · have hj : j = n := by omega
      subst hj
      have ht : validL fam add xs = true := HU.out.all HN.out.symm
      go_wp2
      go_ret
      refine ⟨⟨-1, rfl, ?_⟩, HK.out⟩
      rw [ht]
      rfl

theorem vcontains_any (fam : Int) (add : Bool) (A : Option Addr) (c bf ba : Nat) (xs : List RtI) (w : World) (hx : RtL w A xs) (hn : xs.length ≤ 1000000) (hf : Bk w bf 3 #[.int .i64 fam]) (ha : Bk w ba 4 #[.bool add]) :
    Calls Try.prog 41 #[.slice A xs.length c, .func (.func 42) #[] #[.pointer (some ⟨bf, 0, none⟩), .pointer (some ⟨ba, 0, none⟩)]] w (Stay (.bool (!validL fam add xs)) w) := by
  have H := Lib.hid (vindex_any fam add A c bf ba xs w hx hn hf ha)
  clear hx hf ha
  obtain ⟨v, hv⟩ : ∃ v, (!validL fam add xs) = v := ⟨_, rfl⟩
  rw [hv] at H ⊢
  clear hv
  obtain ⟨n, hnn⟩ : ∃ n, xs.length = n := ⟨_, rfl⟩
  rw [hnn] at hn H ⊢
  clear hnn
  go_enter Try.func41, Try.ntmps41
  go_wp2_with (go_at_call 62; refine H.out.mono ?_; rintro e w1 ⟨⟨r, rfl, hr⟩, hK⟩)
  go_ret
  exact ⟨by rw [← hr]; rfl, hK⟩

theorem nvalid_any (fam : Int) (add : Bool) (A : Option Addr) (c : Nat) (xs : List RtI) (w : World) (hx : RtL w A xs) (hn : xs.length ≤ 1000000) :
    Calls Try.prog 22 #[.int .i64 fam, .bool add, .slice A xs.length c] w (Stay (.bool (validL fam add xs)) w) := by
  have H := Lib.hid (vcontains_any fam add A c w.heap.size (w.heap.size + 1) xs ((w.alloc (.cells #[.int .i64 fam] 3)).alloc (.cells #[.bool add] 4)) ((hx.and ((Kp.refl _ _).alloc _)).and ((Kp.refl _ _).alloc _)) hn ((Bk.fresh w _ _).alloc _) (Bk.second w _ _ _))
  clear hx
  obtain ⟨v, hv⟩ : ∃ v, validL fam add xs = v := ⟨_, rfl⟩
  rw [hv] at H ⊢
  clear hv
  obtain ⟨n, hnn⟩ : ∃ n, xs.length = n := ⟨_, rfl⟩
  rw [hnn] at hn H ⊢
  clear hnn
  go_enter Try.func22, Try.ntmps22
  go_wp2_with (go_at_call 41; refine H.out.mono ?_; rintro e w1 ⟨rfl, hK⟩)
  go_ret
  exact ⟨by simp [results, go_sem], (((Kp.refl _ _).alloc _).alloc _).and hK⟩

end Go.Proofs.Ytkkfigdfgagimaa
