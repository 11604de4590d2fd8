/- The walk of the law FlagNames: it returns true and makes only new blocks, for every number and all ints. Condition: the listed tables' content. -/
import Derived.Test.YtffdjfnipnmlcaaDoorFnN
import Derived.Test.YtffdjfnipnmlcaaDoorFlagE
import Derived.Test.YtffdjfnipnmlcaaDoorOpenIs
import Derived.Deep.Cut
namespace Go.Proofs.YtffdjfnipnmlcaaDoor
open Go.RowKit
set_option linter.unusedVariables false
set_option linter.unusedSimpArgs false

/-- What the law collects: the types below k. -/
def wantL (zs : List Int) (k : Nat) : List Int := ((List.range k).map fun (i : Nat) => (i : Int)).filter fun x => isCls x && zs.contains (cls x)
theorem wantL_zero (zs : List Int) : wantL zs 0 = [] := rfl
theorem wantL_yes (zs : List Int) (k : Nat) (h : isCls (k : Int) = true) (h2 : zs.contains (cls (k : Int)) = true) : wantL zs (k + 1) = wantL zs k ++ [(k : Int)] := by
  unfold wantL
  rw [List.range_succ, List.map_append, List.filter_append]
  simp only [List.map_cons, List.map_nil, List.filter_cons, List.filter_nil, h, h2]
  rfl
theorem wantL_no (zs : List Int) (k : Nat) (h : (isCls (k : Int) && zs.contains (cls (k : Int))) = false) : wantL zs (k + 1) = wantL zs k := by
  unfold wantL
  rw [List.range_succ, List.map_append, List.filter_append]
  simp only [List.map_cons, List.map_nil, List.filter_cons, List.filter_nil, h]
  simp
theorem wantL_len (zs : List Int) (k : Nat) : (wantL zs k).length ≤ k := by
  unfold wantL
  refine Nat.le_trans (List.length_filter_le _ _) ?_
  simp
theorem wantL_all (zs : List Int) : wantL zs 256 = typesL zs := by
  have h : ((List.range 256).map fun (i : Nat) => (i : Int)).filter isCls = keysL := by decide +kernel
  unfold wantL typesL
  rw [← h, List.filter_filter]
  congr 1
  funext x
  rw [Bool.and_comm]

theorem infoInt : (Tryd.prog.info? 3).map (fun i => (i.zero, i.size, i.bytes)) = some (some (.int .i64 0), 1, 8) := by kernel_rfl

theorem pname_any (k : Int) (h0 : -9223372036854775808 ≤ k) (h1 : k ≤ 9223372036854775807) (wk : (Lit.int .i64 k).wf = true) (w : World) (ld : Ld w) : Calls Tryd.prog 7 #[.int .i64 k] w (Stay (.string (ba (nameL k))) w) := by
  unfold nameL
  cases h : isCls k with
  | true => exact pname_known k h w ld
  | false => exact pname_other k h h0 h1 wk w ld
theorem rname_any (k : Int) (h0 : -9223372036854775808 ≤ k) (h1 : k ≤ 9223372036854775807) (w : World) : Calls Tryd.prog 8 #[.int .i64 k] w (Stay (.string (ba (nameL k))) w) := by
  unfold nameL
  cases h : isCls k with
  | true => exact rname_known k h w
  | false =>
    by_cases hk : 0 ≤ k
    · exact rname_pos k h hk h1 w
    · obtain ⟨K, rfl⟩ : ∃ K : Nat, k = -(K : Int) := ⟨k.natAbs, by omega⟩
      exact rname_neg K (by omega) (by omega) h w

set_option maxRecDepth 100000 in
set_option maxHeartbeats 8000000 in
theorem names_few (a : Int) (A : Option Addr) (n c : Nat) (zs : List Int) (w : World) (h0 : -9223372036854775808 ≤ a) (h1 : a ≤ 9223372036854775807) (hz : InIs w A n c zs) (hn : n ≤ 20) (ld : Ld w) :
    Calls Tryd.prog 3 #[.int .i64 a, .slice A n c] w (Stay (.bool true) w) := by
  obtain ⟨rfl, hc, hcm, ha⟩ := hz
  obtain ⟨i0, hi, hz0, hz1, hz2⟩ := info_parts infoInt
  have HA := Lib.hid alive_any
  have HN := Lib.hid (fun W (k : Kp NoB w W) => pname_any a h0 h1 (by simp [Lit.wf, IntKind.min, IntKind.max, IntKind.signed, IntKind.bits]; omega) W (ld.and k))
  have HR := Lib.hid (fun W => rname_any a h0 h1 W)
  have HT := Lib.hid (fun W (k : Kp NoB w W) => types_any A c zs W (ha.and k) (by omega))
  unfold TypesU at HT
  have HCn := Lib.hid (fun x W (k : Kp NoB w W) => contains_any A c zs x W (ha.and k) (by omega))
  have HC := Lib.hid (fun k W => rclass_any k W)
  have HE := Lib.hid (fun A' B' c' d' W (h : Arr W A' (is (typesL zs))) (h' : Arr W B' (is (wantL zs 256))) => equali_stay A' B' c' d' (typesL zs) (wantL zs 256) W h h' (by
    have := wantL_len zs 256
    rw [wantL_all] at this
    omega))
  rw [show decide (typesL zs = wantL zs 256) = true by rw [wantL_all]; simp] at HE
  obtain ⟨t, ht⟩ : ∃ t, ba (nameL a) = t := ⟨_, rfl⟩
  obtain ⟨tl, htl⟩ : ∃ t, (typesL zs).length = t := ⟨_, rfl⟩
  rw [ht] at HN HR
  rw [htl] at HT HE
  obtain ⟨N, hN⟩ : ∃ N, zs.length = N := ⟨_, rfl⟩
  rw [hN] at HT HCn hn ⊢
  clear ht htl hN ha hc hcm ld
  have hn' : ¬ (20 : Int) < (N : Int) := by omega
  go_enter Tryd.func3, Tryd.ntmps3
  go_wp2_with fail
  go_loopw [5, 6, 7, 8] (fun s5 s6 _ _ wr => ∃ (k s : Nat) (A' : Option Addr) (c' : Nat), k ≤ 256 ∧ s6 = .int .i64 k ∧ s5 = .slice A' s c' ∧ Hid (s = (wantL zs k).length) ∧ Hid (wr.ownsRow w.heap.size 3 1 (.slice A' s c') s (is (wantL zs k))) ∧ Hid (Kp NoB w wr)) (fun _ s6 _ _ _ => 256 - (intOf s6).toNat)
  case atStart => exact ⟨0, 0, none, 0, Nat.zero_le _, rfl, rfl, Lib.hid rfl, Lib.hid (World.ownsRow_nil _ _ _ _), Lib.hid (Kp.refl _ _)⟩
  case round =>
    obtain ⟨k, s, A', c', hk, rfl, rfl, hs, ho, hK⟩ := hrel
    by_cases hlt : k < 256
    · have HCk := Lib.hid (HC.out (k : Int))
      have HQ := Lib.hid (HCn.out (cls (k : Int)) _ hK.out)
      obtain ⟨cv, hcv⟩ : ∃ v, cls (k : Int) = v := ⟨_, rfl⟩
      obtain ⟨cb, hcb⟩ : ∃ v, isCls (k : Int) = v := ⟨_, rfl⟩
      obtain ⟨q, hq⟩ : ∃ v, zs.contains cv = v := ⟨_, rfl⟩
      rw [hcv, hcb] at HCk
      rw [hcv, hq] at HQ
      have HCV := Lib.hid (And.intro hcb (show zs.contains (cls (k : Int)) = q by rw [hcv, hq]))
      have hsk : s ≤ 256 := by have := wantL_len zs k; have := hs.out; omega
      have ho1 := Lib.hid (ho.out.alloc (.cells #[.int .i64 k] 3))
      have hk1 := Lib.hid (hK.out.alloc (.cells #[.int .i64 k] 3))
      clear hcv hcb hq
      cases cb with
      | false =>
        have HW := Lib.hid (wantL_no zs k (by rw [HCV.out.1]; rfl))
        go_wp2_with (go_at_call 5; refine (HCk.out _).mono ?_; rintro e w1 ⟨rfl, rfl⟩)
        go_roundw
        case rel => exact ⟨k + 1, s, A', c', by omega, by go_num, rfl, Lib.hid (by rw [HW.out]; exact hs.out), Lib.hid (by rw [HW.out]; exact ho.out), hK⟩
        case measure => simp [intOf]; omega
      | true =>
        cases q with
        | false =>
          have HW := Lib.hid (wantL_no zs k (by rw [HCV.out.1, HCV.out.2]; rfl))
          go_wp2_with (first
            | (go_at_call 5; refine (HCk.out _).mono ?_; rintro e w1 ⟨rfl, rfl⟩)
            | (go_at_call 6; refine HQ.out.mono ?_; rintro e w1 ⟨rfl, rfl⟩))
          go_roundw
          case rel => exact ⟨k + 1, s, A', c', by omega, by go_num, rfl, Lib.hid (by rw [HW.out]; exact hs.out), Lib.hid (by rw [HW.out]; exact ho.out), hK⟩
          case measure => simp [intOf]; omega
        | true =>
          have HW := Lib.hid (wantL_yes zs k HCV.out.1 HCV.out.2)
          go_wp2_with (first
            | (go_at_call 5; refine (HCk.out _).mono ?_; rintro e w1 ⟨rfl, rfl⟩)
            | (go_at_call 6; refine HQ.out.mono ?_; rintro e w1 ⟨rfl, rfl⟩)
            | (at_builtin; refine wpList_app (w0 := w) (S := NoB) hk1.out rfl (.tmp 28) (.tmp 30) 22 rfl 3 i0 (.int .i64 0) 1 8 Tryd.underlying22 hi hz0 hz1 hz2 rfl (by decide) _ s _ rfl ho1.out _ 1 1 [.int .i64 k] rfl rfl (Arr.one _ _ _) (by simp [Value.oneCell']) (by omega) (by decide) (s + 1) rfl ?_; intro A4 c4 w4 hown4 hK4 _ _; replace hown4 := Lib.hid hown4; replace hK4 := Lib.hid hK4))
          go_roundw
          case rel => exact ⟨k + 1, s + 1, A4, c4, by omega, by go_num, rfl, Lib.hid (by rw [HW.out, List.length_append, ← hs.out]; rfl), Lib.hid (by rw [HW.out, is_append]; exact hown4.out), hK4⟩
          case measure => simp [intOf]; omega
    · have hk2 : k = 256 := by omega
      subst hk2
      have harr := Lib.hid (Arr.of_own ho.out)
      have hsv := hs.out
      rw [← hsv] at HE
      clear hsv
      go_wp2_with (first
        | (go_at_call 4; refine (HA.out _).mono ?_; rintro e w1 ⟨rfl, hK1⟩; have k1 := Lib.hid (hK.out.and hK1); have r1 := Lib.hid (harr.out.and hK1); clear hK1)
        | (go_at_call 7; refine (HN.out _ k1.out).mono ?_; rintro e w2 ⟨rfl, hK2⟩; have k2 := Lib.hid (k1.out.and hK2); have r2 := Lib.hid (r1.out.and hK2); clear hK2)
        | (go_at_call 8; refine (HR.out _).mono ?_; rintro e w3 ⟨rfl, hK3⟩; have k3 := Lib.hid (k2.out.and hK3); have r3 := Lib.hid (r2.out.and hK3); clear hK3)
        | (go_at_call 10; refine (HT.out _ k3.out).mono ?_; rintro e w4 ⟨A5, c5, rfl, harr5, hK4⟩; have k4 := Lib.hid (k3.out.and hK4); have r4 := Lib.hid (r3.out.and hK4); replace harr5 := Lib.hid harr5; clear hK4)
        | (go_at_call 9; refine (HE.out A5 A' _ _ _ harr5.out r4.out).mono ?_; rintro e w5 ⟨rfl, hK5⟩; have k5 := Lib.hid (k4.out.and hK5); clear hK5))
      go_ret
      exact ⟨rfl, k5.out⟩

theorem fnames_row (a : Int) (A : Option Addr) (n c : Nat) (zs : List Int) (w : World) (hb : -9223372036854775808 ≤ a ∧ a ≤ 9223372036854775807) (hz : InIs w A n c zs) (ld : Ld w) :
    Calls Tryd.prog 3 #[.int .i64 a, .slice A n c] w (Stay (.bool true) w) := by
  by_cases hn : n ≤ 20
  · exact names_few a A n c zs w hb.1 hb.2 hz hn ld
  · have HA := Lib.hid alive_any
    have hn' : (20 : Int) < (n : Int) := by omega
    clear hz hn ld hb
    go_enter Tryd.func3, Tryd.ntmps3
    go_wp2_with fail
    refine (HA.out _).mono ?_
    rintro e w1 ⟨rfl, hK⟩
    go_wp2_with fail
    go_ret
    exact ⟨rfl, hK⟩

end Go.Proofs.YtffdjfnipnmlcaaDoor
