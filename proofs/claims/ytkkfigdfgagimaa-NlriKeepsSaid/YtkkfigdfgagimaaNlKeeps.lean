/- The law NlriKeeps, walked. -/
import Derived.Test.YtkkfigdfgagimaaKeepA
import Derived.Test.YtkkfigdfgagimaaUniE
import Derived.Test.YtkkfigdfgagimaaClR
import Derived.Test.YtkkfigdfgagimaaOpenRt
namespace Go.Proofs.Ytkkfigdfgagimaa
open Go.RowKit
set_option linter.unusedVariables false
set_option linter.unusedSimpArgs false

theorem nkeeps_big (A : Option Addr) (n c : Nat) (w : World) (hn : 100 < n) : Calls Try.prog 5 #[.slice A n c] w (Stay (.bool true) w) := by
  have HA := Lib.hid alive_any
  have hn' : (100 : Int) < (n : Int) := by omega
  go_enter Try.func5, Try.ntmps5
  go_wp2_with (go_at_call 9; refine (HA.out _).mono ?_; rintro e w7 ⟨rfl, hK3⟩)
  go_ret
  exact ⟨rfl, hK3⟩

/-- The lists of Split, their paths written or not. -/
def SplP (wr : World) (base : Nat) (A : Option Addr) (n c : Nat) (cs : List Value) : Prop := wr.ownsRow base 22 1 (.slice A n c) n cs ∧ ∀ k, k < n → ∃ B m d, cs[k]? = some (.slice B m d) ∧ m ≤ 9223372036854775807 ∧ PathRow wr base (.slice B m d) m
theorem SplP.and {w w' : World} {base n c : Nat} {A : Option Addr} {cs : List Value} (h : SplP w base A n c cs) (k : Kp NoB w w') : SplP w' base A n c cs :=
  ⟨k.own h.1 (fun _ _ q => q), fun i hi => by obtain ⟨B, m, d, h1, h0, h2⟩ := h.2 i hi; exact ⟨B, m, d, h1, h0, h2.and k⟩⟩
theorem SplP.set {w : World} {base n c g' : Nat} {A : Option Addr} {cs : List Value} {cur : Array Value} (h : SplP w base A n c cs) (hg : Bk w g' 31 cur) (j : Nat) (p : Int) : SplP (w.setCell ⟨g', j * 19, none⟩ (.int .u32 p)) base A n c cs := by
  refine ⟨((Kp.refl (OnB g') w).setCell (p := ⟨g', j * 19, none⟩) (fun _ => rfl) _).own h.1 (fun b hb hq => ?_), fun i hi => by obtain ⟨B, m, d, h1, h0, h2⟩ := h.2 i hi; exact ⟨B, m, d, h1, h0, h2.set _ _ _⟩⟩
  have hq' : b = g' := hq
  subst hq'
  exact own_bk h.1 hg ne_rt hb.symm
theorem splP_of {o : Option (List (List RtI))} {w w' : World} {e : Ending} (h : SplitAny o w e w') (hB : ∀ g ∈ o.getD [], ∀ x ∈ g, x.B) : ∃ A n c cs ok, e = .returned (.tuple #[.slice A n c, .bool ok]) ∧ SplP w' w.heap.size A n c cs ∧ Kp NoB w w' ∧ n = (o.getD []).length := by
  cases o with
  | none => exact ⟨none, 0, 0, [], false, h.1, ⟨World.ownsRow_nil _ _ _ _, fun k hk => by omega⟩, h.2, rfl⟩
  | some gs =>
    obtain ⟨A, c, cs, h1, h2, h3, h4⟩ := h
    refine ⟨A, gs.length, c, cs, true, h1, ⟨h2, fun k hk => ?_⟩, h4, rfl⟩
    obtain ⟨B, d, q1, q2, _⟩ := h3.2 k _ (List.getElem?_eq_getElem hk)
    obtain ⟨A', c', e1, l1, l2, _⟩ := own_form q2
    injection e1 with _ _ e1
    exact ⟨B, _, d, q1, Nat.le_trans l1 l2, PathRow.of_own q2 rfl (hB _ (List.getElem_mem hk))⟩
theorem PathRow.bk {w : World} {base n c g : Nat} (h : PathRow w base (.slice (some ⟨g, 0, none⟩) n c) n) : ∃ cur, Bk w g 31 cur := by
  rcases h with ⟨h1, _⟩ | ⟨g', c', cur, e, h1, h2, h3⟩
  · cases h1
  · injection e with e _ _
    injection e with e
    injection e with e _ _
    subst e
    exact ⟨cur, h2⟩

theorem keeps_step {w1 wr : World} {g j : Nat} {p : Int} (k : Kp NoB w1 wr) (hg : w1.heap.size ≤ g) : Kp NoB w1 (wr.setCell ⟨g, j * 19, none⟩ (.int .u32 p)) := k.setCell (p := ⟨g, j * 19, none⟩) (fun q => by have h9 : g < w1.heap.size := q; omega) _

set_option maxRecDepth 100000 in
set_option maxHeartbeats 8000000 in
theorem nkeeps_small (A : Option Addr) (c : Nat) (xs : List RtI) (w : World) (hx : RtL w A xs) (hn : xs.length ≤ 100) :
    Calls Try.prog 5 #[.slice A xs.length c] w (Stay (.bool true) w) := by
  have HA := Lib.hid alive_any
  have hF := splF_of 1000 1 true xs hx.2
  have hUl := uniqL_le xs
  have H1 := Lib.hid (fun w' (k : Kp NoB w w') => cloneR_any A c xs w' (by omega) (hx.and k))
  have H2 := Lib.hid (fun w' A' c' (h : RtL w' A' xs) => nuniq_any A' c' xs w' h (by omega))
  have H3 := Lib.hid (fun w' A' c' (h : RtL w' A' xs) => (nsplit_any 1000 1 true A' c' xs w' h (by omega) (by decide)).mono (fun e w2 h => splP_of h (fun g hg => (hF.good g hg).1)))
  have HFEW := Lib.hid hF.few
  have HE := Lib.hid (fun w' A' c' (h : RtL w' A' xs) (k : Kp NoB w w') => equalR_any A' A c' c xs xs w' h (hx.and k) (by omega))
  simp only [decide_true] at HE
  have HRL := Lib.hid (fun (w' : World) (base : Nat) (A' : Option Addr) (c' : Nat) (h : w'.ownsRow base 31 19 (.slice A' xs.length c') xs.length (flatE rtC xs)) => rtL_of_own h hx.2)
  have HU := Lib.hid (fun (w' : World) (base : Nat) (A' : Option Addr) (c' : Nat) (h : w'.ownsRow base 31 19 (.slice A' (uniqL xs).length c') (uniqL xs).length (flatE rtC (uniqL xs))) => PathRow.of_own h rfl (uniqL_B hx.2))
  unfold JoinedR at H1 H2
  obtain ⟨q, hqq⟩ : ∃ q, (uniqL xs).length = q := ⟨_, rfl⟩
  simp only [hqq] at H2 HU
  rw [hqq] at hUl
  obtain ⟨n, hnn⟩ : ∃ n, xs.length = n := ⟨_, rfl⟩
  rw [hnn] at hn hUl HFEW
  simp only [hnn] at H1 H2 H3 HE HRL ⊢
  clear hnn hqq hx hF
  have hn' : ¬ ((100 : Int) < (n : Int)) := by omega
  go_enter Try.func5, Try.ntmps5
  go_wp2_with (first
    | (go_at_call 19; (with_reducible refine (H1.out _ (Kp.refl _ _)).mono ?_); rintro e w1 ⟨A1, c1, rfl, hown1, hK1⟩; have RA := Lib.hid (HRL.out _ _ A1 c1 hown1); have k1 := Lib.hid hK1; clear hown1 hK1)
    | (go_at_call 10; (with_reducible refine (H2.out _ A1 c1 RA.out).mono ?_); rintro e w2 ⟨A2, c2, rfl, hown2, hK2⟩; have PU := Lib.hid (HU.out _ _ A2 c2 hown2); have RA2 := Lib.hid (RA.out.and hK2); have k2 := Lib.hid hK2; clear hown2 hK2)
    | (go_at_call 14; (with_reducible refine (H3.out _ A1 c1 RA2.out).mono ?_); rintro e w3 ⟨A3, n3, c3, cs, ok, rfl, hsp, hK3, hn3⟩; have SP := Lib.hid hsp; have PU3 := Lib.hid (PU.out.and hK3); have k3 := Lib.hid (k2.out.and hK3); have hn4 : n3 ≤ n := (by rw [hn3]; exact HFEW.out); clear hsp hK3 hn3))
  go_loopw [26] (fun i wr => ∃ j : Nat, j ≤ q ∧ i = .int .i64 j ∧ Hid (Kp NoB w1 wr) ∧ Hid (PathRow wr w1.heap.size (.slice A2 q c2) q) ∧ Hid (SplP wr w2.heap.size A3 n3 c3 cs)) (fun i _ => q - (intOf i).toNat)
  case atStart => exact ⟨0, Nat.zero_le _, rfl, k3, PU3, SP⟩
  case round =>
    obtain ⟨j, hj, rfl, HK, HP, HS⟩ := hrel
    by_cases hlt : j < q
    · obtain ⟨g, p, rfl, hg, hc, hf⟩ := HP.out.at hlt
      obtain ⟨cur, hbk⟩ := HP.out.bk
      have HB := Lib.hid hbk
      clear hbk
      go_wp2
      go_roundw
      case rel => exact ⟨j + 1, by omega, by go_num, Lib.hid (keeps_step HK.out hg), Lib.hid (HP.out.set g j _), Lib.hid (HS.out.set HB.out j _)⟩
      case measure => simp [intOf]; omega
    · go_wp2
      go_loopw [40] (fun i wr' => ∃ j : Nat, j ≤ n3 ∧ i = .int .i64 j ∧ Hid (Kp NoB w1 wr') ∧ Hid (SplP wr' w2.heap.size A3 n3 c3 cs)) (fun i _ => n3 - (intOf i).toNat)
      case atStart => exact ⟨0, Nat.zero_le _, rfl, HK, HS⟩
      case round =>
        clear HK HP HS
        obtain ⟨j2, hj2, rfl, HK, HS⟩ := hrel
        by_cases hlt2 : j2 < n3
        · obtain ⟨B, m, d, hcs, hm0, hpr⟩ := HS.out.2 j2 hlt2
          obtain ⟨g3, rfl, -, -, hcell, -⟩ := own_at HS.out.1 (by omega)
          have hc3 := hcell j2 _ hcs
          have HPR := Lib.hid hpr
          clear hcs hpr hcell
          go_wp2
          go_loopw [46] (fun i wr2 => ∃ i2 : Nat, i2 ≤ m ∧ i = .int .i64 i2 ∧ Hid (Kp NoB w1 wr2) ∧ Hid (SplP wr2 w2.heap.size (some ⟨g3, 0, none⟩) n3 c3 cs) ∧ Hid (PathRow wr2 w2.heap.size (.slice B m d) m)) (fun i _ => m - (intOf i).toNat)
          case atStart => exact ⟨0, Nat.zero_le _, rfl, HK, HS, HPR⟩
          case round =>
            clear HK HS HPR
            obtain ⟨i2, hi2, rfl, HK, HS, HP⟩ := hrel
            by_cases hlt3 : i2 < m
            · obtain ⟨g, p, rfl, hg, hc, hf⟩ := HP.out.at hlt3
              obtain ⟨cur, hbk⟩ := HP.out.bk
              have HB := Lib.hid hbk
              have hg1 : w1.heap.size ≤ g := Nat.le_trans k2.out.size hg
              clear hbk
              go_wp2
              go_roundw
              case rel => exact ⟨i2 + 1, by omega, by go_num, Lib.hid (keeps_step HK.out hg1), Lib.hid (HS.out.set HB.out i2 _), Lib.hid (HP.out.set g i2 _)⟩
              case measure => simp [intOf]; omega
            · go_wp2
              go_roundw
              case rel => exact ⟨j2 + 1, by omega, by go_num, HK, HS⟩
              case measure => simp [intOf]; omega
        · go_wp2_with (first
            | (go_at_call 9; (with_reducible refine (HA.out _).mono ?_); rintro e w7 ⟨rfl, hK7⟩; have K7 := Lib.hid (HK.out.and hK7); clear hK7)
            | (go_at_call 11; (with_reducible refine (HE.out _ A1 c1 (RA.out.and K7.out) (k1.out.and K7.out)).mono ?_); rintro e w8 ⟨rfl, hK8⟩; have K8 := Lib.hid (K7.out.and hK8); clear hK8))
          go_ret
          exact ⟨rfl, k1.out.and K8.out⟩

theorem nkeeps_row (A : Option Addr) (n c : Nat) (xs : List RtI) (w : World) (h : InRts w A n c xs) :
    Calls Try.prog 5 #[.slice A n c] w (Stay (.bool true) w) := by
  obtain ⟨rfl, hn, hc, hx⟩ := h
  by_cases h1 : xs.length ≤ 100
  · exact nkeeps_small A c xs w hx h1
  · exact nkeeps_big A _ c w (by omega)

end Go.Proofs.Ytkkfigdfgagimaa
