/- The reference's bad, hold, System: contracts by walking the Go text.  The reference's Valid. No condition but the bounds that arguments have. -/
import Derived.Test.YtjcmgfegnngjjaaDoorOpA
import Derived.Test.YtjcmgfegnngjjaaDoorRBig
import Derived.Test.YtjcmgfegnngjjaaDoorCapE
namespace Go.Proofs.YtjcmgfegnngjjaaDoor
open Go.RowKit
set_option linter.unusedVariables false
set_option linter.unusedSimpArgs false

theorem rhold_any (h : Int) (w : World) : Calls Tryd.prog 17 #[.int .i64 h] w fun e w' => e = .returned (.bool (timedB h)) ∧ w' = w := by
  by_cases h0 : h = 0
  · subst h0
    go_enter Tryd.func17, Tryd.ntmps17
    go_wp2
    go_ret
    exact ⟨rfl, rfl⟩
  · have e0 : (h == 0) = false := by simp [h0]
    by_cases h1 : 3 ≤ h
    · by_cases h2 : h ≤ 65535
      · have et : timedB h = true := by simp [timedB]; omega
        rw [et]
        clear et
        go_enter Tryd.func17, Tryd.ntmps17
        go_wp2
        go_ret
        exact ⟨rfl, rfl⟩
      · have et : timedB h = false := by simp [timedB]; omega
        have h2' : 65535 < h := by omega
        rw [et]
        clear et
        go_enter Tryd.func17, Tryd.ntmps17
        go_wp2
        go_ret
        exact ⟨rfl, rfl⟩
    · have et : timedB h = false := by simp [timedB]; omega
      have h1' : h < 3 := by omega
      rw [et]
      clear et
      go_enter Tryd.func17, Tryd.ntmps17
      go_wp2
      go_ret
      exact ⟨rfl, rfl⟩

/-- Does a capability name a system? -/
def namesC (x : CapI) : Bool := x.code == 65 && x.data.length == 4
theorem sysC_eq (xs : List CapI) : sysC xs = (xs.find? namesC).map CapI.data := by
  unfold sysC withC
  rw [List.find?_filter]
  refine congrArg (Option.map CapI.data) ?_
  congr 1
  funext a
  unfold namesC
  rw [Bool.eq_iff_iff]
  simp
theorem sys_upto {xs : List CapI} {j : Nat} {x : CapI} (h : Upto (fun x => !namesC x) xs j) (hx : xs[j]? = some x) (hn : namesC x = true) : sysV xs = big x.data ∧ sysB xs = true := by
  have : sysC xs = some x.data := by
    rw [sysC_eq]
    have hj := (List.getElem?_eq_some_iff.1 hx)
    obtain ⟨hj, he⟩ := hj
    have hs : xs = xs.take j ++ x :: xs.drop (j + 1) := by rw [← he, List.getElem_cons_drop, List.take_append_drop]
    have hnone : (xs.take j).find? namesC = none := List.find?_eq_none.2 (fun y hy => by
      obtain ⟨k, hk, rfl⟩ := List.mem_iff_getElem.1 hy
      rw [List.length_take] at hk
      have := h k ((xs.take j)[k]) (by omega) (by rw [List.getElem_take]; exact List.getElem?_eq_getElem (by omega))
      simpa using this)
    rw [hs, List.find?_append, hnone]
    simp [hn]
  unfold sysV sysB
  rw [this]
  exact ⟨rfl, rfl⟩
theorem sys_all {xs : List CapI} {j : Nat} (h : Upto (fun x => !namesC x) xs j) (hj : j = xs.length) : sysV xs = 0 ∧ sysB xs = false := by
  have : sysC xs = none := by
    rw [sysC_eq, List.find?_eq_none.2 (fun y hy => by
      obtain ⟨k, hk, rfl⟩ := List.mem_iff_getElem.1 hy
      have := h k _ (by omega) (List.getElem?_eq_getElem hk)
      simpa using this)]
    rfl
  unfold sysV sysB
  rw [this]
  exact ⟨rfl, rfl⟩

set_option maxHeartbeats 2000000 in
theorem rsystem_any (A : Option Addr) (c : Nat) (xs : List CapI) (cs : List Value) (w : World) (hx : CapL w xs cs) (ha : Arr w A cs) (hn : xs.length ≤ 1000000) :
    Calls Tryd.prog 18 #[.slice A xs.length c] w fun e w' => e = .returned (.tuple #[.int .u32 (sysV xs), .bool (sysB xs)]) ∧ w' = w := by
  have HC := Lib.hid (fun j (hj : j < xs.length) => cap_cells hx ha hj)
  clear hx ha
  obtain ⟨n, hnn⟩ : ∃ n, xs.length = n := ⟨_, rfl⟩
  have HN := Lib.hid hnn
  rw [hnn] at hn HC ⊢
  clear hnn
  obtain ⟨sv, hsv⟩ : ∃ v, sysV xs = v := ⟨_, rfl⟩
  obtain ⟨sb, hsb⟩ : ∃ v, sysB xs = v := ⟨_, rfl⟩
  have HSV := Lib.hid (And.intro hsv hsb)
  rw [hsv, hsb]
  clear hsv hsb
  go_enter Tryd.func18, Tryd.ntmps18
  go_wp2
  go_loop [4] (fun i => ∃ j : Nat, j ≤ n ∧ i = .int .i64 j ∧ Hid (Upto (fun x => !namesC x) xs j)) (fun i => n - (intOf i).toNat)
  case atStart => exact ⟨0, Nat.zero_le _, rfl, Lib.hid (Upto.zero _ _)⟩
  case round =>
    obtain ⟨j, hj, rfl, HU⟩ := hrel
    by_cases hlt : j < n
    · obtain ⟨x, ad, A2, c2, hx, rfl, q1, q2, hc, hm, hA2, hb2, -, -, -⟩ := HC.out j hlt
      have HX := Lib.hid hx
      have HBG := Lib.hid (fun (h4 : x.data.length = 4) => rbig_any A2 c2 x.data w hA2 hb2 (by omega))
      clear hx hc hm hA2 hb2
      obtain ⟨m, hmm⟩ : ∃ m, x.data.length = m := ⟨_, rfl⟩
      obtain ⟨k, hkk⟩ : ∃ k, x.code = k := ⟨_, rfl⟩
      have HM := Lib.hid (And.intro hkk hmm)
      rw [hmm] at q2 HBG
      rw [hkk] at q1
      clear hmm hkk
      by_cases h1 : k = 65
      · by_cases h2 : m = 4
        · subst h1 h2
          have hs := sys_upto HU.out HX.out (by unfold namesC; rw [HM.out.1, HM.out.2]; rfl)
          obtain ⟨e1, e2⟩ := HSV.out
          rw [hs.1] at e1
          rw [hs.2] at e2
          subst e1 e2
          clear hs
          go_wp2_with (go_at_call 24; refine (HBG.out rfl).mono ?_; rintro e w1 ⟨rfl, rfl⟩)
          go_ret2
          exact ⟨rfl, rfl⟩
        · subst h1
          have hne : ((m : Int) == 4) = false := by simp; omega
          have hno : namesC x = false := by unfold namesC; rw [HM.out.1, HM.out.2]; simp [h2]
          have HNO := Lib.hid hno
          clear h2 hno
          go_wp2
          go_round
          case rel => exact ⟨j + 1, by omega, by go_num, Lib.hid (HU.out.succ HX.out (by rw [HNO.out]; rfl))⟩
          case measure => simp [intOf]; omega
      · have hne : (k == 65) = false := by simp [h1]
        have hno : namesC x = false := by unfold namesC; rw [HM.out.1, hne]; rfl
        have HNO := Lib.hid hno
        clear h1 hno
        go_wp2
        go_round
        case rel => exact ⟨j + 1, by omega, by go_num, Lib.hid (HU.out.succ HX.out (by rw [HNO.out]; rfl))⟩
        case measure => simp [intOf]; omega
    · have hj : j = n := by omega
      subst hj
      have hs := sys_all HU.out HN.out.symm
      obtain ⟨e1, e2⟩ := HSV.out
      rw [hs.1] at e1
      rw [hs.2] at e2
      subst e1 e2
      clear hs
      go_wp2
      go_ret2
      exact ⟨rfl, rfl⟩

end Go.Proofs.YtjcmgfegnngjjaaDoor

namespace Go.Proofs.YtjcmgfegnngjjaaDoor
open Go.RowKit
set_option linter.unusedVariables false
set_option linter.unusedSimpArgs false

set_option maxRecDepth 100000 in
set_option maxHeartbeats 8000000 in
theorem rvalid17_any (o : OpenI) (A : Option Addr) (c : Nat) (cs : List Value) (w : World) (hb : o.B) (hx : CapL w o.caps cs) (ha : Arr w A cs) (hl : o.caps.length ≤ 1000000) (hf : (formC o.caps).length ≤ 100000) :
    Calls Tryd.prog 11 #[o.val A c] w (Stay (.bool (validO o)) w) := by
  obtain ⟨s, h, i, caps⟩ := o
  simp only at hx hl hf
  obtain ⟨hs, hh, hi⟩ := hb
  simp only at hs hh hi
  have HS := Lib.hid (fun w' (k : Kp NoB w w') => rsystem_any A c caps cs w' (hx.and k) (ha.and k) hl)
  have HT := Lib.hid (fun w => rhold_any h w)
  have hk0 := Lib.hid ((Kp.refl NoB w).alloc (.cells #[.int .u32 s, .int .i64 h, .int .u32 i, .slice A caps.length c] 25))
  have hB := Lib.hid (Bk.fresh w 25 #[.int .u32 s, .int .i64 h, .int .u32 i, .slice A caps.length c])
  unfold OpenI.val
  simp only
  by_cases hv : validB caps = true
  · have HB := Lib.hid (rbytes_yes A c caps cs (w.alloc (.cells #[.int .u32 s, .int .i64 h, .int .u32 i, .slice A caps.length c] 25)) (hx.and hk0.out) (ha.and hk0.out) hl hv (by omega))
    have hvo : validO ⟨s, h, i, caps⟩ = (decide ((formC caps).length ≤ 253) && decide (s ≠ 0) && decide (i ≠ 0) && timedB h && (if sysB caps then decide (sysV caps = s) else decide (s ≤ 65535))) := by
      unfold validO
      simp only [hv, Bool.true_and]
    rw [hvo]
    unfold Formed at HB
    obtain ⟨n, hn⟩ : ∃ n, caps.length = n := ⟨_, rfl⟩
    obtain ⟨F, hF⟩ : ∃ F, formC caps = F := ⟨_, rfl⟩
    rw [hF] at HB
    obtain ⟨fl, hfl⟩ : ∃ F', F.length = F' := ⟨_, rfl⟩
    obtain ⟨sv, hsv⟩ : ∃ v, sysV caps = v := ⟨_, rfl⟩
    obtain ⟨sb, hsb⟩ : ∃ v, sysB caps = v := ⟨_, rfl⟩
    obtain ⟨tb, htb⟩ : ∃ v, timedB h = v := ⟨_, rfl⟩
    rw [hF, hfl, hsv, hsb, htb]
    simp only [hn, hfl, hsv, hsb, htb] at HB HS HT hB hk0 ⊢
    obtain ⟨R, hR⟩ : ∃ R, (decide (fl ≤ 253) && decide (s ≠ 0) && decide (i ≠ 0) && tb && (if sb = true then decide (sv = s) else decide (s ≤ 65535))) = R := ⟨_, rfl⟩
    rw [hR]
    have HR := Lib.hid hR
    clear hn hF hsv hsb htb hx ha hv hvo hR
    obtain ⟨x1, x2, x3, x4, x5, x6, x7, x8, x9⟩ := hB.out.four
    cases sb <;> cases tb
    all_goals
      go_enter Tryd.func11, Tryd.ntmps11
      go_wp2_with fail
      refine HB.out.mono ?_
      rintro e w1 ⟨A1, c1, rfl, hown1, hK1⟩
      clear hown1
      have k1 := hk0.out.and hK1
      obtain ⟨y1, y2, y3, y4, y5, y6, y7, y8, y9⟩ := (hB.out.and hK1).four
      by_cases g1 : fl ≤ 253 <;> by_cases g2 : s = 0 <;> by_cases g3 : i = 0
    all_goals
      first
        | (have b1 : ¬ (253 : Int) < (fl : Int) := by omega)
        | (have b1 : (253 : Int) < (fl : Int) := by omega)
      have b2 : (s == 0) = decide (s = 0) := by rw [Bool.eq_iff_iff]; simp
      have b3 : (i == 0) = decide (i = 0) := by rw [Bool.eq_iff_iff]; simp
      simp only [g2, g3, decide_true, decide_false] at b2 b3
      go_wp2_with (first
        | (go_at_call 17; refine (HT.out _).mono ?_; rintro e w3 ⟨rfl, rfl⟩)
        | (go_at_call 18; refine (HS.out _ k1).mono ?_; rintro e w2 ⟨rfl, rfl⟩))
    all_goals go_ret
    all_goals refine ⟨?_, k1⟩
    all_goals
      rw [← HR.out]
      refine congrArg Ending.returned ?_
      show Value.bool _ = Value.bool _
      refine congrArg Value.bool ?_
      rw [Bool.eq_iff_iff]
      simp
    all_goals try omega
  · have HB := Lib.hid (rbytes_no A c caps cs (w.alloc (.cells #[.int .u32 s, .int .i64 h, .int .u32 i, .slice A caps.length c] 25)) (hx.and hk0.out) (ha.and hk0.out) hl (by simpa using hv))
    have hvo : validO ⟨s, h, i, caps⟩ = false := by
      unfold validO
      have : validB caps = false := by simpa using hv
      simp only [this, Bool.false_and]
    rw [hvo]
    obtain ⟨n, hn⟩ : ∃ n, caps.length = n := ⟨_, rfl⟩
    simp only [hn] at HB hB hk0 ⊢
    clear hn hx ha hv hvo
    obtain ⟨x1, x2, x3, x4, x5, x6, x7, x8, x9⟩ := hB.out.four
    go_enter Tryd.func11, Tryd.ntmps11
    go_wp2_with fail
    refine HB.out.mono ?_
    rintro e w1 ⟨rfl, hK1⟩
    have k1 := hk0.out.and hK1
    go_wp2
    go_ret
    exact ⟨rfl, k1⟩

end Go.Proofs.YtjcmgfegnngjjaaDoor
