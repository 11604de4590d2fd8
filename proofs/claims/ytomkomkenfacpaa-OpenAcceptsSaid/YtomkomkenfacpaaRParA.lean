/- The reference's bad, hold, System: contracts by walking the Go text. -/
import Derived.Test.YtomkomkenfacpaaParD
import Derived.Test.YtomkomkenfacpaaRBig
namespace Go.Proofs.Ytomkomkenfacpaa
open Go.RowKit
set_option linter.unusedVariables false
set_option linter.unusedSimpArgs false

theorem rbadv_any (s a : Int) (w : World) :
    Calls Try.prog 33 #[.int .i64 s, .int .i64 a] w (Stay (.tuple #[.agg #[.int .u32 0, .int .i64 0, .int .u32 0, .slice none 0 0], .agg #[.int .i64 4, .int .i64 2, .int .i64 s, .slice none 0 0, .int .i64 a]]) w) := by
  have h1 := (Bk.fresh w 25 #[.int .u32 0, .int .i64 0, .int .u32 0, .slice none 0 0]).alloc (.cells #[.int .i64 0, .int .i64 0, .int .i64 0, .slice none 0 0, .int .i64 0] 39)
  have h2 := Bk.second w (.cells #[.int .u32 0, .int .i64 0, .int .u32 0, .slice none 0 0] 25) 39 #[.int .i64 0, .int .i64 0, .int .i64 0, .slice none 0 0, .int .i64 0]
  obtain ⟨x1, x2, x3, x4, x5, x6, x7, x8, x9⟩ := h1.four
  have y0 := h2.cell 0
  have y1 := h2.cell 1
  have y2 := h2.cell 2
  have y3 := h2.cell 3
  have y4 := h2.cell 4
  have f0 := h2.frozen 0
  have f1 := h2.frozen 1
  have f2 := h2.frozen 2
  have f3 := h2.frozen 3
  have f4 := h2.frozen 4
  have hl := h2.lt
  clear h1 h2
  go_enter Try.func33, Try.ntmps33
  go_wp2
  refine bodyPost_ret (v := .tuple #[.agg #[.int .u32 0, .int .i64 0, .int .u32 0, .slice none 0 0], .agg #[.int .i64 4, .int .i64 2, .int .i64 s, .slice none 0 0, .int .i64 a]]) (by simp [results, Try.results33, go_sem, *]) rfl ⟨rfl, ?_⟩
  repeat (first | with_reducible exact Kp.refl _ _ | with_reducible refine Kp.setCell ?_ (fun hq => by simp at hq; omega) _ | with_reducible refine Kp.alloc ?_ _)

theorem rhold_any (h : Int) (w : World) : Calls Try.prog 35 #[.int .i64 h] w fun e w' => e = .returned (.bool (timedB h)) ∧ w' = w := by
  by_cases h0 : h = 0
  · subst h0
    go_enter Try.func35, Try.ntmps35
    go_wp2
    go_ret
    exact ⟨rfl, rfl⟩
  · have e0 : (h == 0) = false := by simp [h0]
    by_cases h1 : 3 ≤ h
    · by_cases h2 : h ≤ 65535
      · have et : timedB h = true := by simp [timedB]; omega
        rw [et]
        clear et
        go_enter Try.func35, Try.ntmps35
        go_wp2
        go_ret
        exact ⟨rfl, rfl⟩
      · have et : timedB h = false := by simp [timedB]; omega
        have h2' : 65535 < h := by omega
        rw [et]
        clear et
        go_enter Try.func35, Try.ntmps35
        go_wp2
        go_ret
        exact ⟨rfl, rfl⟩
    · have et : timedB h = false := by simp [timedB]; omega
      have h1' : h < 3 := by omega
      rw [et]
      clear et
      go_enter Try.func35, Try.ntmps35
      go_wp2
      go_ret
      exact ⟨rfl, rfl⟩

/-- Does a capability name a system? -/
def namesC (x : CapI) : Bool := x.code == 65 && x.data.length == 4
theorem sysC_eq (xs : List CapI) : sysC xs = (xs.find? namesC).map CapI.data := by
  unfold sysC withC
  rw [List.find?_filter]
  refine congrArg (Option.map CapI.data) ?_
  congr 1
  funext a
  unfold namesC
  rw [Bool.eq_iff_iff]
  simp
theorem sys_upto {xs : List CapI} {j : Nat} {x : CapI} (h : Upto (fun x => !namesC x) xs j) (hx : xs[j]? = some x) (hn : namesC x = true) : sysV xs = big x.data ∧ sysB xs = true := by
  have : sysC xs = some x.data := by
    rw [sysC_eq]
    have hj := (List.getElem?_eq_some_iff.1 hx)
    obtain ⟨hj, he⟩ := hj
    have hs : xs = xs.take j ++ x :: xs.drop (j + 1) := by rw [← he, List.getElem_cons_drop, List.take_append_drop]
    have hnone : (xs.take j).find? namesC = none := List.find?_eq_none.2 (fun y hy => by
      obtain ⟨k, hk, rfl⟩ := List.mem_iff_getElem.1 hy
      rw [List.length_take] at hk
      have := h k ((xs.take j)[k]) (by omega) (by rw [List.getElem_take]; exact List.getElem?_eq_getElem (by omega))
      simpa using this)
    rw [hs, List.find?_append, hnone]
    simp [hn]
  unfold sysV sysB
  rw [this]
  exact ⟨rfl, rfl⟩
theorem sys_all {xs : List CapI} {j : Nat} (h : Upto (fun x => !namesC x) xs j) (hj : j = xs.length) : sysV xs = 0 ∧ sysB xs = false := by
  have : sysC xs = none := by
    rw [sysC_eq, List.find?_eq_none.2 (fun y hy => by
      obtain ⟨k, hk, rfl⟩ := List.mem_iff_getElem.1 hy
      have := h k _ (by omega) (List.getElem?_eq_getElem hk)
      simpa using this)]
    rfl
  unfold sysV sysB
  rw [this]
  exact ⟨rfl, rfl⟩

set_option maxHeartbeats 2000000 in
theorem rsystem_any (A : Option Addr) (c : Nat) (xs : List CapI) (cs : List Value) (w : World) (hx : CapL w xs cs) (ha : Arr w A cs) (hn : xs.length ≤ 1000000) :
    Calls Try.prog 37 #[.slice A xs.length c] w fun e w' => e = .returned (.tuple #[.int .u32 (sysV xs), .bool (sysB xs)]) ∧ w' = w := by
  have HC := Lib.hid (fun j (hj : j < xs.length) => cap_cells hx ha hj)
  clear hx ha
  obtain ⟨n, hnn⟩ : ∃ n, xs.length = n := ⟨_, rfl⟩
  have HN := Lib.hid hnn
  rw [hnn] at hn HC ⊢
  clear hnn
  obtain ⟨sv, hsv⟩ : ∃ v, sysV xs = v := ⟨_, rfl⟩
  obtain ⟨sb, hsb⟩ : ∃ v, sysB xs = v := ⟨_, rfl⟩
  have HSV := Lib.hid (And.intro hsv hsb)
  rw [hsv, hsb]
  clear hsv hsb
  go_enter Try.func37, Try.ntmps37
  go_wp2
  go_loop [4] (fun i => ∃ j : Nat, j ≤ n ∧ i = .int .i64 j ∧ Hid (Upto (fun x => !namesC x) xs j)) (fun i => n - (intOf i).toNat)
  case atStart => exact ⟨0, Nat.zero_le _, rfl, Lib.hid (Upto.zero _ _)⟩
  case round =>
    obtain ⟨j, hj, rfl, HU⟩ := hrel
    by_cases hlt : j < n
    · obtain ⟨x, ad, A2, c2, hx, rfl, q1, q2, hc, hm, hA2, hb2, -, -, -⟩ := HC.out j hlt
      have HX := Lib.hid hx
      have HBG := Lib.hid (fun (h4 : x.data.length = 4) => rbig_any A2 c2 x.data w hA2 hb2 (by omega))
      clear hx hc hm hA2 hb2
      obtain ⟨m, hmm⟩ : ∃ m, x.data.length = m := ⟨_, rfl⟩
      obtain ⟨k, hkk⟩ : ∃ k, x.code = k := ⟨_, rfl⟩
      have HM := Lib.hid (And.intro hkk hmm)
      rw [hmm] at q2 HBG
      rw [hkk] at q1
      clear hmm hkk
      by_cases h1 : k = 65
      · by_cases h2 : m = 4
        · subst h1 h2
          have hs := sys_upto HU.out HX.out (by unfold namesC; rw [HM.out.1, HM.out.2]; rfl)
          obtain ⟨e1, e2⟩ := HSV.out
          rw [hs.1] at e1
          rw [hs.2] at e2
          subst e1 e2
          clear hs
          go_wp2_with (go_at_call 34; refine (HBG.out rfl).mono ?_; rintro e w1 ⟨rfl, rfl⟩)
          go_ret2
          exact ⟨rfl, rfl⟩
        · subst h1
          have hne : ((m : Int) == 4) = false := by simp; omega
          have hno : namesC x = false := by unfold namesC; rw [HM.out.1, HM.out.2]; simp [h2]
          have HNO := Lib.hid hno
          clear h2 hno
          go_wp2
          go_round
          case rel => exact ⟨j + 1, by omega, by go_num, Lib.hid (HU.out.succ HX.out (by rw [HNO.out]; rfl))⟩
          case measure => simp [intOf]; omega
      · have hne : (k == 65) = false := by simp [h1]
        have hno : namesC x = false := by unfold namesC; rw [HM.out.1, hne]; rfl
        have HNO := Lib.hid hno
        clear h1 hno
        go_wp2
        go_round
        case rel => exact ⟨j + 1, by omega, by go_num, Lib.hid (HU.out.succ HX.out (by rw [HNO.out]; rfl))⟩
        case measure => simp [intOf]; omega
    · have hj : j = n := by omega
      subst hj
      have hs := sys_all HU.out HN.out.symm
      obtain ⟨e1, e2⟩ := HSV.out
      rw [hs.1] at e1
      rw [hs.2] at e2
      subst e1 e2
      clear hs
      go_wp2
      go_ret2
      exact ⟨rfl, rfl⟩

end Go.Proofs.Ytomkomkenfacpaa
