/- Same of the reference; the chapter's example: contracts by walking the Go text. -/
import Derived.Test.YtilfheociidloaaDoorCapF
import Derived.Test.YtilfheociidloaaDoorStr
import Derived.Test.YtilfheociidloaaDoorEqual
namespace Go.Proofs.YtilfheociidloaaDoor
open Go.RowKit
set_option linter.unusedVariables false
set_option linter.unusedSimpArgs false

theorem caps_ext {xs ys : List CapI} (hl : xs.length = ys.length) (h : ∀ (j : Nat) (x y : CapI), xs[j]? = some x → ys[j]? = some y → x = y) : xs = ys := by
  refine List.ext_getElem hl fun j h1 h2 => h j _ _ (List.getElem?_eq_getElem h1) (List.getElem?_eq_getElem h2)

set_option maxHeartbeats 4000000 in
theorem rsame16_any (A B : Option Addr) (c d : Nat) (xs ys : List CapI) (cs ds : List Value) (w : World) (hx : CapL w xs cs) (ha : Arr w A cs) (hy : CapL w ys ds) (hb : Arr w B ds) (hn : xs.length ≤ 1000000) (hm : ys.length ≤ 1000000) :
    Calls Tryd.prog 43 #[.slice A xs.length c, .slice B ys.length d] w (Stay (.bool (decide (xs = ys))) w) := by
  by_cases hl : xs.length = ys.length
  · have HX := Lib.hid (fun j (hj : j < xs.length) => cap_cells hx ha hj)
    have HY := Lib.hid (fun j (hj : j < ys.length) => cap_cells hy hb hj)
    have HE : Hid ((∀ (j : Nat) (x y : CapI), j < xs.length → xs[j]? = some x → ys[j]? = some y → x = y) → decide (xs = ys) = true) := Lib.hid (fun h => by
      rw [decide_eq_true_eq]
      exact caps_ext hl (fun j x y h1 h2 => h j x y (List.getElem?_eq_some_iff.1 h1).1 h1 h2))
    have HN : Hid (∀ (j : Nat) (x y : CapI), xs[j]? = some x → ys[j]? = some y → x ≠ y → decide (xs = ys) = false) := Lib.hid (fun j x y h1 h2 hne => by
      rw [decide_eq_false_iff_not]
      rintro rfl
      rw [h1] at h2
      injection h2 with h2
      exact hne h2)
    clear hx hy ha hb
    obtain ⟨b, hbb⟩ : ∃ b, decide (xs = ys) = b := ⟨_, rfl⟩
    rw [hbb] at HE HN ⊢
    clear hbb
    obtain ⟨n, hnn⟩ : ∃ n, xs.length = n := ⟨_, rfl⟩
    rw [← hl, hnn] at HY ⊢
    rw [hnn] at HX HE hn
    clear hl hnn hm
    go_enter Tryd.func43, Tryd.ntmps43
    go_wp2
    go_loopw [5] (fun i wr => ∃ j : Nat, j ≤ n ∧ i = .int .i64 j ∧ Kp NoB w wr ∧ Hid (∀ (k : Nat) (x y : CapI), k < j → xs[k]? = some x → ys[k]? = some y → x = y)) (fun i _ => n - (intOf i).toNat)
    case atStart => exact ⟨0, Nat.zero_le _, rfl, Kp.refl _ _, Lib.hid (fun k x y hk => by omega)⟩
    case round =>
      obtain ⟨j, hj, rfl, hK, HU⟩ := hrel
      by_cases hlt : j < n
      · obtain ⟨x, ad, A2, c2, hx, rfl, q1, q2, hc, -, hA2, hb2, -, -, -⟩ := HX.out j hlt
        obtain ⟨y, bd, B2, d2, hy, rfl, r1, r2, hd, -, hB2, hb3, -, -, -⟩ := HY.out j hlt
        replace q1 := hK.cell q1 (fun q => q)
        replace q2 := hK.cell q2 (fun q => q)
        replace r1 := hK.cell r1 (fun q => q)
        replace r2 := hK.cell r2 (fun q => q)
        have HS := Lib.hid (fun n => rsame_any A2 B2 c2 d2 x.data y.data (wr.drewN n) ((hA2.and hK).drewN n) ((hB2.and hK).drewN n) hb2 hb3)
        have HX1 := Lib.hid hx
        have HY1 := Lib.hid hy
        have HXY : Hid (x.code = y.code → x.data = y.data → x = y) := Lib.hid (fun h1 h2 => by cases x; cases y; simp_all)
        have HNE : Hid (x.code ≠ y.code → x ≠ y) := Lib.hid (fun h1 h2 => h1 (by rw [h2]))
        have HND : Hid (x.data ≠ y.data → x ≠ y) := Lib.hid (fun h1 h2 => h1 (by rw [h2]))
        clear hx hy hc hd hA2 hB2 hb2 hb3
        obtain ⟨kx, hkx⟩ : ∃ k, x.code = k := ⟨_, rfl⟩
        obtain ⟨ky, hky⟩ : ∃ k, y.code = k := ⟨_, rfl⟩
        obtain ⟨dx, hdx⟩ : ∃ k, x.data = k := ⟨_, rfl⟩
        obtain ⟨dy, hdy⟩ : ∃ k, y.data = k := ⟨_, rfl⟩
        rw [hkx] at q1
        rw [hky] at r1
        rw [hdx] at q2
        rw [hdy] at r2
        rw [hkx, hky] at HXY HNE
        rw [hdx, hdy] at HXY HND HS
        clear hkx hky hdx hdy
        obtain ⟨lx, hlx⟩ : ∃ k, dx.length = k := ⟨_, rfl⟩
        obtain ⟨ly, hly⟩ : ∃ k, dy.length = k := ⟨_, rfl⟩
        rw [hlx] at q2 HS
        rw [hly] at r2 HS
        clear hlx hly
        by_cases hk : kx = ky
        · have hne : (kx != ky) = false := by rw [hk]; simp
          have HK := Lib.hid hk
          clear hk
          by_cases hdd : dx = dy
          · rw [show decide (dx = dy) = true from decide_eq_true hdd] at HS
            have HD := Lib.hid hdd
            clear hdd
            go_wp2
            go_quiet ((go_at_call 42; exact Calls.quiet_of_same (HS.out _)))
            go_wp2
            go_roundw
            case rel => exact ⟨j + 1, by omega, by go_num, hK.drewN _, Lib.hid (fun k x' y' hk' h1 h2 => by
              rcases Nat.lt_or_ge k j with h3 | h3
              · exact HU.out k x' y' h3 h1 h2
              · obtain rfl : k = j := by omega
                rw [HX1.out] at h1
                rw [HY1.out] at h2
                injection h1 with h1
                injection h2 with h2
                rw [← h1, ← h2]
                exact HXY.out HK.out HD.out)⟩
            case measure => simp [intOf]; omega
          · rw [show decide (dx = dy) = false from decide_eq_false hdd] at HS
            have HB := Lib.hid (HN.out j x y HX1.out HY1.out (HND.out hdd))
            clear hdd
            go_wp2
            go_quiet ((go_at_call 42; exact Calls.quiet_of_same (HS.out _)))
            go_wp2
            go_ret
            exact ⟨by rw [HB.out]; rfl, hK.drewN _⟩
        · have hne : (kx != ky) = true := by simp [hk]
          have HB := Lib.hid (HN.out j x y HX1.out HY1.out (HNE.out hk))
          clear hk
          go_wp2
          go_quiet (fail)
          go_wp2
          go_ret
          exact ⟨by rw [HB.out]; rfl, hK.drewN _⟩
      · have hj : j = n := by omega
        subst hj
        have HB := Lib.hid (HE.out (fun k x y hk h1 h2 => HU.out k x y hk h1 h2))
        go_wp2
        go_ret
        exact ⟨by rw [HB.out]; rfl, hK⟩
  · have hd : decide (xs = ys) = false := by rw [decide_eq_false_iff_not]; rintro rfl; exact hl rfl
    rw [hd]
    obtain ⟨n, hnn⟩ : ∃ n, xs.length = n := ⟨_, rfl⟩
    obtain ⟨m, hmm⟩ : ∃ n, ys.length = n := ⟨_, rfl⟩
    rw [hnn, hmm] at hl ⊢
    have hne : ((n : Int) != (m : Int)) = true := by simp; omega
    clear hnn hmm hd hx ha hy hb
    go_enter Tryd.func43, Tryd.ntmps43
    go_wp2
    go_ret
    exact ⟨rfl, Kp.refl _ _⟩

end Go.Proofs.YtilfheociidloaaDoor
