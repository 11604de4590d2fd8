/- capability.Same: its contract by walking the Go text. -/
import Derived.Test.YtomkomkenfacpaaCapH
import Derived.Test.YtomkomkenfacpaaBEq
namespace Go.Proofs.Ytomkomkenfacpaa
open Go.RowKit
set_option linter.unusedVariables false
set_option linter.unusedSimpArgs false

set_option maxHeartbeats 1000000 in
theorem csame_any (x y : CapI) (A B : Option Addr) (c d : Nat) (w : World) (ha : Arr w A (bs x.data)) (hb : Arr w B (bs y.data)) (hx : IsB x.data) (hy : IsB y.data) :
    Calls Try.prog 41 #[.agg #[.int .i64 x.code, .slice A x.data.length c], .agg #[.int .i64 y.code, .slice B y.data.length d]] w (Stay (.bool (decide (x = y))) w) := by
  have H := Lib.hid (fun w' (k : Kp NoB w w') => beq_any A B c d x.data y.data w' (ha.and k) (hb.and k) hx hy)
  have hxy : decide (x = y) = (decide (x.code = y.code) && decide (x.data = y.data)) := by
    cases x; cases y
    simp
  rw [hxy]
  clear ha hb hx hy hxy
  obtain ⟨kx, hkx⟩ : ∃ k, x.code = k := ⟨_, rfl⟩
  obtain ⟨ky, hky⟩ : ∃ k, y.code = k := ⟨_, rfl⟩
  obtain ⟨b, hbb⟩ : ∃ b, decide (x.data = y.data) = b := ⟨_, rfl⟩
  obtain ⟨n, hn⟩ : ∃ n, x.data.length = n := ⟨_, rfl⟩
  obtain ⟨m, hm⟩ : ∃ n, y.data.length = n := ⟨_, rfl⟩
  rw [hbb, hn, hm] at H
  rw [hkx, hky, hbb, hn, hm]
  clear hkx hky hbb hn hm
  obtain ⟨x1, x2, x3, x4, x5⟩ := (Bk.fresh w 72 #[.int .i64 kx, .slice A n c]).two
  obtain ⟨y1, y2, y3, y4, y5⟩ := (Bk.second w (.cells #[.int .i64 kx, .slice A n c] 72) 72 #[.int .i64 ky, .slice B m d]).two
  by_cases hk : kx = ky
  · have hd : decide (kx = ky) = true := decide_eq_true hk
    have hq : (kx == ky) = true := by rw [hk]; simp
    rw [hd, Bool.true_and]
    clear hk
    go_enter Try.func41, Try.ntmps41
    go_wp2_with fail
    refine (H.out _ (((Kp.refl _ _).alloc _).alloc _)).mono ?_
    rintro e w1 ⟨rfl, rfl⟩
    go_wp2_with fail
    go_ret
    exact ⟨rfl, ((Kp.refl _ _).alloc _).alloc _⟩
  · have hd : decide (kx = ky) = false := decide_eq_false hk
    have hq : (kx == ky) = false := by simp [hk]
    rw [hd, Bool.false_and]
    clear hk
    go_enter Try.func41, Try.ntmps41
    go_wp2_with fail
    go_ret
    exact ⟨rfl, ((Kp.refl _ _).alloc _).alloc _⟩

set_option maxHeartbeats 4000000 in
theorem eqfunc_any (A B : Option Addr) (c d : Nat) (xs ys : List CapI) (cs ds : List Value) (w : World) (hx : CapL w xs cs) (ha : Arr w A cs) (hy : CapL w ys ds) (hb : Arr w B ds) (hn : xs.length ≤ 1000000) (hm : ys.length ≤ 1000000) :
    Calls Try.prog 40 #[.slice A xs.length c, .slice B ys.length d, .func (.func 41) #[] #[]] w (Stay (.bool (decide (xs = ys))) w) := by
  by_cases hl : xs.length = ys.length
  · have HX := Lib.hid (fun j (hj : j < xs.length) => cap_cells hx ha hj)
    have HY := Lib.hid (fun j (hj : j < ys.length) => cap_cells hy hb hj)
    have HE : Hid ((∀ (j : Nat) (x y : CapI), j < xs.length → xs[j]? = some x → ys[j]? = some y → x = y) → decide (xs = ys) = true) := Lib.hid (fun h => by
      rw [decide_eq_true_eq]
      exact caps_ext hl (fun j x y h1 h2 => h j x y (List.getElem?_eq_some_iff.1 h1).1 h1 h2))
    have HN : Hid (∀ (j : Nat) (x y : CapI), xs[j]? = some x → ys[j]? = some y → x ≠ y → decide (xs = ys) = false) := Lib.hid (fun j x y h1 h2 hne => by
      rw [decide_eq_false_iff_not]
      rintro rfl
      rw [h1] at h2
      injection h2 with h2
      exact hne h2)
    clear hx hy ha hb
    obtain ⟨b, hbb⟩ : ∃ b, decide (xs = ys) = b := ⟨_, rfl⟩
    rw [hbb] at HE HN ⊢
    clear hbb
    obtain ⟨n, hnn⟩ : ∃ n, xs.length = n := ⟨_, rfl⟩
    rw [← hl, hnn] at HY ⊢
    rw [hnn] at HX HE hn
    clear hl hnn hm
    go_enter Try.func40, Try.ntmps40
    go_wp2
    go_loopw [17] (fun i wr => ∃ j : Nat, j ≤ n ∧ i = .int .i64 j ∧ Kp NoB w wr ∧ Hid (∀ (k : Nat) (x y : CapI), k < j → xs[k]? = some x → ys[k]? = some y → x = y)) (fun i _ => n - (intOf i).toNat)
    case atStart => exact ⟨0, Nat.zero_le _, rfl, Kp.refl _ _, Lib.hid (fun k x y hk => by omega)⟩
    case round =>
      obtain ⟨j, hj, rfl, hK, HU⟩ := hrel
      by_cases hlt : j < n
      · obtain ⟨x, ad, A2, c2, hx, rfl, q1, q2, hc, -, hA2, hb2, -, -, -⟩ := HX.out j hlt
        obtain ⟨y, bd, B2, d2, hy, rfl, r1, r2, hd, -, hB2, hb3, -, -, -⟩ := HY.out j hlt
        replace q1 := hK.cell q1 (fun q => q)
        replace q2 := hK.cell q2 (fun q => q)
        replace r1 := hK.cell r1 (fun q => q)
        replace r2 := hK.cell r2 (fun q => q)
        have HS := Lib.hid (fun w' (k : Kp NoB wr w') => csame_any x y A2 B2 c2 d2 w' ((hA2.and hK).and k) ((hB2.and hK).and k) hb2 hb3)
        have HX1 := Lib.hid hx
        have HY1 := Lib.hid hy
        clear hx hy hc hd hA2 hB2 hb2 hb3
        obtain ⟨kx, hkx⟩ : ∃ k, x.code = k := ⟨_, rfl⟩
        obtain ⟨ky, hky⟩ : ∃ k, y.code = k := ⟨_, rfl⟩
        obtain ⟨lx, hlx⟩ : ∃ k, x.data.length = k := ⟨_, rfl⟩
        obtain ⟨ly, hly⟩ : ∃ k, y.data.length = k := ⟨_, rfl⟩
        rw [hkx] at q1
        rw [hky] at r1
        rw [hlx] at q2
        rw [hly] at r2
        rw [hkx, hky, hlx, hly] at HS
        clear hkx hky hlx hly
        have r1' := ((Kp.refl NoB wr).alloc (.cells #[.int .i64 kx, .slice A2 lx c2] 72)).cell r1 (fun q => q)
        have r2' := ((Kp.refl NoB wr).alloc (.cells #[.int .i64 kx, .slice A2 lx c2] 72)).cell r2 (fun q => q)
        obtain ⟨x1, x2, x3, x4, x5⟩ := ((Bk.fresh wr 72 #[.int .i64 kx, .slice A2 lx c2]).alloc (.cells #[.int .i64 ky, .slice B2 ly d2] 72)).two
        obtain ⟨y1, y2, y3, y4, y5⟩ := (Bk.second wr (.cells #[.int .i64 kx, .slice A2 lx c2] 72) 72 #[.int .i64 ky, .slice B2 ly d2]).two
        by_cases hxy : x = y
        · rw [show decide (x = y) = true from decide_eq_true hxy] at HS
          have HD := Lib.hid hxy
          clear hxy
          go_wp2_with fail
          refine (HS.out _ (((Kp.refl _ _).alloc _).alloc _)).mono ?_
          rintro e w1 ⟨rfl, hK1⟩
          go_wp2_with fail
          go_roundw
          case rel => exact ⟨j + 1, by omega, by go_num, ((hK.alloc _).alloc _).and hK1, Lib.hid (fun k x' y' hk' h1 h2 => by
            rcases Nat.lt_or_ge k j with h3 | h3
            · exact HU.out k x' y' h3 h1 h2
            · obtain rfl : k = j := by omega
              rw [HX1.out] at h1
              rw [HY1.out] at h2
              injection h1 with h1
              injection h2 with h2
              rw [← h1, ← h2]
              exact HD.out)⟩
          case measure => simp [intOf]; omega
        · rw [show decide (x = y) = false from decide_eq_false hxy] at HS
          have HB := Lib.hid (HN.out j x y HX1.out HY1.out hxy)
          clear hxy
          go_wp2_with fail
          refine (HS.out _ (((Kp.refl _ _).alloc _).alloc _)).mono ?_
          rintro e w1 ⟨rfl, hK1⟩
          go_wp2_with fail
          go_ret
          exact ⟨by rw [HB.out]; rfl, ((hK.alloc _).alloc _).and hK1⟩
      · have hj : j = n := by omega
        subst hj
        have HB := Lib.hid (HE.out (fun k x y hk h1 h2 => HU.out k x y hk h1 h2))
        go_wp2
        go_ret
        exact ⟨by rw [HB.out]; rfl, hK⟩
  · have hd : decide (xs = ys) = false := by rw [decide_eq_false_iff_not]; rintro rfl; exact hl rfl
    rw [hd]
    obtain ⟨n, hnn⟩ : ∃ n, xs.length = n := ⟨_, rfl⟩
    obtain ⟨m, hmm⟩ : ∃ n, ys.length = n := ⟨_, rfl⟩
    rw [hnn, hmm] at hl ⊢
    have hne : ((n : Int) != (m : Int)) = true := by simp; omega
    clear hnn hmm hd hx ha hy hb
    go_enter Try.func40, Try.ntmps40
    go_wp2
    go_ret
    exact ⟨rfl, Kp.refl _ _⟩

theorem same_any (A B : Option Addr) (c d : Nat) (xs ys : List CapI) (cs ds : List Value) (w : World) (hx : CapL w xs cs) (ha : Arr w A cs) (hy : CapL w ys ds) (hb : Arr w B ds) (hn : xs.length ≤ 1000000) (hm : ys.length ≤ 1000000) :
    Calls Try.prog 18 #[.slice A xs.length c, .slice B ys.length d] w (Stay (.bool (decide (xs = ys))) w) := by
  have H := Lib.hid (eqfunc_any A B c d xs ys cs ds w hx ha hy hb hn hm)
  obtain ⟨b, hbb⟩ : ∃ b, decide (xs = ys) = b := ⟨_, rfl⟩
  obtain ⟨n, hnn⟩ : ∃ n, xs.length = n := ⟨_, rfl⟩
  obtain ⟨m, hmm⟩ : ∃ n, ys.length = n := ⟨_, rfl⟩
  rw [hbb, hnn, hmm] at H ⊢
  clear hbb hnn hmm hx ha hy hb hn hm
  go_enter Try.func18, Try.ntmps18
  go_wp2_with fail
  refine H.out.mono ?_
  rintro e w1 ⟨rfl, hK⟩
  go_wp2_with fail
  go_ret
  exact ⟨rfl, hK⟩

end Go.Proofs.Ytomkomkenfacpaa
