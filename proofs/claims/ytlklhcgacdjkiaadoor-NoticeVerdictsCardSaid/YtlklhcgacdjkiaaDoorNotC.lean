/- NOTIFICATIONs: Parse of package notice: contract. No condition. -/
import Derived.Test.YtlklhcgacdjkiaaDoorNotB
import Derived.Test.YtlklhcgacdjkiaaDoorNum
import Derived.Test.YtlklhcgacdjkiaaDoorNewO
import Derived.Test.YtlklhcgacdjkiaaDoorTakeO
import Derived.Test.YtlklhcgacdjkiaaDoorLeftO
import Derived.Test.YtlklhcgacdjkiaaDoorRow2
namespace Go.Proofs.YtlklhcgacdjkiaaDoor
open Go.RowKit
set_option linter.unusedVariables false
set_option linter.unusedSimpArgs false

theorem Kp.set_on {w w1 : World} {b i : Nat} (h : Kp (OnB b) w w1) (u : Value) : Kp (OnB b) w (w1.setCell ⟨b, i, none⟩ u) := h.setCell (p := ⟨b, i, none⟩) (fun _ => rfl) u
/-- What 'Parse' leaves where it succeeds. -/
def NParse (w : World) (c s : Int) (d : List Int) (e : Ending) (w' : World) : Prop :=
  ∃ A m, e = .returned (.tuple #[.agg #[.int .i64 c, .int .i64 s, .slice A d.length m], .bool true]) ∧ w'.ownsRow w.heap.size 5 1 (.slice A d.length m) d.length (bs d) ∧ Kp NoB w w'
/-- What it leaves where it fails. -/
def nparseNone : Value := .tuple #[.agg #[.int .i64 0, .int .i64 0, .slice none 0 0], .bool false]

set_option maxRecDepth 100000 in
set_option maxHeartbeats 4000000 in
theorem nparse_good (c s : Int) (d : List Int) (A : Option Addr) (m : Nat) (w : World) (ha : Arr w A (bs (formN c s d))) (hb : IsB (formN c s d)) (hn : d.length ≤ 65514) :
    Calls Tryd.prog 18 #[.slice A (d.length + 2) m] w (NParse w c s d) := by
  have hF : (formN c s d).length = d.length + 2 := rfl
  have hc := hb c (by simp [formN])
  have hs := hb s (by simp [formN])
  have HN := Lib.hid (fun w' (k : Kp NoB w w') => new_any A m (formN c s d) w' (by rw [hF]; omega) (ha.and k) hb)
  rw [hF] at HN
  have H1 := Lib.hid (fun w' q r (h : Rd w' q r (formN c s d) 0) => number_yes w' q r (formN c s d) 0 1 h (by decide) (by decide) (by rw [hF]; omega))
  have H2 := Lib.hid (fun w' q r (h : Rd w' q r (s :: d) 1) => number_yes w' q r (s :: d) 1 1 h (by decide) (by decide) (by simp))
  have H3 := Lib.hid (fun w' q r (h : Rd w' q r d 2) => left_any w' q r d 2 h)
  have H4 := Lib.hid (fun w' q r (h : Rd w' q r d 2) => take_yes w' q r d 2 d.length h (Nat.le_refl _))
  have e1 : big ((formN c s d).take 1) = c := by simp [formN, big]
  have e2 : big ((s :: d).take 1) = s := by simp [big]
  have e3 : (formN c s d).drop 1 = s :: d := rfl
  have e4 : (s :: d).drop 1 = d := rfl
  have HV := Lib.hid (fun A' m' => nvalid_any c s A' d.length m')
  have hv : validN c s d.length = true := by simp [validN]; omega
  rw [hv] at HV
  unfold NumYes at H1 H2
  rw [e1, e3] at H1
  rw [e2, e4] at H2
  simp only [Nat.zero_add] at H1 H2
  unfold TakeYes at H4
  simp only [List.take_length] at H4
  have hwc : IntKind.i64.wrap c = c := IntWalk.i64_in _ (by omega)
  have hws : IntKind.i64.wrap s = s := IntWalk.i64_in _ (by omega)
  have hb0 := Lib.hid (Bk.fresh w 32 #[.int .i64 0, .int .i64 0, .slice none 0 0])
  have hk0 := Lib.hid ((Kp.refl NoB w).alloc (.cells #[.int .i64 0, .int .i64 0, .slice none 0 0] 32))
  clear ha hb hF e1 e2 e3 e4 hv
  obtain ⟨c0, c1⟩ := hc
  obtain ⟨s0, s1⟩ := hs
  go_enter Tryd.func18, Tryd.ntmps18
  go_wp2_with fail
  refine (HN.out _ hk0.out).mono ?_
  rintro e w1 ⟨q, r, rfl, hr, hq, hqr, hR, hK1⟩
  rw [World.size_alloc] at hr
  have b1 := Lib.hid (hb0.out.and hK1)
  have k1 := Lib.hid (hk0.out.and hK1)
  have hR1 := Lib.hid hR
  clear hR hK1 hq hqr
  go_wp2_with fail
  refine (H1.out _ q r hR1.out).mono ?_
  rintro e w2 ⟨rfl, hR2, hK2⟩
  have b2 := Lib.hid (b1.out.keep hK2 (fun hq => by have : w.heap.size = r := hq; omega))
  have k2 := Lib.hid (k1.out.new hK2 (by omega))
  replace hR2 := Lib.hid hR2
  clear hK2
  go_wp2_with fail
  refine (H2.out _ q r hR2.out).mono ?_
  rintro e w3 ⟨rfl, hR3, hK3⟩
  have b3 := Lib.hid (b2.out.keep hK3 (fun hq => by have : w.heap.size = r := hq; omega))
  have k3 := Lib.hid (k2.out.new hK3 (by omega))
  replace hR3 := Lib.hid hR3
  clear hK3
  go_wp2_with fail
  refine (H3.out _ q r hR3.out).mono ?_
  rintro e w4 ⟨rfl, hK4⟩
  have b4 := Lib.hid (b3.out.and hK4)
  have k4 := Lib.hid (k3.out.and hK4)
  have hR4 := Lib.hid (hR3.out.and hK4)
  clear hK4
  go_wp2_with fail
  refine (H4.out _ q r hR4.out).mono ?_
  rintro e w5 ⟨A5, c5, rfl, hown5, -, hK5⟩
  have b5 := Lib.hid (b4.out.keep hK5 (fun hq => by have : w.heap.size = r := hq; omega))
  have hs4 := k4.out.size
  have k5 := Lib.hid (k4.out.new hK5 (by omega))
  replace hown5 := Lib.hid (own_down hown5 (Nat.le_trans (by have := b4.out.lt; omega : w.heap.size + 1 ≤ w4.heap.size) (Nat.le_refl _)))
  have hlt := b5.out.lt
  have b5' := b5.out.three
  obtain ⟨x1, x2, x3, x4, x5, x6, x7⟩ := b5'
  clear hK5 hs4
  go_wp2_with fail
  refine (HV.out A5 c5 _).mono ?_
  rintro e w6 ⟨rfl, hK6⟩
  have bn := Lib.hid ((Bk.fresh w5 32 #[.int .i64 c, .int .i64 s, .slice A5 d.length c5]).and hK6)
  have b6 := Lib.hid ((b5.out.alloc (.cells #[.int .i64 c, .int .i64 s, .slice A5 d.length c5] 32)).and hK6)
  have k56 := (Kp.refl NoB w5).alloc (.cells #[.int .i64 c, .int .i64 s, .slice A5 d.length c5] 32) |>.and hK6
  have k6 := Lib.hid (k5.out.and k56)
  have hown6 := Lib.hid (k56.own hown5.out (fun _ _ q => q))
  clear x1 x2 x3 x4 x5 x6 x7 hK6 k56
  obtain ⟨x1, x2, x3, x4, x5, x6, x7⟩ := b6.out.three
  obtain ⟨y1, y2, y3, y4, y5, y6, y7⟩ := bn.out.three
  go_wp2_with fail
  have hne := Lib.hid (own_ge hown6.out (show w.heap.size < w.heap.size + 1 by omega))
  have hown := Lib.hid (own_down hown6.out (Nat.le_succ w.heap.size))
  refine bodyPost_ret (v := .tuple #[.agg #[.int .i64 c, .int .i64 s, .slice A5 d.length c5], .bool true]) (by simp [results, Tryd.results18, go_sem, *]) rfl ?_
  have KK := (((Kp.refl (OnB w.heap.size) w6).set_on (i := 0) (.int .i64 c)).set_on (i := 1) (.int .i64 s)).set_on (i := 2) (.slice A5 d.length c5)
  exact ⟨A5, c5, rfl, KK.own hown.out (fun b hb hq => hne.out (by rw [hb, show b = w.heap.size from hq])), k6.out.new KK (Nat.le_refl _)⟩

theorem KZ (w : World) (b : Nat) : Kp (OnB b) w (((w.setCell ⟨b, 0, none⟩ (.int .i64 0)).setCell ⟨b, 1, none⟩ (.int .i64 0)).setCell ⟨b, 2, none⟩ (.slice none 0 0)) :=
  (((Kp.refl (OnB b) w).set_on _).set_on _).set_on _
set_option maxRecDepth 100000 in
set_option maxHeartbeats 4000000 in
theorem nparse_nil (A : Option Addr) (m : Nat) (w : World) (ha : Arr w A (bs [])) (hb : IsB []) :
    Calls Tryd.prog 18 #[.slice A 0 m] w (Stay nparseNone w) := by
  have HN := Lib.hid (fun w' (k : Kp NoB w w') => new_any A m [] w' (by simp) (ha.and k) hb)
  simp only [List.length_cons, List.length_nil, Nat.zero_add] at HN
  have H2 := Lib.hid (fun w' q r (h : Rd w' q r [] 0) => num1_no w' q r 0 h)
  have H3 := Lib.hid (fun w' q r (h : Rd w' q r [] 0) => left_any w' q r [] 0 h)
  have H4 := Lib.hid (fun w' q r (h : Rd w' q r [] 0) => take_yes w' q r [] 0 0 h (Nat.le_refl _))
  unfold TakeYes at H4
  simp only [List.length_nil] at H3
  have hb0 := Lib.hid (Bk.fresh w 32 #[.int .i64 0, .int .i64 0, .slice none 0 0])
  have hk0 := Lib.hid ((Kp.refl NoB w).alloc (.cells #[.int .i64 0, .int .i64 0, .slice none 0 0] 32))
  clear ha hb
  go_enter Tryd.func18, Tryd.ntmps18
  go_wp2_with fail
  refine (HN.out _ hk0.out).mono ?_
  rintro e w1 ⟨q, r, rfl, hr, hq, hqr, hR, hK1⟩
  rw [World.size_alloc] at hr
  have b1 := Lib.hid (hb0.out.and hK1)
  have k1 := Lib.hid (hk0.out.and hK1)
  have hR1 := Lib.hid hR
  clear hR hK1 hq hqr
  go_wp2_with fail
  refine (H2.out _ q r hR1.out).mono ?_
  rintro e w2 ⟨rfl, hK2⟩
  have b2 := Lib.hid (b1.out.and hK2)
  have k2 := Lib.hid (k1.out.and hK2)
  have hR2 := Lib.hid (hR1.out.and hK2)
  clear hK2
  go_wp2_with fail
  refine (H2.out _ q r hR2.out).mono ?_
  rintro e w3 ⟨rfl, hK3⟩
  have b3 := Lib.hid (b2.out.and hK3)
  have k3 := Lib.hid (k2.out.and hK3)
  have hR3 := Lib.hid (hR2.out.and hK3)
  clear hK3
  go_wp2_with fail
  refine (H3.out _ q r hR3.out).mono ?_
  rintro e w4 ⟨rfl, hK4⟩
  have b4 := Lib.hid (b3.out.and hK4)
  have k4 := Lib.hid (k3.out.and hK4)
  have hR4 := Lib.hid (hR3.out.and hK4)
  clear hK4
  go_wp2_with fail
  refine (H4.out _ q r hR4.out).mono ?_
  rintro e w5 ⟨A5, c5, rfl, hown5, -, hK5⟩
  have b5 := Lib.hid (b4.out.keep hK5 (fun hq => by have : w.heap.size = r := hq; omega))
  have k5 := Lib.hid (k4.out.new hK5 (by omega))
  have hlt := b5.out.lt
  obtain ⟨x1, x2, x3, x4, x5, x6, x7⟩ := b5.out.three
  clear hK5 hown5
  go_wp2_with fail
  refine bodyPost_ret (v := nparseNone) (by simp [results, Tryd.results18, go_sem, nparseNone, *]) rfl ?_
  exact ⟨rfl, (k5.out.new (KZ w5 _) (Nat.le_refl _)).alloc _⟩

set_option maxRecDepth 100000 in
set_option maxHeartbeats 4000000 in
theorem nparse_one (x : Int) (A : Option Addr) (m : Nat) (w : World) (ha : Arr w A (bs [x])) (hb : IsB [x]) :
    Calls Tryd.prog 18 #[.slice A 1 m] w (Stay nparseNone w) := by
  have HN := Lib.hid (fun w' (k : Kp NoB w w') => new_any A m [x] w' (by simp) (ha.and k) hb)
  simp only [List.length_cons, List.length_nil, Nat.zero_add] at HN
  have hc := hb x (by simp)
  have H1 := Lib.hid (fun w' q r (h : Rd w' q r [x] 0) => num1_yes w' q r x [] 0 h)
  have hwc : IntKind.i64.wrap x = x := IntWalk.i64_in _ (by omega)
  obtain ⟨c0, c1⟩ := hc
  have H2 := Lib.hid (fun w' q r (h : Rd w' q r [] 1) => num1_no w' q r 1 h)
  have H3 := Lib.hid (fun w' q r (h : Rd w' q r [] 1) => left_any w' q r [] 1 h)
  have H4 := Lib.hid (fun w' q r (h : Rd w' q r [] 1) => take_yes w' q r [] 1 0 h (Nat.le_refl _))
  unfold TakeYes at H4
  simp only [List.length_nil] at H3
  have hb0 := Lib.hid (Bk.fresh w 32 #[.int .i64 0, .int .i64 0, .slice none 0 0])
  have hk0 := Lib.hid ((Kp.refl NoB w).alloc (.cells #[.int .i64 0, .int .i64 0, .slice none 0 0] 32))
  clear ha hb
  go_enter Tryd.func18, Tryd.ntmps18
  go_wp2_with fail
  refine (HN.out _ hk0.out).mono ?_
  rintro e w1 ⟨q, r, rfl, hr, hq, hqr, hR, hK1⟩
  rw [World.size_alloc] at hr
  have b1 := Lib.hid (hb0.out.and hK1)
  have k1 := Lib.hid (hk0.out.and hK1)
  have hR1 := Lib.hid hR
  clear hR hK1 hq hqr
  go_wp2_with fail
  refine (H1.out _ q r hR1.out).mono ?_
  rintro e w2 ⟨rfl, hR2, hK2⟩
  have b2 := Lib.hid (b1.out.keep hK2 (fun hq => by have : w.heap.size = r := hq; omega))
  have k2 := Lib.hid (k1.out.new hK2 (by omega))
  replace hR2 := Lib.hid hR2
  clear hK2
  go_wp2_with fail
  refine (H2.out _ q r hR2.out).mono ?_
  rintro e w3 ⟨rfl, hK3⟩
  have b3 := Lib.hid (b2.out.and hK3)
  have k3 := Lib.hid (k2.out.and hK3)
  have hR3 := Lib.hid (hR2.out.and hK3)
  clear hK3
  go_wp2_with fail
  refine (H3.out _ q r hR3.out).mono ?_
  rintro e w4 ⟨rfl, hK4⟩
  have b4 := Lib.hid (b3.out.and hK4)
  have k4 := Lib.hid (k3.out.and hK4)
  have hR4 := Lib.hid (hR3.out.and hK4)
  clear hK4
  go_wp2_with fail
  refine (H4.out _ q r hR4.out).mono ?_
  rintro e w5 ⟨A5, c5, rfl, hown5, -, hK5⟩
  have b5 := Lib.hid (b4.out.keep hK5 (fun hq => by have : w.heap.size = r := hq; omega))
  have k5 := Lib.hid (k4.out.new hK5 (by omega))
  have hlt := b5.out.lt
  obtain ⟨x1, x2, x3, x4, x5, x6, x7⟩ := b5.out.three
  clear hK5 hown5
  go_wp2_with fail
  refine bodyPost_ret (v := nparseNone) (by simp [results, Tryd.results18, go_sem, nparseNone, *]) rfl ?_
  exact ⟨rfl, (k5.out.new (KZ w5 _) (Nat.le_refl _)).alloc _⟩

end Go.Proofs.YtlklhcgacdjkiaaDoor
