/- right: its contract. No condition but the bounds that arguments have. -/
import Derived.Test.YtjcmgfegnngjjaaDoorEmR
namespace Go.Proofs.YtjcmgfegnngjjaaDoor
open Go.RowKit
set_option linter.unusedVariables false
set_option linter.unusedSimpArgs false

/-- Some answer, and new blocks alone; where it is true, both have few capabilities. -/
def RightB (fx fy : Bool) (w : World) (e : Ending) (w' : World) : Prop := ∃ b, e = .returned (.bool b) ∧ (b = true → fx = true ∧ fy = true) ∧ Kp NoB w w'

theorem few_form {xs : List CapI} (h : fewB xs = true) : xs.length ≤ 1000000 ∧ (formC xs).length ≤ 100000 := by
  obtain ⟨h1, h2⟩ := few_len h
  exact ⟨by omega, h2⟩

set_option maxRecDepth 100000 in
set_option maxHeartbeats 8000000 in
theorem right_any (x y : ArgO) (b : Nat) (w : World) (hx : InOpen w x) (hy : InOpen w y)
    (h0 : w.cell? ⟨b, 0, none⟩ = some (.int .u32 x.o.sys)) (h1 : w.cell? ⟨b, 1, none⟩ = some (.int .i64 x.o.hold)) (h2 : w.cell? ⟨b, 2, none⟩ = some (.int .u32 x.o.id)) (h3 : w.cell? ⟨b, 3, none⟩ = some (.slice x.A x.o.caps.length x.c))
    (h4 : w.cell? ⟨b, 4, none⟩ = some (.int .u32 y.o.sys)) (h5 : w.cell? ⟨b, 5, none⟩ = some (.int .i64 y.o.hold)) (h6 : w.cell? ⟨b, 6, none⟩ = some (.int .u32 y.o.id)) (h7 : w.cell? ⟨b, 7, none⟩ = some (.slice y.A y.o.caps.length y.c)) :
    Calls Tryd.prog 4 #[.slice (some ⟨b, 0, none⟩) 2 2] w (RightB (fewB x.o.caps) (fewB y.o.caps) w) := by
  obtain ⟨xo, xA, xc⟩ := x
  obtain ⟨yo, yA, yc⟩ := y
  obtain ⟨xb, xn, xm, xs, xl, xa⟩ := hx
  obtain ⟨yb, yn, ym, ys, yl, ya⟩ := hy
  simp only at *
  have HFx := Lib.hid (fun W (k : Kp NoB w W) => rfew_any xA xc xo.caps xs W (xl.and k) (xa.and k) (Nat.le_trans xn xm))
  have HFy := Lib.hid (fun W (k : Kp NoB w W) => rfew_any yA yc yo.caps ys W (yl.and k) (ya.and k) (Nat.le_trans yn ym))
  have HVx := Lib.hid (fun (hf : fewB xo.caps = true) W (k : Kp NoB w W) => rvalid17_any xo xA xc xs W xb (xl.and k) (xa.and k) (few_form hf).1 (few_form hf).2)
  have HVy := Lib.hid (fun (hf : fewB yo.caps = true) W (k : Kp NoB w W) => rvalid17_any yo yA yc ys W yb (yl.and k) (ya.and k) (few_form hf).1 (few_form hf).2)
  obtain ⟨fx, e1⟩ : ∃ f, fewB xo.caps = f := ⟨_, rfl⟩
  obtain ⟨fy, e2⟩ : ∃ f, fewB yo.caps = f := ⟨_, rfl⟩
  obtain ⟨vx, e3⟩ : ∃ f, validO xo = f := ⟨_, rfl⟩
  obtain ⟨vy, e4⟩ : ∃ f, validO yo = f := ⟨_, rfl⟩
  rw [e1] at HFx HVx ⊢
  rw [e2] at HFy HVy ⊢
  rw [e3] at HVx
  rw [e4] at HVy
  clear e1 e2 e3 e4 xb yb xl yl xa ya
  obtain ⟨s, h, i, caps⟩ := xo
  obtain ⟨s', h', i', caps'⟩ := yo
  unfold OpenI.val at *
  simp only at *
  obtain ⟨n, hn⟩ : ∃ n, caps.length = n := ⟨_, rfl⟩
  obtain ⟨m, hm⟩ : ∃ n, caps'.length = n := ⟨_, rfl⟩
  rw [hn] at HFx HVx h3
  rw [hm] at HFy HVy h7
  clear hn hm xn xm yn ym
  have ka := Lib.hid ((Kp.refl NoB w).alloc (.cells #[.int .u32 s, .int .i64 h, .int .u32 i, .slice xA n xc] 25))
  have HC : Hid (∀ W, Kp NoB w W → W.cell? ⟨b, 4, none⟩ = some (.int .u32 s') ∧ W.cell? ⟨b, 5, none⟩ = some (.int .i64 h') ∧ W.cell? ⟨b, 6, none⟩ = some (.int .u32 i') ∧ W.cell? ⟨b, 7, none⟩ = some (.slice yA m yc)) := Lib.hid (fun W k => ⟨k.cell h4 (fun q => q), k.cell h5 (fun q => q), k.cell h6 (fun q => q), k.cell h7 (fun q => q)⟩)
  clear h4 h5 h6 h7
  go_enter Tryd.func4, Tryd.ntmps4
  go_wp2
  refine wp_loop_rounds 3 ?_
  rw [rounds_succ]
  cases fx with
  | false =>
    go_wp2_with (go_at_call 10; refine (HFx.out _ ka.out).mono ?_; rintro e w1 ⟨rfl, rfl⟩)
    go_ret
    exact ⟨false, rfl, (fun h => by cases h), ka.out⟩
  | true =>
    have HVx' := Lib.hid (HVx.out rfl)
    clear HVx
    cases vx with
    | false =>
      go_wp2_with (first
        | (go_at_call 10; refine (HFx.out _ ka.out).mono ?_; rintro e w1 ⟨rfl, rfl⟩)
        | (go_at_call 11; refine (HVx'.out _ ka.out).mono ?_; rintro e w2 ⟨rfl, hK2⟩; have k2 := Lib.hid (ka.out.and hK2); clear hK2))
      go_ret
      exact ⟨false, rfl, (fun h => by cases h), k2.out⟩
    | true =>
      go_wp2_with (first
        | (go_at_call 10; refine (HFx.out _ ka.out).mono ?_; rintro e w1 ⟨rfl, rfl⟩)
        | (go_at_call 11; refine (HVx'.out _ ka.out).mono ?_; rintro e w2 ⟨rfl, hK2⟩; have k2 := Lib.hid (ka.out.and hK2); clear hK2))
      obtain ⟨y0, y1, y2, y3⟩ := HC.out _ k2.out
      have kb := Lib.hid (k2.out.alloc (.cells #[.int .u32 s', .int .i64 h', .int .u32 i', .slice yA m yc] 25))
      clear HFx HVx' ka h0 h1 h2 h3
      rw [rounds_succ]
      cases fy with
      | false =>
        go_wp2_with (go_at_call 10; refine (HFy.out _ kb.out).mono ?_; rintro e w1 ⟨rfl, rfl⟩)
        go_ret
        exact ⟨false, rfl, (fun h => by cases h), kb.out⟩
      | true =>
        have HVy' := Lib.hid (HVy.out rfl)
        clear HVy
        cases vy with
        | false =>
          go_wp2_with (first
            | (go_at_call 10; refine (HFy.out _ kb.out).mono ?_; rintro e w1 ⟨rfl, rfl⟩)
            | (go_at_call 11; refine (HVy'.out _ kb.out).mono ?_; rintro e w4 ⟨rfl, hK4⟩; have k4 := Lib.hid (kb.out.and hK4); clear hK4))
          go_ret
          exact ⟨false, rfl, (fun h => by cases h), k4.out⟩
        | true =>
          go_wp2_with (first
            | (go_at_call 10; refine (HFy.out _ kb.out).mono ?_; rintro e w1 ⟨rfl, rfl⟩)
            | (go_at_call 11; refine (HVy'.out _ kb.out).mono ?_; rintro e w4 ⟨rfl, hK4⟩; have k4 := Lib.hid (kb.out.and hK4); clear hK4))
          rw [rounds_succ]
          go_wp2
          go_ret
          exact ⟨true, rfl, (fun _ => ⟨rfl, rfl⟩), k4.out⟩

theorem InOpen.and {w w' : World} {z : ArgO} (h : InOpen w z) (k : Kp NoB w w') : InOpen w' z := by
  obtain ⟨h1, h2, h3, cs, h4, h5⟩ := h
  exact ⟨h1, h2, h3, cs, h4.and k, h5.and k⟩

end Go.Proofs.YtjcmgfegnngjjaaDoor
