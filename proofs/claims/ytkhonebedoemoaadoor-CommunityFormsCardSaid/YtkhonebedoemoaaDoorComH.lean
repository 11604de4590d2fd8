/- The reference's Same at equal attributes. No condition but the bounds that arguments have. -/
import Derived.Test.YtkhonebedoemoaaDoorComG
namespace Go.Proofs.YtkhonebedoemoaaDoor
open Go.RowKit
set_option linter.unusedVariables false
set_option linter.unusedSimpArgs false

set_option maxRecDepth 100000 in
set_option maxHeartbeats 1600000 in
theorem gsame_any (z y : AtI) (xs : List Int) (w : World) (ht : z.t = y.t) (hp : z.p = y.p) (hn : z.n = y.n) (hm : z.m = y.m) (hl : z.ln = y.ln) (hx : xs.length = z.ln) (hl2 : xs.length ≤ 100000) (ha : Arr w z.L (us xs)) (hb : Arr w y.L (us xs)) (b1 : z.rest.bare = true) (b2 : y.rest.bare = true) :
    Calls Tryd.prog 14 #[z.val, y.val] w (Stay (.bool true) w) := by
  have HS := Lib.hid (fun W (k : Kp NoB w W) => (show Calls Tryd.prog 29 #[.slice z.L z.ln z.lc, .slice y.L y.ln y.lc] W (Stay (.bool true) W) by
    have := usame_any z.L y.L z.lc y.lc xs xs W (ha.and k) (hb.and k) (by omega)
    rw [decide_eq_true rfl] at this
    rw [← hl, ← hx]
    exact this))
  have H1 := Lib.hid (fun W => bare_any z.rest W)
  have H2 := Lib.hid (fun W => bare_any y.rest W)
  rw [b1] at H1
  rw [b2] at H2
  obtain ⟨zt, zp, zn, zm, zS, zsn, zsc, zL, zln, zlc, zB, zbn, zbc, zf, zR, zrn, zrc⟩ := z
  obtain ⟨yt, yp, yn, ym, yS, ysn, ysc, yL, yln, ylc, yB, ybn, ybc, yf, yR, yrn, yrc⟩ := y
  simp only at ht hp hn hm hl
  subst ht hp hn hm hl
  unfold AtI.rest at H1 H2
  unfold AtI.val AtI.cs at H1 H2 ⊢
  simp only at H1 H2 HS ⊢
  clear ha hb b1 b2 hx hl2
  have HB5 := Lib.hid (fun (W w' : World) (k : Kp NoB ((W.alloc (.cells #[.int .i64 zt, .bool zp, .int .u32 zn, .int .u32 zm, .slice zS zsn zsc, .slice none 0 0, .slice zB zbn zbc, .int .i64 zf, .slice zR zrn zrc] 28)).alloc (.cells #[.int .i64 zt, .bool zp, .int .u32 zn, .int .u32 zm, .slice yS ysn ysc, .slice none 0 0, .slice yB ybn ybc, .int .i64 yf, .slice yR yrn yrc] 28)) w') => And.intro (((Bk.fresh W 28 _).alloc _).and k) ((Bk.second W _ 28 _).and k))
  go_enter Tryd.func14, Tryd.ntmps14
  go_wp2_with (first
    | (go_at_call 29; (with_reducible refine Calls.mono (HS.out _ (((((Kp.refl NoB w).alloc _).alloc _).alloc _).alloc _)) ?_); rintro e w1 ⟨rfl, hK⟩; have hk1 := Lib.hid ((((((Kp.refl NoB w).alloc _).alloc _).alloc _).alloc _).and hK); obtain ⟨h5, h6⟩ := HB5.out _ _ hK; simp only [World.size_alloc] at h5 h6; have B6 := Lib.hid h6; have hx := Bk.attr (z := ⟨zt, zp, zn, zm, zS, zsn, zsc, none, 0, 0, zB, zbn, zbc, zf, zR, zrn, zrc⟩) h5; simp only at hx; obtain ⟨x0, x1, x2, x3, x4, x5, x6, x7, x8⟩ := hx; clear hK h5 h6)
    | (go_at_call 32; (with_reducible refine Calls.mono (H1.out _) ?_); rintro e w2 ⟨rfl, hK⟩; have hk2 := Lib.hid (hk1.out.and hK); have hy := Bk.attr (z := ⟨zt, zp, zn, zm, yS, ysn, ysc, none, 0, 0, yB, ybn, ybc, yf, yR, yrn, yrc⟩) (B6.out.and hK); simp only at hy; clear x0 x1 x2 x3 x4 x5 x6 x7 x8; obtain ⟨x0, x1, x2, x3, x4, x5, x6, x7, x8⟩ := hy; clear hK)
    | (go_at_call 32; (with_reducible refine Calls.mono (H2.out _) ?_); rintro e w3 ⟨rfl, hK⟩; have hk3 := Lib.hid (hk2.out.and hK); clear hK))
  go_ret
  exact ⟨rfl, hk3.out⟩

end Go.Proofs.YtkhonebedoemoaaDoor
