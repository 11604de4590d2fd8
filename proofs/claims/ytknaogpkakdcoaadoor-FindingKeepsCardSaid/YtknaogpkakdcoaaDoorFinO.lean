/- The reference's Errors and Equal. No condition but the bounds that arguments have. -/
import Derived.Test.YtknaogpkakdcoaaDoorFinN
namespace Go.Proofs.YtknaogpkakdcoaaDoor
open Go.RowKit
set_option linter.unusedVariables false
set_option linter.unusedSimpArgs false

set_option maxRecDepth 100000 in
set_option maxHeartbeats 4000000 in
theorem errors_any (B : Option Addr) (d : Nat) (xs : List ArgV) (w : World) (hx : VsL w B xs) (hm : xs.length ≤ 100000) :
    Calls Tryd.prog 22 #[.slice B xs.length d] w (JoinedV w (xs.filter errZ)) := by
  obtain ⟨i0, hi, hz0, hz1, hz2⟩ := info_parts infoV5
  have HX := Lib.hid hx
  obtain ⟨m, hmm⟩ : ∃ m, xs.length = m := ⟨_, rfl⟩
  have HM := Lib.hid hmm
  obtain ⟨F, hF⟩ : ∃ f, xs.filter errZ = f := ⟨_, rfl⟩
  have HF := Lib.hid hF
  rw [hmm] at hm ⊢
  rw [hF]
  clear hx hmm hF
  go_enter Tryd.func22, Tryd.ntmps22
  go_wp2
  go_loopw [3, 4] (fun v i wr => ∃ (j r : Nat) (A' : Option Addr) (c' : Nat), j ≤ m ∧ r ≤ j ∧ i = .int .i64 j ∧ v = .slice A' r c' ∧ Hid (((xs.take j).filter errZ).length = r) ∧ Hid (wr.ownsRow w.heap.size 24 5 (.slice A' r c') r (flatZ ((xs.take j).filter errZ))) ∧ Hid (Kp NoB w wr)) (fun _ i _ => m - (intOf i).toNat)
  case atStart => exact ⟨0, 0, none, 0, Nat.zero_le _, Nat.le_refl _, rfl, rfl, Lib.hid rfl, Lib.hid (World.ownsRow_nil _ _ _ _), Lib.hid (Kp.refl _ _)⟩
  case round =>
    obtain ⟨j, r, A', c', hj, hr, rfl, rfl, HL, HO, HK⟩ := hrel
    by_cases hlt : j < m
    · have hjl : j < xs.length := by rw [HM.out]; exact hlt
      have hst := filter_step errZ xs j hjl
      obtain ⟨ad, rfl, x0, x1, x2, x3, x4⟩ := vs_at (HX.out.and HK.out) hjl
      obtain ⟨T, hT⟩ : ∃ t, (xs.take j).filter errZ = t := ⟨_, rfl⟩
      rw [hT] at hst HL HO
      obtain ⟨z, hz⟩ : ∃ z, xs[j] = z := ⟨_, rfl⟩
      rw [hz] at x0 x1 x2 x3 x4 hst
      have HST := Lib.hid hst
      clear hz hst hT
      by_cases hk : z.k = 0
      · go_wp2
        go_roundw
        case rel => exact ⟨j + 1, r, A', c', by omega, by omega, by go_num, rfl, Lib.hid (by rw [HST.out, if_neg (by unfold errZ; simp [hk]), List.append_nil]; exact HL.out), Lib.hid (by rw [HST.out, if_neg (by unfold errZ; simp [hk]), List.append_nil]; exact HO.out), HK⟩
        case measure => simp [intOf]; omega
      · go_wp2_with (at_builtin; refine wpList_app (HK.out.alloc _) rfl (.tmp 17) (.tmp 22) 29 rfl 24 i0 (.agg zeroZ.cs.toArray) 5 56 Tryd.underlying29 hi hz0 hz1 hz2 rfl (by decide) _ r (flatZ T) rfl (((Kp.refl NoB wr).alloc _).own HO.out (fun _ _ q => q)) (some ⟨wr.heap.size, 0, none⟩) 1 1 z.cs rfl rfl (Arr.lit wr _ _) (by intro u hu; exact flatZ_one (xs := [z]) u (by simpa [flatZ] using hu)) (by omega) (by decide) (r + 1) rfl ?_; intro A2 c2 w2 hown2 hK2 _ _; have OW2 := Lib.hid hown2; have K2 := Lib.hid hK2; clear hown2 hK2)
        go_roundw
        case rel => exact ⟨j + 1, r + 1, A2, c2, by omega, by omega, by go_num, rfl, Lib.hid (by rw [HST.out, if_pos (by unfold errZ; simp [hk]), List.length_append, HL.out]; rfl), Lib.hid (by rw [HST.out, if_pos (by unfold errZ; simp [hk]), show flatZ (T ++ [z]) = flatZ T ++ z.cs by simp [flatZ]]; exact OW2.out), K2⟩
        case measure => simp [intOf]; omega
    · have ht : (xs.take j).filter errZ = F := by rw [List.take_of_length_le (by rw [HM.out]; omega)]; exact HF.out
      rw [ht] at HL HO
      clear ht
      go_wp2
      go_ret
      exact joinedV_of HL.out rfl HO.out HK.out _ rfl

set_option maxRecDepth 100000 in
set_option maxHeartbeats 4000000 in
theorem equal_any (A B : Option Addr) (c d n : Nat) (xs ys : List ArgV) (w : World) (hA : VsL w A xs) (hB : VsL w B ys) (hk : xs.map key = ys.map key) (hn : ys.length = n) (hn1 : n ≤ 100000)
    (hx : ∀ x ∈ xs, Arr w x.A (bs x.d) ∧ IsB x.d) (hy : ∀ x ∈ ys, Arr w x.A (bs x.d)) :
    Calls Tryd.prog 24 #[.slice A n c, .slice B n d] w (Stay (.bool true) w) := by
  have hn2 : xs.length = n := by
    have := congrArg List.length hk
    rw [List.length_map, List.length_map, hn] at this
    exact this
  have HA := Lib.hid hA
  have HB := Lib.hid hB
  have HK := Lib.hid hk
  have HX := Lib.hid hx
  have HY := Lib.hid hy
  have HN := Lib.hid hn
  have HN2 := Lib.hid hn2
  clear hA hB hk hx hy hn hn2
  go_enter Tryd.func24, Tryd.ntmps24
  go_wp2
  go_loopw [5] (fun i wr => ∃ j : Nat, j ≤ n ∧ i = .int .i64 j ∧ Hid (Kp NoB w wr)) (fun i _ => n - (intOf i).toNat)
  case atStart => exact ⟨0, Nat.zero_le _, rfl, Lib.hid (Kp.refl _ _)⟩
  case round =>
    obtain ⟨j, hj, rfl, KR⟩ := hrel
    by_cases hlt : j < n
    · have hjx : j < xs.length := by rw [HN2.out]; exact hlt
      have hjy : j < ys.length := by rw [HN.out]; exact hlt
      have hkj : key xs[j] = key ys[j] := by
        have h1 : (xs.map key)[j]? = (ys.map key)[j]? := by rw [HK.out]
        rw [List.getElem?_map, List.getElem?_map, List.getElem?_eq_getElem hjx, List.getElem?_eq_getElem hjy] at h1
        simpa using h1
      have hdx := HX.out _ (List.getElem_mem hjx)
      have hdy := HY.out _ (List.getElem_mem hjy)
      obtain ⟨ad, rfl, x0, x1, x2, x3, x4⟩ := vs_at (HA.out.and KR.out) hjx
      obtain ⟨be, rfl, y0, y1, y2, y3, y4⟩ := vs_at (HB.out.and KR.out) hjy
      obtain ⟨x, hxx⟩ : ∃ z, xs[j] = z := ⟨_, rfl⟩
      obtain ⟨y, hyy⟩ : ∃ z, ys[j] = z := ⟨_, rfl⟩
      rw [hxx] at x0 x1 x2 x3 x4 hdx hkj
      rw [hyy] at y0 y1 y2 y3 y4 hdy hkj
      obtain ⟨e1, e2, e3, e4, e5⟩ := like_key hkj
      obtain ⟨xk, xc, xs', xd, xA, xm, xa⟩ := x
      obtain ⟨yk, yc, ys', yd, yA, ym, ya⟩ := y
      simp only at e1 e2 e3 e4 e5 x0 x1 x2 x3 x4 y0 y1 y2 y3 y4 hdx hdy
      subst e1 e2 e3 e4 e5
      have hs : sameV xk xc xs' xd xa xk xc xs' xd xa = true := by unfold sameV; simp
      have HS := Lib.hid (fun W (k : Kp NoB w W) => (show Calls Tryd.prog 17 _ W (Stay (.bool true) W) by have := vsame_any xk xc xs' xd xA xm xa xk xc xs' xd yA ym xa W (hdx.1.and k) (hdy.and k) hdx.2 hdx.2; rwa [hs] at this))
      obtain ⟨q, hq⟩ : ∃ q, xd.length = q := ⟨_, rfl⟩
      rw [hq] at HS x3 y3
      clear hxx hyy hdx hdy hkj hs hq
      go_wp2
      go_region_held3 (fun w' => w'.cell? (ad.add (j * 5)) = some (.int .i64 xk) ∧ w'.cell? ⟨(ad.add (j * 5)).block, (ad.add (j * 5)).off + 1, none⟩ = some (.int .i64 xc) ∧ w'.cell? ⟨(ad.add (j * 5)).block, (ad.add (j * 5)).off + 2, none⟩ = some (.int .i64 xs') ∧ w'.cell? ⟨(ad.add (j * 5)).block, (ad.add (j * 5)).off + 3, none⟩ = some (.slice xA q xm) ∧ w'.cell? ⟨(ad.add (j * 5)).block, (ad.add (j * 5)).off + 4, none⟩ = some (.int .i64 xa) ∧ w'.cell? (be.add (j * 5)) = some (.int .i64 xk) ∧ w'.cell? ⟨(be.add (j * 5)).block, (be.add (j * 5)).off + 1, none⟩ = some (.int .i64 xc) ∧ w'.cell? ⟨(be.add (j * 5)).block, (be.add (j * 5)).off + 2, none⟩ = some (.int .i64 xs') ∧ w'.cell? ⟨(be.add (j * 5)).block, (be.add (j * 5)).off + 3, none⟩ = some (.slice yA q ym) ∧ w'.cell? ⟨(be.add (j * 5)).block, (be.add (j * 5)).off + 4, none⟩ = some (.int .i64 xa)) (go_keep)
        ((go_at_call 17; (with_reducible refine Calls.mono (HS.out _ KR.out.drew) ?_); rintro e w2 ⟨rfl, hK⟩; have k2 := Lib.hid (KR.out.drew.and hK); replace x0 := hK.cell (show World.cell? (World.drew _) _ = _ from x0) (fun q => q); replace x1 := hK.cell (show World.cell? (World.drew _) _ = _ from x1) (fun q => q); replace x2 := hK.cell (show World.cell? (World.drew _) _ = _ from x2) (fun q => q); replace x3 := hK.cell (show World.cell? (World.drew _) _ = _ from x3) (fun q => q); replace x4 := hK.cell (show World.cell? (World.drew _) _ = _ from x4) (fun q => q); replace y0 := hK.cell (show World.cell? (World.drew _) _ = _ from y0) (fun q => q); replace y1 := hK.cell (show World.cell? (World.drew _) _ = _ from y1) (fun q => q); replace y2 := hK.cell (show World.cell? (World.drew _) _ = _ from y2) (fun q => q); replace y3 := hK.cell (show World.cell? (World.drew _) _ = _ from y3) (fun q => q); replace y4 := hK.cell (show World.cell? (World.drew _) _ = _ from y4) (fun q => q); clear hK))
      go_wp2
      go_roundw
      case rel => exact ⟨j + 1, by omega, by go_num, k2⟩
      case measure => simp [intOf]; omega
    · go_wp2
      go_ret
      exact ⟨rfl, KR.out⟩

end Go.Proofs.YtknaogpkakdcoaaDoor
