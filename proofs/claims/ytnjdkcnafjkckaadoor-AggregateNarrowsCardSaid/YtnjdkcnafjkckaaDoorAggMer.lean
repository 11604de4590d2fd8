/- The argument []api.Attr, opened; AggregateMerges' walk. No condition but the table of powers of ten. -/
import Derived.Test.YtnjdkcnafjkckaaDoorAggQ
import Derived.Test.YtnjdkcnafjkckaaDoorOpen
namespace Go.Proofs.YtnjdkcnafjkckaaDoor
open Go.ChangeShapes Go.WideShapes Go.ChangeAt Go.RowKit
set_option linter.unusedVariables false
set_option linter.unusedSimpArgs false

instance : Inhabited AtI := ⟨mkG 0 0 0⟩
theorem open_attr {H : Type} {enc : TypeId × Value → H} {W : World} (fuel : Nat) (cs : List Value) (x : DataW H × List MemPlace)
    (hf : DataW.trod enc Tryd.prog W 0 (fun _ => true) true fuel 30 cs = some x) : ∃ z : AtI, cs = AtF z ∧ InAt W z := by
  obtain ⟨ys, k, _, _, hl, hyl, hg⟩ := DataW.trod_struct Tryd.underlying30 hf
  have hl9 : cs.length = 9 := hl.trans (by kernel_rfl)
  match cs, hl9 with
  | [c0, c1, c2, c3, c4, c5, c6, c7, c8], _ =>
    have e0 : Tryd.prog.cellsOf 3 = 1 := by kernel_rfl
    have e1 : Tryd.prog.cellsOf 4 = 1 := by kernel_rfl
    have e2 : Tryd.prog.cellsOf 24 = 1 := by kernel_rfl
    have e3 : Tryd.prog.cellsOf 25 = 1 := by kernel_rfl
    have e4 : Tryd.prog.cellsOf 26 = 1 := by kernel_rfl
    have e5 : Tryd.prog.cellsOf 27 = 1 := by kernel_rfl
    have e6 : Tryd.prog.cellsOf 28 = 1 := by kernel_rfl
    have g0 := hg 0 _ rfl
    have g1 := hg 1 _ rfl
    have g2 := hg 2 _ rfl
    have g3 := hg 3 _ rfl
    have g4 := hg 4 _ rfl
    have g5 := hg 5 _ rfl
    have g6 := hg 6 _ rfl
    have g7 := hg 7 _ rfl
    have g8 := hg 8 _ rfl
    simp [e0, e1, e2, e3, e4, e5, e6] at g0 g1 g2 g3 g4 g5 g6 g7 g8
    obtain ⟨a0, q0, _, w0⟩ := DataW.trod_int Tryd.underlying3 (g0.trans (List.getElem?_eq_getElem (by rw [hyl]; decide)))
    obtain ⟨a1, q1, _⟩ := DataW.trod_bool Tryd.underlying4 (g1.trans (List.getElem?_eq_getElem (by rw [hyl]; decide)))
    obtain ⟨a2, q2, _, w2⟩ := DataW.trod_int Tryd.underlying24 (g2.trans (List.getElem?_eq_getElem (by rw [hyl]; decide)))
    obtain ⟨a3, q3, _, w3⟩ := DataW.trod_int Tryd.underlying24 (g3.trans (List.getElem?_eq_getElem (by rw [hyl]; decide)))
    obtain ⟨S, sn, sc, q4, hs1, hs2, xs, hxs, hS⟩ := open_sl (α := Unit) Tryd.underlying25 2 (by kernel_rfl) SegE open_seg (g4.trans (List.getElem?_eq_getElem (by rw [hyl]; decide)))
    obtain ⟨L, ln, lc, q5, hL⟩ := open_any Tryd.underlying26 (g5.trans (List.getElem?_eq_getElem (by rw [hyl]; decide)))
    obtain ⟨B, bn, bc, q6, hB⟩ := open_any Tryd.underlying27 (g6.trans (List.getElem?_eq_getElem (by rw [hyl]; decide)))
    obtain ⟨a7, q7, _, w7⟩ := DataW.trod_int Tryd.underlying3 (g7.trans (List.getElem?_eq_getElem (by rw [hyl]; decide)))
    obtain ⟨R, rn, rc, q8, hR⟩ := open_any Tryd.underlying28 (g8.trans (List.getElem?_eq_getElem (by rw [hyl]; decide)))
    simp at q0 q1 q2 q3 q4 q5 q6 q7 q8
    subst q0 q1 q2 q3 q4 q5 q6 q7 q8
    have b2 := bounds_u32 w2
    have b3 := bounds_u32 w3
    exact ⟨⟨a0, a1, a2, a3, S, sn, sc, L, ln, lc, B, bn, bc, a7, R, rn, rc⟩, rfl, ⟨bounds_i64 w0, ⟨by simp only; omega, by simp only; omega⟩, ⟨by simp only; omega, by simp only; omega⟩, bounds_i64 w7, ⟨Nat.le_trans hs1 hs2, hL, hB, hR⟩⟩, xs, hxs, hS⟩

/-- Attributes that came in. -/
def InAts (w : World) (A : Option Addr) (n c : Nat) (zs : List AtI) : Prop := zs.length = n ∧ n ≤ c ∧ c ≤ maxLen ∧ AtsL w A zs ∧ ∀ z ∈ zs, InAt w z
theorem open_arg22 {H : Type} {enc : TypeId × Value → H} {W : World} {A : Option Addr} {n c : Nat} {d : DataW H} {p : List MemPlace}
    (h : DataW.Trod enc Tryd.prog W 0 (fun _ => true) true 22 (.slice A n c) d p) : ∃ zs, InAts W A n c zs := by
  obtain ⟨fuel, hf⟩ := h
  obtain ⟨A', n', c', hcs, h1, h2, xs, h3, h4⟩ := open_sl (α := AtI) Tryd.underlying22 9 (by kernel_rfl) (fun W z cs => cs = AtF z ∧ InAt W z) (fun fuel cs x hx => open_attr fuel cs x hx) hf
  simp [Value.cells] at hcs
  obtain ⟨rfl, rfl, rfl⟩ := hcs
  refine ⟨xs, h3, h1, h2, fun hn => ?_, fun x hx => ?_⟩
  · obtain ⟨ad, e, hc⟩ := h4 hn
    refine ⟨ad, e, fun j x hx => ?_⟩
    obtain ⟨cs, q1, q2, q3⟩ := hc j x hx
    exact ⟨cs, q1, q2.1, q3⟩
  · obtain ⟨i, hi, e⟩ := List.getElem_of_mem hx
    obtain ⟨ad, cs, _, _, q2, _⟩ := h4.at (List.getElem?_eq_getElem hi)
    rw [e] at q2
    exact q2.2

/-- What Merge returns has no other fields than its numbers. -/
theorem merge_bare (zs : List AtI) : (mergeA zs).bare = true := by
  have hp : badL zs = false → (pick zs 7).bare = true := by
    intro hb
    unfold pick
    cases h : zs.find? (fun z => z.t == 7) with
    | none => rfl
    | some z =>
      have hm := List.mem_of_find?_eq_some h
      unfold badL at hb
      have hv : validG 4 z = true := by
        cases hq : zs.find? (fun z => !validG 4 z) with
        | none =>
          have := List.find?_eq_none.1 hq z hm
          simpa using this
        | some y => rw [hq] at hb; cases hb
      unfold validG at hv
      simp only [Bool.and_eq_true] at hv
      exact hv.2
  unfold mergeA
  split
  · rfl
  · rename_i hb
    have := hp (by simpa using hb)
    split
    · exact this
    · exact this

set_option maxRecDepth 100000 in
set_option maxHeartbeats 3200000 in
theorem amerges_row (A : Option Addr) (n c : Nat) (zs : List AtI) (w : World) (hz : InAts w A n c zs) (ld : Ld w) :
    Calls Tryd.prog 3 #[.slice A n c] w fun e w' => e = .returned (.bool true) ∧ Kp NoB w w' := by
  obtain ⟨rfl, -, -, hA, hI⟩ := hz
  have HAL := Lib.hid (fun W (k : Kp NoB w W) => alive_any W (ld.tb.and k))
  by_cases h20 : zs.length ≤ 20
  · have HA := Lib.hid hA
    have HSm := Lib.hid (fun z hz W (k : Kp NoB w W) => small_any z W ((hI z hz).and k))
    have HM := Lib.hid (fun (hok : ∀ z ∈ zs, z.Ok) W (k : Kp NoB w W) => merge_any A c zs W (hA.and k) (by omega) hok)
    have HR := Lib.hid (fun (hok : ∀ z ∈ zs, z.Ok) W (k : Kp NoB w W) => rmerge_any A c zs W (hA.and k) (by omega) hok)
    have HOK := Lib.hid (fun (hs : ∀ z ∈ zs, z.small) z hz => (hI z hz).1.ok (hs z hz))
    have HS := Lib.hid (fun W => gsame_any (mergeA zs) (mergeA zs) rfl rfl rfl rfl (merge_bare zs) (merge_bare zs) W)
    obtain ⟨X, hX⟩ : ∃ x, mergeA zs = x := ⟨_, rfl⟩
    obtain ⟨Y, hY⟩ : ∃ x, mergeB zs = x := ⟨_, rfl⟩
    rw [hX, hY] at HM HR
    rw [hX] at HS
    obtain ⟨n, hnn⟩ : ∃ n, zs.length = n := ⟨_, rfl⟩
    have HN := Lib.hid hnn
    rw [hnn] at HM HR h20 ⊢
    have h20' : (n : Int) ≤ 20 := by omega
    clear hX hY hnn hA hI ld h20
    unfold AtI.val AtI.cs at HM HR HS
    go_enter Tryd.func3, Tryd.ntmps3
    go_wp2
    go_loopw [15] (fun i wr => ∃ j : Nat, j ≤ n ∧ i = .int .i64 j ∧ Hid (Kp NoB w wr) ∧ Hid (∀ z ∈ zs.take j, z.small)) (fun i _ => n - (intOf i).toNat)
    case atStart => exact ⟨0, Nat.zero_le _, rfl, Lib.hid (Kp.refl _ _), Lib.hid (by simp)⟩
    case round =>
      obtain ⟨j, hj, rfl, HK, HD⟩ := hrel
      by_cases hlt : j < n
      · have hjl : j < zs.length := by rw [HN.out]; exact hlt
        obtain ⟨ad, rfl, x0, x1, x2, x3, x4, x5, x6, x7, x8⟩ := ats_at (HA.out.and HK.out) hjl
        have hs := HSm.out _ (List.getElem_mem hjl)
        have HD' := Lib.hid (show zs[j].small → ∀ z ∈ zs.take (j + 1), z.small from fun hz z hm => by
          rw [List.take_succ_eq_append_getElem hjl, List.mem_append, List.mem_singleton] at hm
          rcases hm with hm | rfl
          · exact HD.out z hm
          · exact hz)
        obtain ⟨z, hz⟩ : ∃ z, zs[j] = z := ⟨_, rfl⟩
        rw [hz] at x0 x1 x2 x3 x4 x5 x6 x7 x8 hs HD'
        have HSz := Lib.hid hs
        clear hz hs
        unfold AtI.val AtI.cs at HSz
        go_wp2_with (first
          | (go_at_call 9; (with_reducible refine Calls.mono (HSz.out _ (HK.out.alloc _)) ?_); rintro e w1 ⟨b1, rfl, hs1, hK⟩; have HS1 := Lib.hid hs1; have hk1 := Lib.hid ((HK.out.alloc _).and hK); clear hK hs1)
          | (go_at_call 8; (with_reducible refine Calls.mono (HAL.out _ hk1.out) ?_); rintro e w2 ⟨rfl, hK⟩; have hk2 := Lib.hid (hk1.out.and hK); clear hK))
        · go_ret
          exact ⟨rfl, hk2.out⟩
        · rename_i hb1
          go_roundw
          case rel => exact ⟨j + 1, by omega, by go_num, hk1, Lib.hid (HD'.out (HS1.out (by simpa using hb1)))⟩
          case measure => simp [intOf]; omega
      · have hj' : j = n := by omega
        have hok : ∀ z ∈ zs, z.Ok := HOK.out (by have := HD.out; rwa [List.take_of_length_le (by rw [HN.out]; omega)] at this)
        have HM' := Lib.hid (HM.out hok)
        have HR' := Lib.hid (HR.out hok)
        clear hok
        go_wp2_with (first
          | (go_at_call 10; (with_reducible refine Calls.mono (HM'.out _ HK.out) ?_); rintro e w1 ⟨rfl, hK⟩; have hk1 := Lib.hid (HK.out.and hK); clear hK)
          | (go_at_call 11; (with_reducible refine Calls.mono (HR'.out _ (hk1.out.alloc _)) ?_); rintro e w2 ⟨rfl, hK⟩; have hk2 := Lib.hid ((hk1.out.alloc _).and hK); have hx2 := Lib.hid ((Bk.fresh w1 30 X.cs).and hK); have hlt2 : w1.heap.size < w2.heap.size := hx2.out.lt; have hne2 := Nat.ne_of_lt hlt2; clear hK; obtain ⟨x0, x1, x2, x3, x4, x5, x6, x7, x8⟩ := hx2.out.attr)
          | (go_at_call 8; (with_reducible refine Calls.mono (HAL.out _ (hk2.out.alloc _)) ?_); rintro e w3 ⟨rfl, hK⟩; have hk3 := Lib.hid ((hk2.out.alloc _).and hK); have hx3 := Lib.hid ((hx2.out.alloc _).and hK); have hy3 := Lib.hid ((Bk.fresh w2 30 X.cs).and hK); clear hK x0 x1 x2 x3 x4 x5 x6 x7 x8; obtain ⟨x0, x1, x2, x3, x4, x5, x6, x7, x8⟩ := hx3.out.attr; obtain ⟨y0, y1, y2, y3, y4, y5, y6, y7, y8⟩ := hy3.out.attr)
          | (go_at_call 12; (with_reducible refine Calls.mono (HS.out _) ?_); rintro e w4 ⟨rfl, hK⟩; have hk4 := Lib.hid (hk3.out.and hK); clear hK))
        all_goals
          go_ret
          exact ⟨by simp, hk4.out⟩
  · have h20' : (20 : Int) < (zs.length : Nat) := by omega
    obtain ⟨n, hnn⟩ : ∃ n, zs.length = n := ⟨_, rfl⟩
    rw [hnn] at h20' ⊢
    clear hA hI ld h20 hnn
    go_enter Tryd.func3, Tryd.ntmps3
    go_wp2_with (go_at_call 8; (with_reducible refine Calls.mono (HAL.out _ (Kp.refl _ _)) ?_); rintro e w1 ⟨rfl, hK⟩)
    go_ret
    exact ⟨rfl, hK⟩

end Go.Proofs.YtnjdkcnafjkckaaDoor
