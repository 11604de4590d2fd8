/- Chapter 8: Bytes of the reference. No condition but the bounds that arguments have. -/
import Derived.Test.YtnjdkcnafjkckaaDoorAggB
import Derived.Test.YtnjdkcnafjkckaaDoorROf
namespace Go.Proofs.YtnjdkcnafjkckaaDoor
open Go.RowKit
set_option linter.unusedVariables false
set_option linter.unusedSimpArgs false

/-- What the reference's Bytes leaves. -/
def GRBytesM (w : World) (width : Int) (z : AtI) (e : Ending) (w' : World) : Prop :=
  ∃ A c, e = .returned (.tuple #[.slice A (bytesG width z).length c, .bool (validG width z)]) ∧ Arr w' A (bs (bytesG width z)) ∧ Kp NoB w w'

theorem of_k {K : Nat} {x : Int} (hk : K = 2 ∧ x ≤ 65535 ∨ K = 4) (h0 : 0 ≤ x) (h1 : x < 4294967296) (w : World) :
    Calls Tryd.prog 39 #[.int .i64 K, .int .u32 x] w (OfYes w K x) := by
  rcases hk with ⟨rfl, h⟩ | rfl
  · exact rof_2 x w h0 (by omega)
  · exact rof_4 x w h0 h1

theorem sizeG_of {width k : Int} (hw : width = 2 ∨ width = 4) (hk : k = 7 ∨ k = 18) : sizeG width k = ofG width k := by
  unfold sizeG ofG
  rw [if_pos (show (width = 2 ∨ width = 4) ∧ (k = 7 ∨ k = 18) from ⟨hw, hk⟩)]

theorem grbytes_bad (width : Int) (z : AtI) (hn : 0 ≤ z.n ∧ z.n < 4294967296) (hv : validG width z = false) (w : World) : Calls Tryd.prog 19 #[.int .i64 width, z.val] w (Stay (.tuple #[.slice none 0 0, .bool false]) w) := by
  have HV := Lib.hid (fun W => grvalid_any width z hn W)
  simp only [hv] at HV
  clear hn hv
  unfold AtI.val AtI.cs at *
  go_enter Tryd.func19, Tryd.ntmps19
  go_wp2_with (go_at_call 17; refine Calls.mono (HV.out _) ?_; rintro e w1 ⟨rfl, hK⟩; have hk1 := Lib.hid (((Kp.refl NoB w).alloc _).and hK); clear hK)
  go_ret2
  exact ⟨rfl, hk1.out⟩

set_option maxRecDepth 100000 in
set_option maxHeartbeats 1600000 in
theorem grbytes_good (width : Int) (z : AtI) (ok : z.Ok) (hv : validG width z = true) (w : World) : Calls Tryd.prog 19 #[.int .i64 width, z.val] w (GRBytesM w width z) := by
  obtain ⟨i0, hi, hz0, hz1, hz2⟩ := info_parts infoU8
  have HV := Lib.hid (fun W => grvalid_any width z ok.n W)
  obtain ⟨K, hK, hk, -, hwd, hty⟩ := validG_k ok.n hv
  have hB : bytesG width z = putL K z.n ++ putL 4 z.m := by unfold bytesG; rw [if_pos hv, hK]; rfl
  have hlen : (bytesG width z).length = K + 4 := by rw [hB, List.length_append, putL_length, putL_length]
  have hK4 : K ≤ 4 := by omega
  have HS := Lib.hid (fun W => gsize_any width z.t W)
  rw [sizeG_of hwd hty, hK] at HS
  have HP := Lib.hid (fun W => of_k hk ok.n.1 ok.n.2 W)
  have HQ := Lib.hid (fun W => rof_4 z.m W ok.m.1 ok.m.2)
  have HF := Lib.hid (fun (A : Option Addr) (c : Nat) (w' : World) (h : Arr w' A (bs (putL K z.n) ++ bs (putL 4 z.m))) (hK : Kp NoB w w') => (show GRBytesM w width z (.returned (.tuple #[.slice A (K + 4) c, .bool true])) w' from ⟨A, c, by rw [hlen, hv], by rw [hB, bs_append]; exact h, hK⟩))
  simp only [hv] at HV
  unfold OfYes at HP HQ
  clear hB hlen hK hk hv ok hwd hty
  unfold AtI.val AtI.cs at *
  go_enter Tryd.func19, Tryd.ntmps19
  go_wp2_with (go_at_call 17; refine Calls.mono (HV.out _) ?_; rintro e w1 ⟨rfl, hK⟩; obtain ⟨hk1', hZ'⟩ := fin_at (z := z) hK; have hk1 := Lib.hid hk1'; have hZ := Lib.hid hZ'; obtain ⟨x0, x1, x2, x3, x4, x5, x6, x7, x8⟩ := hZ'.attr; clear hK hk1' hZ')
  go_region_held3 (fun w' => w'.cell? ⟨w.heap.size, 0, none⟩ = some (.int .i64 z.t) ∧ w'.cell? ⟨w.heap.size, 2, none⟩ = some (.int .u32 z.n) ∧ w'.cell? ⟨w.heap.size, 3, none⟩ = some (.int .u32 z.m)) (go_keep)
    (first
      | (go_at_call 37; (with_reducible refine Calls.mono (HS.out _) ?_); rintro e w2 ⟨rfl, hK⟩; have hk2 := Lib.hid (hk1.out.drew.and hK); have hZ2 := Lib.hid ((bk_drew hZ.out).and hK); clear x0 x1 x2 x3 x4 x5 x6 x7 x8; obtain ⟨x0, x1, x2, x3, x4, x5, x6, x7, x8⟩ := hZ2.out.attr; clear hK)
      | (go_at_call 39; (with_reducible refine Calls.mono (HP.out _) ?_); rintro e w3 ⟨A3, c3, rfl, hown3, hK⟩; have hk3 := Lib.hid (hk2.out.and hK); have hZ3 := Lib.hid (hZ2.out.and hK); have hk23 := Lib.hid hK; have ho3 := Lib.hid hown3; clear x0 x1 x2 x3 x4 x5 x6 x7 x8 hown3; obtain ⟨x0, x1, x2, x3, x4, x5, x6, x7, x8⟩ := hZ3.out.attr; clear hK)
      | (go_at_call 39; (with_reducible refine Calls.mono (HQ.out _) ?_); rintro e w4 ⟨A4, c4, rfl, hown4, hK⟩; have hk4 := Lib.hid (hk3.out.and hK); have hZ4 := Lib.hid (hZ3.out.and hK); have hk24 := Lib.hid (hk23.out.and hK); have ho34 := Lib.hid (hK.own ho3.out (fun _ _ q => q)); have ha4 := Lib.hid (Arr.of_own hown4); clear x0 x1 x2 x3 x4 x5 x6 x7 x8 hown4; obtain ⟨x0, x1, x2, x3, x4, x5, x6, x7, x8⟩ := hZ4.out.attr; clear hK)
      | (rw [if_pos (by rfl)]; refine wp_app (w0 := w2) (S := NoB) hk24.out (.tmp 16) (.tmp 19) 27 rfl 5 i0 (.int .u8 0) 1 1 Tryd.underlying27 hi hz0 hz1 hz2 rfl (by decide) _ K (bs (putL K z.n)) rfl ho34.out A4 4 c4 (bs (putL 4 z.m)) rfl (by rw [bs_length, putL_length]) ha4.out (bs_one _) (by omega) (by decide) _ rfl ?_; intro A5 c5 w5 hown5 hK5 hG _; have hk5 := Lib.hid (hk2.out.and hK5); have ha5 := Lib.hid (Arr.of_own hown5); have hZ5 := Lib.hid (hZ4.out.keep (Kp.of_grown hG) (fun hq => by have h1 := own_base ho34.out _ hq.symm; have h2 := hZ2.out.lt; omega)); clear x0 x1 x2 x3 x4 x5 x6 x7 x8; obtain ⟨x0, x1, x2, x3, x4, x5, x6, x7, x8⟩ := hZ5.out.attr; clear hown5 hK5 hG))
  go_wp2
  go_ret2
  exact HF.out _ _ _ ha5.out hk5.out

theorem grbytes_any (width : Int) (z : AtI) (ok : z.Ok) (w : World) : Calls Tryd.prog 19 #[.int .i64 width, z.val] w (GRBytesM w width z) := by
  cases hv : validG width z with
  | false => exact (grbytes_bad width z ok.n hv w).mono fun e w' ⟨he, hK⟩ => ⟨none, 0, by unfold bytesG; rw [he, hv]; rfl, by unfold bytesG; rw [hv]; exact Arr.nil _ _, hK⟩
  | true => exact grbytes_good width z ok hv w

end Go.Proofs.YtnjdkcnafjkckaaDoor
