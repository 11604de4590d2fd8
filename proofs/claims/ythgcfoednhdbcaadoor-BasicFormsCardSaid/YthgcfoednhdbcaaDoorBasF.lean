/- basic.Text and basic.Read: their contracts. No condition but the bounds that arguments have, and the table. -/
import Derived.Test.YthgcfoednhdbcaaDoorBasE
namespace Go.Proofs.YthgcfoednhdbcaaDoor
open Go.RowKit
set_option linter.unusedVariables false
set_option linter.unusedSimpArgs false

set_option maxRecDepth 100000 in
set_option maxHeartbeats 1600000 in
theorem text_clo (z : AtI) (ok : z.Ok) (hk : z.t = 1 ∨ z.t = 3 ∨ z.t = 4 ∨ z.t = 5 ∨ z.t = 9) (ho : z.t = 1 → z.n ≤ 2) (hv : validA z = true) (w : World) (htab : Tb w) : Calls Tryd.prog 17 #[z.val] w (Stay (.string (ba (textA z))) w) := by
  have HV := Lib.hid (fun W => valid_any z ok W)
  simp only [hv] at HV
  have HN := Lib.hid ok.n
  have HO := Lib.hid ho
  have wk := ok.t
  have HT := Lib.hid htab
  have HX := Lib.hid (show textA z = txtK z.t z.n by unfold textA; rw [if_pos hv])
  have hfl := fld3
  clear ho htab
  unfold AtI.val AtI.cs at *
  go_enter Tryd.func17, Tryd.ntmps17
  go_wp2_with (go_at_call 22; refine Calls.mono (HV.out _) ?_; rintro e w1 ⟨rfl, hK⟩; have hb1 := Lib.hid ((Bk.fresh w 28 z.cs).and hK); have hk1 := Lib.hid (((Kp.refl NoB w).alloc _).and hK); obtain ⟨x0, x1, x2, x3, x4, x5, x6, x7, x8⟩ := hb1.out.attr; clear hK)
  go_region_held3 (fun w' => w'.cell? ⟨w.heap.size, 0, none⟩ = some (.int .i64 z.t) ∧ w'.cell? ⟨w.heap.size, 2, none⟩ = some (.int .u32 z.n)) (go_keep)
      (first
        | (go_at_call 32; refine Calls.mono (rows_any _) ?_; rintro e w3 ⟨b, v1, v3, v4, v5, v9, rfl, hR, hK⟩; have hk3 := Lib.hid (hk1.out.drew.and hK); have hb3 := Lib.hid ((bk_drew hb1.out).and hK); clear x0 x1 x2 x3 x4 x5 x6 x7 x8 hK; obtain ⟨x0, x1, x2, x3, x4, x5, x6, x7, x8⟩ := hb3.out.attr; obtain ⟨a, m, c, B, C, hfm, hcl⟩ := hR.clo hk; have hl := hR.at_some hfm wk; have HCL := Lib.hid hcl; clear hcl)
        | (go_at_call 44; refine Calls.mono (clo_call (HT.out.and hk3.out) HN.out.1 HN.out.2 HO.out HCL.out) ?_; rintro e w4 ⟨rfl, hK⟩; have hk4 := Lib.hid (hk3.out.and hK); have hb4 := Lib.hid (hb3.out.and hK); clear x0 x1 x2 x3 x4 x5 x6 x7 x8 hK; obtain ⟨x0, x1, x2, x3, x4, x5, x6, x7, x8⟩ := hb4.out.attr))
  go_wp2
  go_ret
  exact ⟨by rw [HX.out]; rfl, hk4.out⟩

theorem RowsAt.at_six {w : World} {b : Nat} {v1 v3 v4 v5 v9 : Value} (h : RowsAt w b v1 v3 v4 v5 v9) {k : Int} (hk : k = 6) (wk : -9223372036854775808 ≤ k ∧ k ≤ 9223372036854775807) :
    (Instr.lookup 52 (.map (some b)) (.int .i64 k) false).run Tryd.prog w = .ok (.agg #[.int .i64 0, .int .u32 0, .int .i64 1, .func (.func 41) #[] #[]]) w :=
  h.at_some (by rw [hk]; rfl) wk

set_option maxRecDepth 100000 in
set_option maxHeartbeats 800000 in
theorem text_six (z : AtI) (ok : z.Ok) (hk : z.t = 6) (hv : validA z = true) (w : World) : Calls Tryd.prog 17 #[z.val] w (Stay (.string (ba [97, 116, 111, 109, 105, 99])) w) := by
  have HV := Lib.hid (fun W => valid_any z ok W)
  simp only [hv] at HV
  have wk := ok.t
  have hfl := fld3
  have HK := Lib.hid hk
  clear hk
  unfold AtI.val AtI.cs at *
  go_enter Tryd.func17, Tryd.ntmps17
  go_wp2_with (go_at_call 22; refine Calls.mono (HV.out _) ?_; rintro e w1 ⟨rfl, hK⟩; have hb1 := Lib.hid ((Bk.fresh w 28 z.cs).and hK); have hk1 := Lib.hid (((Kp.refl NoB w).alloc _).and hK); obtain ⟨x0, x1, x2, x3, x4, x5, x6, x7, x8⟩ := hb1.out.attr; clear hK)
  go_region_held3 (fun w' => w'.cell? ⟨w.heap.size, 0, none⟩ = some (.int .i64 z.t) ∧ w'.cell? ⟨w.heap.size, 2, none⟩ = some (.int .u32 z.n)) (go_keep)
      (first
        | (go_at_call 32; refine Calls.mono (rows_any _) ?_; rintro e w3 ⟨b, v1, v3, v4, v5, v9, rfl, hR, hK⟩; have hk3 := Lib.hid (hk1.out.drew.and hK); have hb3 := Lib.hid ((bk_drew hb1.out).and hK); clear x0 x1 x2 x3 x4 x5 x6 x7 x8 hK; obtain ⟨x0, x1, x2, x3, x4, x5, x6, x7, x8⟩ := hb3.out.attr; have hl := hR.at_six HK.out wk)
        | (go_at_call 41; refine Calls.mono (rows1_any _ _) ?_; rintro e w4 ⟨rfl, hK⟩; have hk4 := Lib.hid (hk3.out.and hK); have hb4 := Lib.hid (hb3.out.and hK); clear x0 x1 x2 x3 x4 x5 x6 x7 x8 hK; obtain ⟨x0, x1, x2, x3, x4, x5, x6, x7, x8⟩ := hb4.out.attr))
  go_wp2
  go_ret
  exact ⟨rfl, hk4.out⟩

theorem wdO_kinds {k a m c : Int} (h : wdO k = some (a, m, c)) : (k = 1 ∧ a = 1 ∧ m = 2 ∧ c = 2) ∨ ((k = 3 ∨ k = 4 ∨ k = 5 ∨ k = 9) ∧ a = 4 ∧ m = 4294967295 ∧ c = 2) ∨ (k = 6 ∧ a = 0 ∧ m = 0 ∧ c = 1) := by
  unfold wdO at h
  repeat' split at h
  · cases h; exact .inl ⟨by assumption, rfl, rfl, rfl⟩
  · cases h; exact .inr (.inl ⟨by assumption, rfl, rfl, rfl⟩)
  · cases h; exact .inr (.inr ⟨by assumption, rfl, rfl, rfl⟩)
  · cases h

theorem text_any (z : AtI) (ok : z.Ok) (w : World) (htab : Tb w) : Calls Tryd.prog 17 #[z.val] w (Stay (.string (ba (textA z))) w) := by
  cases hv : validA z with
  | false => rw [show textA z = [] by unfold textA; rw [hv]; rfl]; exact text_bad z ok hv w
  | true =>
    cases hk : wdO z.t with
    | none => unfold validA at hv; rw [hk] at hv; cases hv
    | some r =>
      obtain ⟨a, m, c⟩ := r
      have hv' := hv
      unfold validA at hv'
      rw [hk] at hv'
      simp only [Bool.and_eq_true, decide_eq_true_eq] at hv'
      rcases wdO_kinds hk with ⟨h1, rfl, rfl, rfl⟩ | ⟨h1, rfl, rfl, rfl⟩ | ⟨h1, rfl, rfl, rfl⟩
      · exact text_clo z ok (.inl h1) (fun _ => hv'.2) hv w htab
      · exact text_clo z ok (by rcases h1 with h | h | h | h <;> simp [h]) (fun h => by rw [h] at h1; omega) hv w htab
      · have e : textA z = [97, 116, 111, 109, 105, 99] := by unfold textA; rw [if_pos hv, h1]; rfl
        rw [e]
        exact text_six z ok h1 hv w

end Go.Proofs.YthgcfoednhdbcaaDoor
