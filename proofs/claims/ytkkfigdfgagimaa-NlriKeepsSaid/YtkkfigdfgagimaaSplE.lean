/- slices.EqualFunc of lists of routes by the reference's Same, for lists that are equal; what both Splits leave, in one form. -/
import Derived.Test.YtkkfigdfgagimaaSplD
import Derived.Test.YtkkfigdfgagimaaRSame
namespace Go.Proofs.Ytkkfigdfgagimaa
open Go.RowKit
set_option linter.unusedVariables false
set_option linter.unusedSimpArgs false

set_option maxRecDepth 100000 in
set_option maxHeartbeats 2000000 in
theorem efunc_eq (A B : Option Addr) (c d : Nat) (gs : List (List RtI)) (w : World) (ha : Sl RtE 1 w A gs) (hb : Sl RtE 1 w B gs) (hn : gs.length ≤ 1000) (he : ∀ g ∈ gs, g.length ≤ 1000) :
    Calls Try.prog 16 #[.slice A gs.length c, .slice B gs.length d, .func (.func 17) #[] #[]] w (Stay (.bool true) w) := by
  have HA := Lib.hid ha
  have HB := Lib.hid hb
  have HE := Lib.hid he
  clear ha hb he
  obtain ⟨n, hnn⟩ : ∃ n, gs.length = n := ⟨_, rfl⟩
  have HN := Lib.hid hnn
  rw [hnn] at hn ⊢
  clear hnn
  go_enter Try.func16, Try.ntmps16
  go_wp2
  go_loopw [17] (fun i wr => ∃ j : Nat, j ≤ n ∧ i = .int .i64 j ∧ Hid (Kp NoB w wr)) (fun i _ => n - (intOf i).toNat)
  case atStart => exact ⟨0, Nat.zero_le _, rfl, Lib.hid (Kp.refl _ _)⟩
  case round =>
    obtain ⟨j, hj, rfl, HK⟩ := hrel
    by_cases hlt : j < n
    · obtain ⟨ad, A1, c1, rfl, hcellA, -, hRA⟩ := rtE_at (HA.out.and HK.out (RtE.and HK.out)) j (by rw [HN.out]; exact hlt)
      obtain ⟨bd, B1, d1, rfl, hcellB, -, hRB⟩ := rtE_at (HB.out.and HK.out (RtE.and HK.out)) j (by rw [HN.out]; exact hlt)
      have HS := Lib.hid (rsame_any A1 B1 c1 d1 _ _ wr hRA hRB (by have := HE.out _ (List.getElem_mem (show j < gs.length by rw [HN.out]; exact hlt)); omega))
      simp only [decide_true] at HS
      obtain ⟨g, hg⟩ : ∃ g, gs[j]'(by rw [HN.out]; exact hlt) = g := ⟨_, rfl⟩
      simp only [hg] at hcellA hcellB HS
      obtain ⟨m, hm⟩ : ∃ m, g.length = m := ⟨_, rfl⟩
      simp only [hm] at hcellA hcellB HS
      clear hg hm hRA hRB
      go_wp2_with (go_at_call 17; refine HS.out.mono ?_; rintro e w2 ⟨rfl, hK2⟩; replace hK2 := Lib.hid hK2)
      go_roundw
      case rel => exact ⟨j + 1, by omega, by go_num, Lib.hid (HK.out.and hK2.out)⟩
      case measure => simp [intOf]; omega
    · have hj' : j = n := by omega
      go_wp2
      go_ret
      exact ⟨rfl, HK.out⟩

/-- What both Splits leave. -/
def SplitU (gs : List (List RtI)) (ok : Bool) (w : World) (e : Ending) (w' : World) : Prop := ∃ A c, e = .returned (.tuple #[.slice A gs.length c, .bool ok]) ∧ Sl RtE 1 w' A gs ∧ Kp NoB w w'
theorem splitU_of {R : Option (List (List RtI))} {w w' : World} {e : Ending} (h : SplitAny R w e w') (hB : ∀ g ∈ R.getD [], ∀ x ∈ g, x.B) : SplitU (R.getD []) R.isSome w e w' := by
  cases R with
  | none =>
    obtain ⟨h1, h2⟩ := h
    exact ⟨none, 0, h1, Sl.nil _ _ _ _, h2⟩
  | some gs =>
    obtain ⟨A, c, cs, h1, h2, h3, h4⟩ := h
    exact ⟨A, c, h1, h3.sl (Arr.of_own h2) hB, h4⟩
/-- What holds of the lists. -/
structure SplF (most fam : Int) (add : Bool) (xs : List RtI) (gs : List (List RtI)) (ok : Bool) : Prop where
  each : ∀ g ∈ gs, g ≠ [] ∧ ((formN add g).length : Int) ≤ most
  good : ∀ g ∈ gs, (∀ x ∈ g, x.B) ∧ (∀ x ∈ g, validP x.pre = true) ∧ g.length ≤ xs.length
  few : gs.length ≤ xs.length
  sum : gs.flatten.length ≤ xs.length
  all : ok = true → gs.flatten = xs
theorem splF_of (most fam : Int) (add : Bool) (xs : List RtI) (hB : ∀ x ∈ xs, x.B) : SplF most fam add xs ((splitO most fam add xs).getD []) (splitO most fam add xs).isSome := by
  cases h : splitO most fam add xs with
  | none => exact ⟨by simp, by simp, by simp, by simp, by simp⟩
  | some gs =>
    obtain ⟨h1, h2, h3, h4⟩ := splitO_some h
    simp only [Option.getD_some, Option.isSome_some]
    refine ⟨h2, fun g hg => ⟨fun x hx => ?_, fun x hx => ?_, ?_⟩, h4, by rw [h3]; exact Nat.le_refl _, fun _ => h3⟩
    · exact hB x (by rw [← h3]; exact List.mem_flatten.2 ⟨g, hg, hx⟩)
    · exact validL_pre h1 x (by rw [← h3]; exact List.mem_flatten.2 ⟨g, hg, hx⟩)
    · rw [← h3]
      exact (List.sublist_flatten_of_mem hg).length_le

end Go.Proofs.Ytkkfigdfgagimaa
