/- slices.Clone of routes: its contract. -/
import Derived.Test.YtkkfigdfgagimaaNlCat
namespace Go.Proofs.Ytkkfigdfgagimaa
open Go.RowKit
set_option linter.unusedVariables false
set_option linter.unusedSimpArgs false

set_option maxRecDepth 100000 in
set_option maxHeartbeats 1000000 in
/-- slices.Clone of routes: the same routes in a row of their own. -/
theorem cloneR_any (A : Option Addr) (c : Nat) (xs : List RtI) (w : World) (hn : xs.length ≤ 1000000) (hx : RtL w A xs) :
    Calls Try.prog 19 #[.slice A xs.length c] w (JoinedR w xs) := by
  obtain ⟨i0, hi, hz0, hz1, hz2⟩ := info_parts infoRt19
  have HAR := Lib.hid (arr_of_rtL hx)
  have HLN := Lib.hid (flatE_length xs (fun x h => rtC_length (hx.2 x h).2.2.2.1))
  cases A with
  | none =>
    have hxn : xs = [] := by
      rcases Classical.em (xs = []) with h | h
      · exact h
      · obtain ⟨ad, e, _⟩ := hx.1 h
        cases e
    subst hxn
    clear hi hz0 hz1 hz2
    have hnil := fun (w : World) n c => Lib.run_eql_slice_nil (P := Try.prog) w 22 31 none n c 0 0 Try.underlying22
    go_enter Try.func19, Try.ntmps19
    go_wp2
    go_ret
    exact ⟨none, 0, rfl, World.ownsRow_nil _ _ _ _, Kp.refl _ _⟩
  | some ad =>
    have hnil := fun (w : World) n c => Lib.run_eql_slice_nil (P := Try.prog) w 22 31 (some ad) n c 0 0 Try.underlying22
    obtain ⟨cs, hcs⟩ : ∃ cs, flatE rtC xs = cs := ⟨_, rfl⟩
    have H1 := Lib.hid (flatE_one (xs := xs))
    have HC := Lib.hid hcs
    rw [hcs] at HAR HLN H1
    obtain ⟨n, hnn⟩ : ∃ n, xs.length = n := ⟨_, rfl⟩
    have HN := Lib.hid hnn
    rw [hnn] at HLN hn ⊢
    clear hcs hnn hx
    go_enter Try.func19, Try.ntmps19
    go_wp2_with (at_builtin; refine wpList_app ((Kp.refl NoB w).alloc _) rfl (.tmp 5) (.tmp 6) 22 rfl 31 i0 (.agg (rtF 0).toArray) 19 40 Try.underlying22 hi hz0 hz1 hz2 rfl (by decide) _ _ _ rfl (World.ownsRow_made w #[] 0 (Nat.le_refl _) (Nat.zero_le _) rfl) (some ad) n c cs rfl HLN.out (HAR.out.alloc _) H1.out (by omega) (by decide) n (by omega) ?_; intro A' c' w1 hown hk hg hat; clear hg hat)
    go_ret
    exact joinedR_of HN.out HC.out hown hk _ rfl

end Go.Proofs.Ytkkfigdfgagimaa
