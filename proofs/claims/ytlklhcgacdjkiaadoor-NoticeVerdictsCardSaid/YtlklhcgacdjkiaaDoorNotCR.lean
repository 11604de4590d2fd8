/- NOTIFICATIONs: Parse of the reference: contract. No condition. -/
import Derived.Test.YtlklhcgacdjkiaaDoorNotC
import Derived.RegionTactic
import Derived.BigRegion
namespace Go.Proofs.YtlklhcgacdjkiaaDoor
open Go.RowKit
set_option linter.unusedVariables false
set_option linter.unusedSimpArgs false

/-- What the reference's 'Parse' leaves where it succeeds: the data lie in what came in. -/
def RNParse (w : World) (c s : Int) (d : List Int) (e : Ending) (w' : World) : Prop :=
  ∃ A m, e = .returned (.tuple #[.agg #[.int .i64 c, .int .i64 s, .slice A d.length m], .bool true]) ∧ Arr w' A (bs d) ∧ d.length ≤ m ∧ m ≤ maxLen ∧ Kp NoB w w'

theorem rnparse_short (A : Option Addr) (n m : Nat) (w : World) (hn : n < 2) :
    Calls Tryd.prog 24 #[.slice A n m] w (Stay nparseNone w) := by
  go_enter Tryd.func24, Tryd.ntmps24
  go_wp2
  refine bodyPost_ret (v := nparseNone) (by simp [results, Tryd.results24, go_sem, nparseNone]) rfl ?_
  exact ⟨rfl, (Kp.refl _ _).alloc _⟩

set_option maxRecDepth 100000 in
set_option maxHeartbeats 4000000 in
theorem rnparse_good (c s : Int) (d : List Int) (A : Option Addr) (m : Nat) (w : World) (ha : Arr w A (bs (formN c s d))) (hb : IsB (formN c s d)) (hn : d.length ≤ 65514) (hm : d.length + 2 ≤ m) (hM : m ≤ maxLen) :
    Calls Tryd.prog 24 #[.slice A (d.length + 2) m] w (RNParse w c s d) := by
  have hc := hb c (by simp [formN])
  have hs := hb s (by simp [formN])
  obtain ⟨ad, rfl, h0⟩ := ha.at (j := 0) (u := .int .u8 c) rfl
  obtain ⟨ad', e', h1⟩ := ha.at (j := 1) (u := .int .u8 s) rfl
  injection e' with e'
  subst e'
  have hM' : m ≤ 9223372036854775807 := hM
  have hdrop : Arr w (cutA (some ad) 2 m) (bs d) := by
    have := Arr.drop (n := 2) (c := m) ha (by rw [bs_length]; exact hm)
    exact this
  have HD := Lib.hid hdrop
  rw [add_zero] at h0
  have e1 : ad.add 1 = ⟨ad.block, ad.off + 1, none⟩ := rfl
  rw [e1] at h1
  have hwc : IntKind.i64.wrap c = c := IntWalk.i64_in _ (by omega)
  have hws : IntKind.i64.wrap s = s := IntWalk.i64_in _ (by omega)
  have g0 := ((Kp.refl NoB w).alloc (.cells #[.int .i64 0, .int .i64 0, .slice none 0 0] 35)).cell h0 (fun q => q)
  have g1 := ((Kp.refl NoB w).alloc (.cells #[.int .i64 0, .int .i64 0, .slice none 0 0] 35)).cell h1 (fun q => q)
  obtain ⟨c0, c1⟩ := hc
  obtain ⟨s0, s1⟩ := hs
  clear ha hb hdrop e1
  obtain ⟨n, hnn⟩ : ∃ n, d.length = n := ⟨_, rfl⟩
  unfold RNParse
  simp only [hnn] at *
  by_cases h2 : m = 2
  · obtain rfl : n = 0 := by omega
    subst h2
    have hcut : cutA (some ad) 2 2 = some ad := by simp [cutA]
    rw [hcut] at HD
    clear hcut hm
    go_enter Tryd.func24, Tryd.ntmps24
    go_wp2
    go_region
    go_wp2
    refine bodyPost_ret (v := .tuple #[.agg #[.int .i64 c, .int .i64 s, .slice (some ad) 0 0], .bool true]) (by simp [results, Tryd.results24, go_sem]) rfl ?_
    exact ⟨_, _, rfl, (HD.out.alloc _), by omega, by unfold maxLen; omega, ((Kp.refl _ _).alloc _).drew⟩
  · have hcut : cutA (some ad) 2 m = some (ad.add 2) := by simp [cutA, h2]
    rw [hcut] at HD
    have e2 : ad.add 2 = ⟨ad.block, ad.off + 2, none⟩ := rfl
    rw [e2] at HD
    clear hcut e2
    go_enter Tryd.func24, Tryd.ntmps24
    go_wp2
    go_region
    go_wp2
    refine bodyPost_ret (v := .tuple #[.agg #[.int .i64 c, .int .i64 s, .slice (some ⟨ad.block, ad.off + 2, none⟩) n (m - 2)], .bool true]) (by simp [results, Tryd.results24, go_sem]) rfl ?_
    exact ⟨_, _, rfl, (HD.out.alloc _), by omega, by unfold maxLen; omega, ((Kp.refl _ _).alloc _).drew⟩

end Go.Proofs.YtlklhcgacdjkiaaDoor
