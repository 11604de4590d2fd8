/- The reference's routes: Read: its contract by walking the Go text. -/
import Derived.Test.YtkkfigdfgagimaaRNlB
import Derived.Test.YtkkfigdfgagimaaRPreE
import Derived.Test.YtkkfigdfgagimaaNlH
namespace Go.Proofs.Ytkkfigdfgagimaa
open Go.RowKit
set_option linter.unusedVariables false
set_option linter.unusedSimpArgs false

/-- A reader of the reference stands before the bytes zs. -/
def RdV (w : World) (B : Option Addr) (n d t : Nat) (zs : List Int) : Prop := zs.length = n ∧ n ≤ d ∧ d ≤ 9223372036854775807 ∧ t + n ≤ 140737488355328 ∧ Arr w B (bs zs) ∧ IsB zs
theorem RdV.and {w w' : World} {B : Option Addr} {n d t : Nat} {zs : List Int} (h : RdV w B n d t zs) (k : Kp NoB w w') : RdV w' B n d t zs := ⟨h.1, h.2.1, h.2.2.1, h.2.2.2.1, h.2.2.2.2.1.and k, h.2.2.2.2.2⟩
theorem RdV.keep {S : Nat → Prop} {w w' : World} {B : Option Addr} {n d t : Nat} {zs : List Int} (h : RdV w B n d t zs) (k : Kp S w w') (hs : ∀ ad, B = some ad → ¬ S ad.block) : RdV w' B n d t zs := ⟨h.1, h.2.1, h.2.2.1, h.2.2.2.1, h.2.2.2.2.1.keep k hs, h.2.2.2.2.2⟩

def RN4 (A : Option Addr) (t : Nat) (zs : List Int) (v : Int) (w : World) (e : Ending) (w' : World) : Prop := ∃ B n d, e = .returned (.tuple #[rv B n d t, .int .u32 v, .bool true]) ∧ RdV w' B n d t zs ∧ Kp NoB w w' ∧ (∀ a, B = some a → ∃ b, A = some b ∧ a.block = b.block)
theorem rn4_yes (A : Option Addr) (n d t : Nat) (zs : List Int) (w : World) (h : RdV w A n d t zs) (hl : 4 ≤ n) : Calls Try.prog 39 #[rv A n d t, .int .i64 4] w (RN4 A (t + 4) (zs.drop 4) (big (zs.take 4)) w) := by
  obtain ⟨rfl, h2, h3, h4, h5, h6⟩ := h
  refine (rnumber_yes A d t 4 zs w (by decide) (by decide) hl h2 h3 h4 h5 h6).mono fun e w' ⟨he, hk⟩ => ⟨cutA A 4 d, zs.length - 4, d - 4, ?_, ⟨by simp, by omega, by omega, by omega, ?_, h6.drop 4⟩, hk, fun a ha => cutA_block A 4 d a ha⟩
  · rw [he]
    push_cast
    rfl
  · rw [bs_drop]
    exact (h5.and hk).drop (by rw [bs_length]; exact h2)
def RP1 (A : Option Addr) (t : Nat) (zs : List Int) (p : PreI) (w : World) (e : Ending) (w' : World) : Prop := ∃ B n d, e = .returned (.tuple #[rv B n d t, p.val, .bool true]) ∧ RdV w' B n d t zs ∧ Kp NoB w w' ∧ (∀ a, B = some a → ∃ b, A = some b ∧ a.block = b.block)
theorem rp1_yes {fam : Int} {zs : List Int} {p : PreI} {k : Nat} (hp : readP fam zs = some (p, k)) (A : Option Addr) (n d t : Nat) (w : World) (h : RdV w A n d t zs) : Calls Try.prog 40 #[.int .i64 fam, rv A n d t] w (RP1 A (t + k) (zs.drop k) p w) := by
  obtain ⟨rfl, h2, h3, h4, h5, h6⟩ := h
  cases zs with
  | nil => simp [readP] at hp
  | cons l ys =>
    simp only [readP] at hp
    split at hp
    · rename_i hc
      injection hp with hp
      injection hp with e1 e2
      subst e1 e2
      have hr := hc.1
      rw [ranged_most] at hr
      simp only [decide_eq_true_eq] at hr
      refine (rpread_yes fam l ys A d t w h5 h6 h2 h3 h4 hr.2 hc.2).mono fun e w' ⟨he, hk⟩ => ⟨cutA (cutA A 1 d) (needN l) (d - 1), ys.length - needN l, d - 1 - needN l, ?_, ⟨?_, ?_, ?_, ?_, ?_, ?_⟩, hk, fun a ha => ?_⟩
      · rw [he, show ((t : Int) + 1 + (needN l : Int)) = ((t + (1 + needN l) : Nat) : Int) by push_cast; omega]
      · simp [show 1 + needN l = needN l + 1 by omega]
      · simp at h2; have := hc.2; omega
      · omega
      · have := hc.2; simp at h4; omega
      · rw [show 1 + needN l = needN l + 1 by omega, List.drop_succ_cons, bs_drop]
        have h7 := (h5.and hk).drop (n := 1) (c := d) (by rw [bs_length]; exact h2)
        have h8 : Arr w' (cutA A 1 d) (bs ys) := by simpa [bs] using h7
        exact h8.drop (by rw [bs_length]; simp at h2; omega)
      · exact h6.drop _
      · obtain ⟨b, hb, hbb⟩ := cutA_block _ _ _ _ ha
        obtain ⟨b2, hb2, hbb2⟩ := cutA_block _ _ _ _ hb
        exact ⟨b2, hb2, hbb.trans hbb2⟩
    · cases hp
theorem rp1_no {fam : Int} {zs : List Int} (hp : readP fam zs = none) (A : Option Addr) (n d t : Nat) (w : World) (h : RdV w A n d t zs) : Calls Try.prog 40 #[.int .i64 fam, rv A n d t] w (RPReadNo w) := by
  obtain ⟨rfl, h2, h3, h4, h5, h6⟩ := h
  cases zs with
  | nil => exact rpread_no0 fam A d t w
  | cons l ys =>
    simp only [readP] at hp
    split at hp
    · cases hp
    · rename_i hc
      have hl := h6 l (by simp)
      by_cases hg : l ≤ mostI fam
      · exact rpread_no2 fam l ys A d t w h5 h6 h2 h3 h4 hg (by
          rcases Nat.lt_or_ge ys.length (needN l) with h1 | h1
          · exact h1
          · exact absurd ⟨by rw [ranged_most]; simp; exact ⟨hl.1, hg⟩, h1⟩ hc)
      · exact rpread_no1 fam l ys A d t w h5 h6 h2 h3 h4 hg

end Go.Proofs.Ytkkfigdfgagimaa
