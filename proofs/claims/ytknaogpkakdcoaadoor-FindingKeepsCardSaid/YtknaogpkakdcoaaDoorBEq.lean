/- bytes.Equal: its contract. -/
import Derived.Test.YtknaogpkakdcoaaDoorStr
namespace Go.Proofs.YtknaogpkakdcoaaDoor
open Go.RowKit
set_option linter.unusedVariables false
set_option linter.unusedSimpArgs false

theorem beq_any (A B : Option Addr) (c d : Nat) (xs ys : List Int) (w : World) (ha : Arr w A (bs xs)) (hb : Arr w B (bs ys)) (hx : IsB xs) (hy : IsB ys) :
    Calls Tryd.prog 34 #[.slice A xs.length c, .slice B ys.length d] w fun e w' => e = .returned (.bool (decide (xs = ys))) ∧ w' = w := by
  have h1 := run_str (P := Tryd.prog) w 22 5 9 Tryd.underlying22 Tryd.underlying5 Tryd.underlying9 A c xs ha
  have h2 := run_str (P := Tryd.prog) w 22 5 9 Tryd.underlying22 Tryd.underlying5 Tryd.underlying9 B d ys hb
  have HE := Lib.hid (fun h => strOfNums_inj hx hy h)
  have HE2 : Hid (xs = ys → strOfNums xs = strOfNums ys) := Lib.hid (fun h => by rw [h])
  obtain ⟨b, hbb⟩ : ∃ b, decide (xs = ys) = b := ⟨_, rfl⟩
  have HB := Lib.hid hbb
  rw [hbb]
  clear hbb ha hb hx hy
  obtain ⟨n, hn⟩ : ∃ n, xs.length = n := ⟨_, rfl⟩
  obtain ⟨m, hm⟩ : ∃ n, ys.length = n := ⟨_, rfl⟩
  obtain ⟨s, hs⟩ : ∃ s, strOfNums xs = s := ⟨_, rfl⟩
  obtain ⟨t, ht⟩ : ∃ s, strOfNums ys = s := ⟨_, rfl⟩
  rw [hn, hs] at h1
  rw [hm, ht] at h2
  rw [hn, hm]
  rw [hs, ht] at HE HE2
  clear hn hm hs ht
  go_enter Tryd.func34, Tryd.ntmps34
  go_wp2
  go_ret
  refine ⟨?_, rfl⟩
  rw [← HB.out, show decide (xs = ys) = (s.toList == t.toList) from ?_]
  · rfl
  · by_cases h : xs = ys
    · rw [HE2.out h]
      simp [h]
    · have hne : s.toList ≠ t.toList := fun he => h (HE.out (by
        rw [ByteArray.toList_eq, ByteArray.toList_eq] at he
        cases s; cases t
        simpa using he))
      rw [decide_eq_false h, beq_eq_false_iff_ne.2 hne]

end Go.Proofs.YtknaogpkakdcoaaDoor
