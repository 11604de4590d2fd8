/- Take: its contracts. -/
import Derived.Test.YtilfheociidloaaDoorRd
import Derived.Test.YtilfheociidloaaDoorCut
import Derived.Test.YtilfheociidloaaDoorClone
namespace Go.Proofs.YtilfheociidloaaDoor
open Go.RowKit
set_option linter.unusedVariables false
set_option linter.unusedSimpArgs false

/-! ### Take -/

/-- What 'Take' leaves where it succeeds. -/
def TakeYes (w : World) (q r : Nat) (ys : List Int) (t k : Nat) (e : Ending) (w' : World) : Prop :=
  ∃ A c, e = .returned (.tuple #[.slice A k c, .bool true]) ∧ w'.ownsRow w.heap.size 5 1 (.slice A k c) k (bs (ys.take k)) ∧ Rd w' q r (ys.drop k) (t + k) ∧ Kp (OnB r) w w'

set_option maxHeartbeats 1000000 in
theorem take_yes (w : World) (q r : Nat) (ys : List Int) (t k : Nat) (h : Rd w q r ys t) (hkl : k ≤ ys.length) :
    Calls Tryd.prog 76 #[.pointer (some ⟨r, 0, none⟩), .int .i64 k] w (TakeYes w q r ys t k) := by
  obtain ⟨A, c, hB, h1, h2, h3, h4, h5, h6⟩ := h
  have hcut := cut_yes r _ A ys.length c t k w hB hkl h1 h2 h5
  have HC := Lib.hid hcut
  clear hcut
  have hlen : (ys.take k).length = k := by simp; omega
  have hclone := fun (w : World) (ha : Arr w A (bs (ys.take k))) => clone_any A k (ys.take k) w (by rw [hlen]; omega) ha
  rw [hlen] at hclone
  have HL := Lib.hid hclone
  have hn := Lib.hid hlen
  clear hclone hlen
  go_enter Tryd.func76, Tryd.ntmps76
  go_wp2_with (go_at_call 67; refine HC.out.mono ?_; rintro e w1 ⟨rfl, hB1, hK1⟩)
  have ha : Arr w1 A (bs (ys.take k)) := by
    rw [bs_take]
    by_cases hy : ys = []
    · subst hy
      simpa [bs] using Arr.nil _ _
    · exact (h3.keep hK1 (fun ad e => by rw [(h4 hy).2 ad e]; exact (h4 hy).1)).take k
  go_wp2_with (go_at_call 59; refine (HL.out _ (ha.alloc _)).mono ?_; rintro e w2 ⟨A', c', rfl, hown, hK2⟩)
  go_ret2
  have hlen := hn.out
  rw [hlen] at hown
  have hKK := hK1.alloc (.cells #[.slice A k k, .int .i64 t] 96)
  refine ⟨A', c', rfl, ?_, (Rd.cut hkl h1 h2 h3 h4 h5 h6 hB1 hK1).and (((Kp.refl _ _).alloc _).and hK2), hKK.and hK2⟩
  exact ⟨hown.1, hown.2.imp id (fun ⟨g, cap, cur, hv, hg, hr⟩ => ⟨g, cap, cur, hv, Nat.le_trans hKK.size hg, hr⟩)⟩

set_option maxHeartbeats 1000000 in
theorem take_no (w : World) (q r : Nat) (ys : List Int) (t : Nat) (k : Int) (h : Rd w q r ys t) (hk : k < 0 ∨ (ys.length : Int) < k) :
    Calls Tryd.prog 76 #[.pointer (some ⟨r, 0, none⟩), .int .i64 k] w (Stay (.tuple #[.slice none 0 0, .bool false]) w) := by
  obtain ⟨A, c, hB, h1, h2, h3, h4, h5, h6⟩ := h
  have hcut := cut_no r _ A ys.length c t k w hB hk
  have HC := Lib.hid hcut
  clear hcut
  clear hk
  go_enter Tryd.func76, Tryd.ntmps76
  go_wp2_with (first | (go_at_call 67; refine HC.out.mono ?_; rintro e w1 ⟨rfl, hK1⟩) | (go_at_call 59; refine (clone_nil 0 0 _).mono ?_; rintro e w2 ⟨rfl, hK2⟩))
  go_ret2
  exact ⟨rfl, (hK1.alloc _).and hK2⟩

theorem take_nil (w : World) (k : Int) :
    Calls Tryd.prog 76 #[.pointer none, .int .i64 k] w (Stay (.tuple #[.slice none 0 0, .bool (k == 0)]) w) := by
  go_enter Tryd.func76, Tryd.ntmps76
  go_wp2
  go_ret2
  exact ⟨rfl, Kp.refl _ _⟩

end Go.Proofs.YtilfheociidloaaDoor
