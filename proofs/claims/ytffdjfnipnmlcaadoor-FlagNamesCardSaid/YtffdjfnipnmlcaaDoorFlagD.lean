/- The form of a head (package flag): contract by walking the Go text. No condition. -/
import Derived.Test.YtffdjfnipnmlcaaDoorFlagB
import Derived.Test.YtffdjfnipnmlcaaDoorCat0
import Derived.Test.YtffdjfnipnmlcaaDoorPutO
import Derived.WalkLawsBesides
import Derived.IntWalk
import Derived.Deep.RegionHeld3
namespace Go.Proofs.YtffdjfnipnmlcaaDoor
open Go.RowKit Go.Maps
set_option linter.unusedVariables false
set_option linter.unusedSimpArgs false

/-- A literal of two byte strings. -/
theorem two_strings (w : World) (T : TypeId) (v1 v2 : Value) (xs ys : List Int) (h1 : ByE (w.alloc (.cells #[v1, v2] T)) xs [v1]) (h2 : ByE (w.alloc (.cells #[v1, v2] T)) ys [v2]) :
    Sl ByE 1 (w.alloc (.cells #[v1, v2] T)) (some ⟨w.heap.size, 0, none⟩) [xs, ys] := fun _ =>
  ⟨_, rfl, fun j x hx => by
    have hj : j < 2 := by have := (List.getElem?_eq_some_iff.1 hx).1; simpa using this
    match j, hj with
    | 0, _ =>
      simp at hx; subst hx
      exact ⟨[v1], rfl, h1, fun i u hu => by
        have hi : i = 0 := by have := (List.getElem?_eq_some_iff.1 hu).1; simp at this; omega
        subst hi; simp at hu; subst hu; rw [add_none]; simp⟩
    | 1, _ =>
      simp at hx; subst hx
      exact ⟨[v2], rfl, h2, fun i u hu => by
        have hi : i = 0 := by have := (List.getElem?_eq_some_iff.1 hu).1; simp at this; omega
        subst hi; simp at hu; subst hu; rw [add_none]; simp⟩⟩

/-- Has the head a form? -/
def formB (f t l : Int) : Bool := decide (0 ≤ f ∧ 0 ≤ t ∧ 0 ≤ l ∧ f ≤ 255 ∧ t ≤ 255 ∧ l ≤ 65535) && fits (widthI f) l
/-- Its form. -/
def formL (f t l : Int) : List Int := [f, t] ++ putL (widthI f).toNat l

theorem putR_form (f l : Int) (h : fits (widthI f) l = true) : putR (widthI f) l = putL (widthI f).toNat l := by simp [putR, h]

/-- What 'Bytes' leaves where it succeeds. -/
def FormYes (f t l : Int) (w : World) (e : Ending) (w' : World) : Prop :=
  ∃ A c, e = .returned (.tuple #[.slice A (formL f t l).length c, .bool true]) ∧ w'.ownsRow w.heap.size 5 1 (.slice A (formL f t l).length c) (formL f t l).length (bs (formL f t l)) ∧ Kp NoB w w'

theorem own_down {w : World} {base base' n : Nat} {e : TypeId} {size : Nat} {v : Value} {xs : List Value} (h : w.ownsRow base e size v n xs) (hb : base' ≤ base) : w.ownsRow base' e size v n xs := by
  obtain ⟨h1, h2⟩ := h
  refine ⟨h1, ?_⟩
  rcases h2 with h2 | ⟨g, cap, cur, hv, hg, r⟩
  · exact .inl h2
  · exact .inr ⟨g, cap, cur, hv, Nat.le_trans hb hg, r⟩

theorem formYes_of {w w1 w2 : World} {f t l : Int} {W : Int} {A2 : Option Addr} {c2 : Nat} (hW : widthI f = W) (hf : fits W l = true) (hK : Kp NoB w w1)
    (hown : w2.ownsRow w1.heap.size 5 1 (.slice A2 (catL [[f, t], putR W l]).length c2) (catL [[f, t], putR W l]).length (bs (catL [[f, t], putR W l]))) (hK2 : Kp NoB w1 w2) (e : Ending)
    (he : e = .returned (.tuple #[.slice A2 (catL [[f, t], putR W l]).length c2, .bool true])) : FormYes f t l w e w2 := by
  have hL : catL [[f, t], putR W l] = formL f t l := by unfold formL; rw [hW]; simp [catL, putR, hf]
  rw [hL] at hown he
  exact ⟨A2, c2, he, own_down hown hK.size, hK.and hK2⟩

theorem form_sl {w1 : World} {f t : Int} {A1 : Option Addr} {c1 base : Nat} {P : List Int} (f0 : 0 ≤ f) (f1 : f ≤ 255) (t0 : 0 ≤ t) (t1 : t ≤ 255) (hP : IsB P)
    (hown : w1.ownsRow base 5 1 (.slice A1 P.length c1) P.length (bs P)) :
    Sl ByE 1 ((w1.alloc (.cells #[.int .u8 f, .int .u8 t] 5)).alloc (.cells #[.slice (some ⟨w1.heap.size, 0, none⟩) 2 2, .slice A1 P.length c1] 35)) (some ⟨w1.heap.size + 1, 0, none⟩) [[f, t], P] := by
  have h := two_strings (w1.alloc (.cells #[.int .u8 f, .int .u8 t] 5)) 35 (.slice (some ⟨w1.heap.size, 0, none⟩) 2 2) (.slice A1 P.length c1) [f, t] P ?_ ?_
  · rwa [World.size_alloc] at h
  · refine ⟨_, 2, rfl, by simp, by simp [maxLen], ?_, ?_⟩
    · exact (Arr.lit w1 5 [.int .u8 f, .int .u8 t]).alloc _
    · intro x hx; simp at hx; omega
  · obtain ⟨A, c, hv, hc, hm, harr⟩ := own_form hown
    injection hv with h1 h2 h3
    subst h1 h3
    exact ⟨_, _, rfl, hc, hm, (harr.alloc _).alloc _, hP⟩

set_option maxRecDepth 100000 in
set_option maxHeartbeats 4000000 in
theorem fbytes_good (f t l : Int) (w : World) (f0 : 0 ≤ f) (f1 : f ≤ 255) (t0 : 0 ≤ t) (t1 : t ≤ 255) (l0 : 0 ≤ l) (l1 : l ≤ 65535) (hf : fits (widthI f) l = true) :
    Calls Tryd.prog 12 #[.agg #[.int .i64 f, .int .i64 t, .int .i64 l]] w (FormYes f t l w) := by
  obtain ⟨x1, x2, x3, x4, x5, x6, x7⟩ := (Bk.fresh w 32 #[.int .i64 f, .int .i64 t, .int .i64 l]).three
  have hb := Lib.hid (Bk.fresh w 32 #[.int .i64 f, .int .i64 t, .int .i64 l])
  have hk0 := (Kp.refl NoB w).alloc (.cells #[.int .i64 f, .int .i64 t, .int .i64 l] 32)
  have HP := Lib.hid (fun k w => put_any k l w l0 (by omega))
  have hw32 : IntKind.u32.wrap l = l := IntWalk.u32_in _ (by omega)
  have hwf : IntKind.u8.wrap f = f := IntWalk.u8_in _ (by omega)
  have hwt : IntKind.u8.wrap t = t := IntWalk.u8_in _ (by omega)
  obtain ⟨W, hW⟩ : ∃ W, widthI f = W := ⟨_, rfl⟩
  have HW := Lib.hid (fun w => width_any f w)
  rw [hW] at HW hf
  go_enter Tryd.func12, Tryd.ntmps12
  go_wp2_with fail
  all_goals first | (exfalso; omega) | skip
  all_goals
    go_region_held3 (fun w' => w'.cell? ⟨w.heap.size, 0, none⟩ = some (.int .i64 f) ∧ w'.cell? ⟨w.heap.size, 1, none⟩ = some (.int .i64 t) ∧ w'.cell? ⟨w.heap.size, 2, none⟩ = some (.int .i64 l)) (go_keep)
      (first
        | (go_at_call 23; refine (HW.out _).mono ?_; rintro e w1 ⟨rfl, rfl⟩)
        | (go_at_call 22; refine (HP.out W _).mono ?_; rintro e w1 ⟨A1, c1, rfl, hown1, hK1⟩; obtain ⟨y1, y2, y3, y4, y5, y6, y7⟩ := ((hb.out.drewN 1).and hK1).three; replace hK1 := Lib.hid hK1; replace hown1 := Lib.hid hown1))
    go_wp2_with (go_at_call 24; refine (cat_any _ 2 [[f, t], putR W l] _ ?_ ?_ ?_).mono ?_; rotate_left 3; rintro e w2 ⟨A2, c2, rfl, hown2, hK2⟩)
    · go_ret2
      exact formYes_of hW hf (((hk0.drewN 1).and hK1.out).alloc _ |>.alloc _) hown2 hK2 _ rfl
    · exact form_sl f0 f1 t0 t1 (putR_isB _ _) hown1.out
    · simp
    · have := putR_length W l
      simp [catL]
      omega

end Go.Proofs.YtffdjfnipnmlcaaDoor
