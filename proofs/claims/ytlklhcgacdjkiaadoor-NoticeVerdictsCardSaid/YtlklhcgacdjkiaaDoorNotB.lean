/- NOTIFICATIONs: Bytes of both sides: contracts. No condition. -/
import Derived.Test.YtlklhcgacdjkiaaDoorNotA
import Derived.Test.YtlklhcgacdjkiaaDoorCat0
import Derived.IntWalk
namespace Go.Proofs.YtlklhcgacdjkiaaDoor
open Go.RowKit
set_option linter.unusedVariables false
set_option linter.unusedSimpArgs false

/-- A literal of two byte strings. -/
theorem two_strings (w : World) (T : TypeId) (v1 v2 : Value) (xs ys : List Int) (h1 : ByE (w.alloc (.cells #[v1, v2] T)) xs [v1]) (h2 : ByE (w.alloc (.cells #[v1, v2] T)) ys [v2]) :
    Sl ByE 1 (w.alloc (.cells #[v1, v2] T)) (some ⟨w.heap.size, 0, none⟩) [xs, ys] := fun _ =>
  ⟨_, rfl, fun j x hx => by
    have hj : j < 2 := by have := (List.getElem?_eq_some_iff.1 hx).1; simpa using this
    match j, hj with
    | 0, _ =>
      simp at hx; subst hx
      exact ⟨[v1], rfl, h1, fun i u hu => by
        have hi : i = 0 := by have := (List.getElem?_eq_some_iff.1 hu).1; simp at this; omega
        subst hi; simp at hu; subst hu; rw [add_none]; simp⟩
    | 1, _ =>
      simp at hx; subst hx
      exact ⟨[v2], rfl, h2, fun i u hu => by
        have hi : i = 0 := by have := (List.getElem?_eq_some_iff.1 hu).1; simp at this; omega
        subst hi; simp at hu; subst hu; rw [add_none]; simp⟩⟩

theorem own_down {w : World} {base base' n : Nat} {e : TypeId} {size : Nat} {v : Value} {xs : List Value} (h : w.ownsRow base e size v n xs) (hb : base' ≤ base) : w.ownsRow base' e size v n xs := by
  obtain ⟨h1, h2⟩ := h
  refine ⟨h1, ?_⟩
  rcases h2 with h2 | ⟨g, cap, cur, hv, hg, r⟩
  · exact .inl h2
  · exact .inr ⟨g, cap, cur, hv, Nat.le_trans hb hg, r⟩

/-- The data of a NOTIFICATION lie in memory. -/
def InD (w : World) (A : Option Addr) (d : List Int) (m : Nat) : Prop := Arr w A (bs d) ∧ IsB d ∧ d.length ≤ m ∧ m ≤ maxLen
theorem InD.and {w w' : World} {A : Option Addr} {d : List Int} {m : Nat} (h : InD w A d m) (k : Kp NoB w w') : InD w' A d m := ⟨h.1.and k, h.2⟩

/-- The form of a NOTIFICATION. -/
def formN (c s : Int) (d : List Int) : List Int := c :: s :: d
theorem formN_isB {c s : Int} {d : List Int} (h : validN c s d.length = true) (hd : IsB d) : IsB (formN c s d) := by
  simp only [validN, decide_eq_true_eq] at h
  intro x hx
  simp only [formN, List.mem_cons] at hx
  rcases hx with rfl | rfl | hx
  · omega
  · omega
  · exact hd x hx

/-- What 'Bytes' leaves where it succeeds. -/
def NForm (w : World) (F : List Int) (e : Ending) (w' : World) : Prop :=
  ∃ A c, e = .returned (.tuple #[.slice A F.length c, .bool true]) ∧ w'.ownsRow w.heap.size 5 1 (.slice A F.length c) F.length (bs F) ∧ Kp NoB w w'

theorem nform_sl {w1 : World} {c s : Int} {A : Option Addr} {d : List Int} {m : Nat} (c0 : 0 ≤ c) (c1 : c ≤ 255) (s0 : 0 ≤ s) (s1 : s ≤ 255) (hd : InD w1 A d m) :
    Sl ByE 1 ((w1.alloc (.cells #[.int .u8 c, .int .u8 s] 5)).alloc (.cells #[.slice (some ⟨w1.heap.size, 0, none⟩) 2 2, .slice A d.length m] 27)) (some ⟨w1.heap.size + 1, 0, none⟩) [[c, s], d] := by
  have h := two_strings (w1.alloc (.cells #[.int .u8 c, .int .u8 s] 5)) 27 (.slice (some ⟨w1.heap.size, 0, none⟩) 2 2) (.slice A d.length m) [c, s] d ?_ ?_
  · rwa [World.size_alloc] at h
  · refine ⟨_, 2, rfl, by simp, by simp [maxLen], ?_, ?_⟩
    · exact (Arr.lit w1 5 [.int .u8 c, .int .u8 s]).alloc _
    · intro x hx; simp at hx; omega
  · exact ⟨_, _, rfl, hd.2.2.1, hd.2.2.2, (hd.1.alloc _).alloc _, hd.2.1⟩

set_option maxRecDepth 100000 in
set_option maxHeartbeats 2000000 in
theorem nbytes_bad (c s : Int) (A : Option Addr) (n m : Nat) (w : World) (hv : validN c s n = false) :
    Calls Tryd.prog 21 #[.agg #[.int .i64 c, .int .i64 s, .slice A n m]] w (Stay (.tuple #[.slice none 0 0, .bool false]) w) := by
  have HV := Lib.hid (nvalid_any c s A n m)
  rw [hv] at HV
  clear hv
  go_enter Tryd.func21, Tryd.ntmps21
  go_wp2_with (go_at_call 16; refine (HV.out _).mono ?_; rintro e w1 ⟨rfl, hK1⟩)
  go_ret2
  exact ⟨rfl, ((Kp.refl _ _).alloc _).and hK1⟩
set_option maxRecDepth 100000 in
set_option maxHeartbeats 2000000 in
theorem rnbytes_bad (c s : Int) (A : Option Addr) (n m : Nat) (w : World) (hv : validN c s n = false) :
    Calls Tryd.prog 17 #[.agg #[.int .i64 c, .int .i64 s, .slice A n m]] w (Stay (.tuple #[.slice none 0 0, .bool false]) w) := by
  have HV := Lib.hid (rnvalid_any c s A n m)
  rw [hv] at HV
  clear hv
  go_enter Tryd.func17, Tryd.ntmps17
  go_wp2_with (go_at_call 29; refine (HV.out _).mono ?_; rintro e w1 ⟨rfl, hK1⟩)
  go_ret2
  exact ⟨rfl, ((Kp.refl _ _).alloc _).and hK1⟩

set_option maxRecDepth 100000 in
set_option maxHeartbeats 4000000 in
theorem nbytes_good (c s : Int) (A : Option Addr) (d : List Int) (m : Nat) (w : World) (hv : validN c s d.length = true) (hd : InD w A d m) :
    Calls Tryd.prog 21 #[.agg #[.int .i64 c, .int .i64 s, .slice A d.length m]] w (NForm w (formN c s d)) := by
  have HV := Lib.hid (nvalid_any c s A d.length m)
  rw [hv] at HV
  simp only [validN, decide_eq_true_eq] at hv
  obtain ⟨c0, c1, s0, s1, hn⟩ := hv
  have hwc : IntKind.u8.wrap c = c := IntWalk.u8_in _ (by omega)
  have hws : IntKind.u8.wrap s = s := IntWalk.u8_in _ (by omega)
  have hb0 := Lib.hid (Bk.fresh w 32 #[.int .i64 c, .int .i64 s, .slice A d.length m])
  have hk0 := Lib.hid ((Kp.refl NoB w).alloc (.cells #[.int .i64 c, .int .i64 s, .slice A d.length m] 32))
  have HF := Lib.hid (fun (w' : World) (k : Kp NoB w w') => nform_sl c0 c1 s0 s1 (hd.and k))
  have hL : catL [[c, s], d] = formN c s d := by simp [catL, formN]
  have hlen : (catL [[c, s], d]).length ≤ 140737488355328 := by rw [hL]; simp [formN]; omega
  have HC := Lib.hid (fun w' A' (h : Sl ByE 1 w' A' [[c, s], d]) => cat_any A' 2 [[c, s], d] w' h (by simp) hlen)
  rw [hL] at HC
  unfold NForm
  obtain ⟨F, hF⟩ : ∃ F, formN c s d = F := ⟨_, rfl⟩
  rw [hF] at HC ⊢
  clear hL hlen hF hd
  obtain ⟨n, hnn⟩ : ∃ n, d.length = n := ⟨_, rfl⟩
  simp only [hnn] at *
  go_enter Tryd.func21, Tryd.ntmps21
  go_wp2_with fail
  refine (HV.out _).mono ?_
  rintro e w1 ⟨rfl, hK1⟩
  have k1 := Lib.hid (hk0.out.and hK1)
  have b1 := Lib.hid (hb0.out.and hK1)
  clear hK1
  obtain ⟨x1, x2, x3, x4, x5, x6, x7⟩ := b1.out.three
  go_wp2_with fail
  refine (HC.out _ _ (HF.out w1 k1.out)).mono ?_
  rintro e w2 ⟨A2, c2, rfl, hown2, hK2⟩
  go_wp2_with fail
  go_ret2
  have kk := (k1.out.alloc (.cells #[.int .u8 c, .int .u8 s] 5)).alloc (.cells #[.slice (some ⟨w1.heap.size, 0, none⟩) 2 2, .slice A n m] 27)
  exact ⟨A2, c2, rfl, own_down hown2 kk.size, kk.and hK2⟩

set_option maxRecDepth 100000 in
set_option maxHeartbeats 4000000 in
theorem rnbytes_good (c s : Int) (A : Option Addr) (d : List Int) (m : Nat) (w : World) (hv : validN c s d.length = true) (hd : InD w A d m) :
    Calls Tryd.prog 17 #[.agg #[.int .i64 c, .int .i64 s, .slice A d.length m]] w (NForm w (formN c s d)) := by
  obtain ⟨i0, hi, hz0, hz1, hz2⟩ := info_parts infoU8
  have HV := Lib.hid (rnvalid_any c s A d.length m)
  rw [hv] at HV
  simp only [validN, decide_eq_true_eq] at hv
  obtain ⟨c0, c1, s0, s1, hn⟩ := hv
  have hwc : IntKind.u8.wrap c = c := IntWalk.u8_in _ (by omega)
  have hws : IntKind.u8.wrap s = s := IntWalk.u8_in _ (by omega)
  have hb0 := Lib.hid (Bk.fresh w 35 #[.int .i64 c, .int .i64 s, .slice A d.length m])
  have hk0 := Lib.hid ((Kp.refl NoB w).alloc (.cells #[.int .i64 c, .int .i64 s, .slice A d.length m] 35))
  have HL : Hid (∀ w1 : World, w.heap.size ≤ w1.heap.size → (w1.alloc (.cells #[.int .u8 c, .int .u8 s] 5)).ownsRow w.heap.size 5 1 (.slice (some ⟨w1.heap.size, 0, none⟩) 2 2) 2 [.int .u8 c, .int .u8 s]) := Lib.hid (fun w1 h => own_lit w1 w.heap.size 5 [.int .u8 c, .int .u8 s] h (by simp [maxLen]))
  have HD := Lib.hid (fun (w' : World) (k : Kp NoB w w') => hd.1.and k)
  have hE : [.int .u8 c, .int .u8 s] ++ bs d = bs (formN c s d) := by simp [formN, bs]
  have hEl : (formN c s d).length = 2 + d.length := by simp [formN]; omega
  have HB := Lib.hid (bs_one d)
  have HBL := Lib.hid (bs_length d)
  unfold NForm
  obtain ⟨F, hF⟩ : ∃ F, formN c s d = F := ⟨_, rfl⟩
  rw [hF] at hE hEl ⊢
  obtain ⟨L, hL⟩ : ∃ L, bs d = L := ⟨_, rfl⟩
  rw [hL] at HD hE HB HBL
  have HE := Lib.hid hE
  have HEL := Lib.hid hEl
  clear hF hd hE hEl hL
  obtain ⟨n, hnn⟩ : ∃ n, d.length = n := ⟨_, rfl⟩
  simp only [hnn] at *
  go_enter Tryd.func17, Tryd.ntmps17
  go_wp2_with fail
  refine (HV.out _).mono ?_
  rintro e w1 ⟨rfl, hK1⟩
  have k1 := Lib.hid (hk0.out.and hK1)
  have b1 := Lib.hid (hb0.out.and hK1)
  clear hK1
  obtain ⟨x1, x2, x3, x4, x5, x6, x7⟩ := b1.out.three
  go_wp2_with (at_builtin; refine wpList_app (k1.out.alloc (.cells #[.int .u8 c, .int .u8 s] 5)) rfl (.tmp 13) (.tmp 15) 27 rfl 5 i0 (.int .u8 0) 1 1 Tryd.underlying27 hi hz0 hz1 hz2 rfl (by decide) _ _ _ rfl (HL.out w1 k1.out.size) A n m L rfl (by rw [HBL.out, Nat.mul_one]) ((HD.out _ k1.out).alloc _) HB.out (by omega) (by decide) (2 + n) rfl ?_; intro A' c' w2 hown hk hg hat; clear hg hat)
  go_ret2
  exact ⟨A', c', by rw [HEL.out]; rfl, by rw [HEL.out, ← HE.out]; exact hown, hk⟩

end Go.Proofs.YtlklhcgacdjkiaaDoor
