/- The walk of the law FlagForms: it returns true and makes only new blocks, for every head. -/
import Derived.Test.YthdipbabfilciaaFlagReads
import Derived.Test.YthdipbabfilciaaFlagH
import Derived.Test.YthdipbabfilciaaEqual
import Derived.Test.YthdipbabfilciaaOpenHead
namespace Go.Proofs.Ythdipbabfilciaa
open Go.RowKit Go.Maps
set_option linter.unusedVariables false
set_option linter.unusedSimpArgs false

/-- Has the head a form? -/
def okI (f t l : Int) : Prop := 0 ≤ f ∧ f ≤ 255 ∧ 0 ≤ t ∧ t ≤ 255 ∧ 0 ≤ l ∧ l ≤ topI f

theorem fits_top (f l : Int) (h : 0 ≤ l) : fits (widthI f) l = decide (l ≤ topI f) := by
  unfold fits widthI topI
  cases fbit f 4 <;> simp <;> omega

theorem fbytes_no (f t l : Int) (w : World) (h : ¬ okI f t l) : Calls Try.prog 14 #[.agg #[.int .i64 f, .int .i64 t, .int .i64 l]] w (Stay (.tuple #[.slice none 0 0, .bool false]) w) := by
  have ht : topI f ≤ 65535 := by unfold topI; split <;> omega
  by_cases hb : f < 0 ∨ t < 0 ∨ l < 0 ∨ 255 < f ∨ 255 < t ∨ 65535 < l
  · exact fbytes_bad f t l w hb
  · refine fbytes_not f t l w (by omega) (by omega) (by omega) (by omega) (by omega) (by omega) ?_
    rw [fits_top f l (by omega)]
    simp only [decide_eq_false_iff_not]
    intro hl
    exact h ⟨by omega, by omega, by omega, by omega, by omega, hl⟩
theorem fbytes_yes (f t l : Int) (w : World) (h : okI f t l) : Calls Try.prog 14 #[.agg #[.int .i64 f, .int .i64 t, .int .i64 l]] w (FormYes f t l w) := by
  have ht : topI f ≤ 65535 := by unfold topI; split <;> omega
  obtain ⟨h1, h2, h3, h4, h5, h6⟩ := h
  exact fbytes_good f t l w h1 h2 h3 h4 h5 (by omega) (by rw [fits_top f l h5]; simpa using h6)
theorem rbytes_no (f t l : Int) (w : World) (h : ¬ okI f t l) : Calls Try.prog 20 #[.agg #[.int .i64 f, .int .i64 t, .int .i64 l]] w (Stay (.tuple #[.slice none 0 0, .bool false]) w) :=
  rbytes_bad f t l w (by unfold okI at h; omega)
theorem rbytes_yes (f t l : Int) (w : World) (h : okI f t l) : Calls Try.prog 20 #[.agg #[.int .i64 f, .int .i64 t, .int .i64 l]] w (FormYes f t l w) :=
  rbytes_good f t l w h.1 h.2.1 h.2.2.1 h.2.2.2.1 h.2.2.2.2.1 h.2.2.2.2.2

/-- What is read out of a form. -/
theorem form_read (f t l : Int) (h : okI f t l) : frHead (formL f t l) = .agg #[.int .i64 f, .int .i64 t, .int .i64 l] ∧ frOk (formL f t l) = true ∧ frD (formL f t l) = [] ∧ IsB (formL f t l) ∧ (formL f t l).length ≤ 4 := by
  have hw : 1 ≤ widthI f ∧ widthI f ≤ 2 := by unfold widthI; split <;> omega
  have hB : IsB (f :: t :: putL (widthI f).toNat l) := by
    intro x hx
    obtain ⟨h1, h2, h3, h4, _, _⟩ := h
    simp only [List.mem_cons] at hx
    rcases hx with rfl | rfl | hx
    · omega
    · omega
    · exact putL_isB _ _ x hx
  obtain ⟨e1, e2, e3, e4, e5, e6⟩ := fr_cons f t (putL (widthI f).toNat l) hB
  have hl : (putL (widthI f).toNat l).length = (widthI f).toNat := putL_length _ _
  have hn : numB (widthI f) (putL (widthI f).toNat l) = true := by simp only [numB, decide_eq_true_eq, hl]; omega
  have hv : numV (widthI f) (putL (widthI f).toNat l) = l := by
    rw [numV, if_pos hn, List.take_of_length_le (by omega)]
    refine big_putL _ l h.2.2.2.2.1 ?_
    have h6 := h.2.2.2.2.2
    unfold topI at h6
    unfold widthI
    cases hb : fbit f 4 <;> simp [hb] at h6 ⊢ <;> omega
  refine ⟨by simp [formL, frHead, e1, e2, e3, e4, hn, hv], by simp [formL, e3, hn], ?_, hB, by simp [formL, hl]; omega⟩
  show frD (f :: t :: putL (widthI f).toNat l) = []
  rw [e6]
  simp [numD, numN, hn, hl]

theorem fread_nil (w : World) (q r : Nat) (h : Rd w q r [] 0) : Calls Try.prog 17 #[.pointer (some ⟨r, 0, none⟩)] w (fun e w' => e = .returned (.tuple #[.agg #[.int .i64 0, .int .i64 0, .int .i64 0], .bool false]) ∧ Kp (OnB r) w w') :=
  (fread_any w q r [] 0 h).mono fun e w' ⟨he, _, hk⟩ => ⟨he, hk⟩

set_option maxRecDepth 100000 in
set_option maxHeartbeats 4000000 in
theorem forms_no (f t l : Int) (w : World) (h : ¬ okI f t l) :
    Calls Try.prog 6 #[.agg #[.int .i64 f, .int .i64 t, .int .i64 l]] w (Stay (.bool true) w) := by
  have HF := Lib.hid (fun w => fbytes_no f t l w h)
  have HR := Lib.hid (fun w => rbytes_no f t l w h)
  have HE := Lib.hid (fun w => equal_stay none none 0 0 [] [] w (Arr.nil _ _) (Arr.nil _ _) (by decide))
  have HN := Lib.hid (fun w => new_any none 0 [] w (by decide) (Arr.nil _ _) IsB.nil)
  have HA := Lib.hid alive_any
  have hb := Lib.hid (Bk.fresh w 23 #[.int .i64 f, .int .i64 t, .int .i64 l])
  obtain ⟨x1, x2, x3, x4, x5, x6, x7⟩ := hb.out.three
  have hk0 := Lib.hid ((Kp.refl NoB w).alloc (.cells #[.int .i64 f, .int .i64 t, .int .i64 l] 23))
  clear h
  go_enter Try.func6, Try.ntmps6
  go_wp2_with (first
    | (go_at_call 14; refine (HF.out _).mono ?_; rintro e w1 ⟨rfl, hK1⟩; obtain ⟨y1, y2, y3, y4, y5, y6, y7⟩ := (hb.out.and hK1).three)
    | (go_at_call 20; refine (HR.out _).mono ?_; rintro e w2 ⟨rfl, hK2⟩)
    | (go_at_call 21; refine (HE.out _).mono ?_; rintro e w3 ⟨rfl, hK3⟩)
    | (go_at_call 16; refine (HN.out _).mono ?_; rintro e w4 ⟨q, r, rfl, hr, hq, hqr, hR, hK4⟩; replace hR := Lib.hid hR)
    | (go_at_call 17; refine (fread_nil _ q r hR.out).mono ?_; rintro e w5 ⟨rfl, hK5⟩; obtain ⟨z1, z2, z3, z4, z5, z6, z7⟩ := (Bk.fresh w5 29 #[.int .i64 0, .int .i64 0, .int .i64 0]).three)
    | (go_at_call 10; refine (HA.out _).mono ?_; rintro e w6 ⟨rfl, hK6⟩))
  go_ret
  exact ⟨rfl, (((((((hk0.out.and hK1).and hK2).and hK3).and hK4).new hK5 (by have := (((hk0.out.and hK1).and hK2).and hK3).size; omega)).alloc _).and hK6)⟩

set_option maxRecDepth 100000 in
set_option maxHeartbeats 4000000 in
theorem forms_yes (f t l : Int) (w : World) (h : okI f t l) :
    Calls Try.prog 6 #[.agg #[.int .i64 f, .int .i64 t, .int .i64 l]] w (Stay (.bool true) w) := by
  have HF := Lib.hid (fun w => fbytes_yes f t l w h)
  have HR := Lib.hid (fun w => rbytes_yes f t l w h)
  obtain ⟨e1, e2, e3, e4, e5⟩ := form_read f t l h
  have HE := Lib.hid (fun A B c d w ha hb => equal_stay A B c d (formL f t l) (formL f t l) w ha hb (by omega))
  have HN := Lib.hid (fun A c w ha => new_any A c (formL f t l) w (by omega) ha e4)
  have HRd := Lib.hid (fun w q r h => fread_any w q r (formL f t l) 0 h)
  unfold FRead at HRd
  rw [e1, e2, e3] at HRd
  unfold FormYes at HF HR
  have hne : (formL f t l) ≠ [] := by simp [formL]
  obtain ⟨L, hL⟩ : ∃ L, formL f t l = L := ⟨_, rfl⟩
  rw [hL] at HF HR HE HN HRd
  simp only [decide_true] at HE
  obtain ⟨n, hn⟩ : ∃ n, L.length = n := ⟨_, rfl⟩
  rw [hn] at HF HR HE HN
  obtain ⟨P, hP⟩ : ∃ P, 0 + frN L = P := ⟨_, rfl⟩
  rw [hP] at HRd
  have HA := Lib.hid alive_any
  have hb := Lib.hid (Bk.fresh w 23 #[.int .i64 f, .int .i64 t, .int .i64 l])
  obtain ⟨x1, x2, x3, x4, x5, x6, x7⟩ := hb.out.three
  have hk0 := Lib.hid ((Kp.refl NoB w).alloc (.cells #[.int .i64 f, .int .i64 t, .int .i64 l] 23))
  clear h e1 e2 e3 e4 e5 hne hL hn hP
  go_enter Try.func6, Try.ntmps6
  go_wp2_with (first
    | (go_at_call 14; refine (HF.out _).mono ?_; rintro e w1 ⟨A1, c1, rfl, hown1, hK1⟩; obtain ⟨y1, y2, y3, y4, y5, y6, y7⟩ := (hb.out.and hK1).three; replace hown1 := Lib.hid hown1)
    | (go_at_call 20; refine (HR.out _).mono ?_; rintro e w2 ⟨A2, c2, rfl, hown2, hK2⟩; replace hown2 := Lib.hid hown2)
    | (go_at_call 21; refine (HE.out A1 A2 c1 c2 _ ((Arr.of_own hown1.out).and hK2) (Arr.of_own hown2.out)).mono ?_; rintro e w3 ⟨rfl, hK3⟩)
    | (go_at_call 16; refine (HN.out A1 c1 _ (((Arr.of_own hown1.out).and hK2).and hK3)).mono ?_; rintro e w4 ⟨q, r, rfl, hr, hq, hqr, hR, hK4⟩; replace hR := Lib.hid hR)
    | (go_at_call 17; refine (HRd.out _ q r hR.out).mono ?_; rintro e w5 ⟨rfl, hR5, hK5⟩; replace hR5 := Lib.hid hR5; obtain ⟨z1, z2, z3, z4, z5, z6, z7⟩ := (Bk.fresh w5 29 #[.int .i64 f, .int .i64 t, .int .i64 l]).three)
    | (go_at_call 10; refine (HA.out _).mono ?_; rintro e w6 ⟨rfl, hK6⟩; have hs4 := ((((hk0.out.and hK1).and hK2).and hK3)).size; have hx := ((((hb.out.and hK1).and hK2).and hK3).and hK4); obtain ⟨u1, u2, u3, u4, u5, u6, u7⟩ := ((Bk.fresh w5 29 #[.int .i64 f, .int .i64 t, .int .i64 l]).and hK6).three; have hb3 := ((((hb.out.and hK1).and hK2).and hK3)).lt; obtain ⟨v1, v2, v3, v4, v5, v6, v7⟩ := (((hx.keep hK5 (by unfold OnB; omega)).alloc (.cells #[.int .i64 f, .int .i64 t, .int .i64 l] 29)).and hK6).three; clear hs4 hx hb3)
    | (go_at_call 22; refine (left_any _ q r _ _ ((hR5.out.and ((Kp.refl NoB w5).alloc (.cells #[.int .i64 f, .int .i64 t, .int .i64 l] 29))).and hK6)).mono ?_; rintro e w7 ⟨rfl, hK7⟩))
  go_ret
  exact ⟨rfl, ((((((((hk0.out.and hK1).and hK2).and hK3).and hK4).new hK5 (by have := (((hk0.out.and hK1).and hK2).and hK3).size; omega)).alloc _).and hK6).and hK7)⟩

theorem forms_row (z : Three) (w : World) (hz : z.Wf) :
    Calls Try.prog 6 #[z.val] w (Stay (.bool true) w) := by
  by_cases h : okI z.a z.b z.c
  · exact forms_yes z.a z.b z.c w h
  · exact forms_no z.a z.b z.c w h

end Go.Proofs.Ythdipbabfilciaa
