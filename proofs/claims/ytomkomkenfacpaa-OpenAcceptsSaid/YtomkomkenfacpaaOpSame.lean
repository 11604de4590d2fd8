/- The walk of the law OpenSame: it returns true and makes only new blocks, for all OPENs. -/
import Derived.Test.YtomkomkenfacpaaOpenOpen
namespace Go.Proofs.Ytomkomkenfacpaa
open Go.RowKit
set_option linter.unusedVariables false
set_option linter.unusedSimpArgs false

theorem form_inj : ∀ (xs ys : List CapI), formC xs = formC ys → xs = ys := by
  intro xs
  induction xs with
  | nil =>
    intro ys h
    cases ys with
    | nil => rfl
    | cons y ys => simp [formC] at h
  | cons x xs ih =>
    intro ys h
    cases ys with
    | nil => simp [formC] at h
    | cons y ys =>
      simp only [formC, List.flatMap_cons, List.cons_append, List.cons.injEq] at h
      obtain ⟨h1, h2, h3⟩ := h
      have hl : x.data.length = y.data.length := by omega
      obtain ⟨h4, h5⟩ := List.append_inj h3 hl
      have h6 := ih ys h5
      obtain ⟨k, d⟩ := x
      obtain ⟨k', d'⟩ := y
      simp only at h1 h4
      rw [h1, h4, h6]
theorem param_inj {F G : List Int} (h : paramL F = paramL G) : F = G := by
  unfold paramL at h
  split at h <;> split at h
  · rename_i h1 h2; rw [h1, h2]
  · simp at h
  · simp at h
  · simp only [List.cons.injEq] at h; exact h.2.2
theorem putL_inj (k : Nat) {x y : Int} (hx : 0 ≤ x) (hx' : x < 256 ^ k) (hy : 0 ≤ y) (hy' : y < 256 ^ k) (h : putL k x = putL k y) : x = y := by
  rw [← big_putL k x hx hx', ← big_putL k y hy hy', h]
theorem asL_length (s : Int) : (asL s).length = 2 := by unfold asL; split <;> exact putL_length _ _

/-- Valid OPENs have one form exactly if they are one. -/
theorem open_inj (a b : OpenI) (ha : validO a = true) (hb : validO b = true) (ba : a.B) (bb : b.B) : decide (openL a = openL b) = eqO a b := by
  rw [eqO_eq]
  rw [decide_eq_decide]
  refine ⟨fun h => ?_, fun h => by rw [h]⟩
  simp only [validO, Bool.and_eq_true, decide_eq_true_eq, timedB] at ha hb
  obtain ⟨⟨⟨⟨⟨a1, a2⟩, a3⟩, a4⟩, a5⟩, a6⟩ := ha
  obtain ⟨⟨⟨⟨⟨b1, b2⟩, b3⟩, b4⟩, b5⟩, b6⟩ := hb
  obtain ⟨⟨s0, s1⟩, ⟨h0, h1⟩, ⟨i0, i1⟩⟩ := ba
  obtain ⟨⟨s0', s1'⟩, ⟨h0', h1'⟩, ⟨i0', i1'⟩⟩ := bb
  obtain ⟨s, ho, i, c⟩ := a
  obtain ⟨s', ho', i', c'⟩ := b
  simp only at *
  simp only [openL, List.cons.injEq, true_and] at h
  obtain ⟨e1, h⟩ := List.append_inj h (by rw [asL_length, asL_length])
  obtain ⟨e2, h⟩ := List.append_inj h (by rw [putL_length, putL_length])
  obtain ⟨e3, h⟩ := List.append_inj h (by rw [putL_length, putL_length])
  simp only [List.cons.injEq] at h
  have e4 := form_inj _ _ (param_inj h.2)
  have e5 := putL_inj 2 (by omega) (by omega) (by omega) (by omega) e2
  have e6 := putL_inj 4 (by omega) (by omega) (by omega) (by omega) e3
  subst e4 e5 e6
  have e7 : s = s' := by
    split at a6
    · rename_i hs
      rw [if_pos hs] at b6
      simp only [decide_eq_true_eq] at a6 b6
      rw [← a6, ← b6]
    · rename_i hs
      rw [if_neg hs] at b6
      simp only [decide_eq_true_eq] at a6 b6
      unfold asL at e1
      rw [if_pos a6, if_pos b6] at e1
      exact putL_inj 2 (by omega) (by omega) (by omega) (by omega) e1
  rw [e7]

/-- The form, or none. -/
def openF (o : OpenI) : List Int := if validO o then openL o else []
/-- What Bytes leaves, valid or not. -/
def BytesO (o : OpenI) (w : World) (e : Ending) (w' : World) : Prop := ∃ A c, e = .returned (.tuple #[.slice A (openF o).length c, .bool (validO o)]) ∧ Arr w' A (bs (openF o)) ∧ (openF o).length ≤ c ∧ c ≤ maxLen ∧ Kp NoB w w'
theorem obytes_any (o : OpenI) (A : Option Addr) (c : Nat) (cs : List Value) (w : World) (hb : o.B) (hx : CapL w o.caps cs) (ha : Arr w A cs) (hl : o.caps.length ≤ 1000000) (hf : (formC o.caps).length ≤ 100000) :
    Calls Try.prog 11 #[o.val A c] w (BytesO o w) := by
  by_cases hv : validO o = true
  · refine (obytes_yes o A c cs w hb hx ha hl hv).mono fun e w' ⟨A2, c2, h1, h2, h3⟩ => ?_
    obtain ⟨A', c', he, h4, h5, h6⟩ := own_form h2
    injection he with e1 _ e3
    subst e1 e3
    unfold BytesO openF
    rw [if_pos hv, hv]
    exact ⟨A2, c2, h1, h6, h4, h5, h3⟩
  · have hv' : validO o = false := by simpa using hv
    refine (obytes_no o A c cs w hb hx ha hl hf hv').mono fun e w' ⟨h1, h2⟩ => ?_
    unfold BytesO openF
    rw [if_neg hv, hv']
    exact ⟨none, 0, h1, Arr.nil _ _, Nat.le_refl _, by decide, h2⟩
theorem openF_len (o : OpenI) (h : validO o = true → (formC o.caps).length ≤ 253) : (openF o).length ≤ 1000 := by
  unfold openF
  split
  · rename_i hv
    have h1 := param_len _ (h hv)
    simp only [openL, List.length_cons, List.length_append, asL_length, putL_length]
    omega
  · exact Nat.zero_le _
theorem valid_form (o : OpenI) (h : validO o = true) : (formC o.caps).length ≤ 253 := by
  simp only [validO, Bool.and_eq_true, decide_eq_true_eq] at h
  exact h.1.1.1.1.2

set_option maxRecDepth 100000 in
set_option maxHeartbeats 16000000 in
theorem same_few (a b : OpenI) (A B : Option Addr) (c d : Nat) (cs ds : List Value) (w : World) (ba : a.B) (bb : b.B) (hx : CapL w a.caps cs) (ha : Arr w A cs) (hy : CapL w b.caps ds) (hb : Arr w B ds) (hfx : fewB a.caps = true) (hfy : fewB b.caps = true) :
    Calls Try.prog 3 #[a.val A c, b.val B d] w (Stay (.bool true) w) := by
  obtain ⟨hnx, hfl⟩ := few_len hfx
  obtain ⟨hny, hfl'⟩ := few_len hfy
  have HFa := Lib.hid (fun w' (k : Kp NoB w w') => rfew_any A c a.caps cs w' (hx.and k) (ha.and k) (Nat.le_trans hnx (by decide)))
  rw [hfx] at HFa
  have HFb := Lib.hid (fun w' (k : Kp NoB w w') => rfew_any B d b.caps ds w' (hy.and k) (hb.and k) (Nat.le_trans hny (by decide)))
  rw [hfy] at HFb
  have HRS := Lib.hid (fun w' (k : Kp NoB w w') => rsame17_any a b A B c d cs ds w' (hx.and k) (ha.and k) (hy.and k) (hb.and k) (by omega) (by omega))
  have HGa := Lib.hid (fun w' (k : Kp NoB w w') => ogiven_any a A c cs w' (hx.and k) (ha.and k) (by omega))
  have HGb := Lib.hid (fun w' (k : Kp NoB w w') => ogiven_any b B d ds w' (hy.and k) (hb.and k) (by omega))
  unfold GivenO at HGa HGb
  have HSab := Lib.hid (fun w' A' B' c' d' (k : Kp NoB w w') (h : Arr w' A' cs) (h' : Arr w' B' ds) => osame_any a b A' B' c' d' cs ds w' (hx.and k) h (hy.and k) h' (by omega) (by omega))
  have HSaa := Lib.hid (fun w' A' B' c' d' (k : Kp NoB w w') (h : Arr w' A' cs) (h' : Arr w' B' cs) => osame_any a a A' B' c' d' cs cs w' (hx.and k) h (hx.and k) h' (by omega) (by omega))
  rw [show eqO a a = true by rw [eqO_eq]; simp] at HSaa
  have HBa := Lib.hid (fun w' A' c' (k : Kp NoB w w') (h : Arr w' A' cs) => obytes_any a A' c' cs w' ba (hx.and k) h (by omega) (by omega))
  have HBb := Lib.hid (fun w' A' c' (k : Kp NoB w w') (h : Arr w' A' ds) => obytes_any b A' c' ds w' bb (hy.and k) h (by omega) (by omega))
  unfold BytesO at HBa HBb
  have HA := Lib.hid alive_any
  have hla := openF_len a (valid_form a)
  have HE := Lib.hid (fun w' A' B' c' d' (h : Arr w' A' (bs (openF a))) (h' : Arr w' B' (bs (openF b))) => equal_stay A' B' c' d' (openF a) (openF b) w' h h' (by omega))
  have HQ : Hid (validO a = true → validO b = true → decide (openF a = openF b) = eqO a b) := Lib.hid (fun h1 h2 => by
    unfold openF
    rw [if_pos h1, if_pos h2]
    exact open_inj a b h1 h2 ba bb)
  have hk0 := Lib.hid (((Kp.refl NoB w).alloc (.cells #[.int .u32 a.sys, .int .i64 a.hold, .int .u32 a.id, .slice A a.caps.length c] 25)).alloc (.cells #[.int .u32 b.sys, .int .i64 b.hold, .int .u32 b.id, .slice B b.caps.length d] 25))
  have hba := Lib.hid ((Bk.fresh w 25 #[.int .u32 a.sys, .int .i64 a.hold, .int .u32 a.id, .slice A a.caps.length c]).alloc (.cells #[.int .u32 b.sys, .int .i64 b.hold, .int .u32 b.id, .slice B b.caps.length d] 25))
  have hbb := Lib.hid (Bk.second w (.cells #[.int .u32 a.sys, .int .i64 a.hold, .int .u32 a.id, .slice A a.caps.length c] 25) 25 #[.int .u32 b.sys, .int .i64 b.hold, .int .u32 b.id, .slice B b.caps.length d])
  obtain ⟨fa, hfa⟩ : ∃ f, openF a = f := ⟨_, rfl⟩
  obtain ⟨fb, hfb⟩ : ∃ f, openF b = f := ⟨_, rfl⟩
  obtain ⟨va, hva⟩ : ∃ f, validO a = f := ⟨_, rfl⟩
  obtain ⟨vb, hvb⟩ : ∃ f, validO b = f := ⟨_, rfl⟩
  obtain ⟨q, hq⟩ : ∃ f, eqO a b = f := ⟨_, rfl⟩
  obtain ⟨q', hq'⟩ : ∃ f, decide (fa = fb) = f := ⟨_, rfl⟩
  simp only [hfa, hfb, hva, hvb, hq, hq'] at HRS HSab HBa HBb HE HQ
  clear hfa hfb hva hvb hq hq' hla hx ha hy hb hfx hfy ba bb hnx hny hfl hfl'
  obtain ⟨s, h, i, xs⟩ := a
  obtain ⟨s', h', i', ys⟩ := b
  unfold OpenI.val at *
  simp only at *
  obtain ⟨n, hn⟩ : ∃ n, xs.length = n := ⟨_, rfl⟩
  obtain ⟨m, hm⟩ : ∃ n, ys.length = n := ⟨_, rfl⟩
  obtain ⟨la, hla⟩ : ∃ n, fa.length = n := ⟨_, rfl⟩
  obtain ⟨lb, hlb⟩ : ∃ n, fb.length = n := ⟨_, rfl⟩
  simp only [hn, hm, hla, hlb] at *
  clear hn hm hla hlb
  obtain ⟨x1, x2, x3, x4, x5, x6, x7, x8, x9⟩ := hba.out.four
  obtain ⟨y1, y2, y3, y4, y5, y6, y7, y8, y9⟩ := hbb.out.four
  go_enter Try.func3, Try.ntmps3
  go_wp2_with fail
  refine (HFa.out _ hk0.out).mono ?_
  rintro e w1 ⟨rfl, rfl⟩
  go_wp2_with fail
  refine (HFb.out _ hk0.out).mono ?_
  rintro e w1 ⟨rfl, rfl⟩
  go_wp2_with fail
  refine (HRS.out _ hk0.out).mono ?_
  rintro e w1 ⟨rfl, hK1⟩
  have k1 := Lib.hid (hk0.out.and hK1)
  have ba1 := Lib.hid (hba.out.and hK1)
  have bb1 := Lib.hid (hbb.out.and hK1)
  clear x1 x2 x3 x4 x5 x6 x7 x8 x9 y1 y2 y3 y4 y5 y6 y7 y8 y9 hK1
  obtain ⟨x1, x2, x3, x4, x5, x6, x7, x8, x9⟩ := ba1.out.four
  obtain ⟨y1, y2, y3, y4, y5, y6, y7, y8, y9⟩ := bb1.out.four
  go_wp2_with fail
  go_region_held3 (fun w' => w'.cell? ⟨w.heap.size, 0, none⟩ = some (.int .u32 s) ∧ w'.cell? ⟨w.heap.size, 1, none⟩ = some (.int .i64 h) ∧ w'.cell? ⟨w.heap.size, 2, none⟩ = some (.int .u32 i) ∧ w'.cell? ⟨w.heap.size, 3, none⟩ = some (.slice A n c) ∧
      w'.cell? ⟨w.heap.size + 1, 0, none⟩ = some (.int .u32 s') ∧ w'.cell? ⟨w.heap.size + 1, 1, none⟩ = some (.int .i64 h') ∧ w'.cell? ⟨w.heap.size + 1, 2, none⟩ = some (.int .u32 i') ∧ w'.cell? ⟨w.heap.size + 1, 3, none⟩ = some (.slice B m d)) (go_keep)
      (first
        | (go_at_call 9; refine (HSaa.out _ A5 A6 _ _ k6.out ((Arr.of_own hown5.out).and hK6.out) (Arr.of_own hown6.out)).mono ?_; rintro e w7 ⟨rfl, hK7⟩; have k7 := Lib.hid (k6.out.and hK7); have ba7 := Lib.hid (ba6.out.and hK7); have bb7 := Lib.hid (bb6.out.and hK7); replace hK7 := Lib.hid hK7; clear x1 x2 x3 x4 x5 x6 x7 x8 x9 y1 y2 y3 y4 y5 y6 y7 y8 y9; obtain ⟨x1, x2, x3, x4, x5, x6, x7, x8, x9⟩ := ba7.out.four; obtain ⟨y1, y2, y3, y4, y5, y6, y7, y8, y9⟩ := bb7.out.four)
        | (go_at_call 10; refine (HGa.out _ k5.out).mono ?_; rintro e w6 ⟨A6, c6, rfl, hown6, hK6⟩; have k6 := Lib.hid (k5.out.and hK6); have ba6 := Lib.hid (ba5.out.and hK6); have bb6 := Lib.hid (bb5.out.and hK6); replace hK6 := Lib.hid hK6; replace hown6 := Lib.hid hown6; clear x1 x2 x3 x4 x5 x6 x7 x8 x9 y1 y2 y3 y4 y5 y6 y7 y8 y9; obtain ⟨x1, x2, x3, x4, x5, x6, x7, x8, x9⟩ := ba6.out.four; obtain ⟨y1, y2, y3, y4, y5, y6, y7, y8, y9⟩ := bb6.out.four)
        | (go_at_call 10; refine (HGa.out _ k4.out).mono ?_; rintro e w5 ⟨A5, c5, rfl, hown5, hK5⟩; have k5 := Lib.hid (k4.out.and hK5); have ba5 := Lib.hid (ba4.out.and hK5); have bb5 := Lib.hid (bb4.out.and hK5); replace hK5 := Lib.hid hK5; replace hown5 := Lib.hid hown5; clear x1 x2 x3 x4 x5 x6 x7 x8 x9 y1 y2 y3 y4 y5 y6 y7 y8 y9; obtain ⟨x1, x2, x3, x4, x5, x6, x7, x8, x9⟩ := ba5.out.four; obtain ⟨y1, y2, y3, y4, y5, y6, y7, y8, y9⟩ := bb5.out.four)
        | (go_at_call 9; refine (HSab.out _ A2 A3 _ _ k3.out ((Arr.of_own hown2.out).and hK3.out) (Arr.of_own hown3.out)).mono ?_; rintro e w4 ⟨rfl, hK4⟩; have k4 := Lib.hid (k3.out.and hK4); have ba4 := Lib.hid (ba3.out.and hK4); have bb4 := Lib.hid (bb3.out.and hK4); replace hK4 := Lib.hid hK4; clear x1 x2 x3 x4 x5 x6 x7 x8 x9 y1 y2 y3 y4 y5 y6 y7 y8 y9; obtain ⟨x1, x2, x3, x4, x5, x6, x7, x8, x9⟩ := ba4.out.four; obtain ⟨y1, y2, y3, y4, y5, y6, y7, y8, y9⟩ := bb4.out.four)
        | (go_at_call 10; refine (HGb.out _ k2.out).mono ?_; rintro e w3 ⟨A3, c3, rfl, hown3, hK3⟩; have k3 := Lib.hid (k2.out.and hK3); have ba3 := Lib.hid (ba2.out.and hK3); have bb3 := Lib.hid (bb2.out.and hK3); replace hK3 := Lib.hid hK3; replace hown3 := Lib.hid hown3; clear x1 x2 x3 x4 x5 x6 x7 x8 x9 y1 y2 y3 y4 y5 y6 y7 y8 y9; obtain ⟨x1, x2, x3, x4, x5, x6, x7, x8, x9⟩ := ba3.out.four; obtain ⟨y1, y2, y3, y4, y5, y6, y7, y8, y9⟩ := bb3.out.four)
        | (go_at_call 10; refine (HGa.out _ k1.out.drew).mono ?_; rintro e w2 ⟨A2, c2, rfl, hown2, hK2⟩; have k2 := Lib.hid (k1.out.drew.and hK2); have ba2 := Lib.hid ((ba1.out.drewN 1).and hK2); have bb2 := Lib.hid ((bb1.out.drewN 1).and hK2); replace hK2 := Lib.hid hK2; replace hown2 := Lib.hid hown2; clear x1 x2 x3 x4 x5 x6 x7 x8 x9 y1 y2 y3 y4 y5 y6 y7 y8 y9; obtain ⟨x1, x2, x3, x4, x5, x6, x7, x8, x9⟩ := ba2.out.four; obtain ⟨y1, y2, y3, y4, y5, y6, y7, y8, y9⟩ := bb2.out.four))
  go_wp2_with fail
  refine (HGa.out _ k7.out).mono ?_
  rintro e w8 ⟨A8, c8, rfl, hown8, hK8⟩
  have k8 := Lib.hid (k7.out.and hK8)
  have ba8 := Lib.hid (ba7.out.and hK8)
  have bb8 := Lib.hid (bb7.out.and hK8)
  replace hK8 := Lib.hid hK8
  replace hown8 := Lib.hid hown8
  clear x1 x2 x3 x4 x5 x6 x7 x8 x9 y1 y2 y3 y4 y5 y6 y7 y8 y9
  obtain ⟨x1, x2, x3, x4, x5, x6, x7, x8, x9⟩ := ba8.out.four
  obtain ⟨y1, y2, y3, y4, y5, y6, y7, y8, y9⟩ := bb8.out.four
  go_wp2_with fail
  refine (HBa.out _ _ _ k8.out (Arr.of_own hown8.out)).mono ?_
  rintro e w9 ⟨A9, c9, rfl, harr9, -, -, hK9⟩
  have k9 := Lib.hid (k8.out.and hK9)
  have ba9 := Lib.hid (ba8.out.and hK9)
  have bb9 := Lib.hid (bb8.out.and hK9)
  replace hK9 := Lib.hid hK9
  replace harr9 := Lib.hid harr9
  clear x1 x2 x3 x4 x5 x6 x7 x8 x9 y1 y2 y3 y4 y5 y6 y7 y8 y9
  obtain ⟨x1, x2, x3, x4, x5, x6, x7, x8, x9⟩ := ba9.out.four
  obtain ⟨y1, y2, y3, y4, y5, y6, y7, y8, y9⟩ := bb9.out.four
  go_wp2_with fail
  refine (HGb.out _ k9.out).mono ?_
  rintro e w10 ⟨A10, c10, rfl, hown10, hK10⟩
  have k10 := Lib.hid (k9.out.and hK10)
  have ba10 := Lib.hid (ba9.out.and hK10)
  have bb10 := Lib.hid (bb9.out.and hK10)
  replace hK10 := Lib.hid hK10
  replace hown10 := Lib.hid hown10
  clear x1 x2 x3 x4 x5 x6 x7 x8 x9 y1 y2 y3 y4 y5 y6 y7 y8 y9
  obtain ⟨x1, x2, x3, x4, x5, x6, x7, x8, x9⟩ := ba10.out.four
  obtain ⟨y1, y2, y3, y4, y5, y6, y7, y8, y9⟩ := bb10.out.four
  go_wp2_with fail
  refine (HBb.out _ _ _ k10.out (Arr.of_own hown10.out)).mono ?_
  rintro e w11 ⟨A11, c11, rfl, harr11, -, -, hK11⟩
  have k11 := Lib.hid (k10.out.and hK11)
  have ba11 := Lib.hid (ba10.out.and hK11)
  have bb11 := Lib.hid (bb10.out.and hK11)
  replace hK11 := Lib.hid hK11
  replace harr11 := Lib.hid harr11
  clear x1 x2 x3 x4 x5 x6 x7 x8 x9 y1 y2 y3 y4 y5 y6 y7 y8 y9
  obtain ⟨x1, x2, x3, x4, x5, x6, x7, x8, x9⟩ := ba11.out.four
  obtain ⟨y1, y2, y3, y4, y5, y6, y7, y8, y9⟩ := bb11.out.four
  go_wp2_with fail
  refine (HA.out _).mono ?_
  rintro e w12 ⟨rfl, hK12⟩
  have k12 := Lib.hid (k11.out.and hK12)
  have ba12 := Lib.hid (ba11.out.and hK12)
  have bb12 := Lib.hid (bb11.out.and hK12)
  replace hK12 := Lib.hid hK12
  clear x1 x2 x3 x4 x5 x6 x7 x8 x9 y1 y2 y3 y4 y5 y6 y7 y8 y9
  obtain ⟨x1, x2, x3, x4, x5, x6, x7, x8, x9⟩ := ba12.out.four
  obtain ⟨y1, y2, y3, y4, y5, y6, y7, y8, y9⟩ := bb12.out.four
  cases va
  · go_wp2_with fail
    go_ret
    exact ⟨rfl, k12.out⟩
  · cases vb
    · go_wp2_with fail
      go_ret
      exact ⟨rfl, k12.out⟩
    · have hq := HQ.out rfl rfl
      subst hq
      go_wp2_with fail
      refine (HE.out _ A9 A11 _ _ (((harr9.out.and hK10.out).and hK11.out).and hK12.out) (harr11.out.and hK12.out)).mono ?_
      rintro e w13 ⟨rfl, hK13⟩
      go_wp2_with fail
      go_ret
      exact ⟨by cases q' <;> rfl, k12.out.and hK13⟩

set_option maxRecDepth 100000 in
set_option maxHeartbeats 4000000 in
theorem same_row (x y : ArgO) (w : World) (h : InOpen w x) (h' : InOpen w y) :
    Calls Try.prog 3 #[x.val, y.val] w (Stay (.bool true) w) := by
  obtain ⟨a, A, c⟩ := x
  obtain ⟨b, B, d⟩ := y
  obtain ⟨ba, hn, hc, cs, hx, ha⟩ := h
  obtain ⟨bb, hm, hd, ds, hy, hb⟩ := h'
  simp only at *
  unfold ArgO.val
  simp only
  by_cases hfx : fewB a.caps = true
  · by_cases hfy : fewB b.caps = true
    · exact same_few a b A B c d cs ds w ba bb hx ha hy hb hfx hfy
    · have hk0 := ((Kp.refl NoB w).alloc (.cells #[.int .u32 a.sys, .int .i64 a.hold, .int .u32 a.id, .slice A a.caps.length c] 25)).alloc (.cells #[.int .u32 b.sys, .int .i64 b.hold, .int .u32 b.id, .slice B b.caps.length d] 25)
      have H1 := Lib.hid (rfew_any A c a.caps cs _ (hx.and hk0) (ha.and hk0) (Nat.le_trans hn hc))
      rw [hfx] at H1
      have H2 := Lib.hid (rfew_any B d b.caps ds _ (hy.and hk0) (hb.and hk0) (Nat.le_trans hm hd))
      rw [show fewB b.caps = false by simpa using hfy] at H2
      have HA := Lib.hid alive_any
      have hk0 := Lib.hid hk0
      obtain ⟨x1, x2, x3, x4, x5, x6, x7, x8, x9⟩ := ((Bk.fresh w 25 #[.int .u32 a.sys, .int .i64 a.hold, .int .u32 a.id, .slice A a.caps.length c]).alloc (.cells #[.int .u32 b.sys, .int .i64 b.hold, .int .u32 b.id, .slice B b.caps.length d] 25)).four
      obtain ⟨y1, y2, y3, y4, y5, y6, y7, y8, y9⟩ := (Bk.second w (.cells #[.int .u32 a.sys, .int .i64 a.hold, .int .u32 a.id, .slice A a.caps.length c] 25) 25 #[.int .u32 b.sys, .int .i64 b.hold, .int .u32 b.id, .slice B b.caps.length d]).four
      obtain ⟨s, h, i, xs⟩ := a
      obtain ⟨s', h', i', ys⟩ := b
      unfold OpenI.val
      simp only at *
      obtain ⟨n, hnn⟩ : ∃ n, xs.length = n := ⟨_, rfl⟩
      obtain ⟨m, hmm⟩ : ∃ n, ys.length = n := ⟨_, rfl⟩
      simp only [hnn, hmm] at *
      clear hnn hmm hx ha hy hb hfx hfy hn hc hm hd ba bb
      go_enter Try.func3, Try.ntmps3
      go_wp2_with fail
      refine H1.out.mono ?_
      rintro e w1 ⟨rfl, rfl⟩
      go_wp2_with fail
      refine H2.out.mono ?_
      rintro e w1 ⟨rfl, rfl⟩
      go_wp2_with fail
      refine (HA.out _).mono ?_
      rintro e w8 ⟨rfl, hK8⟩
      go_wp2_with fail
      go_ret
      exact ⟨rfl, hk0.out.and hK8⟩
  · have hk0 := ((Kp.refl NoB w).alloc (.cells #[.int .u32 a.sys, .int .i64 a.hold, .int .u32 a.id, .slice A a.caps.length c] 25)).alloc (.cells #[.int .u32 b.sys, .int .i64 b.hold, .int .u32 b.id, .slice B b.caps.length d] 25)
    have H1 := Lib.hid (rfew_any A c a.caps cs _ (hx.and hk0) (ha.and hk0) (Nat.le_trans hn hc))
    rw [show fewB a.caps = false by simpa using hfx] at H1
    have HA := Lib.hid alive_any
    have hk0 := Lib.hid hk0
    obtain ⟨x1, x2, x3, x4, x5, x6, x7, x8, x9⟩ := ((Bk.fresh w 25 #[.int .u32 a.sys, .int .i64 a.hold, .int .u32 a.id, .slice A a.caps.length c]).alloc (.cells #[.int .u32 b.sys, .int .i64 b.hold, .int .u32 b.id, .slice B b.caps.length d] 25)).four
    obtain ⟨s, h, i, xs⟩ := a
    obtain ⟨s', h', i', ys⟩ := b
    unfold OpenI.val
    simp only at *
    obtain ⟨n, hnn⟩ : ∃ n, xs.length = n := ⟨_, rfl⟩
    obtain ⟨m, hmm⟩ : ∃ n, ys.length = n := ⟨_, rfl⟩
    simp only [hnn, hmm] at *
    clear hnn hmm hx ha hy hb hfx hn hc hm hd ba bb
    go_enter Try.func3, Try.ntmps3
    go_wp2_with fail
    refine H1.out.mono ?_
    rintro e w1 ⟨rfl, rfl⟩
    go_wp2_with fail
    refine (HA.out _).mono ?_
    rintro e w8 ⟨rfl, hK8⟩
    go_wp2_with fail
    go_ret
    exact ⟨rfl, hk0.out.and hK8⟩

end Go.Proofs.Ytomkomkenfacpaa
