/- Chapter 16's example; the walk of the law CapabilityForms: it returns true and makes only new blocks, for all capabilities. -/
import Derived.Test.YtnennkcomkenkaaCapH
import Derived.Test.YtnennkcomkenkaaOpenCap
namespace Go.Proofs.Ytnennkcomkenkaa
open Go.RowKit
set_option linter.unusedVariables false
set_option linter.unusedSimpArgs false

theorem one_cap (w : World) : CapL w [⟨2, []⟩] [.int .i64 2, .slice none 0 0] :=
  (CapL.nil w).snoc (x := ⟨2, []⟩) ⟨rfl, ⟨by decide, by decide⟩, none, 0, rfl, Nat.le_refl _, by decide, Arr.nil _ _, IsB.nil⟩

set_option maxHeartbeats 1000000 in
theorem alive_any (w : World) : Calls Try.prog 7 #[] w (Stay (.bool true) w) := by
  have HB := Lib.hid (bytes_yes (some ⟨w.heap.size, 0, none⟩) 1 [⟨2, []⟩] _ (w.alloc (.cells #[.int .i64 2, .slice none 0 0] 42)) (one_cap _) (Arr.of_bk (Bk.fresh w 42 #[.int .i64 2, .slice none 0 0]) 2) (by decide) (by decide) (by decide))
  go_enter Try.func7, Try.ntmps7
  go_wp2_with fail
  refine HB.out.mono ?_
  rintro e w1 ⟨A1, c1, rfl, hown, hK⟩
  obtain ⟨g, rfl, _, _, hc, _⟩ := own_at hown (by decide)
  have h0 := hc 0 (.int .u8 2) rfl
  have h1 := hc 1 (.int .u8 0) rfl
  clear hc
  have hl : (formC [⟨2, []⟩]).length = 2 := by decide
  simp only [hl]
  go_wp2
  go_ret
  exact ⟨rfl, ((Kp.refl _ _).alloc _).and hK⟩

/-- Few capabilities: how many, and how long their form is. -/
theorem few_len {xs : List CapI} (h : fewB xs = true) : xs.length ≤ 40 ∧ (formC xs).length ≤ 100000 := by
  simp only [fewB, Bool.and_eq_true, List.all_eq_true, decide_eq_true_eq] at h
  refine ⟨h.2, ?_⟩
  have : ∀ ys : List CapI, (∀ x ∈ ys, x.data.length ≤ 300) → (formC ys).length ≤ 302 * ys.length := by
    intro ys
    induction ys with
    | nil => intro _; exact Nat.zero_le _
    | cons y ys ih =>
      intro hy
      have h1 := ih (fun x hx => hy x (by simp [hx]))
      have h2 := hy y (by simp)
      simp only [formC, List.flatMap_cons, List.length_append, List.length_cons] at h1 ⊢
      omega
  have := this xs h.1
  omega
theorem CapL.isB {w : World} {xs : List CapI} {cs : List Value} (h : CapL w xs cs) : ∀ x ∈ xs, IsB x.data := by
  intro x hx
  obtain ⟨j, hj, rfl⟩ := List.mem_iff_getElem.1 hx
  obtain ⟨a, b, _, _, _, _, A, c, _, _, _, _, h7⟩ := h.2 j _ (List.getElem?_eq_getElem hj)
  exact h7
theorem form_isB {xs : List CapI} (hv : validB xs = true) (hb : ∀ x ∈ xs, IsB x.data) : IsB (formC xs) := by
  intro z hz
  obtain ⟨x, hx, hz⟩ := List.mem_flatMap.1 hz
  have hv' : ∀ x ∈ xs, okC x = true := by simpa [validB] using hv
  have := hv' x hx
  simp only [okC, decide_eq_true_eq] at this
  simp only [List.mem_cons] at hz
  rcases hz with rfl | rfl | hz
  · omega
  · omega
  · exact hb x hx z hz

set_option maxRecDepth 100000 in
set_option maxHeartbeats 8000000 in
theorem forms_yes (A : Option Addr) (c : Nat) (xs : List CapI) (cs : List Value) (w : World) (hx : CapL w xs cs) (ha : Arr w A cs) (hf : fewB xs = true) (hv : validB xs = true) :
    Calls Try.prog 3 #[.slice A xs.length c] w (Stay (.bool true) w) := by
  obtain ⟨hn, hfl⟩ := few_len hf
  have hfb := form_isB hv hx.isB
  have H1 := Lib.hid (fun w' (k : Kp NoB w w') => rfew_any A c xs cs w' (hx.and k) (ha.and k) (Nat.le_trans hn (by decide)))
  rw [hf] at H1
  have H2 := Lib.hid (fun w' (k : Kp NoB w w') => given_any A c xs cs w' (hx.and k) (ha.and k) (by omega))
  have H3 := Lib.hid (fun w' A' c' (k : Kp NoB w w') (h : Arr w' A' cs) => bytes_yes A' c' xs cs w' (hx.and k) h (by omega) hv (by omega))
  have H4 := Lib.hid (fun w' (k : Kp NoB w w') => rbytes_yes A c xs cs w' (hx.and k) (ha.and k) (by omega) hv (by omega))
  have H5 := Lib.hid (fun w' A' c' (k : Kp NoB w w') (h : Arr w' A' cs) => valid_any A' c' xs cs w' (hx.and k) h (by omega))
  rw [hv] at H5
  have H6 := Lib.hid (fun w' A' c' B d (h : Arr w' A' (bs (formC xs))) (k : Arr w' B (bs (formC xs))) => equal_stay A' B c' d (formC xs) (formC xs) w' h k (by omega))
  simp only [decide_true] at H6
  have H7 := Lib.hid (fun w' A' c' (h : Arr w' A' (bs (formC xs))) => read_yes A' c' (formC xs) xs w' hfl h hfb hv rfl)
  have H8 := Lib.hid (fun w' A' c' ds (h : CapL w' xs ds) (k : Arr w' A' ds) => back_any A' c' xs ds w' h k (by omega))
  have H9 := Lib.hid (fun w' A' c' ds (h : CapL w' xs ds) (k : Arr w' A' ds) (kk : Kp NoB w w') => rsame16_any A' A c' c xs xs ds cs w' h k (hx.and kk) (ha.and kk) (by omega) (by omega))
  simp only [decide_true] at H9
  have HA := Lib.hid alive_any
  obtain ⟨n, hnn⟩ : ∃ n, xs.length = n := ⟨_, rfl⟩
  simp only [hnn] at H1 H2 H3 H4 H5 H8 H9 ⊢
  obtain ⟨F, hF⟩ : ∃ F, formC xs = F := ⟨_, rfl⟩
  rw [hF] at H3 H4 H6 H7
  unfold ReadYes at H7
  unfold Formed at H3 H4
  simp only [hnn] at H7
  obtain ⟨m, hm⟩ : ∃ m, F.length = m := ⟨_, rfl⟩
  simp only [hm] at H3 H4 H6 H7
  clear hnn hF hm hx ha hf hv hn hfl hfb
  go_enter Try.func3, Try.ntmps3
  go_wp2_with fail
  refine (H1.out _ (Kp.refl _ _)).mono ?_
  rintro e w1 ⟨rfl, rfl⟩
  go_wp2_with fail
  refine (H2.out _ (Kp.refl _ _)).mono ?_
  rintro e w1 ⟨A1, c1, rfl, hown1, hK1⟩
  replace hown1 := Lib.hid hown1
  go_wp2_with fail
  refine (H3.out _ _ _ hK1 (Arr.of_own hown1.out)).mono ?_
  rintro e w2 ⟨A2, c2, rfl, hown2, hK2⟩
  replace hown2 := Lib.hid hown2
  have k2 := hK1.and hK2
  go_wp2_with fail
  refine (H4.out _ k2).mono ?_
  rintro e w3 ⟨A3, c3, rfl, hown3, hK3⟩
  replace hown3 := Lib.hid hown3
  have k3 := k2.and hK3
  go_wp2_with fail
  refine (H2.out _ k3).mono ?_
  rintro e w4 ⟨A4, c4, rfl, hown4, hK4⟩
  replace hown4 := Lib.hid hown4
  have k4 := k3.and hK4
  go_wp2_with fail
  refine (H5.out _ _ _ k4 (Arr.of_own hown4.out)).mono ?_
  rintro e w5 ⟨rfl, hK5⟩
  have k5 := k4.and hK5
  go_wp2_with fail
  refine (H6.out _ _ _ _ _ ((((Arr.of_own hown2.out).and hK3).and hK4).and hK5) (((Arr.of_own hown3.out).and hK4).and hK5)).mono ?_
  rintro e w6 ⟨rfl, hK6⟩
  have k6 := k5.and hK6
  go_wp2_with fail
  refine (H7.out _ _ _ (((((Arr.of_own hown2.out).and hK3).and hK4).and hK5).and hK6)).mono ?_
  rintro e w7 ⟨A7, c7, ds, rfl, hown7, hcap7, hK7⟩
  replace hown7 := Lib.hid hown7
  replace hcap7 := Lib.hid hcap7
  have k7 := k6.and hK7
  go_wp2_with fail
  refine (HA.out _).mono ?_
  rintro e w8 ⟨rfl, hK8⟩
  have k8 := k7.and hK8
  go_wp2_with fail
  refine (H8.out _ _ _ ds ((hcap7.out.and hK8).to) ((Arr.of_own hown7.out).and hK8)).mono ?_
  rintro e w9 ⟨A9, c9, rfl, hown9, hK9⟩
  replace hown9 := Lib.hid hown9
  have k9 := k8.and hK9
  go_wp2_with fail
  refine (H9.out _ _ _ ds (((hcap7.out.and hK8).and hK9).to) (Arr.of_own hown9.out) k9).mono ?_
  rintro e w10 ⟨rfl, hK10⟩
  go_wp2_with fail
  go_ret
  exact ⟨rfl, k9.and hK10⟩

set_option maxRecDepth 100000 in
set_option maxHeartbeats 8000000 in
theorem forms_no (A : Option Addr) (c : Nat) (xs : List CapI) (cs : List Value) (w : World) (hx : CapL w xs cs) (ha : Arr w A cs) (hf : fewB xs = true) (hv : validB xs = false) :
    Calls Try.prog 3 #[.slice A xs.length c] w (Stay (.bool true) w) := by
  obtain ⟨hn, hfl⟩ := few_len hf
  have H1 := Lib.hid (fun w' (k : Kp NoB w w') => rfew_any A c xs cs w' (hx.and k) (ha.and k) (Nat.le_trans hn (by decide)))
  rw [hf] at H1
  have H2 := Lib.hid (fun w' (k : Kp NoB w w') => given_any A c xs cs w' (hx.and k) (ha.and k) (by omega))
  have H3 := Lib.hid (fun w' A' c' (k : Kp NoB w w') (h : Arr w' A' cs) => bytes_no A' c' xs cs w' (hx.and k) h (by omega) hv)
  have H4 := Lib.hid (fun w' (k : Kp NoB w w') => rbytes_no A c xs cs w' (hx.and k) (ha.and k) (by omega) hv)
  have H5 := Lib.hid (fun w' A' c' (k : Kp NoB w w') (h : Arr w' A' cs) => valid_any A' c' xs cs w' (hx.and k) h (by omega))
  rw [hv] at H5
  have H6 := Lib.hid (fun w' => equal_stay none none 0 0 [] [] w' (Arr.nil _ _) (Arr.nil _ _) (by decide))
  simp only [decide_true] at H6
  have H7 := Lib.hid (fun w' => read_yes none 0 [] [] w' (by decide) (Arr.nil _ _) IsB.nil rfl rfl)
  have HA := Lib.hid alive_any
  obtain ⟨n, hnn⟩ : ∃ n, xs.length = n := ⟨_, rfl⟩
  simp only [hnn] at H1 H2 H3 H4 H5 ⊢
  clear hnn hx ha hf hv hn hfl
  go_enter Try.func3, Try.ntmps3
  go_wp2_with fail
  refine (H1.out _ (Kp.refl _ _)).mono ?_
  rintro e w1 ⟨rfl, rfl⟩
  go_wp2_with fail
  refine (H2.out _ (Kp.refl _ _)).mono ?_
  rintro e w1 ⟨A1, c1, rfl, hown1, hK1⟩
  replace hown1 := Lib.hid hown1
  go_wp2_with fail
  refine (H3.out _ _ _ hK1 (Arr.of_own hown1.out)).mono ?_
  rintro e w2 ⟨rfl, hK2⟩
  have k2 := hK1.and hK2
  go_wp2_with fail
  refine (H4.out _ k2).mono ?_
  rintro e w3 ⟨rfl, hK3⟩
  have k3 := k2.and hK3
  go_wp2_with fail
  refine (H2.out _ k3).mono ?_
  rintro e w4 ⟨A4, c4, rfl, hown4, hK4⟩
  replace hown4 := Lib.hid hown4
  have k4 := k3.and hK4
  go_wp2_with fail
  refine (H5.out _ _ _ k4 (Arr.of_own hown4.out)).mono ?_
  rintro e w5 ⟨rfl, hK5⟩
  have k5 := k4.and hK5
  go_wp2_with fail
  refine (H6.out _).mono ?_
  rintro e w6 ⟨rfl, hK6⟩
  have k6 := k5.and hK6
  go_wp2_with fail
  refine (H7.out _).mono ?_
  rintro e w7 ⟨A7, c7, ds, rfl, hown7, hcap7, hK7⟩
  have k7 := k6.and hK7
  clear hown7 hcap7
  go_wp2_with fail
  refine (HA.out _).mono ?_
  rintro e w8 ⟨rfl, hK8⟩
  have k8 := k7.and hK8
  go_wp2_with fail
  go_ret
  exact ⟨rfl, k8⟩

theorem forms_row (A : Option Addr) (n c : Nat) (xs : List CapI) (w : World) (h : InCaps w A n c xs) :
    Calls Try.prog 3 #[.slice A n c] w (Stay (.bool true) w) := by
  obtain ⟨rfl, hn, hc, cs, hx, ha⟩ := h
  by_cases hf : fewB xs = true
  · by_cases hv : validB xs = true
    · exact forms_yes A c xs cs w hx ha hf hv
    · exact forms_no A c xs cs w hx ha hf (by simpa using hv)
  · have H1 := Lib.hid (rfew_any A c xs cs w hx ha (Nat.le_trans hn hc))
    rw [show fewB xs = false by simpa using hf] at H1
    have HA := Lib.hid alive_any
    obtain ⟨n, hnn⟩ : ∃ n, xs.length = n := ⟨_, rfl⟩
    rw [hnn] at H1 ⊢
    clear hnn hx ha hf hn hc
    go_enter Try.func3, Try.ntmps3
    go_wp2_with fail
    refine H1.out.mono ?_
    rintro e w1 ⟨rfl, rfl⟩
    go_wp2_with fail
    refine (HA.out _).mono ?_
    rintro e w8 ⟨rfl, hK8⟩
    go_wp2_with fail
    go_ret
    exact ⟨rfl, hK8⟩

end Go.Proofs.Ytnennkcomkenkaa
