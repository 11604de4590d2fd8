/- The walk of the law OpenParses: it returns true and makes only new blocks, for all bytes. -/
import Derived.Test.YtomkomkenfacpaaRParB
import Derived.Test.YtomkomkenfacpaaOpE
import Derived.Test.YtomkomkenfacpaaOpSame
namespace Go.Proofs.Ytomkomkenfacpaa
open Go.RowKit
set_option linter.unusedVariables false
set_option linter.unusedSimpArgs false

/-- The data of a verdict of the parser. -/
def DataOk (st : PSt) : Prop := ∀ s a d, st.bad = some (s, a, d) → d = [] ∨ d = [0, 4]
theorem DataOk.of {st st' : PSt} (h : DataOk st) {c : Prop} [Decidable c] {s a : Int} {d : List Int} (hd : d = [] ∨ d = [0, 4]) (hb : st'.bad = if c then some (s, a, d) else st.bad) : DataOk st' := fun s' a' d' h' => by
  rw [hb] at h'
  split at h'
  · injection h' with h'
    injection h' with _ h'
    injection h' with _ h'
    rw [← h']
    exact hd
  · exact h _ _ _ h'
theorem DataOk.of' {st st' : PSt} (h : DataOk st) {c : Prop} [Decidable c] {s a : Int} {d : List Int} (hd : d = [] ∨ d = [0, 4]) (hb : st'.bad = if c then st.bad else some (s, a, d)) : DataOk st' := fun s' a' d' h' => by
  rw [hb] at h'
  split at h'
  · exact h _ _ _ h'
  · injection h' with h'
    injection h' with _ h'
    injection h' with _ h'
    rw [← h']
    exact hd
theorem dataOk_param {st : PSt} (h : DataOk st) : DataOk (stParam st) := by
  match hy : st.ys with
  | [] =>
    have e : stParam st = st := by unfold stParam; rw [hy]
    rw [e]; exact h
  | [k] =>
    intro s a d h'
    unfold stParam at h'
    rw [hy] at h'
    simp only [Option.some.injEq, Prod.mk.injEq] at h'
    exact .inl h'.2.2.symm
  | k :: n :: rest =>
    intro s a d h'
    unfold stParam at h'
    rw [hy] at h'
    simp only at h'
    split at h'
    · simp only [Option.some.injEq, Prod.mk.injEq] at h'
      exact .inl h'.2.2.symm
    · simp only at h'
      split at h'
      · simp only [Option.some.injEq, Prod.mk.injEq] at h'
        exact .inl h'.2.2.symm
      · split at h'
        · simp only [Option.some.injEq, Prod.mk.injEq] at h'
          exact .inl h'.2.2.symm
        · exact h _ _ _ h'
theorem dataOk_iter : ∀ (f : Nat) (st : PSt), DataOk st → DataOk (iterP f st) := by
  intro f
  induction f with
  | zero => exact fun st h => h
  | succ f ih =>
    intro st h
    by_cases hc : st.ys = [] ∨ st.bad.isSome = true
    · rw [iterP_end _ _ hc]; exact h
    · have e : iterP (f + 1) st = iterP f (stParam st) := if_neg hc
      rw [e]
      exact ih _ (dataOk_param h)
theorem dataOk_nx {st : PSt} {f : PSt → PSt} (h : DataOk st) (hf : DataOk st → DataOk (f st)) : DataOk (nx f st) := by
  unfold nx
  split
  · exact h
  · exact hf h
theorem dataOk_step (k : Nat) (st : PSt) (h : DataOk st) : DataOk (stepF k st) := by
  match k with
  | 0 => exact h.of' (.inr rfl) rfl
  | 1 => exact h.of (.inl rfl) rfl
  | 2 => exact h.of' (.inl rfl) rfl
  | 3 => exact h.of (.inl rfl) rfl
  | 4 => exact h.of' (.inl rfl) rfl
  | 5 => exact dataOk_iter _ _ h
  | _ + 6 => exact h.of (.inl rfl) rfl
theorem dataOk_at (b : List Int) : ∀ k, DataOk (stAt b k)
  | 0 => fun s a d h => by
    have h' : (stBegin b).bad = some (s, a, d) := h
    unfold stBegin at h'
    simp only at h'
    split at h'
    · simp only [Option.some.injEq, Prod.mk.injEq] at h'
      exact .inl h'.2.2.symm
    · cases h'
  | k + 1 => dataOk_nx (dataOk_at b k) (dataOk_step k _)
theorem data_isB (b : List Int) : IsB (vOf (stAt b 7).bad).data := by
  cases h : (stAt b 7).bad with
  | none => exact IsB.nil
  | some v =>
    obtain ⟨s, a, d⟩ := v
    rcases dataOk_at b 7 s a d h with e | e
    · show IsB d
      rw [e]; exact IsB.nil
    · show IsB d
      rw [e]
      intro z hz
      simp at hz
      omega
theorem caps_fin (b : List Int) (hb : b.length ≤ 100000) : (parsedO (stAt b 7)).caps.length ≤ 100000 := by
  unfold parsedO
  split
  · exact Nat.zero_le _
  · rename_i h
    have h7 : (stAt b 7).bad = none := by
      cases h' : (stAt b 7).bad with
      | none => rfl
      | some v => rw [h'] at h; exact absurd rfl h
    have h7' : (nx stNamed (stAt b 6)).bad = none := h7
    cases h6 : (stAt b 6).bad with
    | some v => rw [nx_some h6, h6] at h7'; cases h7'
    | none =>
      have e : stAt b 7 = stNamed (stAt b 6) := nx_none h6
      rw [e]
      exact caps6 b hb h6

set_option maxRecDepth 100000 in
set_option maxHeartbeats 16000000 in
theorem parses_few (A0 : Option Addr) (c0 : Nat) (b : List Int) (w : World) (ha : Arr w A0 (bs b)) (hb : IsB b) (hc : b.length ≤ c0) (hcm : c0 ≤ maxLen) (hn : b.length ≤ 600) :
    Calls Try.prog 4 #[.slice A0 b.length c0] w (Stay (.bool true) w) := by
  have H1 := Lib.hid (parse_any A0 c0 b w ha hb (by omega))
  have H2 := Lib.hid (fun w' (k : Kp NoB w w') => rparse_any A0 c0 b w' (ha.and k) hb hc hcm (by omega))
  have HDB := Lib.hid (data_isB b)
  have HCF := Lib.hid (caps_fin b (by omega))
  have HA := Lib.hid alive_any
  unfold Parsed at H1 H2
  obtain ⟨o, ho⟩ : ∃ o, parsedO (stAt b 7) = o := ⟨_, rfl⟩
  obtain ⟨v, hv⟩ : ∃ v, vOf (stAt b 7).bad = v := ⟨_, rfl⟩
  simp only [ho, hv] at H1 H2 HDB HCF
  clear ho hv ha hb hc hcm
  have hq : eqO o o = true := by rw [eqO_eq]; simp
  have HBK := Lib.hid (fun A c cs w' (hx : CapL w' o.caps cs) (ha : Arr w' A cs) => oback_any o A c cs w' hx ha (by have := HCF.out; omega))
  have HSM := Lib.hid (fun A B c d cs ds w' (hx : CapL w' o.caps cs) (ha : Arr w' A cs) (hy : CapL w' o.caps ds) (hb : Arr w' B ds) => rsame17_any o o A B c d cs ds w' hx ha hy hb (by have := HCF.out; omega) (by have := HCF.out; omega))
  rw [hq] at HSM
  have HVS := Lib.hid (fun dA eA dc ec w' (h1 : Arr w' dA (bs v.data)) (h2 : Arr w' eA (bs v.data)) => vsame_any v.kind v.code v.sub v.at_ v.data dA eA dc ec w' h1 h2 HDB.out)
  unfold GivenO at HBK
  obtain ⟨n, hnn⟩ : ∃ n, b.length = n := ⟨_, rfl⟩
  rw [hnn] at H1 H2 hn ⊢
  obtain ⟨s, h, i, xs⟩ := o
  obtain ⟨vk, vc, vs, vd, va⟩ := v
  unfold OpenI.val VerdI.val at *
  simp only at *
  obtain ⟨l, hl⟩ : ∃ n, xs.length = n := ⟨_, rfl⟩
  obtain ⟨dl, hdl⟩ : ∃ n, vd.length = n := ⟨_, rfl⟩
  simp only [hl, hdl] at *
  clear hnn hl hdl hq
  go_enter Try.func4, Try.ntmps4
  go_wp2_with fail
  refine H1.out.mono ?_
  rintro e w1 ⟨A1, c1, cs1, dA1, dc1, rfl, hx1, ha1, hd1, hK1⟩
  have KA := Lib.hid ((hK1.alloc (.cells #[.int .u32 s, .int .i64 h, .int .u32 i, .slice A1 l c1] 32)).alloc (.cells #[.int .i64 vk, .int .i64 vc, .int .i64 vs, .slice dA1 dl dc1, .int .i64 va] 39))
  have hb3 := (Bk.fresh w1 32 #[.int .u32 s, .int .i64 h, .int .u32 i, .slice A1 l c1]).alloc (.cells #[.int .i64 vk, .int .i64 vc, .int .i64 vs, .slice dA1 dl dc1, .int .i64 va] 39)
  have hb4 := Bk.second w1 (.cells #[.int .u32 s, .int .i64 h, .int .u32 i, .slice A1 l c1] 32) 39 #[.int .i64 vk, .int .i64 vc, .int .i64 vs, .slice dA1 dl dc1, .int .i64 va]
  have hka : Kp NoB w1 ((w1.alloc (.cells #[.int .u32 s, .int .i64 h, .int .u32 i, .slice A1 l c1] 32)).alloc (.cells #[.int .i64 vk, .int .i64 vc, .int .i64 vs, .slice dA1 dl dc1, .int .i64 va] 39)) := ((Kp.refl _ _).alloc _).alloc _
  have HX1 := Lib.hid (hx1.and hka)
  have HR1 := Lib.hid (ha1.and hka)
  have HD1 := Lib.hid (hd1.and hka)
  have HB3 := Lib.hid hb3
  have HB4 := Lib.hid hb4
  clear hK1 hx1 ha1 hd1 hb3 hb4 hka
  go_wp2_with fail
  refine (H2.out _ KA.out).mono ?_
  rintro e w2 ⟨A2, c2, cs2, dA2, dc2, rfl, hx2, ha2, hd2, hK2⟩
  have hkb : Kp NoB w2 ((w2.alloc (.cells #[.int .u32 s, .int .i64 h, .int .u32 i, .slice A2 l c2] 25)).alloc (.cells #[.int .i64 vk, .int .i64 vc, .int .i64 vs, .slice dA2 dl dc2, .int .i64 va] 39)) := ((Kp.refl _ _).alloc _).alloc _
  have hb5 := (Bk.fresh w2 25 #[.int .u32 s, .int .i64 h, .int .u32 i, .slice A2 l c2]).alloc (.cells #[.int .i64 vk, .int .i64 vc, .int .i64 vs, .slice dA2 dl dc2, .int .i64 va] 39)
  have hb6 := Bk.second w2 (.cells #[.int .u32 s, .int .i64 h, .int .u32 i, .slice A2 l c2] 25) 39 #[.int .i64 vk, .int .i64 vc, .int .i64 vs, .slice dA2 dl dc2, .int .i64 va]
  obtain ⟨wb, hwb⟩ : ∃ wb, (w2.alloc (.cells #[.int .u32 s, .int .i64 h, .int .u32 i, .slice A2 l c2] 25)).alloc (.cells #[.int .i64 vk, .int .i64 vc, .int .i64 vs, .slice dA2 dl dc2, .int .i64 va] 39) = wb := ⟨_, rfl⟩
  rw [hwb] at hkb hb5 hb6
  have hk2b := hK2.and hkb
  have KB := Lib.hid (KA.out.and hk2b)
  have HX1' := Lib.hid (HX1.out.and hk2b)
  have HR1' := Lib.hid (HR1.out.and hk2b)
  have HD1' := Lib.hid (HD1.out.and hk2b)
  have HX2 := Lib.hid (hx2.and hkb)
  have HR2 := Lib.hid (ha2.and hkb)
  have HD2 := Lib.hid (hd2.and hkb)
  obtain ⟨p3, hp3⟩ : ∃ p, w1.heap.size = p := ⟨_, rfl⟩
  obtain ⟨p5, hp5⟩ : ∃ p, w2.heap.size = p := ⟨_, rfl⟩
  rw [hp3] at HB3 HB4
  rw [hp5] at hb5 hb6
  have HC : Hid (∀ w', Kp NoB wb w' → (w'.cell? ⟨p3, 0, none⟩ = some (.int .u32 s) ∧ w'.cell? ⟨p3, 1, none⟩ = some (.int .i64 h) ∧ w'.cell? ⟨p3, 2, none⟩ = some (.int .u32 i) ∧ w'.cell? ⟨p3, 3, none⟩ = some (.slice A1 l c1)) ∧
      (w'.cell? ⟨p3 + 1, 0, none⟩ = some (.int .i64 vk) ∧ w'.cell? ⟨p3 + 1, 1, none⟩ = some (.int .i64 vc) ∧ w'.cell? ⟨p3 + 1, 2, none⟩ = some (.int .i64 vs) ∧ w'.cell? ⟨p3 + 1, 3, none⟩ = some (.slice dA1 dl dc1) ∧ w'.cell? ⟨p3 + 1, 4, none⟩ = some (.int .i64 va)) ∧
      (w'.cell? ⟨p5, 0, none⟩ = some (.int .u32 s) ∧ w'.cell? ⟨p5, 1, none⟩ = some (.int .i64 h) ∧ w'.cell? ⟨p5, 2, none⟩ = some (.int .u32 i) ∧ w'.cell? ⟨p5, 3, none⟩ = some (.slice A2 l c2)) ∧
      (w'.cell? ⟨p5 + 1, 0, none⟩ = some (.int .i64 vk) ∧ w'.cell? ⟨p5 + 1, 1, none⟩ = some (.int .i64 vc) ∧ w'.cell? ⟨p5 + 1, 2, none⟩ = some (.int .i64 vs) ∧ w'.cell? ⟨p5 + 1, 3, none⟩ = some (.slice dA2 dl dc2) ∧ w'.cell? ⟨p5 + 1, 4, none⟩ = some (.int .i64 va))) := Lib.hid (fun w' k => by
    have q3 := (HB3.out.and hk2b).and k
    have q4 := (HB4.out.and hk2b).and k
    have q5 := hb5.and k
    have q6 := hb6.and k
    exact ⟨⟨q3.cell 0, q3.cell 1, q3.cell 2, q3.cell 3⟩, ⟨q4.cell 0, q4.cell 1, q4.cell 2, q4.cell 3, q4.cell 4⟩, ⟨q5.cell 0, q5.cell 1, q5.cell 2, q5.cell 3⟩, ⟨q6.cell 0, q6.cell 1, q6.cell 2, q6.cell 3, q6.cell 4⟩⟩)
  have HWB := Lib.hid hwb
  clear hK2 hx2 ha2 hd2 hkb hb5 hb6 hk2b hwb
  go_upto_region 5 with fail
  rw [HWB.out]
  obtain ⟨⟨x1, x2, x3, x4⟩, ⟨x5, x6, x7, x8, x9⟩, ⟨y1, y2, y3, y4⟩, ⟨y5, y6, y7, y8, y9⟩⟩ := HC.out wb (Kp.refl _ _)
  go_region_held3 (fun w' => w'.cell? ⟨p3, 0, none⟩ = some (.int .u32 s) ∧ w'.cell? ⟨p3, 1, none⟩ = some (.int .i64 h) ∧ w'.cell? ⟨p3, 2, none⟩ = some (.int .u32 i) ∧ w'.cell? ⟨p3, 3, none⟩ = some (.slice A1 l c1) ∧
      w'.cell? ⟨p3 + 1, 0, none⟩ = some (.int .i64 vk) ∧ w'.cell? ⟨p3 + 1, 1, none⟩ = some (.int .i64 vc) ∧ w'.cell? ⟨p3 + 1, 2, none⟩ = some (.int .i64 vs) ∧ w'.cell? ⟨p3 + 1, 3, none⟩ = some (.slice dA1 dl dc1) ∧ w'.cell? ⟨p3 + 1, 4, none⟩ = some (.int .i64 va) ∧
      w'.cell? ⟨p5, 0, none⟩ = some (.int .u32 s) ∧ w'.cell? ⟨p5, 1, none⟩ = some (.int .i64 h) ∧ w'.cell? ⟨p5, 2, none⟩ = some (.int .u32 i) ∧ w'.cell? ⟨p5, 3, none⟩ = some (.slice A2 l c2) ∧
      w'.cell? ⟨p5 + 1, 0, none⟩ = some (.int .i64 vk) ∧ w'.cell? ⟨p5 + 1, 1, none⟩ = some (.int .i64 vc) ∧ w'.cell? ⟨p5 + 1, 2, none⟩ = some (.int .i64 vs) ∧ w'.cell? ⟨p5 + 1, 3, none⟩ = some (.slice dA2 dl dc2) ∧ w'.cell? ⟨p5 + 1, 4, none⟩ = some (.int .i64 va)) (go_keep)
      (first
        | (go_at_call 8; refine (HSM.out A7 A2 _ _ cs1 cs2 _ (HX7.out) (HR7.out) (HX2.out.and k7.out) (HR2.out.and k7.out)).mono ?_; rintro e w8 ⟨rfl, hK8⟩; have k8 := Lib.hid (k7.out.and hK8); clear hK8; clear x1 x2 x3 x4 x5 x6 x7 x8 x9 y1 y2 y3 y4 y5 y6 y7 y8 y9; obtain ⟨⟨x1, x2, x3, x4⟩, ⟨x5, x6, x7, x8, x9⟩, ⟨y1, y2, y3, y4⟩, ⟨y5, y6, y7, y8, y9⟩⟩ := HC.out _ k8.out)
        | (go_at_call 16; refine (HBK.out A1 _ cs1 _ (HX1'.out.and k6.out) (HR1'.out.and k6.out)).mono ?_; rintro e w7 ⟨A7, c7, rfl, hown7, hK7⟩; have k7 := Lib.hid (k6.out.and hK7); have HX7 := Lib.hid ((HX1'.out.and k6.out).and hK7); have HR7 := Lib.hid (Arr.of_own hown7); clear hown7 hK7; clear x1 x2 x3 x4 x5 x6 x7 x8 x9 y1 y2 y3 y4 y5 y6 y7 y8 y9; obtain ⟨⟨x1, x2, x3, x4⟩, ⟨x5, x6, x7, x8, x9⟩, ⟨y1, y2, y3, y4⟩, ⟨y5, y6, y7, y8, y9⟩⟩ := HC.out _ k7.out)
        | (go_at_call 15; refine (HVS.out dA1 dA2 _ _ _ (HD1'.out.and k5.out) (HD2.out.and k5.out)).mono ?_; rintro e w6 ⟨rfl, hK6⟩; have k6 := Lib.hid (k5.out.and hK6); clear hK6; clear x1 x2 x3 x4 x5 x6 x7 x8 x9 y1 y2 y3 y4 y5 y6 y7 y8 y9; obtain ⟨⟨x1, x2, x3, x4⟩, ⟨x5, x6, x7, x8, x9⟩, ⟨y1, y2, y3, y4⟩, ⟨y5, y6, y7, y8, y9⟩⟩ := HC.out _ k6.out)
        | (go_at_call 7; refine (HA.out _).mono ?_; rintro e w5 ⟨rfl, hK5⟩; have k5 := Lib.hid ((Kp.refl NoB wb).drew.and hK5); clear hK5; clear x1 x2 x3 x4 x5 x6 x7 x8 x9 y1 y2 y3 y4 y5 y6 y7 y8 y9; obtain ⟨⟨x1, x2, x3, x4⟩, ⟨x5, x6, x7, x8, x9⟩, ⟨y1, y2, y3, y4⟩, ⟨y5, y6, y7, y8, y9⟩⟩ := HC.out _ k5.out))
  go_wp2_with fail
  go_ret
  exact ⟨rfl, KB.out.and k8.out⟩

theorem parses_row (A : Option Addr) (n c : Nat) (b : List Int) (w : World) (h : InBytes w A n c b) :
    Calls Try.prog 4 #[.slice A n c] w (Stay (.bool true) w) := by
  obtain ⟨rfl, hc, hcm, ha, hb⟩ := h
  by_cases hn : b.length ≤ 600
  · exact parses_few A c b w ha hb hc hcm hn
  · have HA := Lib.hid alive_any
    obtain ⟨n, hnn⟩ : ∃ n, b.length = n := ⟨_, rfl⟩
    rw [hnn] at hn ⊢
    have hn' : (600 : Int) < (n : Int) := by omega
    clear hnn ha hb hc hcm hn
    go_enter Try.func4, Try.ntmps4
    go_wp2_with fail
    refine (HA.out _).mono ?_
    rintro e w8 ⟨rfl, hK8⟩
    go_wp2_with fail
    go_ret
    exact ⟨rfl, hK8⟩

end Go.Proofs.Ytomkomkenfacpaa
