/- The parser's params and named: contracts by walking the Go text. -/
import Derived.Test.YtomkomkenfacpaaParC
namespace Go.Proofs.Ytomkomkenfacpaa
open Go.RowKit
set_option linter.unusedVariables false
set_option linter.unusedSimpArgs false

/-- Parameters are read till there are none, or a verdict. -/
noncomputable def iterP : Nat → PSt → PSt
  | 0, st => st
  | f + 1, st => if st.ys = [] ∨ st.bad.isSome = true then st else iterP f (stParam st)
noncomputable def stParams (st : PSt) : PSt := iterP st.ys.length st
theorem iterP_end (f : Nat) (st : PSt) (h : st.ys = [] ∨ st.bad.isSome = true) : iterP f st = st := by
  cases f with
  | zero => rfl
  | succ f => exact if_pos h
theorem iterP_go (f : Nat) (st : PSt) (h1 : st.ys ≠ []) (h2 : st.bad = none) (hf : st.ys.length ≤ f) : ∃ f', f = f' + 1 ∧ iterP f st = iterP f' (stParam st) := by
  cases f with
  | zero => exact absurd (List.eq_nil_of_length_eq_zero (by omega)) h1
  | succ f => exact ⟨f, rfl, if_neg (by simp [h1, h2])⟩
theorem caps_read {d : List Int} : ((readC d).getD []).length ≤ d.length := by
  cases h : readC d with
  | none => exact Nat.zero_le _
  | some ls =>
    obtain ⟨_, h2⟩ := readC_some h
    have := caps_le2 ls
    rw [h2] at this
    exact this
theorem param_less (st : PSt) (h : st.ys ≠ []) : (stParam st).ys.length < st.ys.length ∧ (st.o.caps.length ≤ st.t → (stParam st).o.caps.length ≤ (stParam st).t) ∧ (stParam st).t + (stParam st).ys.length ≤ st.t + st.ys.length := by
  match hy : st.ys with
  | [] => exact absurd hy h
  | [k] =>
    unfold stParam
    rw [hy]
    simp only [List.length_cons, List.length_nil, List.append_nil]
    exact ⟨by omega, fun h => by omega, by omega⟩
  | k :: n :: rest =>
    unfold stParam
    rw [hy]
    simp only
    by_cases hs : rest.length < n.toNat
    · rw [if_pos hs]
      simp only [List.length_cons, List.append_nil]
      exact ⟨by omega, fun h => by omega, by omega⟩
    · rw [if_neg hs]
      have h1 := caps_read (d := rest.take n.toNat)
      rw [List.length_take] at h1
      simp only [List.length_cons, List.length_append, List.length_drop]
      exact ⟨by omega, fun h => by omega, by omega⟩

theorem PS.x5 {w0 wB w : World} {q r p : Nat} {st : PSt} (h : PS w0 wB q r p st w) : w.cell? ⟨p, 5, none⟩ = some (.int .i64 (vOf st.bad).kind) := by
  obtain ⟨_, _, _, A, c, cs, dA, dc, hB, _⟩ := h; exact hB.cell 5
theorem PS.len {w0 wB w : World} {q r p : Nat} {st : PSt} (h : PS w0 wB q r p st w) : (match w.cell? ⟨r, 0, none⟩ with | some (.slice _ n _) => n | _ => 0) = st.ys.length := by
  obtain ⟨A, c, hB, _⟩ := h.rd
  rw [hB.cell 0]
  rfl

set_option maxRecDepth 100000 in
set_option maxHeartbeats 4000000 in
theorem params_ps {w0 wB w : World} {q r p : Nat} {st : PSt} (h : PS w0 wB q r p st w) (hcl : st.o.caps.length ≤ st.t) (hbd : st.t + st.ys.length ≤ 100000) :
    Calls Try.prog 31 #[.pointer (some ⟨p, 0, none⟩)] w (Step w0 wB q r p (stParams st)) := by
  obtain ⟨T, hT⟩ : ∃ T, stParams st = T := ⟨_, rfl⟩
  rw [hT]
  have H := Lib.hid h
  clear h
  go_enter Try.func31, Try.ntmps31
  go_wp2
  go_loopw [2] (fun x wr => Hid (∃ f st', st'.ys.length ≤ f ∧ iterP f st' = T ∧ st'.o.caps.length ≤ st'.t ∧ st'.t + st'.ys.length ≤ 100000 ∧ PS w0 wB q r p st' wr)) (fun _ wr => match wr.cell? ⟨r, 0, none⟩ with | some (.slice _ n _) => n | _ => 0)
  case atStart => exact Lib.hid ⟨st.ys.length, st, Nat.le_refl _, hT, hcl, hbd, H.out⟩
  case round =>
    have HX := hrel
    obtain ⟨f, st', hf, hit, hc, hb, hP⟩ := HX.out
    clear HX hrel
    have x0 := hP.x0
    have x5 := hP.x5
    obtain ⟨L, hL⟩ : ∃ L : Int, (st'.ys.length : Int) = L := ⟨_, rfl⟩
    have HLf := Lib.hid (left_len wr q r _ _ hP.rd L hL)
    by_cases hy : st'.ys = []
    · have hL0 : L = 0 := by rw [← hL, hy]; rfl
      subst hL0
      rw [iterP_end f st' (.inl hy)] at hit
      subst hit
      have HP := Lib.hid hP
      clear hP hf hc hb hL hT
      go_wp2_with (go_at_call 49; refine HLf.out.mono ?_; rintro e w3 ⟨rfl, rfl⟩)
      go_end0
      exact ⟨⟨_, rfl⟩, HP.out⟩
    · have hL0 : 0 < L := by
        have := List.length_pos_iff.2 hy
        omega
      match hbad : st'.bad with
      | some v =>
        rw [hbad] at x5
        rw [show (vOf (some v)).kind = 4 from rfl] at x5
        rw [iterP_end f st' (.inr (by rw [hbad]; rfl))] at hit
        subst hit
        have HP := Lib.hid hP
        clear hP hf hc hb hL hT
        go_wp2_with (go_at_call 49; refine HLf.out.mono ?_; rintro e w3 ⟨rfl, rfl⟩)
        go_end0
        exact ⟨⟨_, rfl⟩, HP.out⟩
      | none =>
        rw [hbad] at x5
        rw [show (vOf none).kind = 0 from rfl] at x5
        obtain ⟨f', hf', hgo⟩ := iterP_go f st' hy hbad hf
        obtain ⟨l1, l2, l3⟩ := param_less st' hy
        have HPa := Lib.hid (param_ps hP (by omega) hy)
        have HM := Lib.hid hP.len
        have HFIN : Hid (∀ w1, PS w0 wB q r p (stParam st') w1 → ∃ f st', st'.ys.length ≤ f ∧ iterP f st' = T ∧ st'.o.caps.length ≤ st'.t ∧ st'.t + st'.ys.length ≤ 100000 ∧ PS w0 wB q r p st' w1) := Lib.hid (fun w1 h1 => ⟨f', stParam st', by omega, by rw [← hgo]; exact hit, l2 hc, by omega, h1⟩)
        have HL1 := Lib.hid l1
        clear hP hf hc hb hL hT hf' hgo l1 l2 l3 hit
        go_wp2_with (go_at_call 49; refine HLf.out.mono ?_; rintro e w3 ⟨rfl, rfl⟩)
        refine HPa.out.mono ?_
        rintro e w4 ⟨⟨v, rfl⟩, h4⟩
        have HM4 := Lib.hid h4.len
        replace h4 := Lib.hid (HFIN.out _ h4)
        go_wp2_with fail
        go_roundw
        case rel => exact h4
        case measure =>
          rw [HM4.out, HM.out]
          exact HL1.out

/-- The system that the capabilities name. -/
def stNamed (st : PSt) : PSt :=
  ⟨{ st.o with sys := if sysB st.o.caps then sysV st.o.caps else st.o.sys }, st.ys, st.t, if (if sysB st.o.caps then sysV st.o.caps else st.o.sys) = 0 then some (2, 1, []) else st.bad⟩

set_option maxRecDepth 100000 in
set_option maxHeartbeats 8000000 in
theorem named_ps {w0 wB w : World} {q r p : Nat} {st : PSt} (h : PS w0 wB q r p st w) (hcl : st.o.caps.length ≤ 1000000) :
    Calls Try.prog 32 #[.pointer (some ⟨p, 0, none⟩)] w (Step w0 wB q r p (stNamed st)) := by
  obtain ⟨g1, g2, g3, A, c, cs, dA, dc, hB, hrow, hcap, hdat⟩ := id h
  have HS := Lib.hid (system_any A c st.o.caps cs w hcap.to (Arr.of_own hrow) hcl)
  have x4 : w.cell? ⟨p, 4, none⟩ = some (.slice A st.o.caps.length c) := hB.cell 4
  have x1 : w.cell? ⟨p, 1, none⟩ = some (.int .u32 st.o.sys) := hB.cell 1
  have f1 : w.frozen? ⟨p, 1, none⟩ = false := hB.frozen 1
  have hlt := hB.lt
  have HH := Lib.hid (fun w1 (k : Kp NoB w w1) => h.and k)
  have HK := Lib.hid (fun w1 (k : Kp NoB w w1) => (⟨k.cell x1 (fun q => q), (k.frozen hlt (fun q => q)).trans f1, Nat.lt_of_lt_of_le hlt k.size⟩ : w1.cell? ⟨p, 1, none⟩ = some (.int .u32 st.o.sys) ∧ w1.frozen? ⟨p, 1, none⟩ = false ∧ p < w1.heap.size))
  unfold stNamed
  obtain ⟨sb, hsb⟩ : ∃ b, sysB st.o.caps = b := ⟨_, rfl⟩
  obtain ⟨sv, hsv⟩ : ∃ b, sysV st.o.caps = b := ⟨_, rfl⟩
  obtain ⟨n, hn⟩ : ∃ n, st.o.caps.length = n := ⟨_, rfl⟩
  obtain ⟨s, hs⟩ : ∃ n, st.o.sys = n := ⟨_, rfl⟩
  rw [hsb, hsv] at HS ⊢
  rw [hn] at HS x4
  rw [hs] at HK x1
  rw [hs]
  have HSE := Lib.hid hs
  clear g1 g2 g3 hB hrow hcap hdat h hcl hsb hsv hn hs
  cases sb
  · rw [if_neg (by decide)]
    by_cases hc : s = 0
    · rw [if_pos hc]
      have hne : (s == 0) = true := by simp [hc]
      clear hc
      go_enter Try.func32, Try.ntmps32
      go_wp2_with fail
      refine HS.out.mono ?_
      rintro e w1 ⟨rfl, hK1⟩
      obtain ⟨y1, y2, y3⟩ := HK.out _ hK1
      have h1 := HH.out _ hK1
      have h3 := Lib.hid (fail_ps h1 2 1 [] none 0 (World.ownsRow_nil _ _ _ _) 0 rfl)
      clear h1 hK1
      go_wp2_with fail
      refine h3.out.mono ?_
      rintro e w2 ⟨⟨v, rfl⟩, h4⟩
      replace h4 := Lib.hid h4
      go_wp2_with fail
      go_end0
      exact ⟨⟨_, rfl⟩, by have := h4.out; rw [← HSE.out]; exact this⟩
    · rw [if_neg hc]
      have hne : (s == 0) = false := by simp [hc]
      clear hc
      go_enter Try.func32, Try.ntmps32
      go_wp2_with fail
      refine HS.out.mono ?_
      rintro e w1 ⟨rfl, hK1⟩
      obtain ⟨y1, y2, y3⟩ := HK.out _ hK1
      have h1 := Lib.hid (HH.out _ hK1)
      clear hK1
      go_wp2_with fail
      go_end0
      exact ⟨⟨_, rfl⟩, by have := h1.out; rw [← HSE.out]; exact this⟩
  · rw [if_pos rfl]
    by_cases hc : sv = 0
    · rw [if_pos hc]
      have hne : (sv == 0) = true := by simp [hc]
      clear hc
      go_enter Try.func32, Try.ntmps32
      go_wp2_with fail
      refine HS.out.mono ?_
      rintro e w1 ⟨rfl, hK1⟩
      obtain ⟨y1, y2, y3⟩ := HK.out _ hK1
      have h1 := HH.out _ hK1
      have h2 := h1.store 1 (.int .u32 sv) { st.o with sys := sv } rfl (fun _ _ _ _ => rfl)
      have h3 := Lib.hid (fail_ps h2 2 1 [] none 0 (World.ownsRow_nil _ _ _ _) 0 rfl)
      clear h1 hK1 h2
      go_wp2_with fail
      refine h3.out.mono ?_
      rintro e w2 ⟨⟨v, rfl⟩, h4⟩
      replace h4 := Lib.hid h4
      go_wp2_with fail
      go_end0
      exact ⟨⟨_, rfl⟩, h4.out⟩
    · rw [if_neg hc]
      have hne : (sv == 0) = false := by simp [hc]
      clear hc
      go_enter Try.func32, Try.ntmps32
      go_wp2_with fail
      refine HS.out.mono ?_
      rintro e w1 ⟨rfl, hK1⟩
      obtain ⟨y1, y2, y3⟩ := HK.out _ hK1
      have h1 := HH.out _ hK1
      have h2 := Lib.hid (h1.store 1 (.int .u32 sv) { st.o with sys := sv } rfl (fun _ _ _ _ => rfl))
      clear h1 hK1
      go_wp2_with fail
      go_end0
      exact ⟨⟨_, rfl⟩, h2.out⟩

end Go.Proofs.Ytomkomkenfacpaa
