/- open.timed, open.Valid: contracts by walking the Go text. -/
import Derived.Test.YtilfheociidloaaDoorSysB
import Derived.Test.YtilfheociidloaaDoorCapJ
import Derived.Test.YtilfheociidloaaDoorPutO
namespace Go.Proofs.YtilfheociidloaaDoor
open Go.RowKit
set_option linter.unusedVariables false
set_option linter.unusedSimpArgs false

theorem Bk.four {w : World} {b : Nat} {t : TypeId} {u v x y : Value} (h : Bk w b t #[u, v, x, y]) : w.cell? ⟨b, 0, none⟩ = some u ∧ w.cell? ⟨b, 1, none⟩ = some v ∧ w.cell? ⟨b, 2, none⟩ = some x ∧ w.cell? ⟨b, 3, none⟩ = some y ∧ w.frozen? ⟨b, 0, none⟩ = false ∧ w.frozen? ⟨b, 1, none⟩ = false ∧ w.frozen? ⟨b, 2, none⟩ = false ∧ w.frozen? ⟨b, 3, none⟩ = false ∧ b < w.heap.size :=
  ⟨h.cell 0, h.cell 1, h.cell 2, h.cell 3, h.frozen 0, h.frozen 1, h.frozen 2, h.frozen 3, h.lt⟩

/-- An OPEN. -/
structure OpenI where
  sys : Int
  hold : Int
  id : Int
  caps : List CapI
deriving DecidableEq
def OpenI.B (o : OpenI) : Prop := (0 ≤ o.sys ∧ o.sys ≤ 4294967295) ∧ (-9223372036854775808 ≤ o.hold ∧ o.hold ≤ 9223372036854775807) ∧ (0 ≤ o.id ∧ o.id ≤ 4294967295)
def OpenI.val (o : OpenI) (A : Option Addr) (c : Nat) : Value := .agg #[.int .u32 o.sys, .int .i64 o.hold, .int .u32 o.id, .slice A o.caps.length c]

def timedB (h : Int) : Bool := decide (h = 0 ∨ 3 ≤ h ∧ h ≤ 65535)
theorem timed_any (h : Int) (w : World) : Calls Tryd.prog 26 #[.int .i64 h] w fun e w' => e = .returned (.bool (timedB h)) ∧ w' = w := by
  by_cases h0 : h = 0
  · subst h0
    go_enter Tryd.func26, Tryd.ntmps26
    go_wp2
    go_ret
    exact ⟨rfl, rfl⟩
  · have e0 : (h == 0) = false := by simp [h0]
    by_cases h1 : 3 ≤ h
    · by_cases h2 : h ≤ 65535
      · have et : timedB h = true := by simp [timedB]; omega
        rw [et]
        clear et
        go_enter Tryd.func26, Tryd.ntmps26
        go_wp2
        go_ret
        exact ⟨rfl, rfl⟩
      · have et : timedB h = false := by simp [timedB]; omega
        have h2' : 65535 < h := by omega
        rw [et]
        clear et
        go_enter Tryd.func26, Tryd.ntmps26
        go_wp2
        go_ret
        exact ⟨rfl, rfl⟩
    · have et : timedB h = false := by simp [timedB]; omega
      have h1' : h < 3 := by omega
      rw [et]
      clear et
      go_enter Tryd.func26, Tryd.ntmps26
      go_wp2
      go_ret
      exact ⟨rfl, rfl⟩

/-- Is the OPEN valid? -/
def validO (o : OpenI) : Bool :=
  validB o.caps && decide ((formC o.caps).length ≤ 253) && decide (o.sys ≠ 0) && decide (o.id ≠ 0) && timedB o.hold && (if sysB o.caps then decide (sysV o.caps = o.sys) else decide (o.sys ≤ 65535))

set_option maxRecDepth 100000 in
set_option maxHeartbeats 8000000 in
theorem ovalid_any (o : OpenI) (A : Option Addr) (c : Nat) (cs : List Value) (w : World) (hb : o.B) (hx : CapL w o.caps cs) (ha : Arr w A cs) (hl : o.caps.length ≤ 1000000) (hf : (formC o.caps).length ≤ 100000) :
    Calls Tryd.prog 9 #[o.val A c] w (Stay (.bool (validO o)) w) := by
  obtain ⟨s, h, i, caps⟩ := o
  simp only at hx hl hf
  obtain ⟨hs, hh, hi⟩ := hb
  simp only at hs hh hi
  have HS := Lib.hid (fun w' (k : Kp NoB w w') => system_any A c caps cs w' (hx.and k) (ha.and k) hl)
  have HT := Lib.hid (fun w => timed_any h w)
  have hk0 := Lib.hid ((Kp.refl NoB w).alloc (.cells #[.int .u32 s, .int .i64 h, .int .u32 i, .slice A caps.length c] 33))
  have hB := Lib.hid (Bk.fresh w 33 #[.int .u32 s, .int .i64 h, .int .u32 i, .slice A caps.length c])
  unfold OpenI.val
  simp only
  by_cases hv : validB caps = true
  · have HB := Lib.hid (bytes_yes A c caps cs (w.alloc (.cells #[.int .u32 s, .int .i64 h, .int .u32 i, .slice A caps.length c] 33)) (hx.and hk0.out) (ha.and hk0.out) hl hv (by omega))
    have hvo : validO ⟨s, h, i, caps⟩ = (decide ((formC caps).length ≤ 253) && decide (s ≠ 0) && decide (i ≠ 0) && timedB h && (if sysB caps then decide (sysV caps = s) else decide (s ≤ 65535))) := by
      unfold validO
      simp only [hv, Bool.true_and]
    rw [hvo]
    unfold Formed at HB
    obtain ⟨n, hn⟩ : ∃ n, caps.length = n := ⟨_, rfl⟩
    obtain ⟨F, hF⟩ : ∃ F, formC caps = F := ⟨_, rfl⟩
    rw [hF] at HB
    obtain ⟨fl, hfl⟩ : ∃ F', F.length = F' := ⟨_, rfl⟩
    obtain ⟨sv, hsv⟩ : ∃ v, sysV caps = v := ⟨_, rfl⟩
    obtain ⟨sb, hsb⟩ : ∃ v, sysB caps = v := ⟨_, rfl⟩
    obtain ⟨tb, htb⟩ : ∃ v, timedB h = v := ⟨_, rfl⟩
    rw [hF, hfl, hsv, hsb, htb]
    simp only [hn, hfl, hsv, hsb, htb] at HB HS HT hB hk0 ⊢
    obtain ⟨R, hR⟩ : ∃ R, (decide (fl ≤ 253) && decide (s ≠ 0) && decide (i ≠ 0) && tb && (if sb = true then decide (sv = s) else decide (s ≤ 65535))) = R := ⟨_, rfl⟩
    rw [hR]
    have HR := Lib.hid hR
    clear hn hF hsv hsb htb hx ha hv hvo hR
    obtain ⟨x1, x2, x3, x4, x5, x6, x7, x8, x9⟩ := hB.out.four
    cases sb <;> cases tb
    all_goals
      go_enter Tryd.func9, Tryd.ntmps9
      go_wp2_with fail
      refine HB.out.mono ?_
      rintro e w1 ⟨A1, c1, rfl, hown1, hK1⟩
      clear hown1
      have k1 := hk0.out.and hK1
      obtain ⟨y1, y2, y3, y4, y5, y6, y7, y8, y9⟩ := (hB.out.and hK1).four
      go_wp2_with fail
      refine (HS.out _ k1).mono ?_
      rintro e w2 ⟨rfl, hK2⟩
      have k2 := k1.and hK2
      obtain ⟨z1, z2, z3, z4, z5, z6, z7, z8, z9⟩ := ((hB.out.and hK1).and hK2).four
      go_wp2_with (go_at_call 26; refine (HT.out _).mono ?_; rintro e w3 ⟨rfl, rfl⟩)
    all_goals go_ret
    all_goals refine ⟨?_, k2⟩
    all_goals
      rw [← HR.out]
      refine congrArg Ending.returned ?_
      show Value.bool _ = Value.bool _
      refine congrArg Value.bool ?_
      rw [Bool.eq_iff_iff]
      simp
    all_goals try omega
  · have HB := Lib.hid (bytes_no A c caps cs (w.alloc (.cells #[.int .u32 s, .int .i64 h, .int .u32 i, .slice A caps.length c] 33)) (hx.and hk0.out) (ha.and hk0.out) hl (by simpa using hv))
    have hvo : validO ⟨s, h, i, caps⟩ = false := by
      unfold validO
      have : validB caps = false := by simpa using hv
      simp only [this, Bool.false_and]
    rw [hvo]
    obtain ⟨n, hn⟩ : ∃ n, caps.length = n := ⟨_, rfl⟩
    obtain ⟨sv, hsv⟩ : ∃ v, sysV caps = v := ⟨_, rfl⟩
    obtain ⟨sb, hsb⟩ : ∃ v, sysB caps = v := ⟨_, rfl⟩
    simp only [hn, hsv, hsb] at HB HS hB hk0 ⊢
    clear hn hsv hsb hx ha hv hvo
    obtain ⟨x1, x2, x3, x4, x5, x6, x7, x8, x9⟩ := hB.out.four
    cases sb
    all_goals
      go_enter Tryd.func9, Tryd.ntmps9
      go_wp2_with fail
      refine HB.out.mono ?_
      rintro e w1 ⟨rfl, hK1⟩
      have k1 := hk0.out.and hK1
      obtain ⟨y1, y2, y3, y4, y5, y6, y7, y8, y9⟩ := (hB.out.and hK1).four
      go_wp2_with fail
      refine (HS.out _ k1).mono ?_
      rintro e w2 ⟨rfl, hK2⟩
      have k2 := k1.and hK2
      obtain ⟨z1, z2, z3, z4, z5, z6, z7, z8, z9⟩ := ((hB.out.and hK1).and hK2).four
      go_wp2_with fail
    all_goals go_ret
    all_goals exact ⟨rfl, k2⟩

end Go.Proofs.YtilfheociidloaaDoor
