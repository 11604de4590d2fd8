/- Reading a head: package flag: contract by walking the Go text. No condition but that the reader is one. -/
import Derived.Test.YthdipbabfilciaaFlagB
import Derived.Test.YthdipbabfilciaaNum
import Derived.IntWalk
namespace Go.Proofs.Ythdipbabfilciaa
open Go.RowKit Go.Maps
set_option linter.unusedVariables false
set_option linter.unusedSimpArgs false

theorem numV_bound (k : Int) (ys : List Int) (h : IsB ys) : 0 ≤ numV k ys ∧ numV k ys < 4294967296 := by
  unfold numV
  split
  · rename_i hn
    simp only [numB, decide_eq_true_eq] at hn
    have hb := big_bound (ys.take k.toNat) (h.take _)
    refine ⟨hb.1, Int.lt_of_lt_of_le hb.2 ?_⟩
    have : (ys.take k.toNat).length ≤ 4 := by simp; omega
    have e : ((256 ^ (ys.take k.toNat).length : Nat) : Int) = (256 : Int) ^ (ys.take k.toNat).length := by simp
    have p : 256 ^ (ys.take k.toNat).length ≤ 256 ^ 4 := Nat.pow_le_pow_right (by decide) this
    have q : (256 : Nat) ^ 4 = 4294967296 := by decide
    rw [q] at p
    rw [← e]
    exact Int.ofNat_le.2 p
  · omega

/-- What is left behind a number of k bytes. -/
def numD (k : Int) (ys : List Int) : List Int := ys.drop (numN k ys)
theorem numD_isB (k : Int) (ys : List Int) (h : IsB ys) : IsB (numD k ys) := h.drop _

theorem Kp.set_on {w w1 : World} {b i : Nat} (h : Kp (OnB b) w w1) (u : Value) : Kp (OnB b) w (w1.setCell ⟨b, i, none⟩ u) := h.setCell (p := ⟨b, i, none⟩) (fun _ => rfl) u

/-- The three numbers of a head, and whether they are there. -/
def frF (ys : List Int) : Int := numV 1 ys
def frK (ys : List Int) : Int := numV 1 (numD 1 ys)
def frW (ys : List Int) : Int := widthI (frF ys)
def frL (ys : List Int) : Int := numV (frW ys) (numD 1 (numD 1 ys))
def frOk (ys : List Int) : Bool := numB 1 (numD 1 ys) && numB (frW ys) (numD 1 (numD 1 ys))
/-- What is left, and how far the reader has come. -/
def frD (ys : List Int) : List Int := numD (frW ys) (numD 1 (numD 1 ys))
def frN (ys : List Int) : Nat := numN 1 ys + numN 1 (numD 1 ys) + numN (frW ys) (numD 1 (numD 1 ys))
def frHead (ys : List Int) : Value := if frOk ys then .agg #[.int .i64 (frF ys), .int .i64 (frK ys), .int .i64 (frL ys)] else .agg #[.int .i64 0, .int .i64 0, .int .i64 0]

/-- One number was read. -/
def NumIs (r : Nat) (v : Int) (b : Bool) (ys : List Int) (t q : Nat) (w : World) (e : Ending) (w' : World) : Prop := e = .returned (.tuple #[.int .u32 v, .bool b]) ∧ Rd w' q r ys t ∧ Kp (OnB r) w w'

theorem numIs_of (k : Int) (w : World) (q r : Nat) (ys : List Int) (t : Nat) (h : Rd w q r ys t) : Calls Try.prog 29 #[.pointer (some ⟨r, 0, none⟩), .int .i64 k] w (NumIs r (numV k ys) (numB k ys) (numD k ys) (t + numN k ys) q w) :=
  number_any w q r ys t k h

/-- What 'Read' leaves. -/
def FRead (q r : Nat) (ys : List Int) (t : Nat) (w : World) (e : Ending) (w' : World) : Prop :=
  e = .returned (.tuple #[frHead ys, .bool (frOk ys)]) ∧ Rd w' q r (frD ys) (t + frN ys) ∧ Kp (OnB r) w w'

set_option maxRecDepth 100000 in
set_option maxHeartbeats 4000000 in
theorem fread_any (w : World) (q r : Nat) (ys : List Int) (t : Nat) (h : Rd w q r ys t) : Calls Try.prog 17 #[.pointer (some ⟨r, 0, none⟩)] w (FRead q r ys t w) := by
  have hB := h.isB
  have hlt := h.lt
  have hrw : w.heap.size ≠ r := by omega
  have v1 := numV_bound 1 ys hB
  have v2 := numV_bound 1 (numD 1 ys) (numD_isB _ _ hB)
  have v3 := numV_bound (frW ys) (numD 1 (numD 1 ys)) (numD_isB _ _ (numD_isB _ _ hB))
  have c1 : IntKind.i64.wrap (numV 1 ys) = numV 1 ys := IntWalk.i64_in _ (by omega)
  have c2 : IntKind.i64.wrap (numV 1 (numD 1 ys)) = numV 1 (numD 1 ys) := IntWalk.i64_in _ (by omega)
  have c3 : IntKind.i64.wrap (numV (frW ys) (numD 1 (numD 1 ys))) = numV (frW ys) (numD 1 (numD 1 ys)) := IntWalk.i64_in _ (by omega)
  have H1 := Lib.hid (fun w h => numIs_of 1 w q r ys t h)
  have H2 := Lib.hid (fun w h => numIs_of 1 w q r (numD 1 ys) (t + numN 1 ys) h)
  have H3 := Lib.hid (fun w h => numIs_of (frW ys) w q r (numD 1 (numD 1 ys)) (t + numN 1 ys + numN 1 (numD 1 ys)) h)
  have HW := Lib.hid (fun w => width_any (numV 1 ys) w)
  have hfin : ∀ e w', e = .returned (.tuple #[(if (numB 1 (numD 1 ys) && numB (frW ys) (numD 1 (numD 1 ys))) then .agg #[.int .i64 (numV 1 ys), .int .i64 (numV 1 (numD 1 ys)), .int .i64 (numV (frW ys) (numD 1 (numD 1 ys)))] else .agg #[.int .i64 0, .int .i64 0, .int .i64 0]), .bool (numB 1 (numD 1 ys) && numB (frW ys) (numD 1 (numD 1 ys)))]) →
      Rd w' q r (numD (frW ys) (numD 1 (numD 1 ys))) (t + numN 1 ys + numN 1 (numD 1 ys) + numN (frW ys) (numD 1 (numD 1 ys))) → Kp (OnB r) w w' → FRead q r ys t w e w' := fun e w' he hR hK =>
    ⟨he, by have e1 : t + frN ys = t + numN 1 ys + numN 1 (numD 1 ys) + numN (frW ys) (numD 1 (numD 1 ys)) := by unfold frN; omega
            rw [e1]; exact hR, hK⟩
  have HF := Lib.hid hfin
  clear hfin v1 v2 v3
  have hq : numD (frW ys) (numD 1 (numD 1 ys)) ≠ [] → q ≠ w.heap.size := fun hn => by
    have h1 : ys ≠ [] := by rintro rfl; exact hn (by simp [numD])
    have := h.lt_q h1
    omega
  have eW : widthI (numV 1 ys) = frW ys := rfl
  rw [eW] at HW
  obtain ⟨W, hW⟩ : ∃ W, frW ys = W := ⟨_, rfl⟩
  rw [hW] at HF HW H3 c3 hq
  clear hW eW
  obtain ⟨Y3, hY3⟩ : ∃ Y, numD W (numD 1 (numD 1 ys)) = Y := ⟨_, rfl⟩
  obtain ⟨N3, hN3⟩ : ∃ Y, numN W (numD 1 (numD 1 ys)) = Y := ⟨_, rfl⟩
  obtain ⟨V3, hV3⟩ : ∃ Y, numV W (numD 1 (numD 1 ys)) = Y := ⟨_, rfl⟩
  obtain ⟨B3, hB3⟩ : ∃ Y, numB W (numD 1 (numD 1 ys)) = Y := ⟨_, rfl⟩
  rw [hY3] at hq
  rw [hY3, hN3, hV3, hB3] at HF
  rw [hY3, hN3, hV3, hB3] at H3
  rw [hV3] at c3
  clear hY3 hN3 hV3 hB3
  obtain ⟨Y2, hY2⟩ : ∃ Y, numD 1 (numD 1 ys) = Y := ⟨_, rfl⟩
  obtain ⟨N2, hN2⟩ : ∃ Y, numN 1 (numD 1 ys) = Y := ⟨_, rfl⟩
  obtain ⟨V2, hV2⟩ : ∃ Y, numV 1 (numD 1 ys) = Y := ⟨_, rfl⟩
  obtain ⟨B2, hB2⟩ : ∃ Y, numB 1 (numD 1 ys) = Y := ⟨_, rfl⟩
  rw [hN2, hV2, hB2] at HF
  rw [hY2, hN2, hV2, hB2] at H2
  rw [hY2, hN2] at H3
  rw [hV2] at c2
  clear hY2 hN2 hV2 hB2
  obtain ⟨Y1, hY1⟩ : ∃ Y, numD 1 ys = Y := ⟨_, rfl⟩
  obtain ⟨N1, hN1⟩ : ∃ Y, numN 1 ys = Y := ⟨_, rfl⟩
  obtain ⟨V1, hV1⟩ : ∃ Y, numV 1 ys = Y := ⟨_, rfl⟩
  obtain ⟨B1, hB1⟩ : ∃ Y, numB 1 ys = Y := ⟨_, rfl⟩
  rw [hN1, hV1] at HF
  rw [hY1, hN1, hV1, hB1] at H1
  rw [hY1, hN1] at H2
  rw [hN1] at H3
  rw [hV1] at HW c1
  clear hY1 hN1 hV1 hB1
  have hb0 := Lib.hid (Bk.fresh w 29 #[.int .i64 0, .int .i64 0, .int .i64 0])
  have hR0 := Lib.hid (h.and ((Kp.refl _ _).alloc (.cells #[.int .i64 0, .int .i64 0, .int .i64 0] 29)))
  have hk0 := Lib.hid ((Kp.refl (OnB r) w).alloc (.cells #[.int .i64 0, .int .i64 0, .int .i64 0] 29))
  clear h hB
  cases B2 <;> cases B3
  all_goals
    go_enter Try.func17, Try.ntmps17
    go_wp2_with fail
    refine (H1.out _ hR0.out).mono ?_
    rintro e w1 ⟨rfl, hR1, hK1⟩
    replace hR1 := Lib.hid hR1
    go_wp2_with fail
    refine (H2.out _ hR1.out).mono ?_
    rintro e w2 ⟨rfl, hR2, hK2⟩
    replace hR2 := Lib.hid hR2
    go_wp2_with (go_at_call 26; refine (HW.out _).mono ?_; rintro e w1' ⟨rfl, rfl⟩)
    refine (H3.out _ hR2.out).mono ?_
    rintro e w3 ⟨rfl, hR3, hK3⟩
    replace hR3 := Lib.hid hR3
    obtain ⟨x1, x2, x3, x4, x5, x6, x7⟩ := (((hb0.out.keep hK1 hrw).keep hK2 hrw).keep hK3 hrw).three
    go_wp2_with fail
  all_goals
    have hK := ((hk0.out.same hK1).same hK2).same hK3
    have hne : ¬ OnB w.heap.size r := by unfold OnB; omega
    have hne2 : Y3 ≠ [] → ¬ OnB w.heap.size q := fun hn => by have := hq hn; unfold OnB; exact this
    first
      | refine bodyPost_ret (v := .tuple #[.agg #[.int .i64 0, .int .i64 0, .int .i64 0], .bool false]) (by simp [results, Try.results17, go_sem, *]) rfl (HF.out _ _ rfl (hR3.out.keep (S := OnB w.heap.size) (by repeat (first | with_reducible exact Kp.refl _ _ | refine Kp.set_on ?_ _)) hne hne2) (by repeat (first | exact hK | refine Kp.setCell ?_ (fun hq => by simp at hq) _)))
      | refine bodyPost_ret (v := .tuple #[.agg #[.int .i64 V1, .int .i64 V2, .int .i64 V3], .bool true]) (by simp [results, Try.results17, go_sem, *]) rfl (HF.out _ _ rfl (hR3.out.keep (S := OnB w.heap.size) (by repeat (first | with_reducible exact Kp.refl _ _ | refine Kp.set_on ?_ _)) hne hne2) (by repeat (first | exact hK | refine Kp.setCell ?_ (fun hq => by simp at hq) _)))

end Go.Proofs.Ythdipbabfilciaa
