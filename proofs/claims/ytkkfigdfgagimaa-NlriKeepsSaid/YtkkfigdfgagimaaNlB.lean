/- Package nlri: Valid: its contract by walking the Go text. -/
import Derived.Test.YtkkfigdfgagimaaNlA
import Derived.Test.YtkkfigdfgagimaaBigR
namespace Go.Proofs.Ytkkfigdfgagimaa
open Go.RowKit
set_option linter.unusedVariables false
set_option linter.unusedSimpArgs false

/-- Is a route valid? -/
def okR (fam : Int) (add : Bool) (x : RtI) : Bool := validP x.pre && decide (x.pre.fam = fam) && (add || decide (x.path = 0))
def validL (fam : Int) (add : Bool) (xs : List RtI) : Bool := xs.all (okR fam add)
/-- Routes in memory. -/
def RtL (w : World) (A : Option Addr) (xs : List RtI) : Prop := Sl (Flat rtC) 19 w A xs ∧ ∀ x ∈ xs, x.B
theorem RtL.and {w w' : World} {A : Option Addr} {xs : List RtI} (h : RtL w A xs) (k : Kp NoB w w') : RtL w' A xs := ⟨Flat.and h.1 k, h.2⟩
theorem RtL.keep {S : Nat → Prop} {w w' : World} {A : Option Addr} {xs : List RtI} (h : RtL w A xs) (k : Kp S w w') (hs : ∀ ad, A = some ad → ¬ S ad.block) : RtL w' A xs := ⟨h.1.keep k hs (fun _ _ e => e), h.2⟩
theorem RtL.at {w : World} {A : Option Addr} {xs : List RtI} (h : RtL w A xs) {j : Nat} (hj : j < xs.length) : ∃ ad x, xs[j]? = some x ∧ x.B ∧ A = some ad ∧ CellsAt w (ad.add (j * 19)) (rtC x) := by
  obtain ⟨ad, e, hc⟩ := sl_at h.1 hj
  exact ⟨ad, xs[j], List.getElem?_eq_getElem hj, h.2 _ (List.getElem_mem hj), e, hc⟩

/-- All up to j are so. -/
def UptoR {α : Type} (p : α → Bool) (xs : List α) (j : Nat) : Prop := ∀ (k : Nat) (x : α), k < j → xs[k]? = some x → p x = true
theorem UptoR.zero {α : Type} (p : α → Bool) (xs : List α) : UptoR p xs 0 := fun k x h => by omega
theorem UptoR.succ {α : Type} {p : α → Bool} {xs : List α} {j : Nat} {x : α} (h : UptoR p xs j) (hx : xs[j]? = some x) (hp : p x = true) : UptoR p xs (j + 1) := fun k y hk hy => by
  rcases Nat.lt_or_ge k j with h1 | h1
  · exact h k y h1 hy
  · obtain rfl : k = j := by omega
    rw [hx] at hy
    injection hy with hy
    rwa [← hy]
theorem UptoR.all {α : Type} {p : α → Bool} {xs : List α} {j : Nat} (h : UptoR p xs j) (hj : j = xs.length) : xs.all p = true := by
  rw [List.all_eq_true]
  intro x hx
  obtain ⟨i, hi, e⟩ := List.getElem_of_mem hx
  exact h i x (by omega) (by rw [List.getElem?_eq_getElem hi, e])
theorem allR_no {α : Type} {p : α → Bool} {xs : List α} {j : Nat} {x : α} (hx : xs[j]? = some x) (hp : p x = false) : xs.all p = false := by
  rw [List.all_eq_false]
  exact ⟨x, List.mem_of_getElem? hx, by simp [hp]⟩

set_option maxRecDepth 100000 in
set_option maxHeartbeats 4000000 in
theorem bad_any (fam : Int) (add : Bool) (x : RtI) (bf ba : Nat) (w : World) (hB : x.B) (hf : Bk w bf 3 #[.int .i64 fam]) (ha : Bk w ba 4 #[.bool add]) :
    Calls Try.prog 42 #[x.val, .pointer (some ⟨bf, 0, none⟩), .pointer (some ⟨ba, 0, none⟩)] w (Stay (.bool (!okR fam add x)) w) := by
  have HV := Lib.hid (fun w => valid_any x.pre w hB.2)
  have hi : (Try.prog.info? 29).map (·.size) = some (preC x.pre).length := by rw [preC_length hB.2.2.2.1]; exact (size_of infoPre).2
  have HI := Lib.hid hi
  have HRT := Lib.hid (fun (W : World) (b : Nat) (h : Bk W b 31 (rtC x).toArray) => (⟨h.rt.1, h.rt.2, h.rt.2 0 _ rfl⟩ : W.cell? ⟨b, 0, none⟩ = some (.int .u32 x.path) ∧ W.rangeAt b 1 (preC x.pre) ∧ W.cell? ⟨b, 1, none⟩ = some (.int .i64 x.pre.fam)))
  unfold okR
  unfold PreI.val at HV
  unfold RtI.val
  obtain ⟨cs, hcs⟩ : ∃ cs, preC x.pre = cs := ⟨_, rfl⟩
  rw [hcs] at HV HRT HI
  obtain ⟨rs, hrs⟩ : ∃ rs, (rtC x).toArray = rs := ⟨_, rfl⟩
  rw [hrs] at HRT ⊢
  obtain ⟨path, hpath⟩ : ∃ path, x.path = path := ⟨_, rfl⟩
  obtain ⟨f, hff⟩ : ∃ f, x.pre.fam = f := ⟨_, rfl⟩
  obtain ⟨v, hv⟩ : ∃ v, validP x.pre = v := ⟨_, rfl⟩
  rw [hpath, hff] at HRT ⊢
  rw [hv] at HV ⊢
  clear hcs hrs hpath hi hff hv hB
  have HB0 := Lib.hid (Bk.fresh w 31 rs)
  obtain ⟨x1, x2, x3⟩ := HRT.out _ _ HB0.out
  have HX := Lib.hid x2
  have HF := Lib.hid hf
  have HA := Lib.hid ha
  clear x2 x1 x3 hf ha
  rcases v with _ | _
  · simp only [Bool.false_and, Bool.not_false]
    go_enter Try.func42, Try.ntmps42
    go_wp2_with (first
      | (refine wpList_load_mid rfl 29 (.tmp 5) rfl w.heap.size 1 rfl cs _ HX.out Try.underlying29 rfl HI.out ?_)
      | (go_at_call 43; (with_reducible refine (HV.out _).mono ?_); rintro e w1 ⟨rfl, hK1⟩))
    go_ret
    exact ⟨rfl, ((Kp.refl _ _).alloc _).and hK1⟩
  · by_cases h1 : f = fam
    · subst h1
      simp only [decide_true, Bool.true_and]
      rcases add with _ | _
      · simp only [Bool.false_or]
        rw [show (!decide (path = 0)) = (path != 0) by rw [Bool.eq_iff_iff]; simp]
        go_enter Try.func42, Try.ntmps42
        go_wp2_with (first
          | (refine wpList_load_mid rfl 29 (.tmp 5) rfl w.heap.size 1 rfl cs _ HX.out Try.underlying29 rfl HI.out ?_)
          | (go_at_call 43; (with_reducible refine (HV.out _).mono ?_); rintro e w1 ⟨rfl, hK1⟩; obtain ⟨z1, z2, z3⟩ := HRT.out _ _ (HB0.out.and hK1); replace z2 := Lib.hid z2; obtain ⟨y1, -, -⟩ := ((HF.out.alloc _).and hK1).one; obtain ⟨y2, -, -⟩ := ((HA.out.alloc _).and hK1).one))
        go_ret
        exact ⟨rfl, ((Kp.refl _ _).alloc _).and hK1⟩
      · simp only [Bool.true_or, Bool.not_true]
        go_enter Try.func42, Try.ntmps42
        go_wp2_with (first
          | (refine wpList_load_mid rfl 29 (.tmp 5) rfl w.heap.size 1 rfl cs _ HX.out Try.underlying29 rfl HI.out ?_)
          | (go_at_call 43; (with_reducible refine (HV.out _).mono ?_); rintro e w1 ⟨rfl, hK1⟩; obtain ⟨z1, z2, z3⟩ := HRT.out _ _ (HB0.out.and hK1); replace z2 := Lib.hid z2; obtain ⟨y1, -, -⟩ := ((HF.out.alloc _).and hK1).one; obtain ⟨y2, -, -⟩ := ((HA.out.alloc _).and hK1).one))
        go_ret
        exact ⟨rfl, ((Kp.refl _ _).alloc _).and hK1⟩
    · have h1' : (f != fam) = true := by simpa using h1
      rw [decide_eq_false h1]
      simp only [Bool.and_false, Bool.false_and, Bool.not_false]
      go_enter Try.func42, Try.ntmps42
      go_wp2_with (first
        | (refine wpList_load_mid rfl 29 (.tmp 5) rfl w.heap.size 1 rfl cs _ HX.out Try.underlying29 rfl HI.out ?_)
        | (go_at_call 43; (with_reducible refine (HV.out _).mono ?_); rintro e w1 ⟨rfl, hK1⟩; obtain ⟨z1, z2, z3⟩ := HRT.out _ _ (HB0.out.and hK1); replace z2 := Lib.hid z2; obtain ⟨y1, -, -⟩ := ((HF.out.alloc _).and hK1).one; obtain ⟨y2, -, -⟩ := ((HA.out.alloc _).and hK1).one))
      go_ret
      exact ⟨rfl, ((Kp.refl _ _).alloc _).and hK1⟩

end Go.Proofs.Ytkkfigdfgagimaa
