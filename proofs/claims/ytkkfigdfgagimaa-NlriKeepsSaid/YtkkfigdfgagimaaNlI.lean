/- Chapter 3: what is read from a form; the chapter's example. -/
import Derived.Test.YtkkfigdfgagimaaNlH
import Derived.Test.YtkkfigdfgagimaaRPreC
import Derived.Test.YtkkfigdfgagimaaEqual
namespace Go.Proofs.Ytkkfigdfgagimaa
open Go.RowKit
set_option linter.unusedVariables false
set_option linter.unusedSimpArgs false

theorem make_form {p : PreI} (hB : p.B) (hv : validP p = true) : makeP p.fam p.len (p.addr.take (needN p.len)) = p := by
  have hr : rangedB p.fam p.len = true := by unfold validP at hv; simp at hv; exact hv.1
  have hm : maskL p.len p.addr = p.addr := by unfold validP at hv; simp at hv; exact hv.2
  obtain ⟨l0, l1⟩ := ranged_bd hr
  obtain ⟨hf, hl, ha, hb⟩ := hB
  unfold makeP
  obtain ⟨fam, len, a⟩ := p
  simp only at *
  congr 1
  have hn := needN_le l0 l1
  have hq := needN_eq l0
  have hlen : (a.take (needN len)).length = needN len := by rw [List.length_take]; omega
  refine ext16 (mkTo_length _ _ _) ha (fun j hj => ?_)
  have h1 : maskB (len - 8 * (j : Int)) (a.getD j 0) = a.getD j 0 := by
    rw [← maskL_get len a j hj, hm]
  rw [maskL_get _ _ j hj]
  rcases Nat.lt_or_ge j (needN len) with h | h
  · rw [padL_in _ _ (by omega)]
    rw [show (a.take (needN len)).getD j 0 = a.getD j 0 by rw [List.getD_eq_getElem?_getD, List.getD_eq_getElem?_getD, List.getElem?_take, if_pos h]]
    exact h1
  · rw [padL_zero _ _ (by omega), maskB_zero, ← h1, mask_zero _ _ (by omega)]
theorem readP_form {p : PreI} (hB : p.B) (hv : validP p = true) (rest : List Int) : readP p.fam (formP p ++ rest) = some (p, (formP p).length) := by
  have hr : rangedB p.fam p.len = true := by unfold validP at hv; simp at hv; exact hv.1
  obtain ⟨l0, l1⟩ := ranged_bd hr
  have hn := needN_le l0 l1
  have hlen : (p.addr.take (needN p.len)).length = needN p.len := by rw [List.length_take, hB.2.2.1]; omega
  unfold formP
  rw [List.cons_append]
  simp only [readP]
  rw [if_pos ⟨hr, by rw [List.length_append]; omega⟩, List.take_left' hlen, make_form hB hv]
  simp only [List.length_cons, hlen]
  rw [Nat.add_comm]
theorem readR_form {fam : Int} {add : Bool} {x : RtI} (hB : x.B) (hv : okR fam add x = true) (rest : List Int) : readR fam add (formR add x ++ rest) = some (x, (formR add x).length) := by
  unfold okR at hv
  simp only [Bool.and_eq_true, decide_eq_true_eq] at hv
  obtain ⟨⟨h1, rfl⟩, h3⟩ := hv
  unfold readR formR
  cases add with
  | false =>
    simp only [Bool.false_or, decide_eq_true_eq] at h3
    simp only [Bool.false_eq_true, if_false]
    rw [readP_form hB.2 h1]
    simp only
    congr 2
    rw [← h3]
  | true =>
    simp only [if_true]
    have h4 := putL_length 4 x.path
    rw [if_neg (by simp; omega), List.append_assoc, List.drop_left' h4, readP_form hB.2 h1, List.take_left' h4, big_putL 4 x.path hB.1.1 (by have := hB.1.2; omega)]
    simp only [List.length_append, h4]
theorem formR_pos (add : Bool) (x : RtI) : 0 < (formR add x).length := by
  unfold formR formP
  cases add
  · simp
  · simp
    omega
theorem readN_form {fam : Int} {add : Bool} : ∀ (xs : List RtI) (f t : Nat), (∀ x ∈ xs, x.B) → validL fam add xs = true → (formN add xs).length ≤ f → readN fam add f (formN add xs) t = (some xs, -1)
  | [], f, t, _, _, _ => by cases f <;> simp [formN, readN]
  | x :: xs, f, t, hB, hv, hf => by
    unfold validL at hv
    rw [List.all_cons, Bool.and_eq_true] at hv
    have hp := formR_pos add x
    have he : formN add (x :: xs) = formR add x ++ formN add xs := by simp [formN]
    rw [he] at hf ⊢
    rw [List.length_append] at hf
    cases f with
    | zero => omega
    | succ f =>
      have h5 : (formN add xs).length ≤ f := by omega
      rw [readN, if_neg (by intro h; have h6 := congrArg List.length h; rw [List.length_append, List.length_nil] at h6; omega), readR_form (hB x (by simp)) hv.1]
      simp only
      rw [List.drop_left, readN_form xs f _ (fun y hy => hB y (by simp [hy])) hv.2 h5]
theorem readL_form {fam : Int} {add : Bool} {xs : List RtI} (hB : ∀ x ∈ xs, x.B) (hv : validL fam add xs = true) : readL fam add (formN add xs) = (some xs, -1) := readN_form xs _ 0 hB hv (Nat.le_refl _)
theorem formN_isB {fam : Int} {add : Bool} {xs : List RtI} (hB : ∀ x ∈ xs, x.B) (hv : validL fam add xs = true) : IsB (formN add xs) := fun z hz => by
  simp only [formN, List.mem_flatMap] at hz
  obtain ⟨x, hx, hz⟩ := hz
  exact formR_isB (hB x hx) (validL_pre hv x hx) z hz

/-! ### The example -/
def exR : RtI := ⟨5, ⟨1, 8, 10 :: List.replicate 15 0⟩⟩
theorem exR_B : exR.B := ⟨by decide, by decide, by decide, by decide, fun x hx => by
  have : x = 10 ∨ x = 0 := by
    rcases List.mem_cons.1 hx with h | h
    · exact .inl h
    · exact .inr (List.eq_of_mem_replicate h)
  omega⟩
theorem exR_valid : validL 1 true [exR] = true := by decide +kernel
theorem exR_form : formN true [exR] = [0, 0, 0, 5, 8, 10] := by decide +kernel
theorem rtL_one (w : World) (x : RtI) (hB : x.B) : RtL (w.alloc (.cells (rtC x).toArray 31)) (some ⟨w.heap.size, 0, none⟩) [x] :=
  ⟨sl_of_arr (by have := Arr.lit w 31 (rtC x); simpa [flatE] using this) (fun y hy => by simp at hy; subst hy; exact rtC_length hB.2.2.2.1) (by decide), fun y hy => by simp at hy; subst hy; exact hB⟩

set_option maxRecDepth 100000 in
set_option maxHeartbeats 4000000 in
theorem alive_any (w : World) : Calls Try.prog 9 #[] w (Stay (.bool true) w) := by
  have H := Lib.hid (nbytes_good 1 true (some ⟨w.heap.size, 0, none⟩) 1 [exR] (w.alloc (.cells (rtC exR).toArray 31)) (rtL_one w exR exR_B) (by decide) exR_valid)
  rw [exR_form] at H
  have HE := Lib.hid (fun (W : World) (A : Option Addr) (c : Nat) (B : Option Addr) (h : Arr W A (bs [0, 0, 0, 5, 8, 10])) (k : Arr W B (bs [0, 0, 0, 5, 8, 10])) => equal_stay A B c 6 [0, 0, 0, 5, 8, 10] [0, 0, 0, 5, 8, 10] W h k (by decide))
  simp only [decide_true] at HE
  go_enter Try.func9, Try.ntmps9
  go_wp2_with (first
    | (go_at_call 24; refine H.out.mono ?_; rintro e w1 ⟨A1, c1, rfl, hown1, hK1⟩; replace hown1 := Lib.hid hown1; replace hK1 := Lib.hid hK1)
    | (go_at_call 26; refine (HE.out _ A1 c1 _ ((Arr.of_own hown1.out).alloc _) (Arr.lit w1 5 (bs [0, 0, 0, 5, 8, 10]))).mono ?_; rintro e w2 ⟨rfl, hK2⟩))
  go_ret
  exact ⟨rfl, ((((Kp.refl _ _).alloc _).and hK1.out).alloc _).and hK2⟩

end Go.Proofs.Ytkkfigdfgagimaa
