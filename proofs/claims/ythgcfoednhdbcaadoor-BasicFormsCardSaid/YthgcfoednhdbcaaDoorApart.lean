/- Chapter 7: the plain law of BasicApart: a valid attribute's bytes, and its text, tell its number. No program, no memory beyond the words of the chapter. -/
import Derived.Test.YthgcfoednhdbcaaDoorBasReads
namespace Go.Proofs.YthgcfoednhdbcaaDoor
open Go.RowKit
set_option linter.unusedVariables false
set_option linter.unusedSimpArgs false

/-- The number of a list of digits. -/
def valL (l : List UInt8) : Nat := l.foldl (fun a d => a * 10 + (d.toNat - 48)) 0
theorem valL_snoc (l : List UInt8) (d : UInt8) : valL (l ++ [d]) = valL l * 10 + (d.toNat - 48) := by simp [valL, List.foldl_append]
theorem dg_toNat (r : Nat) (h : r < 10) : (UInt8.ofNat (48 + r)).toNat = 48 + r := by rw [UInt8.toNat_ofNat']; omega
theorem dec_val : ∀ m : Nat, valL (Lib.decDigits m) = m := by
  intro m
  induction m using Nat.strongRecOn with
  | _ m ih =>
    rw [dec_pre, valL_snoc, dg_toNat _ (Nat.mod_lt _ (by decide))]
    unfold preD
    split
    · show 0 * 10 + _ = m; omega
    · rw [ih (m / 10) (by omega)]; omega
theorem dec_inj {m n : Nat} (h : Lib.decDigits m = Lib.decDigits n) : m = n := by rw [← dec_val m, ← dec_val n, h]
theorem dec_no_dot : ∀ m : Nat, ∀ d ∈ Lib.decDigits m, d ≠ 46 := by
  intro m
  induction m using Nat.strongRecOn with
  | _ m ih =>
    intro d hd
    rw [dec_pre, List.mem_append] at hd
    rcases hd with hd | hd
    · unfold preD at hd
      split at hd
      · cases hd
      · exact ih (m / 10) (by omega) d hd
    · simp only [List.mem_singleton] at hd
      intro e
      rw [hd] at e
      have := congrArg UInt8.toNat e
      rw [dg_toNat _ (Nat.mod_lt _ (by decide))] at this
      have h46 : (46 : UInt8).toNat = 46 := rfl
      omega

/-- What stands before a dot, or the end. -/
theorem split_dot : ∀ (a b r s : List UInt8), (∀ d ∈ a, d ≠ 46) → (∀ d ∈ b, d ≠ 46) → (r = [] ∨ ∃ r', r = 46 :: r') → (s = [] ∨ ∃ s', s = 46 :: s') → a ++ r = b ++ s → a = b ∧ r = s
  | [], [], _, _, _, _, _, _, h => ⟨rfl, h⟩
  | [], c :: b, r, s, _, hb, hr, _, h => by
    rcases hr with rfl | ⟨r', rfl⟩
    · cases h
    · injection h with h1 _
      exact absurd h1.symm (hb c (.head _))
  | c :: a, [], r, s, ha, _, _, hs, h => by
    rcases hs with rfl | ⟨s', rfl⟩
    · cases h
    · injection h with h1 _
      exact absurd h1 (ha c (.head _))
  | c :: a, d :: b, r, s, ha, hb, hr, hs, h => by
    injection h with h1 h2
    obtain ⟨h3, h4⟩ := split_dot a b r s (fun x hx => ha x (.tail _ hx)) (fun x hx => hb x (.tail _ hx)) hr hs h2
    exact ⟨by rw [h1, h3], h4⟩
theorem dotL_form (xs : List Int) : dotL xs = [] ∨ ∃ r, dotL xs = 46 :: r := by
  cases xs with
  | nil => exact .inl rfl
  | cons x xs => exact .inr ⟨_, rfl⟩
theorem dotL_inj : ∀ (xs ys : List Int), IsB xs → IsB ys → dotL xs = dotL ys → xs = ys
  | [], [], _, _, _ => rfl
  | [], y :: ys, _, _, h => by cases h
  | x :: xs, [], _, _, h => by cases h
  | x :: xs, y :: ys, hx, hy, h => by
    have h' : 46 :: (Lib.decDigits x.toNat ++ dotL xs) = 46 :: (Lib.decDigits y.toNat ++ dotL ys) := h
    injection h' with _ h2
    obtain ⟨h3, h4⟩ := split_dot _ _ _ _ (dec_no_dot _) (dec_no_dot _) (dotL_form xs) (dotL_form ys) h2
    have h5 := dec_inj h3
    have hx0 := hx x (.head _)
    have hy0 := hy y (.head _)
    rw [dotL_inj xs ys (fun z hz => hx z (.tail _ hz)) (fun z hz => hy z (.tail _ hz)) h4, show x = y by omega]
theorem addr_inj {m n : Int} (hm : 0 ≤ m ∧ m < 4294967296) (hn : 0 ≤ n ∧ n < 4294967296) (h : addrL m = addrL n) : m = n := by
  unfold addrL at h
  have hd : ∀ z : Int, dotL (putL 4 z) = 46 :: (dotL (putL 4 z)).drop 1 := fun z => by rw [putL_4]; rfl
  have h2 : dotL (putL 4 m) = dotL (putL 4 n) := by rw [hd m, hd n, h]
  have h3 := dotL_inj _ _ (putL_isB 4 m) (putL_isB 4 n) h2
  have h4 := congrArg big h3
  rwa [big_putL 4 m hm.1 (by simpa using hm.2), big_putL 4 n hn.1 (by simpa using hn.2)] at h4
theorem txtL_inj {s : ByteArray} {a b : List UInt8} (h : txtL s a = txtL s b) : a = b := by
  unfold txtL at h
  have := List.append_cancel_left h
  injection this
theorem org_inj {m n : Int} (hm : 0 ≤ m ∧ m ≤ 2) (hn : 0 ≤ n ∧ n ≤ 2) (h : orgL m = orgL n) : m = n := by
  rcases (show m = 0 ∨ m = 1 ∨ m = 2 by omega) with rfl | rfl | rfl <;> rcases (show n = 0 ∨ n = 1 ∨ n = 2 by omega) with rfl | rfl | rfl <;> first | rfl | (exact absurd h (by decide))

/-- Of one type, the bytes and the text tell the number. -/
theorem apart_both {a b : AtI} (ha : 0 ≤ a.n ∧ a.n < 4294967296) (hb : 0 ≤ b.n ∧ b.n < 4294967296) (ht : a.t = b.t) (va : validA a = true) (vb : validA b = true) :
    decide (bytesA a = bytesA b) = (a.n == b.n) ∧ ((ba (textA a)).toList == (ba (textA b)).toList) = (a.n == b.n) := by
  cases hk : wdO b.t with
  | none => unfold validA at vb; rw [hk] at vb; cases vb
  | some r =>
    obtain ⟨w, m, c⟩ := r
    have ma : a.n ≤ m := by unfold validA at va; rw [ht, hk] at va; simp only [Bool.and_eq_true, decide_eq_true_eq] at va; exact va.2
    have mb : b.n ≤ m := by unfold validA at vb; rw [hk] at vb; simp only [Bool.and_eq_true, decide_eq_true_eq] at vb; exact vb.2
    have hB : bytesA a = bytesA b → a.n = b.n := by
      intro h
      unfold bytesA at h
      rw [if_pos va, if_pos vb, ht] at h
      have h2 := congrArg big h
      obtain ⟨hw, hw3⟩ := wdO_a hk
      have hlt : ∀ x : Int, 0 ≤ x → x ≤ m → x < 256 ^ (wdT b.t) := by
        intro x hx0 hxm
        rcases wdO_kinds hk with ⟨_, rfl, rfl, _⟩ | ⟨_, rfl, rfl, _⟩ | ⟨_, rfl, rfl, _⟩
        · rw [show wdT b.t = 1 by omega]; omega
        · rw [show wdT b.t = 4 by omega]; omega
        · rw [show wdT b.t = 0 by omega]; omega
      rwa [big_putL _ _ ha.1 (hlt _ ha.1 ma), big_putL _ _ hb.1 (hlt _ hb.1 mb)] at h2
    have hT : textA a = textA b → a.n = b.n := by
      intro h
      unfold textA at h
      rw [if_pos va, if_pos vb, ht] at h
      unfold txtK at h
      rcases wdO_kinds hk with ⟨h1, rfl, rfl, _⟩ | ⟨h1, rfl, rfl, _⟩ | ⟨h1, rfl, rfl, _⟩
      · rw [if_pos h1, if_pos h1] at h
        exact org_inj ⟨ha.1, ma⟩ ⟨hb.1, mb⟩ (txtL_inj h)
      · rcases h1 with h1 | h1 | h1 | h1
        · simp only [h1] at h
          exact addr_inj ha hb (txtL_inj h)
        · simp only [h1] at h
          have := dec_inj (txtL_inj h); omega
        · simp only [h1] at h
          have := dec_inj (txtL_inj h); omega
        · simp only [h1] at h
          exact addr_inj ha hb (txtL_inj h)
      · omega
    have eB : a.n = b.n → bytesA a = bytesA b := fun h => by unfold bytesA; rw [va, vb, ht, h]
    have eT : a.n = b.n → textA a = textA b := fun h => by unfold textA; rw [va, vb, ht, h]
    refine ⟨?_, ?_⟩
    · rw [Bool.eq_iff_iff]
      simp only [decide_eq_true_eq, beq_iff_eq]
      exact ⟨hB, eB⟩
    · rw [ba_toList, ba_toList, Bool.eq_iff_iff]
      simp only [beq_iff_eq]
      exact ⟨hT, eT⟩

end Go.Proofs.YthgcfoednhdbcaaDoor
