/- Package octet's readers: contracts by walking the Go text, each under the conditions that it names. -/
import Derived.Test.YtlgicacpfajmgaaOctA
namespace Go.Proofs.Ytlgicacpfajmgaa
open Go.RowKit
set_option linter.unusedVariables false
set_option linter.unusedSimpArgs false

/-! ### Readers -/

/-- A reader lies in block r: its bytes ys (in block q), its offset t. -/
def Rd (w : World) (q r : Nat) (ys : List Int) (t : Nat) : Prop :=
  ∃ A c, Bk w r 63 #[.slice A ys.length c, .int .i64 t] ∧ ys.length ≤ c ∧ c ≤ 9223372036854775807 ∧ Arr w A (bs ys) ∧ (ys ≠ [] → q ≠ r ∧ ∀ ad, A = some ad → ad.block = q) ∧ t + ys.length ≤ 140737488355328 ∧ IsB ys

theorem Rd.lt {w : World} {q r : Nat} {ys : List Int} {t : Nat} (h : Rd w q r ys t) : r < w.heap.size := by
  obtain ⟨A, c, hB, _⟩ := h
  exact hB.lt
theorem Rd.lt_q {w : World} {q r : Nat} {ys : List Int} {t : Nat} (h : Rd w q r ys t) : ys ≠ [] → q < w.heap.size := by
  obtain ⟨A, c, _, _, _, h3, h4, _⟩ := h
  intro hy
  have hne : bs ys ≠ [] := by simpa [bs] using hy
  obtain ⟨ad, e, _⟩ := h3 hne
  have := h3.lt hne ad e
  rwa [(h4 hy).2 ad e] at this
theorem Rd.ne {w : World} {q r : Nat} {ys : List Int} {t : Nat} (h : Rd w q r ys t) : ys ≠ [] → q ≠ r := by
  obtain ⟨A, c, _, _, _, _, h4, _⟩ := h
  exact fun hy => (h4 hy).1
theorem Rd.bd {w : World} {q r : Nat} {ys : List Int} {t : Nat} (h : Rd w q r ys t) : t + ys.length ≤ 140737488355328 := by
  obtain ⟨A, c, _, _, _, _, _, h5, _⟩ := h
  exact h5
theorem Rd.isB {w : World} {q r : Nat} {ys : List Int} {t : Nat} (h : Rd w q r ys t) : IsB ys := by
  obtain ⟨A, c, _, _, _, _, _, _, h6⟩ := h
  exact h6
theorem Rd.keep {S : Nat → Prop} {w w' : World} {q r : Nat} {ys : List Int} {t : Nat} (h : Rd w q r ys t) (k : Kp S w w') (hr : ¬ S r) (hq : ys ≠ [] → ¬ S q) : Rd w' q r ys t := by
  obtain ⟨A, c, hB, h1, h2, h3, h4, h5, h6⟩ := h
  by_cases hy : ys = []
  · subst hy
    exact ⟨A, c, hB.keep k hr, h1, h2, Arr.nil _ _, h4, h5, h6⟩
  · exact ⟨A, c, hB.keep k hr, h1, h2, h3.keep k (fun ad e => by rw [(h4 hy).2 ad e]; exact hq hy), h4, h5, h6⟩
theorem Rd.and {w w' : World} {q r : Nat} {ys : List Int} {t : Nat} (h : Rd w q r ys t) (k : Kp NoB w w') : Rd w' q r ys t := h.keep k (fun q => q) (fun _ q => q)

theorem Rd.cut {w w' : World} {q r : Nat} {ys : List Int} {t k c : Nat} {A : Option Addr} (hk : k ≤ ys.length) (h1 : ys.length ≤ c) (h2 : c ≤ 9223372036854775807) (h3 : Arr w A (bs ys)) (h4 : ys ≠ [] → q ≠ r ∧ ∀ ad, A = some ad → ad.block = q) (h5 : t + ys.length ≤ 140737488355328) (h6 : IsB ys)
    (hB : Bk w' r 63 #[.slice (cutA A k c) (ys.length - k) (c - k), .int .i64 (t + k : Int)]) (hK : Kp (OnB r) w w') : Rd w' q r (ys.drop k) (t + k) := by
  refine ⟨cutA A k c, c - k, ?_, ?_, ?_, ?_, ?_, ?_, h6.drop k⟩
  · rw [List.length_drop]
    simpa using hB
  · rw [List.length_drop]; omega
  · omega
  · rw [bs_drop]
    by_cases hy : ys = []
    · subst hy
      simpa [bs] using Arr.nil _ _
    · exact (h3.keep hK (fun ad e => by rw [(h4 hy).2 ad e]; exact (h4 hy).1)).drop (by rw [bs_length]; exact h1)
  · intro hd
    obtain ⟨g1, g2⟩ := h4 (by rintro rfl; simp at hd)
    refine ⟨g1, fun ad e => ?_⟩
    obtain ⟨a, ha, hb⟩ := cutA_block _ _ _ _ e
    rw [hb]
    exact g2 a ha
  · rw [List.length_drop]; omega

/-- What 'Number' leaves where it succeeds. -/
def NumYes (w : World) (q r : Nat) (ys : List Int) (t k : Nat) (e : Ending) (w' : World) : Prop :=
  e = .returned (.tuple #[.int .u32 (big (ys.take k)), .bool true]) ∧ Rd w' q r (ys.drop k) (t + k) ∧ Kp (OnB r) w w'

set_option maxHeartbeats 1000000 in
theorem number_yes (w : World) (q r : Nat) (ys : List Int) (t k : Nat) (h : Rd w q r ys t) (hk1 : 1 ≤ k) (hk4 : k ≤ 4) (hkl : k ≤ ys.length) :
    Calls Try.prog 11 #[.pointer (some ⟨r, 0, none⟩), .int .i64 k] w (NumYes w q r ys t k) := by
  obtain ⟨A, c, hB, h1, h2, h3, h4, h5, h6⟩ := h
  have hcut := cut_yes r _ A ys.length c t k w hB hkl h1 h2 h5
  have HC := Lib.hid hcut
  clear hcut
  go_enter Try.func11, Try.ntmps11
  go_wp2_with (go_at_call 26; refine HC.out.mono ?_; rintro e w1 ⟨rfl, hB1, hK1⟩)
  obtain ⟨ad, rfl, hc⟩ := (h3.keep hK1 (fun ad e => by rw [(h4 (by rintro rfl; simp at hkl; omega)).2 ad e]; exact (h4 (by rintro rfl; simp at hkl; omega)).1)).alloc (.cells #[.slice A k k, .int .i64 t] 61) (by intro e; have := bs_length ys; rw [e] at this; simp at this; omega)
  go_loop [8, 32] (fun x i => ∃ j : Nat, j ≤ k ∧ i = .int .i64 j ∧ x = .int .u32 (big (ys.take j))) (fun _ i => k - (intOf i).toNat)
  case atStart => exact ⟨0, Nat.zero_le _, rfl, rfl⟩
  case round =>
    obtain ⟨j, hj, rfl, rfl⟩ := hrel
    by_cases hlt : j < k
    · have hcell := hc j _ (bs_get ys j (by omega))
      obtain ⟨y, hy⟩ : ∃ y, ys.getD j 0 = y := ⟨_, rfl⟩
      have hb1 := big_small (ys.take j) (h6.take j) (by simp; omega)
      have hb2 := h6.getD j
      rw [hy] at hcell hb2
      have hor := u32_or8 _ _ hb1.1 hb1.2 hb2.1 hb2.2
      have hbs := big_take_succ ys j (by omega)
      rw [hy] at hbs
      have HS := Lib.hid hbs
      clear hbs hy
      go_wp2
      go_round
      case rel => exact ⟨j + 1, by omega, by go_num, by rw [HS.out]⟩
      case measure => simp [intOf]; omega
    · have hj : j = k := by omega
      subst hj
      go_wp2
      go_ret2
      exact ⟨rfl, (Rd.cut (by omega) h1 h2 h3 h4 h5 h6 hB1 hK1).and ((Kp.refl _ _).alloc _), hK1.alloc _⟩

set_option maxHeartbeats 1000000 in
theorem number_short (w : World) (q r : Nat) (ys : List Int) (t : Nat) (k : Int) (h : Rd w q r ys t) (hk1 : 1 ≤ k) (hk4 : k ≤ 4) (hkl : (ys.length : Int) < k) :
    Calls Try.prog 11 #[.pointer (some ⟨r, 0, none⟩), .int .i64 k] w (Stay (.tuple #[.int .u32 0, .bool false]) w) := by
  obtain ⟨A, c, hB, h1, h2, h3, h4, h5, h6⟩ := h
  have hcut := cut_no r _ A ys.length c t k w hB (.inr hkl)
  have HC := Lib.hid hcut
  clear hcut
  go_enter Try.func11, Try.ntmps11
  go_wp2_with (go_at_call 26; refine HC.out.mono ?_; rintro e w1 ⟨rfl, hK1⟩)
  refine wp_loop_rounds 1 ?_
  rw [rounds_succ]
  go_wp2
  all_goals go_ret2
  all_goals exact ⟨rfl, hK1.alloc _⟩

set_option maxHeartbeats 1000000 in
theorem number_range (w : World) (r : Option Addr) (k : Int) (hk : k < 1 ∨ 4 < k) :
    Calls Try.prog 11 #[.pointer r, .int .i64 k] w (Stay (.tuple #[.int .u32 0, .bool false]) w) := by
  rcases hk with hk | hk <;> cases r
  all_goals
    go_enter Try.func11, Try.ntmps11
    go_wp2
    go_ret2
    exact ⟨rfl, Kp.refl _ _⟩

theorem number_nil (w : World) (k : Int) :
    Calls Try.prog 11 #[.pointer none, .int .i64 k] w (Stay (.tuple #[.int .u32 0, .bool false]) w) := by
  go_enter Try.func11, Try.ntmps11
  go_wp2
  go_ret2
  exact ⟨rfl, Kp.refl _ _⟩


/-! ### Take -/

/-- What 'Take' leaves where it succeeds. -/
def TakeYes (w : World) (q r : Nat) (ys : List Int) (t k : Nat) (e : Ending) (w' : World) : Prop :=
  ∃ A c, e = .returned (.tuple #[.slice A k c, .bool true]) ∧ w'.ownsRow w.heap.size 5 1 (.slice A k c) k (bs (ys.take k)) ∧ Rd w' q r (ys.drop k) (t + k) ∧ Kp (OnB r) w w'

set_option maxHeartbeats 1000000 in
theorem take_yes (w : World) (q r : Nat) (ys : List Int) (t k : Nat) (h : Rd w q r ys t) (hkl : k ≤ ys.length) :
    Calls Try.prog 15 #[.pointer (some ⟨r, 0, none⟩), .int .i64 k] w (TakeYes w q r ys t k) := by
  obtain ⟨A, c, hB, h1, h2, h3, h4, h5, h6⟩ := h
  have hcut := cut_yes r _ A ys.length c t k w hB hkl h1 h2 h5
  have HC := Lib.hid hcut
  clear hcut
  have hlen : (ys.take k).length = k := by simp; omega
  have hclone := fun (w : World) (ha : Arr w A (bs (ys.take k))) => clone_any A k (ys.take k) w (by rw [hlen]; omega) ha
  rw [hlen] at hclone
  have HL := Lib.hid hclone
  have hn := Lib.hid hlen
  clear hclone hlen
  go_enter Try.func15, Try.ntmps15
  go_wp2_with (go_at_call 26; refine HC.out.mono ?_; rintro e w1 ⟨rfl, hB1, hK1⟩)
  have ha : Arr w1 A (bs (ys.take k)) := by
    rw [bs_take]
    by_cases hy : ys = []
    · subst hy
      simpa [bs] using Arr.nil _ _
    · exact (h3.keep hK1 (fun ad e => by rw [(h4 hy).2 ad e]; exact (h4 hy).1)).take k
  go_wp2_with (go_at_call 14; refine (HL.out _ (ha.alloc _)).mono ?_; rintro e w2 ⟨A', c', rfl, hown, hK2⟩)
  go_ret2
  have hlen := hn.out
  rw [hlen] at hown
  have hKK := hK1.alloc (.cells #[.slice A k k, .int .i64 t] 61)
  refine ⟨A', c', rfl, ?_, (Rd.cut hkl h1 h2 h3 h4 h5 h6 hB1 hK1).and (((Kp.refl _ _).alloc _).and hK2), hKK.and hK2⟩
  exact ⟨hown.1, hown.2.imp id (fun ⟨g, cap, cur, hv, hg, hr⟩ => ⟨g, cap, cur, hv, Nat.le_trans hKK.size hg, hr⟩)⟩

set_option maxHeartbeats 1000000 in
theorem take_no (w : World) (q r : Nat) (ys : List Int) (t : Nat) (k : Int) (h : Rd w q r ys t) (hk : k < 0 ∨ (ys.length : Int) < k) :
    Calls Try.prog 15 #[.pointer (some ⟨r, 0, none⟩), .int .i64 k] w (Stay (.tuple #[.slice none 0 0, .bool false]) w) := by
  obtain ⟨A, c, hB, h1, h2, h3, h4, h5, h6⟩ := h
  have hcut := cut_no r _ A ys.length c t k w hB hk
  have HC := Lib.hid hcut
  clear hcut
  clear hk
  go_enter Try.func15, Try.ntmps15
  go_wp2_with (first | (go_at_call 26; refine HC.out.mono ?_; rintro e w1 ⟨rfl, hK1⟩) | (go_at_call 14; refine (clone_nil 0 0 _).mono ?_; rintro e w2 ⟨rfl, hK2⟩))
  go_ret2
  exact ⟨rfl, (hK1.alloc _).and hK2⟩

theorem take_nil (w : World) (k : Int) :
    Calls Try.prog 15 #[.pointer none, .int .i64 k] w (Stay (.tuple #[.slice none 0 0, .bool (k == 0)]) w) := by
  go_enter Try.func15, Try.ntmps15
  go_wp2
  go_ret2
  exact ⟨rfl, Kp.refl _ _⟩

/-! ### Part -/

/-- What 'Part' leaves where it succeeds: a reader in a new block, of the same bytes. -/
def PartYes (w : World) (q r : Nat) (ys : List Int) (t k : Nat) (e : Ending) (w' : World) : Prop :=
  ∃ r', e = .returned (.tuple #[.pointer (some ⟨r', 0, none⟩), .bool true]) ∧ w.heap.size ≤ r' ∧ r' ≠ r ∧ (ys ≠ [] → q ≠ r') ∧ Rd w' q r' (ys.take k) t ∧ Rd w' q r (ys.drop k) (t + k) ∧ Kp (OnB r) w w'

set_option maxHeartbeats 1000000 in
theorem part_yes (w : World) (q r : Nat) (ys : List Int) (t k : Nat) (h : Rd w q r ys t) (hkl : k ≤ ys.length) :
    Calls Try.prog 20 #[.pointer (some ⟨r, 0, none⟩), .int .i64 k] w (PartYes w q r ys t k) := by
  have hr := h.lt
  have hq := h.lt_q
  obtain ⟨A, c, hB, h1, h2, h3, h4, h5, h6⟩ := h
  have hcut := cut_yes r _ A ys.length c t k w hB hkl h1 h2 h5
  have HC := Lib.hid hcut
  clear hcut
  go_enter Try.func20, Try.ntmps20
  go_wp2_with (go_at_call 26; refine HC.out.mono ?_; rintro e w1 ⟨rfl, hB1, hK1⟩)
  go_ret2
  have hlen : (ys.take k).length = k := by simp; omega
  have hKK := hK1.alloc (.cells #[.slice A k k, .int .i64 t] 61)
  have hsz := hK1.size
  refine ⟨_, rfl, by omega, by omega, fun hy => by have := hq hy; omega, ?_, ((Rd.cut hkl h1 h2 h3 h4 h5 h6 hB1 hK1).and ((Kp.refl _ _).alloc _)).and ((Kp.refl _ _).alloc _), hKK.alloc _⟩
  refine ⟨A, k, ?_, by omega, by omega, ?_, ?_, by omega, h6.take k⟩
  · rw [hlen]
    have := Bk.fresh (w1.alloc (.cells #[.slice A k k, .int .i64 t] 61)) 63 #[.slice A k k, .int .i64 t]
    simpa using this
  · rw [bs_take]
    by_cases hy : ys = []
    · subst hy
      simpa [bs] using Arr.nil _ _
    · exact ((((h3.keep hK1 (fun ad e => by rw [(h4 hy).2 ad e]; exact (h4 hy).1)).alloc _).alloc _).take k)
  · intro hd
    have hy : ys ≠ [] := by rintro rfl; simp at hd
    exact ⟨by have := hq hy; omega, (h4 hy).2⟩

set_option maxHeartbeats 1000000 in
theorem part_no (w : World) (q r : Nat) (ys : List Int) (t : Nat) (k : Int) (h : Rd w q r ys t) (hk : k < 0 ∨ (ys.length : Int) < k) :
    Calls Try.prog 20 #[.pointer (some ⟨r, 0, none⟩), .int .i64 k] w (Stay (.tuple #[.pointer none, .bool false]) w) := by
  obtain ⟨A, c, hB, h1, h2, h3, h4, h5, h6⟩ := h
  have hcut := cut_no r _ A ys.length c t k w hB hk
  have HC := Lib.hid hcut
  clear hcut hk
  go_enter Try.func20, Try.ntmps20
  go_wp2_with (go_at_call 26; refine HC.out.mono ?_; rintro e w1 ⟨rfl, hK1⟩)
  go_ret2
  exact ⟨rfl, hK1.alloc _⟩

/-! ### At, Left -/

theorem at_any (w : World) (q r : Nat) (ys : List Int) (t : Nat) (h : Rd w q r ys t) :
    Calls Try.prog 16 #[.pointer (some ⟨r, 0, none⟩)] w (Stay (.int .i64 t) w) := by
  obtain ⟨A, c, hB, _⟩ := h
  have h1 := hB.cell 1
  clear hB
  go_enter Try.func16, Try.ntmps16
  go_wp2
  go_ret
  exact ⟨rfl, Kp.refl _ _⟩

theorem left_any (w : World) (q r : Nat) (ys : List Int) (t : Nat) (h : Rd w q r ys t) :
    Calls Try.prog 17 #[.pointer (some ⟨r, 0, none⟩)] w (Stay (.int .i64 ys.length) w) := by
  obtain ⟨A, c, hB, _⟩ := h
  have h0 := hB.cell 0
  clear hB
  go_enter Try.func17, Try.ntmps17
  go_wp2
  go_ret
  exact ⟨rfl, Kp.refl _ _⟩

theorem at_nil (w : World) : Calls Try.prog 16 #[.pointer none] w (Stay (.int .i64 0) w) := by
  go_enter Try.func16, Try.ntmps16
  go_wp2
  go_ret
  exact ⟨rfl, Kp.refl _ _⟩

theorem left_nil (w : World) : Calls Try.prog 17 #[.pointer none] w (Stay (.int .i64 0) w) := by
  go_enter Try.func17, Try.ntmps17
  go_wp2
  go_ret
  exact ⟨rfl, Kp.refl _ _⟩

/-- The same, for a region that draws its order. -/
theorem at_q (w : World) (q r : Nat) (ys : List Int) (t : Nat) (h : Rd w q r ys t) :
    Calls Try.prog 16 #[.pointer (some ⟨r, 0, none⟩)] w fun e w' => e = .returned (.int .i64 t) ∧ w' = w := by
  obtain ⟨A, c, hB, _⟩ := h
  have h1 := hB.cell 1
  clear hB
  go_enter Try.func16, Try.ntmps16
  go_wp2
  go_ret
  exact ⟨rfl, rfl⟩

theorem left_q (w : World) (q r : Nat) (ys : List Int) (t : Nat) (h : Rd w q r ys t) :
    Calls Try.prog 17 #[.pointer (some ⟨r, 0, none⟩)] w fun e w' => e = .returned (.int .i64 ys.length) ∧ w' = w := by
  obtain ⟨A, c, hB, _⟩ := h
  have h0 := hB.cell 0
  clear hB
  go_enter Try.func17, Try.ntmps17
  go_wp2
  go_ret
  exact ⟨rfl, rfl⟩

/-! ### New -/

/-- What 'New' leaves: a reader in a new block, of bytes of its own. -/
def Made (w : World) (ys : List Int) (e : Ending) (w' : World) : Prop :=
  ∃ q r, e = .returned (.pointer (some ⟨r, 0, none⟩)) ∧ w.heap.size ≤ r ∧ w.heap.size ≤ q ∧ (ys ≠ [] → q ≠ r) ∧ Rd w' q r ys 0 ∧ Kp NoB w w'

set_option maxHeartbeats 1000000 in
theorem new_any (A : Option Addr) (c : Nat) (ys : List Int) (w : World) (hn : ys.length ≤ 140737488355328) (ha : Arr w A (bs ys)) (hb : IsB ys) :
    Calls Try.prog 10 #[.slice A ys.length c] w (Made w ys) := by
  have hclone := fun (w : World) (ha : Arr w A (bs ys)) => clone_any A c ys w hn ha
  have HL := Lib.hid hclone
  clear hclone
  go_enter Try.func10, Try.ntmps10
  go_wp2_with (go_at_call 14; refine (HL.out _ ha).mono ?_; rintro e w1 ⟨A', c', rfl, hown, hK⟩)
  go_ret
  have hs := hK.size
  obtain ⟨A2, c2, he, g1, g2, harr⟩ := own_form hown
  injection he with e1 _ e3
  subst e1 e3
  have hlt := hown.lt
  have hne : ys ≠ [] → blkOr A' w.heap.size ≠ w1.heap.size ∧ ∀ ad, A' = some ad → ad.block = blkOr A' w.heap.size := by
    intro hy
    obtain ⟨ad, rfl, _⟩ := harr (by simpa [bs] using hy)
    have := (hlt _ rfl).2
    refine ⟨by simp only [blkOr]; omega, fun ad' e => ?_⟩
    cases e
    rfl
  refine ⟨blkOr A' w.heap.size, w1.heap.size, rfl, by omega, ?_, fun hy => (hne hy).1, ⟨A', c', Bk.fresh _ _ _, g1, g2, harr.alloc _, hne, by omega, hb⟩, hK.alloc _⟩
  cases A' with
  | none => exact Nat.le_refl _
  | some ad => exact (hlt _ rfl).1

end Go.Proofs.Ytlgicacpfajmgaa
