/- NOTIFICATIONs for verdicts: bytes.Clone; Of of package notice and of its reference: contracts. No condition. -/
import Derived.Test.YtlklhcgacdjkiaaDoorNotC
import Derived.Test.YtlklhcgacdjkiaaDoorVer
import Derived.Test.YtlklhcgacdjkiaaDoorClone
import Derived.Deep.RegionHeld3
namespace Go.Proofs.YtlklhcgacdjkiaaDoor
open Go.RowKit
set_option linter.unusedVariables false
set_option linter.unusedSimpArgs false

set_option maxHeartbeats 400000 in
/-- bytes.Clone: the same bytes in a row of their own. -/
theorem bclone_any (A : Option Addr) (c : Nat) (xs : List Int) (w : World) (hn : xs.length ≤ 140737488355328) (ha : Arr w A (bs xs)) :
    Calls Tryd.prog 27 #[.slice A xs.length c] w (Cloned w xs) := by
  obtain ⟨i0, hi, hz0, hz1, hz2⟩ := info_parts infoU8
  cases A with
  | none =>
    have hx : xs = [] := by
      rcases Classical.em (xs = []) with h | h
      · exact h
      · obtain ⟨ad, e, _⟩ := ha (by simpa [bs] using h)
        cases e
    subst hx
    clear hi hz0 hz1 hz2
    have hnil := fun (w : World) n c => Lib.run_eql_slice_nil (P := Tryd.prog) w 27 5 none n c 0 0 Tryd.underlying27
    go_enter Tryd.func27, Tryd.ntmps27
    go_wp2
    go_ret
    exact ⟨none, 0, rfl, World.ownsRow_nil _ _ _ _, Kp.refl _ _⟩
  | some ad =>
    have hnil := fun (w : World) n c => Lib.run_eql_slice_nil (P := Tryd.prog) w 27 5 (some ad) n c 0 0 Tryd.underlying27
    go_enter Tryd.func27, Tryd.ntmps27
    go_wp2_with (at_builtin; refine wpList_app ((Kp.refl NoB w).alloc _) rfl (.tmp 5) (.tmp 6) 27 rfl 5 i0 (.int .u8 0) 1 1 Tryd.underlying27 hi hz0 hz1 hz2 rfl (by decide) _ _ _ rfl (World.ownsRow_made w #[] 0 (Nat.le_refl _) (Nat.zero_le _) rfl) (some ad) xs.length c (bs xs) rfl (by simp [bs]) (ha.alloc _) (bs_one xs) (by omega) (by decide) xs.length (by omega) ?_; intro A' c' w1 hown hk hg hat; clear hg hat)
    go_ret
    exact ⟨A', c', rfl, hown, hk⟩


theorem Bk.five {w : World} {b : Nat} {t : TypeId} {u v x y z : Value} (h : Bk w b t #[u, v, x, y, z]) : w.cell? ⟨b, 0, none⟩ = some u ∧ w.cell? ⟨b, 1, none⟩ = some v ∧ w.cell? ⟨b, 2, none⟩ = some x ∧ w.cell? ⟨b, 3, none⟩ = some y ∧ w.cell? ⟨b, 4, none⟩ = some z ∧ b < w.heap.size :=
  ⟨h.cell 0, h.cell 1, h.cell 2, h.cell 3, h.cell 4, h.lt⟩

/-- How many bytes of data fit. -/
def roomV (ext : Bool) : Nat := if ext then 65514 else 4075
/-- Options. -/
def optV (b0 b1 b2 b3 b4 b5 : Bool) : Value := .agg #[.bool b0, .bool b1, .bool b2, .bool b3, .bool b4, .bool b5]

/-- What 'Of' leaves where there is a NOTIFICATION. -/
def NOf (w : World) (c s : Int) (d : List Int) (e : Ending) (w' : World) : Prop :=
  ∃ A m, e = .returned (.tuple #[.agg #[.int .i64 c, .int .i64 s, .slice A d.length m], .bool true]) ∧ Arr w' A (bs d) ∧ d.length ≤ m ∧ m ≤ maxLen ∧ Kp NoB w w'

set_option maxRecDepth 100000 in
set_option maxHeartbeats 4000000 in
theorem nof_no (b0 b1 b2 b3 b4 b5 : Bool) (k c s : Int) (A : Option Addr) (n m : Nat) (a : Int) (w : World) (h : k ≠ 4 ∨ properV k c s n a = false) :
    Calls Tryd.prog 12 #[.agg #[.bool b0, .bool b1, .bool b2, .bool b3, .bool b4, .bool b5], .agg #[.int .i64 k, .int .i64 c, .int .i64 s, .slice A n m, .int .i64 a]] w (Stay nparseNone w) := by
  by_cases h4 : k = 4
  · subst h4
    have hp : properV 4 c s n a = false := by rcases h with h | h; exact absurd rfl h; exact h
    have H := Lib.hid (fproper_any 4 c s A n m a)
    rw [hp] at H
    have hb0 := Lib.hid (Bk.fresh ((w.alloc (.cells #[.bool b0, .bool b1, .bool b2, .bool b3, .bool b4, .bool b5] 26)).alloc (.cells #[.int .i64 4, .int .i64 c, .int .i64 s, .slice A n m, .int .i64 a] 29)) 32 #[.int .i64 0, .int .i64 0, .slice none 0 0])
    clear hp h
    go_enter Tryd.func12, Tryd.ntmps12
    go_wp2_with fail
    refine (H.out _).mono ?_
    rintro e w1 ⟨rfl, hK1⟩
    have b1 := Lib.hid (hb0.out.and hK1)
    simp only [World.size_alloc] at b1
    obtain ⟨x1, x2, x3, x4, x5, x6, x7⟩ := b1.out.three
    go_wp2_with fail
    refine bodyPost_ret (v := nparseNone) (by simp [results, Tryd.results12, go_sem, nparseNone, *]) rfl ?_
    exact ⟨rfl, ((((Kp.refl _ _).alloc _).alloc _).alloc _ |>.and hK1).new (KZ w1 _) (by omega)⟩
  · have h4' : (k != 4) = true := by simp [h4]
    clear h4 h
    go_enter Tryd.func12, Tryd.ntmps12
    go_wp2_with fail
    refine bodyPost_ret (v := nparseNone) (by simp [results, Tryd.results12, go_sem, nparseNone]) rfl ?_
    exact ⟨rfl, (((Kp.refl _ _).alloc _).alloc _).alloc _⟩

set_option maxRecDepth 100000 in
set_option maxHeartbeats 8000000 in
theorem nof_yes (b0 b1 b2 b3 b4 b5 : Bool) (c s : Int) (A : Option Addr) (xs : List Int) (m : Nat) (a : Int) (w : World) (hp : properV 4 c s xs.length a = true) (hx : InD w A xs m) :
    Calls Tryd.prog 12 #[.agg #[.bool b0, .bool b1, .bool b2, .bool b3, .bool b4, .bool b5], .agg #[.int .i64 4, .int .i64 c, .int .i64 s, .slice A xs.length m, .int .i64 a]] w (NOf w c s (xs.take (min xs.length (roomV b1)))) := by
  have H := Lib.hid (fproper_any 4 c s A xs.length m a)
  rw [hp] at H
  have hmM : m ≤ 9223372036854775807 := hx.2.2.2
  have hnm := hx.2.2.1
  obtain ⟨L, hL⟩ : ∃ L, min xs.length (roomV b1) = L := ⟨_, rfl⟩
  have hLn : L ≤ xs.length := by omega
  have hlen : (xs.take L).length = L := by simp; omega
  have HC := Lib.hid (fun w' (k : Kp NoB w w') => bclone_any A L (xs.take L) w' (by rw [hlen]; have := roomV b1; unfold roomV at hL; split at hL <;> omega) (by rw [bs_take]; exact (hx.1.and k).take L))
  unfold Cloned at HC
  simp only [hlen] at HC
  rw [hL]
  have HF : Hid (∀ (A' : Option Addr) (m' : Nat) (e : Ending) (w1 w' : World), w1.ownsRow (w.heap.size + 3) 5 1 (.slice A' L m') L (bs (xs.take L)) → Kp (OnB (w.heap.size + 1 + 1)) w1 w' → Kp NoB w w1 → e = .returned (.tuple #[.agg #[.int .i64 c, .int .i64 s, .slice A' L m'], .bool true]) → NOf w c s (xs.take L) e w') := Lib.hid (fun A' m' e w1 w' hown k1 k2 he => by
    have hown' := k1.own hown (fun b hb hq => own_ge hown (show w.heap.size + 2 < w.heap.size + 3 by omega) (by rw [hb, show b = w.heap.size + 1 + 1 from hq]))
    obtain ⟨A2, m2, e2, h1, h2, h3⟩ := own_form hown'
    injection e2 with e2 _ e3
    subst e2 e3
    exact ⟨_, _, by rw [hlen]; exact he, h3, by rw [hlen]; exact h1, h2, k2.new k1 (by omega)⟩)
  have hv0 := Lib.hid (((Bk.second w (.cells #[.bool b0, .bool b1, .bool b2, .bool b3, .bool b4, .bool b5] 26) 29 #[.int .i64 4, .int .i64 c, .int .i64 s, .slice A xs.length m, .int .i64 a])).alloc (.cells #[.int .i64 0, .int .i64 0, .slice none 0 0] 32))
  have hr0 := Lib.hid (Bk.third w (.cells #[.bool b0, .bool b1, .bool b2, .bool b3, .bool b4, .bool b5] 26) (.cells #[.int .i64 4, .int .i64 c, .int .i64 s, .slice A xs.length m, .int .i64 a] 29) 32 #[.int .i64 0, .int .i64 0, .slice none 0 0])
  have hk0 := Lib.hid ((((Kp.refl NoB w).alloc (.cells #[.bool b0, .bool b1, .bool b2, .bool b3, .bool b4, .bool b5] 26)).alloc (.cells #[.int .i64 4, .int .i64 c, .int .i64 s, .slice A xs.length m, .int .i64 a] 29)).alloc (.cells #[.int .i64 0, .int .i64 0, .slice none 0 0] 32))
  have ho0 := Lib.hid ((Bk.fresh w 26 #[.bool b0, .bool b1, .bool b2, .bool b3, .bool b4, .bool b5]).alloc (.cells #[.int .i64 4, .int .i64 c, .int .i64 s, .slice A xs.length m, .int .i64 a] 29) |>.alloc (.cells #[.int .i64 0, .int .i64 0, .slice none 0 0] 32))
  obtain ⟨n, hn⟩ : ∃ n, xs.length = n := ⟨_, rfl⟩
  simp only [hn] at *
  clear hx hp hlen hn
  unfold roomV at hL
  have hcs : (b1 = true ∧ n ≤ 65514 ∧ n = L) ∨ (b1 = true ∧ 65514 < n ∧ 65514 = L) ∨ (b1 = false ∧ n ≤ 4075 ∧ n = L) ∨ (b1 = false ∧ 4075 < n ∧ 4075 = L) := by
    cases b1
    · simp only [Bool.false_eq_true, if_false] at hL
      rcases Nat.lt_or_ge 4075 n with h | h
      · rw [Nat.min_eq_right (by omega)] at hL; exact .inr (.inr (.inr ⟨rfl, h, hL⟩))
      · rw [Nat.min_eq_left (by omega)] at hL; exact .inr (.inr (.inl ⟨rfl, h, hL⟩))
    · simp only [if_true] at hL
      rcases Nat.lt_or_ge 65514 n with h | h
      · rw [Nat.min_eq_right (by omega)] at hL; exact .inr (.inl ⟨rfl, h, hL⟩)
      · rw [Nat.min_eq_left (by omega)] at hL; exact .inl ⟨rfl, h, hL⟩
  clear hL
  rcases hcs with ⟨rfl, h1, rfl⟩ | ⟨rfl, h1, rfl⟩ | ⟨rfl, h1, rfl⟩ | ⟨rfl, h1, rfl⟩
  · have hi1 : (n : Int) ≤ (m : Int) := by omega
    go_enter Tryd.func12, Tryd.ntmps12
    go_wp2_with fail
    refine (H.out _).mono ?_
    rintro e w1 ⟨rfl, hK1⟩
    have v1 := Lib.hid (hv0.out.and hK1)
    have r1 := Lib.hid (hr0.out.and hK1)
    have o1 := Lib.hid (ho0.out.and hK1)
    have k1 := Lib.hid (hk0.out.and hK1)
    clear hK1
    have hsz1 := r1.out.lt
    have oc := o1.out.cell 1
    obtain ⟨x1, x2, x3, x4, x5, x6⟩ := v1.out.five
    obtain ⟨y1, y2, y3, y4, y5, y6, y7⟩ := r1.out.three
    go_wp2_with fail
    all_goals first | (exfalso; omega) | skip
    go_region_held3 (fun w' => w'.cell? ⟨w.heap.size + 1, 1, none⟩ = some (.int .i64 c) ∧ w'.cell? ⟨w.heap.size + 1, 2, none⟩ = some (.int .i64 s) ∧ w'.cell? ⟨w.heap.size + 1, 3, none⟩ = some (.slice A n m)) (go_keep)
      (first
        | (go_at_call 27; refine (HC.out _ k1.out.drew).mono ?_; rintro e w2 ⟨A2, c2, rfl, hown2, hK2⟩; have hown2 := Lib.hid (own_down hown2 (show w.heap.size + 3 ≤ w1.heap.size by omega)); have k2 := Lib.hid (k1.out.drew.and hK2); have v2 := Lib.hid ((v1.out.drewN 1).and hK2); have r2 := Lib.hid ((r1.out.drewN 1).and hK2); clear x1 x2 x3 x4 x5 x6 y1 y2 y3 y4 y5 y6 y7 hK2; obtain ⟨x1, x2, x3, x4, x5, x6⟩ := v2.out.five; obtain ⟨y1, y2, y3, y4, y5, y6, y7⟩ := r2.out.three))
    go_wp2_with fail
    refine bodyPost_ret (v := .tuple #[.agg #[.int .i64 c, .int .i64 s, .slice A2 n c2], .bool true]) (by simp [results, Tryd.results12, go_sem, *]) rfl ?_
    exact HF.out A2 c2 _ w2 _ hown2.out ((((Kp.refl _ w2).set_on _).set_on _).set_on _) k2.out rfl
  · have hi1 : (n : Int) ≤ (m : Int) := by omega
    have hi2 : (65514 : Int) ≤ (m : Int) := by omega
    go_enter Tryd.func12, Tryd.ntmps12
    go_wp2_with fail
    refine (H.out _).mono ?_
    rintro e w1 ⟨rfl, hK1⟩
    have v1 := Lib.hid (hv0.out.and hK1)
    have r1 := Lib.hid (hr0.out.and hK1)
    have o1 := Lib.hid (ho0.out.and hK1)
    have k1 := Lib.hid (hk0.out.and hK1)
    clear hK1
    have hsz1 := r1.out.lt
    have oc := o1.out.cell 1
    obtain ⟨x1, x2, x3, x4, x5, x6⟩ := v1.out.five
    obtain ⟨y1, y2, y3, y4, y5, y6, y7⟩ := r1.out.three
    go_wp2_with fail
    all_goals first | (exfalso; omega) | skip
    go_region_held3 (fun w' => w'.cell? ⟨w.heap.size + 1, 1, none⟩ = some (.int .i64 c) ∧ w'.cell? ⟨w.heap.size + 1, 2, none⟩ = some (.int .i64 s) ∧ w'.cell? ⟨w.heap.size + 1, 3, none⟩ = some (.slice A n m)) (go_keep)
      (first
        | (go_at_call 27; refine (HC.out _ k1.out.drew).mono ?_; rintro e w2 ⟨A2, c2, rfl, hown2, hK2⟩; have hown2 := Lib.hid (own_down hown2 (show w.heap.size + 3 ≤ w1.heap.size by omega)); have k2 := Lib.hid (k1.out.drew.and hK2); have v2 := Lib.hid ((v1.out.drewN 1).and hK2); have r2 := Lib.hid ((r1.out.drewN 1).and hK2); clear x1 x2 x3 x4 x5 x6 y1 y2 y3 y4 y5 y6 y7 hK2; obtain ⟨x1, x2, x3, x4, x5, x6⟩ := v2.out.five; obtain ⟨y1, y2, y3, y4, y5, y6, y7⟩ := r2.out.three))
    go_wp2_with fail
    refine bodyPost_ret (v := .tuple #[.agg #[.int .i64 c, .int .i64 s, .slice A2 65514 c2], .bool true]) (by simp [results, Tryd.results12, go_sem, *]) rfl ?_
    exact HF.out A2 c2 _ w2 _ hown2.out ((((Kp.refl _ w2).set_on _).set_on _).set_on _) k2.out rfl
  · have hi1 : (n : Int) ≤ (m : Int) := by omega
    go_enter Tryd.func12, Tryd.ntmps12
    go_wp2_with fail
    refine (H.out _).mono ?_
    rintro e w1 ⟨rfl, hK1⟩
    have v1 := Lib.hid (hv0.out.and hK1)
    have r1 := Lib.hid (hr0.out.and hK1)
    have o1 := Lib.hid (ho0.out.and hK1)
    have k1 := Lib.hid (hk0.out.and hK1)
    clear hK1
    have hsz1 := r1.out.lt
    have oc := o1.out.cell 1
    obtain ⟨x1, x2, x3, x4, x5, x6⟩ := v1.out.five
    obtain ⟨y1, y2, y3, y4, y5, y6, y7⟩ := r1.out.three
    go_wp2_with fail
    all_goals first | (exfalso; omega) | skip
    go_region_held3 (fun w' => w'.cell? ⟨w.heap.size + 1, 1, none⟩ = some (.int .i64 c) ∧ w'.cell? ⟨w.heap.size + 1, 2, none⟩ = some (.int .i64 s) ∧ w'.cell? ⟨w.heap.size + 1, 3, none⟩ = some (.slice A n m)) (go_keep)
      (first
        | (go_at_call 27; refine (HC.out _ k1.out.drew).mono ?_; rintro e w2 ⟨A2, c2, rfl, hown2, hK2⟩; have hown2 := Lib.hid (own_down hown2 (show w.heap.size + 3 ≤ w1.heap.size by omega)); have k2 := Lib.hid (k1.out.drew.and hK2); have v2 := Lib.hid ((v1.out.drewN 1).and hK2); have r2 := Lib.hid ((r1.out.drewN 1).and hK2); clear x1 x2 x3 x4 x5 x6 y1 y2 y3 y4 y5 y6 y7 hK2; obtain ⟨x1, x2, x3, x4, x5, x6⟩ := v2.out.five; obtain ⟨y1, y2, y3, y4, y5, y6, y7⟩ := r2.out.three))
    go_wp2_with fail
    refine bodyPost_ret (v := .tuple #[.agg #[.int .i64 c, .int .i64 s, .slice A2 n c2], .bool true]) (by simp [results, Tryd.results12, go_sem, *]) rfl ?_
    exact HF.out A2 c2 _ w2 _ hown2.out ((((Kp.refl _ w2).set_on _).set_on _).set_on _) k2.out rfl
  · have hi1 : (n : Int) ≤ (m : Int) := by omega
    have hi2 : (4075 : Int) ≤ (m : Int) := by omega
    go_enter Tryd.func12, Tryd.ntmps12
    go_wp2_with fail
    refine (H.out _).mono ?_
    rintro e w1 ⟨rfl, hK1⟩
    have v1 := Lib.hid (hv0.out.and hK1)
    have r1 := Lib.hid (hr0.out.and hK1)
    have o1 := Lib.hid (ho0.out.and hK1)
    have k1 := Lib.hid (hk0.out.and hK1)
    clear hK1
    have hsz1 := r1.out.lt
    have oc := o1.out.cell 1
    obtain ⟨x1, x2, x3, x4, x5, x6⟩ := v1.out.five
    obtain ⟨y1, y2, y3, y4, y5, y6, y7⟩ := r1.out.three
    go_wp2_with fail
    all_goals first | (exfalso; omega) | skip
    go_region_held3 (fun w' => w'.cell? ⟨w.heap.size + 1, 1, none⟩ = some (.int .i64 c) ∧ w'.cell? ⟨w.heap.size + 1, 2, none⟩ = some (.int .i64 s) ∧ w'.cell? ⟨w.heap.size + 1, 3, none⟩ = some (.slice A n m)) (go_keep)
      (first
        | (go_at_call 27; refine (HC.out _ k1.out.drew).mono ?_; rintro e w2 ⟨A2, c2, rfl, hown2, hK2⟩; have hown2 := Lib.hid (own_down hown2 (show w.heap.size + 3 ≤ w1.heap.size by omega)); have k2 := Lib.hid (k1.out.drew.and hK2); have v2 := Lib.hid ((v1.out.drewN 1).and hK2); have r2 := Lib.hid ((r1.out.drewN 1).and hK2); clear x1 x2 x3 x4 x5 x6 y1 y2 y3 y4 y5 y6 y7 hK2; obtain ⟨x1, x2, x3, x4, x5, x6⟩ := v2.out.five; obtain ⟨y1, y2, y3, y4, y5, y6, y7⟩ := r2.out.three))
    go_wp2_with fail
    refine bodyPost_ret (v := .tuple #[.agg #[.int .i64 c, .int .i64 s, .slice A2 4075 c2], .bool true]) (by simp [results, Tryd.results12, go_sem, *]) rfl ?_
    exact HF.out A2 c2 _ w2 _ hown2.out ((((Kp.refl _ w2).set_on _).set_on _).set_on _) k2.out rfl

/-- The front of a slice. -/
theorem run_front (A : Option Addr) (n m L : Nat) (h : L ≤ m) (w : World) :
    (Instr.slice 27 (.slice A n m) none (some (.int .i64 (L : Int))) none).run Tryd.prog w = .ok (.slice A L m) w := by
  have he : Tryd.prog.elem 27 = 5 := by kernel_rfl
  rw [run_slice_h w 27 A n m (by rw [he]; exact Tryd.underlying27) .i64 (L : Int) (by omega) (by omega), he]
  have hs : (sizeOf 5).run Tryd.prog w = .ok 1 w := by kernel_rfl
  rw [hs]
  cases A <;> simp [sliced, Addr.add]

set_option maxRecDepth 100000 in
set_option maxHeartbeats 4000000 in
theorem rnof_no (b0 b1 b2 b3 b4 b5 : Bool) (k c s : Int) (A : Option Addr) (n m : Nat) (a : Int) (w : World) (h : k ≠ 4 ∨ properV k c s n a = false) :
    Calls Tryd.prog 13 #[.agg #[.bool b0, .bool b1, .bool b2, .bool b3, .bool b4, .bool b5], .agg #[.int .i64 k, .int .i64 c, .int .i64 s, .slice A n m, .int .i64 a]] w (Stay nparseNone w) := by
  by_cases h4 : k = 4
  · subst h4
    have hp : properV 4 c s n a = false := by rcases h with h | h; exact absurd rfl h; exact h
    have H := Lib.hid (rproper_any 4 c s A n m a)
    rw [hp] at H
    have hb0 := Lib.hid (Bk.fresh ((w.alloc (.cells #[.bool b0, .bool b1, .bool b2, .bool b3, .bool b4, .bool b5] 26)).alloc (.cells #[.int .i64 4, .int .i64 c, .int .i64 s, .slice A n m, .int .i64 a] 29)) 35 #[.int .i64 0, .int .i64 0, .slice none 0 0])
    clear hp h
    go_enter Tryd.func13, Tryd.ntmps13
    go_wp2_with fail
    refine (H.out _).mono ?_
    rintro e w1 ⟨rfl, hK1⟩
    have b1 := Lib.hid (hb0.out.and hK1)
    simp only [World.size_alloc] at b1
    obtain ⟨x1, x2, x3, x4, x5, x6, x7⟩ := b1.out.three
    go_wp2_with fail
    refine bodyPost_ret (v := nparseNone) (by simp [results, Tryd.results13, go_sem, nparseNone, *]) rfl ?_
    exact ⟨rfl, ((((Kp.refl _ _).alloc _).alloc _).alloc _ |>.and hK1).new (KZ w1 _) (by omega)⟩
  · have h4' : (k != 4) = true := by simp [h4]
    clear h4 h
    go_enter Tryd.func13, Tryd.ntmps13
    go_wp2_with fail
    refine bodyPost_ret (v := nparseNone) (by simp [results, Tryd.results13, go_sem, nparseNone]) rfl ?_
    exact ⟨rfl, (((Kp.refl _ _).alloc _).alloc _).alloc _⟩

set_option maxRecDepth 100000 in
set_option maxHeartbeats 8000000 in
theorem rnof_yes (b0 b1 b2 b3 b4 b5 : Bool) (c s : Int) (A : Option Addr) (xs : List Int) (m : Nat) (a : Int) (w : World) (hp : properV 4 c s xs.length a = true) (hx : InD w A xs m) :
    Calls Tryd.prog 13 #[.agg #[.bool b0, .bool b1, .bool b2, .bool b3, .bool b4, .bool b5], .agg #[.int .i64 4, .int .i64 c, .int .i64 s, .slice A xs.length m, .int .i64 a]] w (NOf w c s (xs.take (min xs.length (roomV b1)))) := by
  have H := Lib.hid (rproper_any 4 c s A xs.length m a)
  rw [hp] at H
  have hmM : m ≤ 9223372036854775807 := hx.2.2.2
  have hnm := hx.2.2.1
  obtain ⟨L, hL⟩ : ∃ L, min xs.length (roomV b1) = L := ⟨_, rfl⟩
  have hLn : L ≤ xs.length := by omega
  have hlen : (xs.take L).length = L := by simp; omega
  have HC := Lib.hid (fun w' (k : Kp NoB w w') => (hx.1.and k).take L)
  rw [hL]
  have HF : Hid (∀ (e : Ending) (w' : World), Kp NoB w w' → e = .returned (.tuple #[.agg #[.int .i64 c, .int .i64 s, .slice A L m], .bool true]) → NOf w c s (xs.take L) e w') := Lib.hid (fun e w' k he =>
    ⟨A, m, by rw [hlen]; exact he, by rw [bs_take]; exact (hx.1.and k).take L, by rw [hlen]; omega, hx.2.2.2, k⟩)
  have hv0 := Lib.hid (((Bk.second w (.cells #[.bool b0, .bool b1, .bool b2, .bool b3, .bool b4, .bool b5] 26) 29 #[.int .i64 4, .int .i64 c, .int .i64 s, .slice A xs.length m, .int .i64 a])).alloc (.cells #[.int .i64 0, .int .i64 0, .slice none 0 0] 35))
  have hr0 := Lib.hid (Bk.third w (.cells #[.bool b0, .bool b1, .bool b2, .bool b3, .bool b4, .bool b5] 26) (.cells #[.int .i64 4, .int .i64 c, .int .i64 s, .slice A xs.length m, .int .i64 a] 29) 35 #[.int .i64 0, .int .i64 0, .slice none 0 0])
  have hk0 := Lib.hid ((((Kp.refl NoB w).alloc (.cells #[.bool b0, .bool b1, .bool b2, .bool b3, .bool b4, .bool b5] 26)).alloc (.cells #[.int .i64 4, .int .i64 c, .int .i64 s, .slice A xs.length m, .int .i64 a] 29)).alloc (.cells #[.int .i64 0, .int .i64 0, .slice none 0 0] 35))
  have ho0 := Lib.hid ((Bk.fresh w 26 #[.bool b0, .bool b1, .bool b2, .bool b3, .bool b4, .bool b5]).alloc (.cells #[.int .i64 4, .int .i64 c, .int .i64 s, .slice A xs.length m, .int .i64 a] 29) |>.alloc (.cells #[.int .i64 0, .int .i64 0, .slice none 0 0] 35))
  obtain ⟨n, hn⟩ : ∃ n, xs.length = n := ⟨_, rfl⟩
  simp only [hn] at *
  clear hx hp hlen hn
  unfold roomV at hL
  have hcs : (b1 = true ∧ n ≤ 65514 ∧ n = L) ∨ (b1 = true ∧ 65514 < n ∧ 65514 = L) ∨ (b1 = false ∧ n ≤ 4075 ∧ n = L) ∨ (b1 = false ∧ 4075 < n ∧ 4075 = L) := by
    cases b1
    · simp only [Bool.false_eq_true, if_false] at hL
      rcases Nat.lt_or_ge 4075 n with h | h
      · rw [Nat.min_eq_right (by omega)] at hL; exact .inr (.inr (.inr ⟨rfl, h, hL⟩))
      · rw [Nat.min_eq_left (by omega)] at hL; exact .inr (.inr (.inl ⟨rfl, h, hL⟩))
    · simp only [if_true] at hL
      rcases Nat.lt_or_ge 65514 n with h | h
      · rw [Nat.min_eq_right (by omega)] at hL; exact .inr (.inl ⟨rfl, h, hL⟩)
      · rw [Nat.min_eq_left (by omega)] at hL; exact .inl ⟨rfl, h, hL⟩
  clear hL
  rcases hcs with ⟨rfl, h1, rfl⟩ | ⟨rfl, h1, rfl⟩ | ⟨rfl, h1, rfl⟩ | ⟨rfl, h1, rfl⟩
  · have hsl : ∀ w, (Instr.slice 27 (.slice A n m) none (some (.int .i64 (if (65514 : Int) < (n : Int) then (65514 : Int) else (n : Int)))) none).run Tryd.prog w = .ok (.slice A n m) w := by rw [if_neg (by omega)]; exact run_front A n m n (by omega)
    go_enter Tryd.func13, Tryd.ntmps13
    go_wp2_with fail
    refine (H.out _).mono ?_
    rintro e w1 ⟨rfl, hK1⟩
    have v1 := Lib.hid (hv0.out.and hK1)
    have r1 := Lib.hid (hr0.out.and hK1)
    have o1 := Lib.hid (ho0.out.and hK1)
    have k1 := Lib.hid (hk0.out.and hK1)
    clear hK1
    have hsz1 := r1.out.lt
    have oc := o1.out.cell 1
    obtain ⟨x1, x2, x3, x4, x5, x6⟩ := v1.out.five
    obtain ⟨y1, y2, y3, y4, y5, y6, y7⟩ := r1.out.three
    go_wp2_with fail
    all_goals first | (exfalso; omega) | skip
    go_region_held3 (fun w' => w'.cell? ⟨w.heap.size + 1, 1, none⟩ = some (.int .i64 c) ∧ w'.cell? ⟨w.heap.size + 1, 2, none⟩ = some (.int .i64 s) ∧ w'.cell? ⟨w.heap.size + 1, 3, none⟩ = some (.slice A n m)) (go_keep) (fail)
    go_wp2_with fail
    refine bodyPost_ret (v := .tuple #[.agg #[.int .i64 c, .int .i64 s, .slice A n m], .bool true]) (by simp [results, Tryd.results13, go_sem, *]) rfl ?_
    exact HF.out _ _ (k1.out.new ((((Kp.refl _ w1).set_on _).set_on _).set_on _) (by omega) |>.drew) rfl
  · have hsl : ∀ w, (Instr.slice 27 (.slice A n m) none (some (.int .i64 (if (65514 : Int) < (n : Int) then (65514 : Int) else (n : Int)))) none).run Tryd.prog w = .ok (.slice A 65514 m) w := by rw [if_pos (by omega)]; exact run_front A n m 65514 (by omega)
    go_enter Tryd.func13, Tryd.ntmps13
    go_wp2_with fail
    refine (H.out _).mono ?_
    rintro e w1 ⟨rfl, hK1⟩
    have v1 := Lib.hid (hv0.out.and hK1)
    have r1 := Lib.hid (hr0.out.and hK1)
    have o1 := Lib.hid (ho0.out.and hK1)
    have k1 := Lib.hid (hk0.out.and hK1)
    clear hK1
    have hsz1 := r1.out.lt
    have oc := o1.out.cell 1
    obtain ⟨x1, x2, x3, x4, x5, x6⟩ := v1.out.five
    obtain ⟨y1, y2, y3, y4, y5, y6, y7⟩ := r1.out.three
    go_wp2_with fail
    all_goals first | (exfalso; omega) | skip
    go_region_held3 (fun w' => w'.cell? ⟨w.heap.size + 1, 1, none⟩ = some (.int .i64 c) ∧ w'.cell? ⟨w.heap.size + 1, 2, none⟩ = some (.int .i64 s) ∧ w'.cell? ⟨w.heap.size + 1, 3, none⟩ = some (.slice A n m)) (go_keep) (fail)
    go_wp2_with fail
    refine bodyPost_ret (v := .tuple #[.agg #[.int .i64 c, .int .i64 s, .slice A 65514 m], .bool true]) (by simp [results, Tryd.results13, go_sem, *]) rfl ?_
    exact HF.out _ _ (k1.out.new ((((Kp.refl _ w1).set_on _).set_on _).set_on _) (by omega) |>.drew) rfl
  · have hsl : ∀ w, (Instr.slice 27 (.slice A n m) none (some (.int .i64 (if (4075 : Int) < (n : Int) then (4075 : Int) else (n : Int)))) none).run Tryd.prog w = .ok (.slice A n m) w := by rw [if_neg (by omega)]; exact run_front A n m n (by omega)
    go_enter Tryd.func13, Tryd.ntmps13
    go_wp2_with fail
    refine (H.out _).mono ?_
    rintro e w1 ⟨rfl, hK1⟩
    have v1 := Lib.hid (hv0.out.and hK1)
    have r1 := Lib.hid (hr0.out.and hK1)
    have o1 := Lib.hid (ho0.out.and hK1)
    have k1 := Lib.hid (hk0.out.and hK1)
    clear hK1
    have hsz1 := r1.out.lt
    have oc := o1.out.cell 1
    obtain ⟨x1, x2, x3, x4, x5, x6⟩ := v1.out.five
    obtain ⟨y1, y2, y3, y4, y5, y6, y7⟩ := r1.out.three
    go_wp2_with fail
    all_goals first | (exfalso; omega) | skip
    go_region_held3 (fun w' => w'.cell? ⟨w.heap.size + 1, 1, none⟩ = some (.int .i64 c) ∧ w'.cell? ⟨w.heap.size + 1, 2, none⟩ = some (.int .i64 s) ∧ w'.cell? ⟨w.heap.size + 1, 3, none⟩ = some (.slice A n m)) (go_keep) (fail)
    go_wp2_with fail
    refine bodyPost_ret (v := .tuple #[.agg #[.int .i64 c, .int .i64 s, .slice A n m], .bool true]) (by simp [results, Tryd.results13, go_sem, *]) rfl ?_
    exact HF.out _ _ (k1.out.new ((((Kp.refl _ w1).set_on _).set_on _).set_on _) (by omega) |>.drew) rfl
  · have hsl : ∀ w, (Instr.slice 27 (.slice A n m) none (some (.int .i64 (if (4075 : Int) < (n : Int) then (4075 : Int) else (n : Int)))) none).run Tryd.prog w = .ok (.slice A 4075 m) w := by rw [if_pos (by omega)]; exact run_front A n m 4075 (by omega)
    go_enter Tryd.func13, Tryd.ntmps13
    go_wp2_with fail
    refine (H.out _).mono ?_
    rintro e w1 ⟨rfl, hK1⟩
    have v1 := Lib.hid (hv0.out.and hK1)
    have r1 := Lib.hid (hr0.out.and hK1)
    have o1 := Lib.hid (ho0.out.and hK1)
    have k1 := Lib.hid (hk0.out.and hK1)
    clear hK1
    have hsz1 := r1.out.lt
    have oc := o1.out.cell 1
    obtain ⟨x1, x2, x3, x4, x5, x6⟩ := v1.out.five
    obtain ⟨y1, y2, y3, y4, y5, y6, y7⟩ := r1.out.three
    go_wp2_with fail
    all_goals first | (exfalso; omega) | skip
    go_region_held3 (fun w' => w'.cell? ⟨w.heap.size + 1, 1, none⟩ = some (.int .i64 c) ∧ w'.cell? ⟨w.heap.size + 1, 2, none⟩ = some (.int .i64 s) ∧ w'.cell? ⟨w.heap.size + 1, 3, none⟩ = some (.slice A n m)) (go_keep) (fail)
    go_wp2_with fail
    refine bodyPost_ret (v := .tuple #[.agg #[.int .i64 c, .int .i64 s, .slice A 4075 m], .bool true]) (by simp [results, Tryd.results13, go_sem, *]) rfl ?_
    exact HF.out _ _ (k1.out.new ((((Kp.refl _ w1).set_on _).set_on _).set_on _) (by omega) |>.drew) rfl

end Go.Proofs.YtlklhcgacdjkiaaDoor
