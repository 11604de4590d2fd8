/- The walk of the law FlagReads: it returns true and makes only new blocks, for all bytes. -/
import Derived.Test.YthdipbabfilciaaFlagE
import Derived.Test.YthdipbabfilciaaFlagG
import Derived.Test.YthdipbabfilciaaNewO
import Derived.Test.YthdipbabfilciaaHead
import Derived.Test.YthdipbabfilciaaAtL
import Derived.Test.YthdipbabfilciaaOpen
namespace Go.Proofs.Ythdipbabfilciaa
open Go.RowKit Go.Maps
set_option linter.unusedVariables false
set_option linter.unusedSimpArgs false

theorem fr_short (ys : List Int) (h : ys.length < 2) : frOk ys = false := by
  match ys, h with
  | [], _ => rfl
  | [a], _ => rfl
theorem fr_cons (a b : Int) (ys : List Int) (h : IsB (a :: b :: ys)) : frF (a :: b :: ys) = a ∧ frK (a :: b :: ys) = b ∧ frOk (a :: b :: ys) = numB (widthI a) ys ∧ frL (a :: b :: ys) = numV (widthI a) ys ∧ frN (a :: b :: ys) = 2 + numN (widthI a) ys ∧ frD (a :: b :: ys) = numD (widthI a) ys := by
  have n1 : ∀ (x : Int) (zs : List Int), numB 1 (x :: zs) = true := fun x zs => by simp [numB]; omega
  have n2 : ∀ (x : Int) (zs : List Int), numN 1 (x :: zs) = 1 := fun x zs => by simp [numN, n1]
  have n3 : ∀ (x : Int) (zs : List Int), numV 1 (x :: zs) = x := fun x zs => by simp [numV, n1, big]
  have n4 : ∀ (x : Int) (zs : List Int), numD 1 (x :: zs) = zs := fun x zs => by simp [numD, n2]
  have e1 : frF (a :: b :: ys) = a := by simp [frF, n3]
  have e2 : frW (a :: b :: ys) = widthI a := by simp [frW, e1]
  refine ⟨e1, by simp [frK, n3, n4], by simp [frOk, e2, n1, n4], by simp [frL, e2, n4], by simp [frN, e2, n2, n4], by simp [frD, e2, n4]⟩

/-- What the law asks of the reference's Read. -/
def RRno (f k l : Int) (w : World) (e : Ending) (w' : World) : Prop := ∃ A n c t, e = .returned (.tuple #[.agg #[.slice A n c, .int .i64 t], .agg #[.int .i64 f, .int .i64 k, .int .i64 l], .bool false]) ∧ Kp NoB w w'
def RRyes (f k l : Int) (N : Nat) (w : World) (e : Ending) (w' : World) : Prop := ∃ A n c, e = .returned (.tuple #[.agg #[.slice A n c, .int .i64 N], .agg #[.int .i64 f, .int .i64 k, .int .i64 l], .bool true]) ∧ Kp NoB w w'

theorem reads_long (A : Option Addr) (n c : Nat) (w : World) (h : 100 < n) :
    Calls Try.prog 5 #[.slice A n c] w (Stay (.bool true) w) := by
  go_enter Try.func5, Try.ntmps5
  go_wp2_with (go_at_call 10; refine (alive_any _).mono ?_; rintro e w1 ⟨rfl, hK1⟩)
  go_ret
  exact ⟨rfl, hK1⟩

set_option maxRecDepth 100000 in
set_option maxHeartbeats 4000000 in
theorem reads_no (A : Option Addr) (c : Nat) (xs : List Int) (f k l : Int) (w : World) (ha : Arr w A (bs xs)) (hb : IsB xs) (hl : xs.length ≤ 100)
    (h1 : frHead xs = .agg #[.int .i64 f, .int .i64 k, .int .i64 l]) (h2 : frOk xs = false)
    (HR : ∀ w, Arr w A (bs xs) → Calls Try.prog 18 #[.agg #[.slice A xs.length c, .int .i64 0]] w (RRno f k l w)) :
    Calls Try.prog 5 #[.slice A xs.length c] w (Stay (.bool true) w) := by
  have HN := Lib.hid (new_any A c xs w (by omega) ha hb)
  have HF := Lib.hid (fun w q r h => fread_any w q r xs 0 h)
  unfold FRead at HF
  rw [h1, h2] at HF
  have HA := Lib.hid alive_any
  have HRR := Lib.hid HR
  have ha' := Lib.hid ha
  have hl' : (xs.length : Int) ≤ 100 := by omega
  clear HR ha hb h1 h2
  obtain ⟨n, hn⟩ : ∃ n, xs.length = n := ⟨_, rfl⟩
  rw [hn] at HN HRR hl' ⊢
  clear hn hl
  go_enter Try.func5, Try.ntmps5
  go_wp2_with (first
    | (go_at_call 16; refine (HN.out).mono ?_; rintro e w1 ⟨q, r, rfl, hr, hq, hqr, hR1, hK1⟩; replace hR1 := Lib.hid hR1)
    | (go_at_call 17; refine (HF.out _ q r hR1.out).mono ?_; rintro e w2 ⟨rfl, hR2, hK2⟩; replace hR2 := Lib.hid hR2)
    | (go_at_call 18; refine (HRR.out _ (ha'.out.and ((hK1.new hK2 hr).alloc (.cells #[.int .i64 f, .int .i64 k, .int .i64 l] 29)))).mono ?_; rintro e w3 ⟨A3, n3, c3, t3, rfl, hK3⟩))
  have hb4 := ((((Bk.fresh w2 29 #[.int .i64 f, .int .i64 k, .int .i64 l]).and hK3).alloc (.cells #[.slice A3 n3 c3, .int .i64 t3] 44)).alloc (.cells #[.int .i64 f, .int .i64 k, .int .i64 l] 23))
  have hb6 := (Bk.fresh w3 44 #[.slice A3 n3 c3, .int .i64 t3]).alloc (.cells #[.int .i64 f, .int .i64 k, .int .i64 l] 23)
  have hb7 := Bk.second w3 (.cells #[.slice A3 n3 c3, .int .i64 t3] 44) 23 #[.int .i64 f, .int .i64 k, .int .i64 l]
  have hk2 := ((((hK1.new hK2 hr).alloc (.cells #[.int .i64 f, .int .i64 k, .int .i64 l] 29)).and hK3).alloc (.cells #[.slice A3 n3 c3, .int .i64 t3] 44)).alloc (.cells #[.int .i64 f, .int .i64 k, .int .i64 l] 23)
  have hR3 := hR2.out.and ((((((Kp.refl NoB w2).alloc (.cells #[.int .i64 f, .int .i64 k, .int .i64 l] 29)).and hK3).alloc (.cells #[.slice A3 n3 c3, .int .i64 t3] 44)).alloc (.cells #[.int .i64 f, .int .i64 k, .int .i64 l] 23)).drew)
  obtain ⟨W5, hW5⟩ : ∃ W5, (w3.alloc (.cells #[.slice A3 n3 c3, .int .i64 t3] 44)).alloc (.cells #[.int .i64 f, .int .i64 k, .int .i64 l] 23) = W5 := ⟨_, rfl⟩
  rw [hW5] at hb4 hb6 hb7 hk2 hR3 ⊢
  clear hW5
  clear hR2
  obtain ⟨x1, x2, x3, x4, x5, x6, x7⟩ := hb4.three
  obtain ⟨y1, y2, y3, y4, y5⟩ := hb6.two
  obtain ⟨z1, z2, z3, z4, z5, z6, z7⟩ := hb7.three
  replace hb4 := Lib.hid hb4
  replace hb6 := Lib.hid hb6
  replace hb7 := Lib.hid hb7
  replace hR3 := Lib.hid hR3
  replace hk2 := Lib.hid hk2
  replace hK1 := Lib.hid hK1
  replace hK2 := Lib.hid hK2
  replace hK3 := Lib.hid hK3
  refine wp_region_head (by kernel_rfl) (by kernel_rfl) (by kernel_rfl) (by kernel_rfl) rfl (fun K hK => ?_)
  go_simp
  go_wp2_with (go_at_call 10; refine (HA.out _).mono ?_; rintro e w4 ⟨rfl, hK4⟩; obtain ⟨p1, p2, p3, p4, p5, p6, p7⟩ := ((hb4.out.drewN 1).and hK4).three; obtain ⟨q1, q2, q3, q4, q5⟩ := ((hb6.out.drewN 1).and hK4).two; obtain ⟨s1, s2, s3, s4, s5, s6, s7⟩ := ((hb7.out.drewN 1).and hK4).three; have hR4 := Lib.hid (hR3.out.and hK4); replace hK4 := Lib.hid hK4)
  repeat still_step
  refine wpStill_nil ?_
  go_wp2_with fail
  go_ret
  exact ⟨rfl, (hk2.out.drew).and hK4.out⟩

set_option maxRecDepth 100000 in
set_option maxHeartbeats 4000000 in
theorem reads_yes (A : Option Addr) (c : Nat) (xs : List Int) (f k l : Int) (N : Nat) (w : World) (ha : Arr w A (bs xs)) (hb : IsB xs) (hl : xs.length ≤ 100)
    (h1 : frHead xs = .agg #[.int .i64 f, .int .i64 k, .int .i64 l]) (h2 : frOk xs = true) (h3 : frN xs = N)
    (HR : ∀ w, Arr w A (bs xs) → Calls Try.prog 18 #[.agg #[.slice A xs.length c, .int .i64 0]] w (RRyes f k l N w)) :
    Calls Try.prog 5 #[.slice A xs.length c] w (Stay (.bool true) w) := by
  have HN := Lib.hid (new_any A c xs w (by omega) ha hb)
  have HF := Lib.hid (fun w q r h => fread_any w q r xs 0 h)
  unfold FRead at HF
  rw [h1, h2] at HF
  have HA := Lib.hid alive_any
  have HRR := Lib.hid HR
  have ha' := Lib.hid ha
  have hl' : (xs.length : Int) ≤ 100 := by omega
  clear HR ha hb h1 h2
  obtain ⟨n, hn⟩ : ∃ n, xs.length = n := ⟨_, rfl⟩
  rw [hn] at HN HRR hl' ⊢
  clear hn hl
  go_enter Try.func5, Try.ntmps5
  go_wp2_with (first
    | (go_at_call 16; refine (HN.out).mono ?_; rintro e w1 ⟨q, r, rfl, hr, hq, hqr, hR1, hK1⟩; replace hR1 := Lib.hid hR1)
    | (go_at_call 17; refine (HF.out _ q r hR1.out).mono ?_; rintro e w2 ⟨rfl, hR2, hK2⟩; replace hR2 := Lib.hid hR2)
    | (go_at_call 18; refine (HRR.out _ (ha'.out.and ((hK1.new hK2 hr).alloc (.cells #[.int .i64 f, .int .i64 k, .int .i64 l] 29)))).mono ?_; rintro e w3 ⟨A3, n3, c3, rfl, hK3⟩))
  have hb4 := ((((Bk.fresh w2 29 #[.int .i64 f, .int .i64 k, .int .i64 l]).and hK3).alloc (.cells #[.slice A3 n3 c3, .int .i64 N] 44)).alloc (.cells #[.int .i64 f, .int .i64 k, .int .i64 l] 23))
  have hb6 := (Bk.fresh w3 44 #[.slice A3 n3 c3, .int .i64 N]).alloc (.cells #[.int .i64 f, .int .i64 k, .int .i64 l] 23)
  have hb7 := Bk.second w3 (.cells #[.slice A3 n3 c3, .int .i64 N] 44) 23 #[.int .i64 f, .int .i64 k, .int .i64 l]
  have hk2 := ((((hK1.new hK2 hr).alloc (.cells #[.int .i64 f, .int .i64 k, .int .i64 l] 29)).and hK3).alloc (.cells #[.slice A3 n3 c3, .int .i64 N] 44)).alloc (.cells #[.int .i64 f, .int .i64 k, .int .i64 l] 23)
  have hR3 := hR2.out.and ((((((Kp.refl NoB w2).alloc (.cells #[.int .i64 f, .int .i64 k, .int .i64 l] 29)).and hK3).alloc (.cells #[.slice A3 n3 c3, .int .i64 N] 44)).alloc (.cells #[.int .i64 f, .int .i64 k, .int .i64 l] 23)).drew)
  obtain ⟨W5, hW5⟩ : ∃ W5, (w3.alloc (.cells #[.slice A3 n3 c3, .int .i64 N] 44)).alloc (.cells #[.int .i64 f, .int .i64 k, .int .i64 l] 23) = W5 := ⟨_, rfl⟩
  rw [hW5] at hb4 hb6 hb7 hk2 hR3 ⊢
  clear hW5
  rw [show 0 + frN xs = N from by omega] at hR3
  clear h3 hR2
  obtain ⟨x1, x2, x3, x4, x5, x6, x7⟩ := hb4.three
  obtain ⟨y1, y2, y3, y4, y5⟩ := hb6.two
  obtain ⟨z1, z2, z3, z4, z5, z6, z7⟩ := hb7.three
  replace hb4 := Lib.hid hb4
  replace hb6 := Lib.hid hb6
  replace hb7 := Lib.hid hb7
  replace hR3 := Lib.hid hR3
  replace hk2 := Lib.hid hk2
  replace hK1 := Lib.hid hK1
  replace hK2 := Lib.hid hK2
  replace hK3 := Lib.hid hK3
  go_region_held3 (fun w' => w'.cell? ⟨w2.heap.size, 0, none⟩ = some (.int .i64 f) ∧ w'.cell? ⟨w2.heap.size, 1, none⟩ = some (.int .i64 k) ∧ w'.cell? ⟨w2.heap.size, 2, none⟩ = some (.int .i64 l) ∧ w'.cell? ⟨w3.heap.size + 1, 0, none⟩ = some (.int .i64 f) ∧ w'.cell? ⟨w3.heap.size + 1, 1, none⟩ = some (.int .i64 k) ∧ w'.cell? ⟨w3.heap.size + 1, 2, none⟩ = some (.int .i64 l) ∧ w'.cell? ⟨w3.heap.size, 1, none⟩ = some (.int .i64 N)) (go_keep)
        (first
          | (go_at_call 10; refine (HA.out _).mono ?_; rintro e w4 ⟨rfl, hK4⟩; obtain ⟨p1, p2, p3, p4, p5, p6, p7⟩ := ((hb4.out.drewN 1).and hK4).three; obtain ⟨q1, q2, q3, q4, q5⟩ := ((hb6.out.drewN 1).and hK4).two; obtain ⟨s1, s2, s3, s4, s5, s6, s7⟩ := ((hb7.out.drewN 1).and hK4).three; have hR4 := Lib.hid (hR3.out.and hK4); replace hK4 := Lib.hid hK4)
          | (go_at_call 19; refine (at_q _ q r _ _ hR4.out).mono ?_; rintro e w5 ⟨rfl, rfl⟩))
  go_wp2_with fail
  go_ret
  exact ⟨rfl, by first | exact (hk2.out.drew).and hK4.out | exact ((hk2.out.drew).and hK4.out).drew⟩


theorem reads_row (A : Option Addr) (n c : Nat) (xs : List Int) (w : World) (h : InBytes w A n c xs) :
    Calls Try.prog 5 #[.slice A n c] w (Stay (.bool true) w) := by
  obtain ⟨rfl, hc, hm, ha, hb⟩ := h
  have hm' : c ≤ 9223372036854775807 := by unfold maxLen at hm; omega
  by_cases hl : 100 < xs.length
  · exact reads_long A _ c w hl
  · have hl' : xs.length ≤ 100 := by omega
    by_cases hs : xs.length < 2
    · refine reads_no A c xs 0 0 0 w ha hb hl' (by simp [frHead, fr_short xs hs]) (fr_short xs hs) (fun w _ => ?_)
      exact (rread_short A _ c 0 w hs).mono fun e w' ⟨he, hk⟩ => ⟨_, _, _, _, he, hk⟩
    · match xs, hs, ha, hb, hl', hc with
      | [a], hs, _, _, _, _ => exact absurd (show [a].length < 2 by simp) hs
      | a :: b :: ys, _, ha, hb, hl', hc =>
        obtain ⟨e1, e2, e3, e4, e5, e6⟩ := fr_cons a b ys hb
        simp only [List.length_cons] at hc hl'
        cases hn : numB (widthI a) ys
        · refine reads_no A c (a :: b :: ys) 0 0 0 w ha hb (by simp; omega) (by simp [frHead, e3, hn]) (by rw [e3, hn]) (fun w ha => ?_)
          have := rread_no A c 0 a b ys w hn (by omega) hm' (by omega) ha hb
          exact this.mono fun e w' ⟨he, hk⟩ => ⟨_, _, _, _, he, hk⟩
        · refine reads_yes A c (a :: b :: ys) a b (numV (widthI a) ys) (0 + 2 + (widthI a).toNat) w ha hb (by simp; omega) (by simp [frHead, e1, e2, e3, e4, hn]) (by rw [e3, hn]) (by rw [e5]; simp [numN, hn]) (fun w ha => ?_)
          have := rread_yes A c 0 a b ys w hn (by omega) hm' (by omega) ha hb
          exact this.mono fun e w' ⟨A', n', c', he, hk⟩ => ⟨_, _, _, he, hk⟩

end Go.Proofs.Ythdipbabfilciaa
