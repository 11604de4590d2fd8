/- Reading a head: the reference: contracts by walking the Go text. No condition but that the bytes are there. -/
import Derived.Test.YthdipbabfilciaaFlagF
import Derived.Test.YthdipbabfilciaaRNum
import Derived.Deep.RegionHeld3
namespace Go.Proofs.Ythdipbabfilciaa
open Go.RowKit Go.Maps
set_option linter.unusedVariables false
set_option linter.unusedSimpArgs false

theorem bitB_16 (f : Int) : bitB f 16 = fbit f 4 := by
  unfold bitB
  rw [and_16]
  cases fbit f 4 <;> decide

set_option maxRecDepth 100000 in
set_option maxHeartbeats 4000000 in
theorem rread_short (A : Option Addr) (n c : Nat) (t : Int) (w : World) (h : n < 2) :
    Calls Try.prog 18 #[.agg #[.slice A n c, .int .i64 t]] w (Stay (.tuple #[.agg #[.slice A n c, .int .i64 t], .agg #[.int .i64 0, .int .i64 0, .int .i64 0], .bool false]) w) := by
  have HT := Lib.hid (fun w => rtake_no A n c t 2 w (.inr (by omega)))
  unfold rv at HT
  have hb1 := Lib.hid (((Bk.fresh w 44 #[.slice A n c, .int .i64 t]).alloc (.cells #[.slice none 0 0, .int .i64 0] 44)).alloc (.cells #[.int .i64 0, .int .i64 0, .int .i64 0] 23))
  have hb2 := Lib.hid ((Bk.second w (.cells #[.slice A n c, .int .i64 t] 44) 44 #[.slice none 0 0, .int .i64 0]).alloc (.cells #[.int .i64 0, .int .i64 0, .int .i64 0] 23))
  have hb3 := Lib.hid (Bk.third w (.cells #[.slice A n c, .int .i64 t] 44) (.cells #[.slice none 0 0, .int .i64 0] 44) 23 #[.int .i64 0, .int .i64 0, .int .i64 0])
  obtain ⟨x1, x2, x3, x4, x5⟩ := hb1.out.two
  have hk0 := Lib.hid ((((Kp.refl NoB w).alloc (.cells #[.slice A n c, .int .i64 t] 44)).alloc (.cells #[.slice none 0 0, .int .i64 0] 44)).alloc (.cells #[.int .i64 0, .int .i64 0, .int .i64 0] 23))
  go_enter Try.func18, Try.ntmps18
  go_wp2_with (go_at_call 30; refine (HT.out _).mono ?_; rintro e w1 ⟨rfl, hK1⟩; obtain ⟨y1, y2, y3, y4, y5⟩ := (hb1.out.and hK1).two; obtain ⟨z1, z2, z3, z4, z5⟩ := (hb2.out.and hK1).two; obtain ⟨u1, u2, u3, u4, u5, u6, u7⟩ := (hb3.out.and hK1).three)
  have hK := hk0.out.and hK1
  refine bodyPost_ret (v := .tuple #[.agg #[.slice A n c, .int .i64 t], .agg #[.int .i64 0, .int .i64 0, .int .i64 0], .bool false]) (by simp [results, Try.results18, go_sem, *]) rfl ⟨rfl, (by repeat (first | with_reducible exact hK | with_reducible refine Kp.setCell ?_ (fun hq => by simp at hq; omega) _ | with_reducible refine Kp.alloc ?_ _))⟩

/-- What the reference's Read leaves where it succeeds. -/
def RReadYes (a b v : Int) (t : Nat) (w : World) (e : Ending) (w' : World) : Prop := ∃ A n c, e = .returned (.tuple #[.agg #[.slice A n c, .int .i64 t], .agg #[.int .i64 a, .int .i64 b, .int .i64 v], .bool true]) ∧ Kp NoB w w'

set_option maxRecDepth 100000 in
set_option maxHeartbeats 4000000 in
theorem rread_no (A : Option Addr) (c t : Nat) (a b : Int) (ys : List Int) (w : World) (hn : numB (widthI a) ys = false) (hc : ys.length + 2 ≤ c) (hm : c ≤ 9223372036854775807) (ht : t + (ys.length + 2) ≤ 140737488355328) (ha : Arr w A (bs (a :: b :: ys))) (hB : IsB (a :: b :: ys)) :
    Calls Try.prog 18 #[.agg #[.slice A (ys.length + 2) c, .int .i64 t]] w (Stay (.tuple #[.agg #[.slice A (ys.length + 2) c, .int .i64 t], .agg #[.int .i64 0, .int .i64 0, .int .i64 0], .bool false]) w) := by
  have HT := Lib.hid (fun w => rtake_yes A (ys.length + 2) c t 2 w (by omega) hc hm ht)
  have hbit := Lib.hid (fun w => rbits_any a 16 w)
  rw [bitB_16] at hbit
  have HN := Lib.hid (fun w B k (h : numB k ys = false) => rnumber_no B (c - 2) ys (t + 2 : Int) k w h)
  unfold widthI at hn
  revert hbit hn
  cases fbit a 4
  all_goals
    intro hn hbit
    simp only [Bool.false_eq_true, if_false, if_true] at hn
    have HN' := Lib.hid (fun w B => HN.out w B _ hn)
    clear hn HN
    unfold rv at HN'
    unfold RTakeYes rv at HT
    obtain ⟨B, hBc⟩ : ∃ B, cutA A 2 c = B := ⟨_, rfl⟩
    rw [hBc] at HT
    have e1 : ys.length + 2 - 2 = ys.length := by omega
    rw [e1] at HT
    obtain ⟨n, hn⟩ : ∃ n, ys.length + 2 = n := ⟨_, rfl⟩
    obtain ⟨ad, rfl, hca⟩ := ha.at (j := 0) (u := .int .u8 a) (by simp [bs])
    obtain ⟨ad', e2, hcb⟩ := ha.at (j := 1) (u := .int .u8 b) (by simp [bs])
    obtain rfl : ad = ad' := by injection e2
    rw [show ad.add 0 = ad from by simp [Addr.add]] at hca
    have hba := hB a (by simp)
    have hbb := hB b (by simp)
    have ca : IntKind.i64.wrap a = a := IntWalk.i64_in _ (by omega)
    have cb : IntKind.i64.wrap b = b := IntWalk.i64_in _ (by omega)
    rw [hn] at HT
    simp only [hn]
    clear hn e1 e2 hBc ha hB
    obtain ⟨m, hm'⟩ : ∃ m, ys.length = m := ⟨_, rfl⟩
    rw [hm'] at HT HN'
    clear hm'
    have hb1 := Lib.hid (((Bk.fresh w 44 #[.slice (some ad) n c, .int .i64 t]).alloc (.cells #[.slice none 0 0, .int .i64 0] 44)).alloc (.cells #[.int .i64 0, .int .i64 0, .int .i64 0] 23))
    have hb2 := Lib.hid ((Bk.second w (.cells #[.slice (some ad) n c, .int .i64 t] 44) 44 #[.slice none 0 0, .int .i64 0]).alloc (.cells #[.int .i64 0, .int .i64 0, .int .i64 0] 23))
    have hb3 := Lib.hid (Bk.third w (.cells #[.slice (some ad) n c, .int .i64 t] 44) (.cells #[.slice none 0 0, .int .i64 0] 44) 23 #[.int .i64 0, .int .i64 0, .int .i64 0])
    obtain ⟨x1, x2, x3, x4, x5⟩ := hb1.out.two
    have hk0 := Lib.hid ((((Kp.refl NoB w).alloc (.cells #[.slice (some ad) n c, .int .i64 t] 44)).alloc (.cells #[.slice none 0 0, .int .i64 0] 44)).alloc (.cells #[.int .i64 0, .int .i64 0, .int .i64 0] 23))
    go_enter Try.func18, Try.ntmps18
    go_wp2_with (first
      | (go_at_call 30; refine (HT.out _).mono ?_; rintro e w1 ⟨rfl, hK1⟩; obtain ⟨y1, y2, y3, y4, y5⟩ := (hb1.out.and hK1).two; obtain ⟨r1, r2, r3, r4, r5⟩ := (Bk.fresh w1 44 #[.slice B m (c - 2), .int .i64 (t + 2 : Int)]).two
         have hca1 := (((hk0.out.and hK1).alloc (.cells #[.slice B m (c - 2), .int .i64 (t + 2 : Int)] 44)).cell hca (fun q => q)); have hcb1 := (((hk0.out.and hK1).alloc (.cells #[.slice B m (c - 2), .int .i64 (t + 2 : Int)] 44)).cell hcb (fun q => q)))
      | (go_at_call 23; refine (hbit.out _).mono ?_; rintro e w2 ⟨rfl, rfl⟩))
    refine (HN'.out _ _).mono ?_
    rintro e w3 ⟨rfl, hK3⟩
    have hk1 := ((hk0.out.and hK1).alloc (.cells #[.slice B m (c - 2), .int .i64 (t + 2 : Int)] 44)).and hK3
    have hks := hK1.size
    obtain ⟨q1, q2, q3, q4, q5⟩ := ((Bk.fresh w1 44 #[.slice B m (c - 2), .int .i64 (t + 2 : Int)]).and hK3).two
    obtain ⟨y1, y2, y3, y4, y5⟩ := (((hb1.out.and hK1).alloc (.cells #[.slice B m (c - 2), .int .i64 (t + 2 : Int)] 44)).and hK3).two
    obtain ⟨z1, z2, z3, z4, z5⟩ := (((hb2.out.and hK1).alloc (.cells #[.slice B m (c - 2), .int .i64 (t + 2 : Int)] 44)).and hK3).two
    obtain ⟨u1, u2, u3, u4, u5, u6, u7⟩ := (((hb3.out.and hK1).alloc (.cells #[.slice B m (c - 2), .int .i64 (t + 2 : Int)] 44)).and hK3).three
    simp only [World.size_alloc] at hks
    have hd0 : ¬ (w1.heap.size = w.heap.size) := by omega
    have hd1 : ¬ (w1.heap.size = w.heap.size + 1) := by omega
    have hd2 : ¬ (w1.heap.size = w.heap.size + 1 + 1) := by omega
    have hd3 : ¬ (w.heap.size = w1.heap.size) := by omega
    have hd4 : ¬ (w.heap.size + 1 = w1.heap.size) := by omega
    have hd5 : ¬ (w.heap.size + 1 + 1 = w1.heap.size) := by omega
    have HKS := Lib.hid hks
    clear hks
    go_wp2_with fail
    refine bodyPost_ret (v := .tuple #[.agg #[.slice (some ad) n c, .int .i64 t], .agg #[.int .i64 0, .int .i64 0, .int .i64 0], .bool false]) (by simp [results, Try.results18, go_sem, *]) rfl ⟨rfl, (by repeat (first | with_reducible exact hk1 | with_reducible refine Kp.setCell ?_ (fun hq => absurd hq (by have := HKS.out; dsimp only; omega)) _))⟩

set_option maxRecDepth 100000 in
set_option maxHeartbeats 4000000 in
theorem rread_yes (A : Option Addr) (c t : Nat) (a b : Int) (ys : List Int) (w : World) (hn : numB (widthI a) ys = true) (hc : ys.length + 2 ≤ c) (hm : c ≤ 9223372036854775807) (ht : t + (ys.length + 2) ≤ 140737488355328) (ha : Arr w A (bs (a :: b :: ys))) (hB : IsB (a :: b :: ys)) :
    Calls Try.prog 18 #[.agg #[.slice A (ys.length + 2) c, .int .i64 t]] w (RReadYes a b (numV (widthI a) ys) (t + 2 + (widthI a).toNat : Nat) w) := by
  have hv := numV_bound (widthI a) ys (hB.drop 2)
  have cv : IntKind.i64.wrap (numV (widthI a) ys) = numV (widthI a) ys := IntWalk.i64_in _ (by omega)
  have hw4 : widthI a ≤ 2 ∧ 1 ≤ widthI a := by unfold widthI; split <;> omega
  have hnl : (widthI a).toNat ≤ ys.length := by simp only [numB, decide_eq_true_eq] at hn; omega
  have hvv : big (ys.take (widthI a).toNat) = numV (widthI a) ys := by simp [numV, hn]
  have HT := Lib.hid (fun w => rtake_yes A (ys.length + 2) c t 2 w (by omega) hc hm ht)
  have hbit := Lib.hid (fun w => rbits_any a 16 w)
  rw [bitB_16] at hbit
  have hya := fun (w : World) (h : Arr w A (bs (a :: b :: ys))) => h.drop (n := 2) (c := c) (by simp [bs_length]; omega)
  have hNN := fun (w : World) (h : Arr w A (bs (a :: b :: ys))) => rnumber_yes (cutA A 2 c) (c - 2) (t + 2) (widthI a).toNat ys w (by omega) (by omega) hnl (by omega) (by omega) (by omega) (hya w h) (hB.drop 2)
  rw [hvv] at hNN
  have hNN := Lib.hid hNN
  clear hya hvv hnl hw4 hv hn
  obtain ⟨V, hV⟩ : ∃ V, numV (widthI a) ys = V := ⟨_, rfl⟩
  rw [hV] at hNN cv ⊢
  clear hV
  have hWk : ∃ k : Nat, (widthI a).toNat = k ∧ ((fbit a 4 = true ∧ k = 2) ∨ (fbit a 4 = false ∧ k = 1)) := ⟨_, rfl, by unfold widthI; cases fbit a 4 <;> simp⟩
  obtain ⟨k, hk, hk2⟩ := hWk
  rw [hk] at hNN ⊢
  clear hk
  unfold RNumYes rv at hNN
  have e3 : ((t + 2 : Nat) : Int) = (t : Int) + 2 := by omega
  have e4 : ((t + 2 + k : Nat) : Int) = (t : Int) + 2 + k := by omega
  unfold RReadYes
  rw [e4]
  rw [e3] at hNN
  obtain ⟨T3, e5⟩ : ∃ T3, (t : Int) + 2 + k = T3 := ⟨_, rfl⟩
  obtain ⟨B2, hB2⟩ : ∃ B2, cutA (cutA A 2 c) k (c - 2) = B2 := ⟨_, rfl⟩
  obtain ⟨M2, hM2⟩ : ∃ M2, ys.length - k = M2 := ⟨_, rfl⟩
  obtain ⟨C2, hC2⟩ : ∃ C2, c - 2 - k = C2 := ⟨_, rfl⟩
  rw [e5, hB2, hM2, hC2] at hNN
  rw [e5]
  clear e3 e4 e5 hB2 hM2 hC2
  revert hbit hk2
  cases fbit a 4
  all_goals
    intro hbit hk2
    obtain rfl : k = _ := by rcases hk2 with ⟨h1, h2⟩ | ⟨h1, h2⟩ <;> first | exact absurd h1 (by decide) | exact h2
    clear hk2
    unfold RTakeYes rv at HT
    obtain ⟨B, hBc⟩ : ∃ B, cutA A 2 c = B := ⟨_, rfl⟩
    rw [hBc] at HT hNN
    clear hBc
    have e1 : ys.length + 2 - 2 = ys.length := by omega
    rw [e1] at HT
    clear e1
    obtain ⟨n, hn⟩ : ∃ n, ys.length + 2 = n := ⟨_, rfl⟩
    have hA := Lib.hid ha
    obtain ⟨ad, rfl, hca⟩ := ha.at (j := 0) (u := .int .u8 a) (by simp [bs])
    obtain ⟨ad', e2, hcb⟩ := ha.at (j := 1) (u := .int .u8 b) (by simp [bs])
    obtain rfl : ad = ad' := by injection e2
    rw [show ad.add 0 = ad from by simp [Addr.add]] at hca
    rw [show ad.add 1 = ⟨ad.block, ad.off + 1, none⟩ from by simp [Addr.add]] at hcb
    have hba := hB a (by simp)
    have hbb := hB b (by simp)
    have ca : IntKind.i64.wrap a = a := IntWalk.i64_in _ (by omega)
    have cb : IntKind.i64.wrap b = b := IntWalk.i64_in _ (by omega)
    rw [hn] at HT
    simp only [hn]
    clear hn e2 ha hB
    obtain ⟨m, hm'⟩ : ∃ m, ys.length = m := ⟨_, rfl⟩
    rw [hm'] at HT hNN
    clear hm'
    have hb1 := Lib.hid (((Bk.fresh w 44 #[.slice (some ad) n c, .int .i64 t]).alloc (.cells #[.slice none 0 0, .int .i64 0] 44)).alloc (.cells #[.int .i64 0, .int .i64 0, .int .i64 0] 23))
    have hb2 := Lib.hid ((Bk.second w (.cells #[.slice (some ad) n c, .int .i64 t] 44) 44 #[.slice none 0 0, .int .i64 0]).alloc (.cells #[.int .i64 0, .int .i64 0, .int .i64 0] 23))
    have hb3 := Lib.hid (Bk.third w (.cells #[.slice (some ad) n c, .int .i64 t] 44) (.cells #[.slice none 0 0, .int .i64 0] 44) 23 #[.int .i64 0, .int .i64 0, .int .i64 0])
    obtain ⟨x1, x2, x3, x4, x5⟩ := hb1.out.two
    have hk0 := Lib.hid ((((Kp.refl NoB w).alloc (.cells #[.slice (some ad) n c, .int .i64 t] 44)).alloc (.cells #[.slice none 0 0, .int .i64 0] 44)).alloc (.cells #[.int .i64 0, .int .i64 0, .int .i64 0] 23))
    go_enter Try.func18, Try.ntmps18
    go_wp2_with (first
      | (go_at_call 30; refine (HT.out _).mono ?_; rintro e w1 ⟨rfl, hK1⟩; obtain ⟨y1, y2, y3, y4, y5⟩ := (hb1.out.and hK1).two; obtain ⟨r1, r2, r3, r4, r5⟩ := (Bk.fresh w1 44 #[.slice B m (c - 2), .int .i64 (t + 2 : Int)]).two
         have hca1 := (((hk0.out.and hK1).alloc (.cells #[.slice B m (c - 2), .int .i64 (t + 2 : Int)] 44)).cell hca (fun q => q)); have hcb1 := (((hk0.out.and hK1).alloc (.cells #[.slice B m (c - 2), .int .i64 (t + 2 : Int)] 44)).cell hcb (fun q => q)))
      | (go_at_call 23; refine (hbit.out _).mono ?_; rintro e w2 ⟨rfl, rfl⟩))
    refine (hNN.out _ (hA.out.and ((hk0.out.and hK1).alloc (.cells #[.slice B m (c - 2), .int .i64 (t + 2 : Int)] 44)))).mono ?_
    rintro e w3 ⟨rfl, hK3⟩
    have hk1 := ((hk0.out.and hK1).alloc (.cells #[.slice B m (c - 2), .int .i64 (t + 2 : Int)] 44)).and hK3
    have hks := hK1.size
    obtain ⟨q1, q2, q3, q4, q5⟩ := ((Bk.fresh w1 44 #[.slice B m (c - 2), .int .i64 (t + 2 : Int)]).and hK3).two
    obtain ⟨y1, y2, y3, y4, y5⟩ := (((hb1.out.and hK1).alloc (.cells #[.slice B m (c - 2), .int .i64 (t + 2 : Int)] 44)).and hK3).two
    obtain ⟨z1, z2, z3, z4, z5⟩ := (((hb2.out.and hK1).alloc (.cells #[.slice B m (c - 2), .int .i64 (t + 2 : Int)] 44)).and hK3).two
    obtain ⟨u1, u2, u3, u4, u5, u6, u7⟩ := (((hb3.out.and hK1).alloc (.cells #[.slice B m (c - 2), .int .i64 (t + 2 : Int)] 44)).and hK3).three
    simp only [World.size_alloc] at hks
    have hlt := World.block_lt_of_cell? w _ hca
    have hd0 : ¬ (w1.heap.size = w.heap.size) := by omega
    have hd1 : ¬ (w1.heap.size = w.heap.size + 1) := by omega
    have hd2 : ¬ (w1.heap.size = w.heap.size + 1 + 1) := by omega
    have hd3 : ¬ (w.heap.size = w1.heap.size) := by omega
    have hd4 : ¬ (w.heap.size + 1 = w1.heap.size) := by omega
    have hd5 : ¬ (w.heap.size + 1 + 1 = w1.heap.size) := by omega
    have hd6 : ¬ (ad.block = w1.heap.size) := by omega
    have hd7 : ¬ (ad.block = w.heap.size + 1) := by omega
    have hd8 : ¬ (ad.block = w.heap.size + 1 + 1) := by omega
    have hca2 := hk1.cell hca (fun q => q)
    have hcb2 := hk1.cell hcb (fun q => q)
    have hd5' : ¬ (w.heap.size + 1 = w1.heap.size) := by omega
    have hd9 : ¬ (w.heap.size + 1 = ad.block) := by omega
    have hd10 : ¬ (w.heap.size + 1 + 1 = ad.block) := by omega
    have HB5 := Lib.hid (Bk.fresh w1 44 #[.slice B m (c - 2), .int .i64 (t + 2 : Int)])
    have HB6 := Lib.hid ((hb2.out.and hK1).alloc (.cells #[.slice B m (c - 2), .int .i64 (t + 2 : Int)] 44))
    have HB7 := Lib.hid ((hb3.out.and hK1).alloc (.cells #[.slice B m (c - 2), .int .i64 (t + 2 : Int)] 44))
    have HCA := Lib.hid hca
    have HCB := Lib.hid hcb
    have HKS := Lib.hid hks
    clear hks hca hcb hlt
    clear hca1 hcb1
    go_wp2_with fail
    have hb5 : Bk ((w3.setCell ⟨w1.heap.size, 0, none⟩ (.slice B2 M2 C2)).setCell ⟨w1.heap.size, 1, none⟩ (.int .i64 T3)) w1.heap.size 44 #[.slice B2 M2 C2, .int .i64 T3] := ((HB5.out.and hK3).set 0 (.slice B2 M2 C2)).set 1 (.int .i64 T3)
    have hb6 := ((HB6.out.and hK3).far (p := ⟨w1.heap.size, 0, none⟩) hd5' (.slice B2 M2 C2)).far (p := ⟨w1.heap.size, 1, none⟩) hd5' (.int .i64 T3)
    have hb7 := ((HB7.out.and hK3).far (p := ⟨w1.heap.size, 0, none⟩) hd5 (.slice B2 M2 C2)).far (p := ⟨w1.heap.size, 1, none⟩) hd5 (.int .i64 T3)
    have hk5 := (hk1.setCell (p := ⟨w1.heap.size, 0, none⟩) (fun hq => absurd hq (by have := HKS.out; dsimp only; omega)) (.slice B2 M2 C2)).setCell (p := ⟨w1.heap.size, 1, none⟩) (fun hq => absurd hq (by have := HKS.out; dsimp only; omega)) (.int .i64 T3)
    have hca5 := hk5.cell HCA.out (fun q => q)
    have hcb5 := hk5.cell HCB.out (fun q => q)
    obtain ⟨W4, hW4⟩ : ∃ W4, (w3.setCell ⟨w1.heap.size, 0, none⟩ (.slice B2 M2 C2)).setCell ⟨w1.heap.size, 1, none⟩ (.int .i64 T3) = W4 := ⟨_, rfl⟩
    rw [hW4] at hb5 hb6 hb7 hk5 hca5 hcb5 ⊢
    clear hW4 q1 q2 q3 q4 q5 y1 y2 y3 y4 y5 z1 z2 z3 z4 z5 u1 u2 u3 u4 u5 u6 u7 hca2 hcb2 x1 x2 x3 x4 x5 r1 r2 r3 r4 r5
    obtain ⟨q1, q2, q3, q4, q5⟩ := hb5.two
    obtain ⟨z1, z2, z3, z4, z5⟩ := hb6.two
    obtain ⟨u1, u2, u3, u4, u5, u6, u7⟩ := hb7.three
    replace hb5 := Lib.hid hb5
    replace hb6 := Lib.hid hb6
    replace hb7 := Lib.hid hb7
    replace hk5 := Lib.hid hk5
    go_region_held3 (fun w' => w'.cell? ⟨w1.heap.size, 0, none⟩ = some (.slice B2 M2 C2) ∧ w'.cell? ⟨w1.heap.size, 1, none⟩ = some (.int .i64 T3) ∧ w'.cell? ad = some (.int .u8 a) ∧ w'.cell? ⟨ad.block, ad.off + 1, none⟩ = some (.int .u8 b)) (go_keep) (fail)
    go_wp2_with fail
    have hk6 := hk5.out
    refine bodyPost_ret (v := .tuple #[.agg #[.slice B2 M2 C2, .int .i64 T3], .agg #[.int .i64 a, .int .i64 b, .int .i64 V], .bool true]) (by simp [results, Try.results18, go_sem, *]) rfl ⟨_, _, _, rfl, (by repeat (first | with_reducible exact hk6 | with_reducible refine Kp.drew ?_ | with_reducible refine Kp.setCell ?_ (fun hq => absurd hq (by have := HKS.out; dsimp only; omega)) _))⟩

end Go.Proofs.Ythdipbabfilciaa
