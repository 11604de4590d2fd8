/- The iterator that slices.Chunk returns: its contract. No condition. -/
import Derived.Test.YtkhonebedoemoaaDoorComI
namespace Go.Proofs.YtkhonebedoemoaaDoor
open Go.RowKit Go.Shelf
set_option linter.unusedVariables false
set_option linter.unusedSimpArgs false
attribute [local go_sem] Oper.semAt_some

set_option maxRecDepth 100000 in
set_option maxHeartbeats 8000000 in
theorem own_drew {β : Type} {B : Nat} {I : β → World → Prop} (h : OwnFrom B I) {s : β} {W : World} (hs : I s W) : I s W.drew := h s W _ none hs ⟨rfl, rfl, rfl, Nat.le_refl _, fun _ _ _ => rfl⟩ (fun r e => by cases e)

set_option maxRecDepth 100000 in
set_option maxHeartbeats 8000000 in
theorem chunk1_rounds (w0 : World) (A : Option Addr) (n c G N : Nat) (hG : 1 ≤ G) (hN : N * G = n) (hc : n ≤ c) (hm : n ≤ 1000000) (hcm : c ≤ maxLen) (hA : 0 < n → A ≠ none) (Bs Bg : Nat) (S0 : Nat → Prop) (hs1 : ¬ S0 Bs) (hs2 : ¬ S0 Bg)
    (hBs : Bk w0 Bs 24 #[.slice A n c]) (hBg : Bk w0 Bg 3 #[.int .i64 G]) :
    Rounds Tryd.prog 58 #[.pointer (some ⟨Bs, 0, none⟩), .pointer (some ⟨Bg, 0, none⟩)]
      (fun j => #[.slice (A.map (fun x => x.add (j * G))) G G]) N S0 w0 := by
  intro l J Jx W hW hl0 hl hJ hJx hY h0
  have b1 := hBs.and hW
  have b2 := hBg.and hW
  have hl1 : Bs ≠ l := by have := hBs.lt; omega
  have hl2 : Bg ≠ l := by have := hBg.lt; omega
  refine (callsIn_wide (n := 4)).1 ?_
  refine callsIn_of_wp Tryd.func58 rfl trivial ?_ rfl
  simp only [Tryd.ntmps58, List.size_toArray, List.length_cons, List.length_nil, Nat.reduceAdd, Nat.reduceSub, Array.replicate_succ, Array.replicate_zero, List.push_toArray, List.append_toArray, List.nil_append, List.cons_append]
  gi_wp2
  gi_loopw [4] (fun i wr => ∃ (j : Nat), j ≤ N ∧ i = .int .i64 (j * G : Nat) ∧ Hid (J W.heap.size j wr) ∧ Hid (Bk wr Bs 24 #[.slice A n c]) ∧ Hid (Bk wr Bg 3 #[.int .i64 G]) ∧ W.heap.size ≤ wr.heap.size) (fun i _ => n - (intOf i).toNat)
  case atStart => exact ⟨0, Nat.zero_le _, by simp, Lib.hid (h0 _), Lib.hid b1, Lib.hid b2, Nat.le_refl _⟩
  case round =>
    obtain ⟨j, hj, rfl, HJ, H1, H2, hsz⟩ := hrel
    obtain ⟨q1, q2, q3⟩ := H1.out.one
    obtain ⟨r1, r2, r3⟩ := H2.out.one
    obtain ⟨i, hi⟩ : ∃ i, j * G = i := ⟨_, rfl⟩
    by_cases hlt : j < N
    · have hi2 : i + G ≤ n := by
        rw [← hi, ← hN, ← Nat.succ_mul]
        exact Nat.mul_le_mul_right G hlt
      rw [hi]
      have HY := Lib.hid (fun hw hj' => hY W.heap.size j wr.drew (Nat.le_refl _) hw hlt hj')
      clear hY h0 b1 b2
      have hmin : min (G : Int) ((n - i : Nat) : Int) = G := by omega
      have hmm : Tryd.prog.follows .mixedOrders = true := by kernel_rfl
      have hin : i ≤ n := by omega
      gi_wp2
      gi_region
      have e1 : 1 * ((i : Int) + G) = ((i + G : Nat) : Int) := by omega
      have hic : i + G ≤ c := by omega
      have hY2 := HY.out hsz (own_drew (hJ _) HJ.out)
      rw [hi] at hY2
      obtain ⟨fn, tmps, assign, body, hy, hR⟩ := hY2
      have HR := Lib.hid hR
      clear hR
      have hii : i + G - i = G := by omega
      gi_wp2
      refine (round_depth HR.out).mono ?_
      rintro e W3 ⟨⟨rfl, hJ3⟩ | ⟨rfl, hJx3⟩, hk3⟩
      · have d1 := H1.out.keep ((Kp.refl NoB wr).drew.wide _ |>.same hk3) (fun q => by
          rcases q with q | q | q
          · exact hs1 q
          · exact hl1 q
          · have := hBs.lt
            have := hW.size
            omega)
        have d2 := H2.out.keep ((Kp.refl NoB wr).drew.wide _ |>.same hk3) (fun q => by
          rcases q with q | q | q
          · exact hs2 q
          · exact hl2 q
          · have := hBg.lt
            have := hW.size
            omega)
        obtain ⟨s1, s2, s3⟩ := d2.one
        have hsz3 := Nat.le_trans hsz hk3.size
        replace hJ3 := Lib.hid hJ3
        replace d1 := Lib.hid d1
        replace d2 := Lib.hid d2
        gi_wp2
        go_roundw
        case rel => exact ⟨j + 1, by omega, by rw [← hi, Nat.succ_mul]; go_num, hJ3, d1, d2, hsz3⟩
        case measure => simp [intOf]; omega
      · gi_wp2
        refine bodyPost_ret (results_none rfl _ _ _) rfl ?_
        exact ⟨⟨_, rfl⟩, .inr ⟨j, hlt, hJx3⟩⟩
    · have hj' : j = N := by omega
      subst hj'
      rw [hN] at hi
      subst hi
      rw [hN]
      gi_wp2
      go_end0
      exact ⟨⟨_, rfl⟩, .inl ⟨_, HJ.out⟩⟩

end Go.Proofs.YtkhonebedoemoaaDoor
