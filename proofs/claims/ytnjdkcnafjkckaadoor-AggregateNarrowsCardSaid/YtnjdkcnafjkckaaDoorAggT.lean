/- Chapter 8: the reference's Same at attributes with the same numbers; what the rows ask of the world. No condition. -/
import Derived.Test.YtnjdkcnafjkckaaDoorAggS
import Derived.Test.YtnjdkcnafjkckaaDoorEqual
import Derived.Test.YtnjdkcnafjkckaaDoorRows
import Derived.Stop.LaidErr
import Derived.MakeChecks
namespace Go.Proofs.YtnjdkcnafjkckaaDoor
open Go.RowKit
set_option linter.unusedVariables false
set_option linter.unusedSimpArgs false

/-- What the rows' condition gives. -/
structure Ld (w : World) : Prop where
  tb : Tb w
theorem Ld.and {w w' : World} (h : Ld w) (k : Kp NoB w w') : Ld w' := ⟨h.tb.and k⟩
theorem ld_of {W : World} (h : laidMetH Tryd.prog Rows.aggregateFormsRow.laid W) : Ld W := by
  rw [MakeChecks.laidMetH_plain _ _ _ (by kernel_rfl)] at h
  exact ⟨tb_of (laidMet.tail (laidMet.tail h)) (by kernel_rfl)⟩

theorem fin_two {w w1 : World} {a b : AtI} (hK : Kp NoB ((w.alloc (.cells a.cs 30)).alloc (.cells b.cs 30)) w1) :
    Kp NoB w w1 ∧ Bk w1 w.heap.size 30 a.cs ∧ Bk w1 (w.heap.size + 1) 30 b.cs :=
  ⟨(((Kp.refl NoB w).alloc _).alloc _).and hK, ((Bk.fresh w _ _).alloc _).and hK, (Bk.second w _ _ _).and hK⟩

set_option maxRecDepth 100000 in
set_option maxHeartbeats 1600000 in
theorem gsame_go (k : Int) (p : Bool) (n m : Int) (S : Option Addr) (sn sc : Nat) (L : Option Addr) (ln lc : Nat) (B : Option Addr) (bn bc : Nat) (f : Int) (R : Option Addr) (rn rc : Nat)
    (S' : Option Addr) (sn' sc' : Nat) (L' : Option Addr) (ln' lc' : Nat) (B' : Option Addr) (bn' bc' : Nat) (f' : Int) (R' : Option Addr) (rn' rc' : Nat)
    (ha : (AtI.mk k p n m S sn sc L ln lc B bn bc f R rn rc).bare = true) (hb : (AtI.mk k p n m S' sn' sc' L' ln' lc' B' bn' bc' f' R' rn' rc').bare = true) (w : World) :
    Calls Tryd.prog 12 #[(AtI.mk k p n m S sn sc L ln lc B bn bc f R rn rc).val, (AtI.mk k p n m S' sn' sc' L' ln' lc' B' bn' bc' f' R' rn' rc').val] w (Stay (.bool true) w) := by
  have HA := Lib.hid (fun W => bare_any (AtI.mk k p n m S sn sc L ln lc B bn bc f R rn rc) W)
  have HB := Lib.hid (fun W => bare_any (AtI.mk k p n m S' sn' sc' L' ln' lc' B' bn' bc' f' R' rn' rc') W)
  rw [ha] at HA
  rw [hb] at HB
  clear ha hb
  unfold AtI.val AtI.cs at *
  go_enter Tryd.func12, Tryd.ntmps12
  go_wp2_with (first
    | (go_at_call 33; (with_reducible refine Calls.mono (HA.out _) ?_); rintro e w1 ⟨rfl, hK⟩; obtain ⟨hk1', ha', hb'⟩ := fin_two (a := ⟨k, p, n, m, S, sn, sc, L, ln, lc, B, bn, bc, f, R, rn, rc⟩) (b := ⟨k, p, n, m, S', sn', sc', L', ln', lc', B', bn', bc', f', R', rn', rc'⟩) hK; have hk1 := Lib.hid hk1'; have hy1 := Lib.hid hb'; clear hK hk1' ha' hb'; obtain ⟨y0, y1, y2, y3, y4, y5, y6, y7, y8⟩ := hy1.out.attr)
    | (go_at_call 33; (with_reducible refine Calls.mono (HB.out _) ?_); rintro e w2 ⟨rfl, hK⟩; have hk2 := Lib.hid (hk1.out.and hK); clear hK))
  go_ret
  exact ⟨rfl, hk2.out⟩

theorem gsame_any (a b : AtI) (ht : b.t = a.t) (hp : b.p = a.p) (hn : b.n = a.n) (hm : b.m = a.m) (ha : a.bare = true) (hb : b.bare = true) (w : World) :
    Calls Tryd.prog 12 #[a.val, b.val] w (Stay (.bool true) w) := by
  obtain ⟨k, p, n, m, S, sn, sc, L, ln, lc, B, bn, bc, f, R, rn, rc⟩ := a
  obtain ⟨k', p', n', m', S', sn', sc', L', ln', lc', B', bn', bc', f', R', rn', rc'⟩ := b
  simp only at ht hp hn hm
  subst ht hp hn hm
  exact gsame_go _ _ _ _ _ _ _ _ _ _ _ _ _ _ _ _ _ _ _ _ _ _ _ _ _ _ _ _ _ _ ha hb w

/-! ### plain words on reading and writing -/
theorem bytesG_len {width : Int} {z : AtI} (hv : validG width z = true) : ((bytesG width z).length : Int) = ofG width z.t + 4 := by
  unfold bytesG
  rw [if_pos hv, List.length_append, putL_length, putL_length]
  have := ofG_cases width z.t
  omega
theorem bytesG_short (width : Int) (z : AtI) : (bytesG width z).length ≤ 8 := by
  unfold bytesG
  split
  · rw [List.length_append, putL_length, putL_length]
    have := ofG_cases width z.t
    omega
  · simp
theorem bytesG_isB (width : Int) (z : AtI) : IsB (bytesG width z) := by
  unfold bytesG
  split
  · exact (putL_isB _ _).append (putL_isB _ _)
  · exact IsB.nil
theorem read_bytes {width : Int} {z : AtI} (hn : 0 ≤ z.n ∧ z.n < 4294967296) (hm : 0 ≤ z.m ∧ z.m < 4294967296) (hv : validG width z = true) :
    attrG width z.t (bytesG width z) = mkG z.t z.n z.m ∧ kindG width z.t (bytesG width z) = 0 := by
  obtain ⟨K, hK, hk, -, -⟩ := validG_k hn hv
  have hl := bytesG_len hv
  have hg : goodG width z.t (bytesG width z) = true := by
    unfold goodG
    rw [hl, hK]
    simp
    omega
  have hlt : z.n < 256 ^ K := by
    rcases hk with ⟨rfl, h⟩ | rfl
    · show z.n < 65536; omega
    · exact hn.2
  have ht : (bytesG width z).take K = putL K z.n := by
    unfold bytesG
    rw [if_pos hv, hK]
    exact List.take_left' (putL_length _ _)
  have hd : (bytesG width z).drop K = putL 4 z.m := by
    unfold bytesG
    rw [if_pos hv, hK]
    exact List.drop_left' (putL_length _ _)
  unfold attrG kindG
  rw [if_pos hg, if_pos hg, hK, show ((K : Nat) : Int).toNat = K from rfl, ht, hd, big_putL _ _ hn.1 hlt, big_putL _ _ hm.1 hm.2]
  exact ⟨rfl, rfl⟩

end Go.Proofs.YtnjdkcnafjkckaaDoor
