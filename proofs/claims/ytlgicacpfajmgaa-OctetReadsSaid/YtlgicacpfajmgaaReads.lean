/- The walk of the law OctetReads: it returns true and makes only new blocks, for all bytes and all reads. -/
import Derived.Test.YtlgicacpfajmgaaOctE
import Derived.Test.YtlgicacpfajmgaaOctR
import Derived.Test.YtlgicacpfajmgaaOpenOps
import Derived.Deep.LoopGhost
import Derived.Deep.DeepCutAuto
import Derived.Deep.CutBlock
namespace Go.Proofs.Ytlgicacpfajmgaa
open Go.RowKit
set_option linter.unusedVariables false
set_option linter.unusedSimpArgs false

theorem reads_long (A B : Option Addr) (n c m d : Nat) (w : World) (h : 500 < n ∨ 100 < m) :
    Calls Try.prog 5 #[.slice A n c, .slice B m d] w (Stay (.bool true) w) := by
  by_cases h1 : 500 < n
  · go_enter Try.func5, Try.ntmps5
    go_wp2_with (go_at_call 12; refine (alive_any _).mono ?_; rintro e w1 ⟨rfl, hK1⟩)
    go_ret
    exact ⟨rfl, hK1⟩
  · have h2 : 100 < m := by omega
    go_enter Try.func5, Try.ntmps5
    go_wp2_with (go_at_call 12; refine (alive_any _).mono ?_; rintro e w1 ⟨rfl, hK1⟩)
    go_ret
    exact ⟨rfl, hK1⟩

theorem rnumber_no (A : Option Addr) (c : Nat) (ys : List Int) (t k : Int) (w : World) (hf : numB k ys = false) :
    Calls Try.prog 18 #[.agg #[.slice A ys.length c, .int .i64 t], .int .i64 k] w (Stay (.tuple #[rv A ys.length c t, .int .u32 0, .bool false]) w) := by
  by_cases hk : k < 1 ∨ 4 < k
  · exact rnumber_range A _ c t k w hk
  · by_cases hl : (ys.length : Int) < k
    · exact rnumber_short A _ c t k w (by omega) (by omega) hl
    · exfalso
      simp [numB] at hf
      omega

/-- What holds between two reads: the reader in block rb and the reference's value in block B read alike. -/
structure RInv (w wr : World) (q B rb : Nat) (ys : List Int) (t : Nat) (A' : Option Addr) (c' : Nat) : Prop where
  rd : Rd wr q rb ys t
  bk : Bk wr B 39 #[.slice A' ys.length c', .int .i64 t]
  arr : Arr w A' (bs ys)
  le : ys.length ≤ c'
  hm : c' ≤ 9223372036854775807
  kp : Kp NoB w wr
  neb : rb ≠ B
  qb : ys ≠ [] → q ≠ B
  lr : w.heap.size ≤ rb
  lB : w.heap.size ≤ B

theorem RInv.step {w wr w1 w2 : World} {q B rb rb' : Nat} {ys ys' : List Int} {t t' : Nat} {A' A'' : Option Addr} {c' c'' : Nat} {S : Nat → Prop} (h : RInv w wr q B rb ys t A' c') (k1 : Kp S wr w1) (k2 : Kp NoB w1 w2)
    (hS : ∀ b, S b → b = rb ∨ wr.heap.size ≤ b) (hR : Rd w1 q rb' ys' t') (hy : ys' ≠ [] → ys ≠ []) (ha : Arr w A'' (bs ys')) (hl : ys'.length ≤ c'') (hm : c'' ≤ 9223372036854775807) (hnb : rb' ≠ B) (hlr : w.heap.size ≤ rb') (T : Int) (hT : T = t') :
    RInv w ((w2.setCell ⟨B, 0, none⟩ (.slice A'' ys'.length c'')).setCell ⟨B, 1, none⟩ (.int .i64 T)) q B rb' ys' t' A'' c'' := by
  subst hT
  have hsB : ¬ S B := fun hq => by
    rcases hS B hq with h1 | h1
    · exact h.neb h1.symm
    · have := h.bk.lt
      omega
  have hB2 := (h.bk.keep k1 hsB).and k2
  have hK : Kp (OnB B) w2 ((w2.setCell ⟨B, 0, none⟩ (.slice A'' ys'.length c'')).setCell ⟨B, 1, none⟩ (.int .i64 t')) :=
    ((Kp.refl (OnB B) _).setCell (p := ⟨B, 0, none⟩) (fun _ => rfl) _).setCell (p := ⟨B, 1, none⟩) (fun _ => rfl) _
  refine ⟨(hR.and k2).keep hK hnb (fun hd => h.qb (hy hd)), (hB2.set 0 _).set 1 _, ha, hl, hm, ?_, hnb, fun hd => h.qb (hy hd), hlr, h.lB⟩
  refine (((h.kp.trans k1 (fun b hb hq => ?_)).and k2).new hK h.lB)
  rcases hS b hq with h1 | h1
  · have := h.lr
    omega
  · have := h.kp.size
    omega

theorem RInv.and {w wr w1 : World} {q B rb : Nat} {ys : List Int} {t : Nat} {A' : Option Addr} {c' : Nat} (h : RInv w wr q B rb ys t A' c') (k : Kp NoB wr w1) : RInv w w1 q B rb ys t A' c' :=
  ⟨h.rd.and k, h.bk.and k, h.arr, h.le, h.hm, h.kp.and k, h.neb, h.qb, h.lr, h.lB⟩
theorem RInv.drewN {w wr : World} {q B rb : Nat} {ys : List Int} {t : Nat} {A' : Option Addr} {c' : Nat} (h : RInv w wr q B rb ys t A' c') (n : Nat) : RInv w (wr.drewN n) q B rb ys t A' c' :=
  ⟨h.rd.and ((Kp.refl _ _).drewN n), h.bk, h.arr, h.le, h.hm, h.kp.drewN n, h.neb, h.qb, h.lr, h.lB⟩

/-- The reference's value and the read's number, asked for behind calls. -/
theorem RInv.box {w wr w4 : World} {q B rb : Nat} {ys : List Int} {t : Nat} {A' : Option Addr} {c' : Nat} {S : Nat → Prop} {T : TypeId} {u v : Value} (h : RInv w wr q B rb ys t A' c') (k : Kp S (wr.alloc (.cells #[u, v] T)) w4)
    (hS : ∀ b, S b → b = rb ∨ wr.heap.size + 1 ≤ b) :
    w4.cell? ⟨B, 0, none⟩ = some (.slice A' ys.length c') ∧ w4.cell? ⟨B, 1, none⟩ = some (.int .i64 t) ∧ w4.frozen? ⟨B, 0, none⟩ = false ∧ w4.frozen? ⟨B, 1, none⟩ = false ∧ B < w4.heap.size ∧ w4.cell? ⟨wr.heap.size, 1, none⟩ = some v := by
  have hl := h.bk.lt
  have hr := h.rd.lt
  obtain ⟨x1, x2, x3, x4, x5⟩ := ((h.bk.alloc (.cells #[u, v] T)).keep k (fun hq => by rcases hS B hq with h1 | h1; exact h.neb h1.symm; omega)).two
  obtain ⟨_, y2, _⟩ := ((Bk.fresh wr T #[u, v]).keep k (fun hq => by rcases hS _ hq with h1 | h1 <;> omega)).two
  exact ⟨x1, x2, x3, x4, x5, y2⟩

/-- What region 22 asks: two numbers, two flags, two slices that are alike. -/
structure Alike2 (w : World) (s9 s10 s11 s12 s13 s14 : Value) : Prop where
  x : ∃ (ok : Bool) (v : Int) (A1 A2 : Option Addr) (c1 c2 : Nat) (zs : List Int), s9 = .bool ok ∧ s10 = .bool ok ∧ s11 = .int .u32 v ∧ s12 = .int .u32 v ∧ s13 = .slice A1 zs.length c1 ∧ s14 = .slice A2 zs.length c2 ∧ Arr w A1 (bs zs) ∧ Arr w A2 (bs zs) ∧ zs.length ≤ 500

/-- The relation behind the switch. -/
def RCut (w : World) (q B : Nat) (s5 s9 s10 s11 s12 s13 s14 : Value) (wc : World) : Prop :=
  ∃ (rb' t' c'' : Nat) (ys' : List Int) (A'' : Option Addr), s5 = .pointer (some ⟨rb', 0, none⟩) ∧ ys'.length ≤ 500 ∧ RInv w wc q B rb' ys' t' A'' c'' ∧ Alike2 wc s9 s10 s11 s12 s13 s14

/-- A step that fails on both sides. -/
theorem RInv.fail {w wr w1 w2 : World} {q B rb : Nat} {ys : List Int} {t : Nat} {A' : Option Addr} {c' : Nat} {o : Obj} (h : RInv w wr q B rb ys t A' c') (hyl : ys.length ≤ 500) (k1 : Kp NoB (wr.alloc o) w1) (k2 : Kp NoB w1 w2) (s9 s10 s11 s12 s13 s14 : Value)
    (h9 : s9 = .bool false) (h10 : s10 = .bool false) (h11 : s11 = .int .u32 0) (h12 : s12 = .int .u32 0) (h13 : s13 = .slice none 0 0) (h14 : s14 = .slice none 0 0) :
    RCut w q B (.pointer (some ⟨rb, 0, none⟩)) s9 s10 s11 s12 s13 s14 ((w2.setCell ⟨B, 0, none⟩ (.slice A' ys.length c')).setCell ⟨B, 1, none⟩ (.int .i64 t)) := by
  subst h9 h10 h11 h12 h13 h14
  have hk : Kp NoB wr w1 := ((Kp.refl _ _).alloc _).and k1
  exact ⟨rb, t, c', ys, A', rfl, hyl, h.step hk k2 (fun b hq => hq.elim) (h.rd.and hk) (fun hd => hd) h.arr h.le h.hm h.neb h.lr _ rfl, ⟨false, 0, none, none, 0, 0, [], rfl, rfl, rfl, rfl, rfl, rfl, Arr.nil _ _, Arr.nil _ _, by simp⟩⟩

set_option maxRecDepth 100000 in
set_option maxHeartbeats 4000000 in
theorem reads_walk (A B0 : Option Addr) (c d : Nat) (xs : List Int) (ops : List (Int × Int)) (w : World) (ha : Arr w A (bs xs)) (hb : IsB xs) (hl : xs.length ≤ 500) (hc : xs.length ≤ c) (hcm : c ≤ 9223372036854775807) (hm : ops.length ≤ 100) (ho : Sl (Flat opC) 2 w B0 ops) :
    Calls Try.prog 5 #[.slice A xs.length c, .slice B0 ops.length d] w (Stay (.bool true) w) := by
  go_enter Try.func5, Try.ntmps5
  go_wp2_with (go_at_call 10; refine (new_any A c xs _ (by omega) ha hb).mono ?_; rintro e w2 ⟨q, r, rfl, hr, hq, hqr, hR, hK2⟩)
  have hI : RInv w (w2.alloc (.cells #[.slice A xs.length c, .int .i64 0] 39)) q w2.heap.size r xs 0 A c :=
    ⟨hR.and ((Kp.refl _ _).alloc _), Bk.fresh _ _ _, ha, hc, hcm, hK2.alloc _, by have := hR.lt; omega, fun hd => by have := hR.lt_q hd; omega, hr, hK2.size⟩
  have hs2 := hK2.size
  clear hR hqr
  go_loopg [5, 35] ops.length (fun g rp i wr => ∃ (j rb t c' : Nat) (ys : List Int) (A' : Option Addr), j + g = ops.length ∧ i = .int .i64 j ∧ rp = .pointer (some ⟨rb, 0, none⟩) ∧ ys.length ≤ 500 ∧ RInv w wr q w2.heap.size rb ys t A' c')
  case atStart => exact ⟨0, r, 0, c, xs, A, by omega, rfl, rfl, hl, hI⟩
  case round =>
    clear hI
    obtain ⟨j, rb, t, c', ys, A', hjg, rfl, rfl, hyl, hI⟩ := hrel
    by_cases hlt : j < ops.length
    · obtain ⟨bd, cs, rfl, hcl, rfl, hcell⟩ := (Flat.and ho hI.kp).at (List.getElem?_eq_getElem hlt)
      obtain ⟨o, hoj⟩ : ∃ o, ops[j] = o := ⟨_, rfl⟩
      rw [hoj] at hcell
      have g0 := hcell 0 _ rfl
      have g1 := hcell 1 _ rfl
      rw [add_field _ _ 1 (by decide)] at g1
      rw [Nat.add_zero] at g0
      clear hcell hoj hcl
      have hlt2 := hI.rd.lt
      have hB1 := hI.bk.lt
      go_upto_block 2 with (fail)
      go_cut [5, 9, 10, 11, 12, 13, 14] (fun s5 s9 s10 s11 s12 s13 s14 wc => RCut w q w2.heap.size s5 s9 s10 s11 s12 s13 s14 wc)
      case first =>
        obtain ⟨b1, b2, b3, b4, b5⟩ := hI.bk.two
        have hrd := hI.rd
        have HI := Lib.hid hI
        clear hI g0 g1
        by_cases hk0 : o.1 = 0
        · by_cases hnb : numB o.2 ys = true
          · obtain ⟨k, hk⟩ : ∃ k : Nat, o.2 = k := ⟨o.2.toNat, by simp [numB] at hnb; omega⟩
            obtain ⟨hk1, hk4, hkl⟩ : 1 ≤ k ∧ k ≤ 4 ∧ k ≤ ys.length := by rw [hk] at hnb; simp [numB] at hnb; omega
            obtain ⟨o1, o2⟩ := o
            simp only at hk0 hk
            subst hk0 hk
            clear hnb
            go_wp2_with (first
              | (go_at_call 11; refine (number_yes _ q rb ys t k (hrd.and ((Kp.refl _ _).alloc _)) hk1 hk4 hkl).mono ?_; rintro e w4 ⟨rfl, hR4, hK4⟩; clear b1 b2 b3 b4 b5; obtain ⟨b1, b2, b3, b4, b5, n4⟩ := HI.out.box hK4 (fun b hq => .inl hq))
              | (go_at_call 18; refine (rnumber_yes A' c' t k ys w4 hk1 hk4 hkl HI.out.le HI.out.hm (by have := hrd.bd; omega) (HI.out.arr.and ((HI.out.kp.alloc _).new hK4 HI.out.lr)) hrd.isB).mono ?_; unfold RNumYes rv; rintro e w5 ⟨rfl, hK5⟩; clear b1 b2 b3 b4 b5 n4; obtain ⟨b1, b2, b3, b4, b5, n5⟩ := HI.out.box (hK4.and hK5) (fun b hq => .inl hq)))
            go_meet
            case rel =>
              have hst := HI.out.step (((Kp.refl _ _).alloc _).same hK4) hK5 (fun b hq => .inl hq) hR4 (fun hd => by rintro rfl; simp at hd) (A'' := cutA A' k c') (c'' := c' - k) (by rw [bs_drop]; exact HI.out.arr.drop (by rw [bs_length]; exact HI.out.le)) (by have := HI.out.le; simp; omega) (by have := HI.out.hm; omega) HI.out.neb HI.out.lr (t + k : Int) (by simp)
              rw [List.length_drop] at hst
              exact ⟨rb, t + k, c' - k, ys.drop k, _, rfl, by simp; omega, hst, ⟨true, _, none, none, 0, 0, [], rfl, rfl, rfl, rfl, rfl, rfl, Arr.nil _ _, Arr.nil _ _, by simp⟩⟩
          · replace hnb : numB o.2 ys = false := by simpa using hnb
            obtain ⟨o1, o2⟩ := o
            simp only at hk0 hnb
            subst hk0
            go_wp2_with (first
              | (go_at_call 11; refine (number_no _ q rb ys t o2 (hrd.and ((Kp.refl _ _).alloc _)) hnb).mono ?_; rintro e w4 ⟨rfl, hK4⟩; clear b1 b2 b3 b4 b5; obtain ⟨b1, b2, b3, b4, b5, n4⟩ := HI.out.box hK4 (fun b hq => hq.elim))
              | (go_at_call 18; refine (rnumber_no A' c' ys t o2 w4 hnb).mono ?_; unfold Stay rv; rintro e w5 ⟨rfl, hK5⟩; clear b1 b2 b3 b4 b5 n4; obtain ⟨b1, b2, b3, b4, b5, n5⟩ := HI.out.box (hK4.and hK5) (fun b hq => hq.elim)))
            go_meet
            case rel => exact HI.out.fail hyl hK4 hK5 _ _ _ _ _ _ rfl rfl rfl rfl rfl rfl
        · have hne0 : (o.1 == 0) = false := by simp [hk0]
          by_cases hk1 : o.1 = 1
          · by_cases hno : o.2 < 0 ∨ (ys.length : Int) < o.2
            · have HN := Lib.hid (fun (w : World) (h : Rd w q rb ys t) => take_no w q rb ys t o.2 h hno)
              have HM := Lib.hid (fun (w : World) => rtake_no A' ys.length c' t o.2 w hno)
              obtain ⟨o1, o2⟩ := o
              simp only at hk0 hk1 hne0 HN HM
              clear hno hk0
              subst hk1
              go_wp2_with (first
                | (go_at_call 15; refine (HN.out _ (hrd.and ((Kp.refl _ _).alloc _))).mono ?_; rintro e w4 ⟨rfl, hK4⟩; clear b1 b2 b3 b4 b5; obtain ⟨b1, b2, b3, b4, b5, n4⟩ := HI.out.box hK4 (fun b hq => hq.elim))
                | (go_at_call 19; refine (HM.out w4).mono ?_; unfold Stay rv; rintro e w5 ⟨rfl, hK5⟩; clear b1 b2 b3 b4 b5 n4; obtain ⟨b1, b2, b3, b4, b5, n5⟩ := HI.out.box (hK4.and hK5) (fun b hq => hq.elim)))
              go_meet
              case rel => exact HI.out.fail hyl hK4 hK5 _ _ _ _ _ _ rfl rfl rfl rfl rfl rfl
            · obtain ⟨k, hk⟩ : ∃ k : Nat, o.2 = k := ⟨o.2.toNat, by omega⟩
              have hkl : k ≤ ys.length := by omega
              obtain ⟨o1, o2⟩ := o
              simp only at hk0 hk1 hk hne0
              clear hno hk0
              subst hk1 hk
              go_wp2_with (first
                | (go_at_call 15; refine (take_yes _ q rb ys t k (hrd.and ((Kp.refl _ _).alloc _)) hkl).mono ?_; rintro e w4 ⟨A4, c4, rfl, hown4, hR4, hK4⟩; clear b1 b2 b3 b4 b5; obtain ⟨b1, b2, b3, b4, b5, n4⟩ := HI.out.box hK4 (fun b hq => .inl hq))
                | (go_at_call 19; refine (rtake_yes A' ys.length c' t k w4 hkl HI.out.le HI.out.hm (by have := hrd.bd; omega)).mono ?_; unfold RTakeYes rv; rintro e w5 ⟨rfl, hK5⟩; clear b1 b2 b3 b4 b5 n4; obtain ⟨b1, b2, b3, b4, b5, n5⟩ := HI.out.box (hK4.and hK5) (fun b hq => .inl hq)))
              go_meet
              case rel =>
                have hst := HI.out.step (((Kp.refl _ _).alloc _).same hK4) hK5 (fun b hq => .inl hq) hR4 (fun hd => by rintro rfl; simp at hd) (A'' := cutA A' k c') (c'' := c' - k) (by rw [bs_drop]; exact HI.out.arr.drop (by rw [bs_length]; exact HI.out.le)) (by have := HI.out.le; simp; omega) (by have := HI.out.hm; omega) HI.out.neb HI.out.lr (t + k : Int) (by simp)
                have hlen : (ys.take k).length = k := by simp; omega
                have hat := HI.out.arr.take k
                rw [← bs_take] at hat
                have hgrow : ∀ b, (Value.slice A4 k c4).ownBlock = some b → b ≠ w2.heap.size := fun b hb => by
                  have h1 := (hown4.lt b hb).1
                  have h2 := HI.out.bk.lt
                  rw [World.size_alloc] at h1
                  omega
                rw [List.length_drop] at hst
                refine ⟨rb, t + k, c' - k, ys.drop k, _, rfl, by simp; omega, hst, ⟨true, 0, A4, A', c4, c', ys.take k, rfl, rfl, rfl, rfl, by rw [hlen], by rw [hlen], ?_, hat.and hst.kp, by simp; omega⟩⟩
                exact ((Arr.of_own hown4).and hK5).keep (S := OnB w2.heap.size) (((Kp.refl (OnB w2.heap.size) _).setCell (p := ⟨w2.heap.size, 0, none⟩) (fun _ => rfl) _).setCell (p := ⟨w2.heap.size, 1, none⟩) (fun _ => rfl) _) (fun ad e hq => hgrow ad.block (by rw [e]; rfl) hq)
          · have hne1 : (o.1 == 1) = false := by simp [hk1]
            clear hk0 hk1
            by_cases hno : o.2 < 0 ∨ (ys.length : Int) < o.2
            · have HN := Lib.hid (fun (w : World) (h : Rd w q rb ys t) => part_no w q rb ys t o.2 h hno)
              have HM := Lib.hid (fun (w : World) => rpart_no A' ys.length c' t o.2 w hno)
              clear hno
              go_wp2_with (first
                | (go_at_call 20; refine (HN.out _ (hrd.and ((Kp.refl _ _).alloc _))).mono ?_; rintro e w4 ⟨rfl, hK4⟩; clear b1 b2 b3 b4 b5; obtain ⟨b1, b2, b3, b4, b5, n4⟩ := HI.out.box hK4 (fun b hq => hq.elim))
                | (go_at_call 21; refine (HM.out w4).mono ?_; unfold Stay rv; rintro e w5 ⟨rfl, hK5⟩; clear b1 b2 b3 b4 b5 n4; obtain ⟨b1, b2, b3, b4, b5, n5⟩ := HI.out.box (hK4.and hK5) (fun b hq => hq.elim)))
              go_meet
              case rel => exact ⟨rb, t, c', ys, A', rfl, hyl, HI.out.and (((((Kp.refl _ _).alloc _).and hK4).and hK5).alloc _ |>.alloc _), ⟨false, 0, none, none, 0, 0, [], rfl, rfl, rfl, rfl, rfl, rfl, Arr.nil _ _, Arr.nil _ _, by simp⟩⟩
            · obtain ⟨k, hk⟩ : ∃ k : Nat, o.2 = k := ⟨o.2.toNat, by omega⟩
              have hkl : k ≤ ys.length := by omega
              obtain ⟨o1, o2⟩ := o
              simp only at hk hne0 hne1
              clear hno
              subst hk
              go_wp2_with (first
                | (go_at_call 20; refine (part_yes _ q rb ys t k (hrd.and ((Kp.refl _ _).alloc _)) hkl).mono ?_; rintro e w4 ⟨p, rfl, hp, hpr, hqp, hP4, hR4, hK4⟩; clear b1 b2 b3 b4 b5; obtain ⟨b1, b2, b3, b4, b5, n4⟩ := HI.out.box hK4 (fun b hq => .inl hq))
                | (go_at_call 21; refine (rpart_yes A' ys.length c' t k w4 hkl HI.out.le HI.out.hm (by have := hrd.bd; omega)).mono ?_; unfold RPartYes rv; rintro e w5 ⟨rfl, hK5⟩; clear b1 b2 b3 b4 b5 n4; obtain ⟨b1, b2, b3, b4, b5, n5⟩ := HI.out.box (hK4.and hK5) (fun b hq => .inl hq)))
              go_region
              go_wp2
              go_meet
              case rel =>
                have hlen : (ys.take k).length = k := by simp; omega
                have hat := HI.out.arr.take k
                rw [← bs_take] at hat
                have hpB : p ≠ w2.heap.size := by have := HI.out.bk.lt; rw [World.size_alloc] at hp; omega
                have hst := HI.out.step (((Kp.refl _ _).alloc _).same hK4) hK5 (fun b hq => .inl hq) hP4 (fun hd => by rintro rfl; simp at hd) hat (by rw [hlen]; have := HI.out.le; omega) HI.out.hm hpB (by have := HI.out.kp.size; rw [World.size_alloc] at hp; omega) (t : Int) rfl
                rw [hlen] at hst
                exact ⟨p, t, c', ys.take k, A', rfl, by simp; omega, hst.and ((((Kp.refl _ _).alloc _).alloc _).drew), ⟨true, 0, none, none, 0, 0, [], rfl, rfl, rfl, rfl, rfl, rfl, Arr.nil _ _, Arr.nil _ _, by simp⟩⟩
      case rest =>
        obtain ⟨rb', t', c'', ys', A'', rfl, hyl', hI', ok, v, A1, A2, c1, c2, zs, rfl, rfl, rfl, rfl, rfl, rfl, hz1, hz2, hz3⟩ := hcut
        have hbk := hI'.bk.two
        have hrd := hI'.rd
        have HI := Lib.hid hI'
        clear hI' hI g0 g1
        obtain ⟨b1, b2, b3, b4, b5⟩ := hbk
        clear b3 b4 b5
        go_wp2_with fail
        go_quiet ((first
          | (go_at_call 13; refine Calls.quiet_of (equal_any A1 A2 c1 c2 zs zs _ (hz1.drewN _) (hz2.drewN _) (by omega)))
          | (go_at_call 16; exact Calls.quiet_of_same (at_q _ q rb' ys' t' hrd))
          | (go_at_call 17; exact Calls.quiet_of_same (left_q _ q rb' ys' t' hrd))))
        go_wp2
        go_roundg (gk - 1)
        case measure => omega
        case rel => exact ⟨j + 1, rb', t', c'', ys', A'', by omega, by go_num, rfl, hyl', HI.out.drewN _⟩
    · have hK := hI.kp
      clear hI
      go_wp2_with (go_at_call 12; refine (alive_any _).mono ?_; rintro e w1 ⟨rfl, hK1⟩)
      go_ret
      exact ⟨rfl, hK.and hK1⟩

theorem reads_law (A : Option Addr) (n c : Nat) (xs : List Int) (B : Option Addr) (m d : Nat) (ops : List (Int × Int)) (w : World) (h : InBytes w A n c xs) (ho : InOps w B m d ops) :
    Calls Try.prog 5 #[.slice A n c, .slice B m d] w fun e w' => e = .returned (.bool true) ∧ Kp NoB w w' := by
  obtain ⟨rfl, hc, hm, ha, hb⟩ := h
  obtain ⟨rfl, hd, hdm, hs⟩ := ho
  by_cases hl : 500 < xs.length ∨ 100 < ops.length
  · exact reads_long A B _ c _ d w hl
  · exact reads_walk A B c d xs ops w ha hb (by omega) hc hm (by omega) hs

end Go.Proofs.Ytlgicacpfajmgaa
