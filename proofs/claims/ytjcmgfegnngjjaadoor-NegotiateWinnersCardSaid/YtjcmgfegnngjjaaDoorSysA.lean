/- The iterator 'with' of package capability: its contract (a range over a function). -/
import Derived.Test.YtjcmgfegnngjjaaDoorCapF
import Derived.RangeFuncNested
import Derived.RangeFuncBound
import Derived.RangeFuncCalls
import Derived.RangeFuncLeaves
import Derived.Shelf.Abstract
import Derived.Shelf.RegionOpen
import Derived.WalkKit
import Derived.OwnWalkIn
import Derived.TacticsInMore
import Derived.LoopNIn
import Derived.LoopIn
namespace Go.Proofs.YtjcmgfegnngjjaaDoor
open Go.RowKit Go.Shelf
set_option linter.unusedVariables false
set_option linter.unusedSimpArgs false
attribute [local go_sem] Oper.semAt_some

/-- A capability that lay there when the call began, with its slice of bytes. -/
structure CapV (w0 : World) where
  x : CapI
  A : Option Addr
  c : Nat
  h : Arr w0 A (bs x.data) ∧ x.data.length ≤ c ∧ c ≤ maxLen ∧ IsB x.data
def CapV.val {w0 : World} (v : CapV w0) : Value := .slice v.A v.x.data.length v.c

/-- The capabilities with a code. -/
def withC (k : Int) (xs : List CapI) : List CapI := xs.filter (fun x => x.code == k)
theorem withC_succ (k : Int) (xs : List CapI) (j : Nat) (x : CapI) (h : xs[j]? = some x) : withC k (xs.take (j + 1)) = withC k (xs.take j) ++ (if x.code = k then [x] else []) := by
  rw [take_snocC xs j x h]
  unfold withC
  rw [List.filter_append]
  by_cases hk : x.code = k <;> simp [hk]
theorem withC_le (k : Int) (xs : List CapI) : (withC k xs).length ≤ xs.length := List.length_filter_le _ _

/-- What a round keeps: what lay below n₀, and the cell of the code. -/
def KpC (n₀ Bc : Nat) (W W' : World) : Prop := Below n₀ W W' ∧ ∀ v, W.cell? ⟨Bc, 0, none⟩ = some v → W'.cell? ⟨Bc, 0, none⟩ = some v
theorem KpC.refl (n₀ Bc : Nat) (W : World) : KpC n₀ Bc W W := ⟨Below.refl _ _, fun _ h => h⟩
theorem KpC.trans {n₀ Bc : Nat} {A B C : World} (h : KpC n₀ Bc A B) (k : KpC n₀ Bc B C) : KpC n₀ Bc A C := ⟨h.1.trans k.1, fun v hv => k.2 v (h.2 v hv)⟩
theorem kpC_b {n₀ Bc : Nat} {w : World} (hn : n₀ ≤ w.heap.size) (W : World) (l : Nat) (o o' : Obj) (hl : w.heap.size ≤ l) (h : W.heap[l]? = some o) (hc : o.isCells = false) (hw : o.isWalk = false) : KpC n₀ Bc W (W.putObj l o') :=
  ⟨belowK_b hn W l o o' hl h hc hw, fun v hv => cell_kept hv (grownBy_putObj' W l o') (fun r e => by cases e; exact ⟨o, h, hc⟩)⟩

theorem with_any (k : Int) (A : Option Addr) (n c : Nat) (w : World) :
    Calls Tryd.prog 64 #[.int .i64 k, .slice A n c] w fun e w' => e = .returned (.func (.func 71) #[] #[.pointer (some ⟨w.heap.size + 1, 0, none⟩), .pointer (some ⟨w.heap.size, 0, none⟩)]) ∧ w' = (w.alloc (.cells #[.int .i64 k] 3)).alloc (.cells #[.slice A n c] 28) := by
  go_enter Tryd.func64, Tryd.ntmps64
  go_wp2
  go_ret
  exact ⟨by simp, rfl⟩

set_option maxRecDepth 100000 in
set_option maxHeartbeats 4000000 in
/-- The closure: yields the bytes of the capabilities with the code, in order. -/
theorem with1_in (w0 : World) (n : Nat) (hn : 1 ≤ n) (l Bs Bc : Nat) (k : Int) (A : Option Addr) (c : Nat) (xs : List CapI) (cs : List Value) (hx : CapL w0 xs cs) (ha : Arr w0 A cs) (hlen : xs.length ≤ 1000000) (J Jx : List (CapV w0) → World → Prop)
    (W : World) (hb0 : Below w0.heap.size w0 W) (hJ : AbidesFrom W.heap.size J)
    (hY : ∀ pre x W1, J pre W1 → pre.length < xs.length → YieldAt Fence.wide (n - 1) Tryd.prog l #[CapV.val x] W1 fun e W' =>
      (e = .returned (.bool true) ∧ J (pre ++ [x]) W' ∧ KpC w0.heap.size Bc W1 W') ∨ (e = .returned (.bool false) ∧ Jx (pre ++ [x]) W'))
    (hBs : W.cell? ⟨Bs, 0, none⟩ = some (.slice A xs.length c)) (hBc : W.cell? ⟨Bc, 0, none⟩ = some (.int .i64 k)) (h0 : J [] W) :
    CallsIn Fence.wide n Tryd.prog 71 #[.func (.yield l) #[] #[], .pointer (some ⟨Bs, 0, none⟩), .pointer (some ⟨Bc, 0, none⟩)] W fun e W' => (∃ v, e = .returned v) ∧
      ((∃ ys, ys.map CapV.x = withC k xs ∧ J ys W') ∨ (∃ pre, (pre.map CapV.x <+: withC k xs) ∧ Jx pre W')) := by
  have HC := Lib.hid (fun j (hj : j < xs.length) => cap_cells hx ha hj)
  clear hx ha
  obtain ⟨m, hm⟩ : ∃ m, xs.length = m := ⟨_, rfl⟩
  have HM := Lib.hid hm
  rw [hm] at HC hlen hY hBs
  clear hm
  refine callsIn_of_wp Tryd.func71 rfl trivial ?_ rfl
  simp only [Tryd.ntmps71, List.size_toArray, List.length_cons, List.length_nil, Nat.reduceAdd, Nat.reduceSub, Array.replicate_succ, Array.replicate_zero, List.push_toArray, List.append_toArray, List.nil_append, List.cons_append]
  gi_wp2
  gi_loopw [8] (fun i wr => ∃ (j : Nat) (pre : List (CapV w0)), j ≤ m ∧ i = .int .i64 j ∧ pre.map CapV.x = withC k (xs.take j) ∧ J pre wr ∧ KpC w0.heap.size Bc W wr) (fun i _ => m - (intOf i).toNat)
  case atStart => exact ⟨0, [], Nat.zero_le _, rfl, rfl, h0, KpC.refl _ _ _⟩
  case round =>
    obtain ⟨j, pre, hj, rfl, hp, hJs, hkp⟩ := hrel
    by_cases hlt : j < m
    · obtain ⟨x, ad, A2, c2, hx, rfl, q1, q2, hc, hcm, hA2, hb2, -, -, -⟩ := HC.out j hlt
      have hbw := hb0.trans hkp.1
      have k1 := Kp.of_below hbw
      replace q1 := k1.cell q1 (fun q => q)
      replace q2 := k1.cell q2 (fun q => q)
      have q3 := hkp.2 _ hBc
      have hW := withC_succ k xs j x hx
      have hle : pre.length < m := by
        have h1 := congrArg List.length hp
        rw [List.length_map] at h1
        have h2 := withC_le k (xs.take j)
        rw [List.length_take] at h2
        omega
      obtain ⟨v, hvx, hvv⟩ : ∃ v : CapV w0, v.x = x ∧ v.val = .slice A2 x.data.length c2 := ⟨⟨x, A2, c2, hA2, hc, hcm, hb2⟩, rfl, rfl⟩
      clear hA2 hb2 hc hcm
      obtain ⟨kx, hkx⟩ : ∃ kx, x.code = kx := ⟨_, rfl⟩
      obtain ⟨d, hd⟩ : ∃ d, x.data.length = d := ⟨_, rfl⟩
      rw [hd] at hvv q2
      rw [hkx] at hW q1
      have HVX := Lib.hid hvx
      have HP := Lib.hid hp
      clear hd hkx hvx hp
      have q3' : (wr.alloc (.cells #[.int .i64 kx, .slice A2 d c2] 58)).cell? ⟨Bc, 0, none⟩ = some (.int .i64 k) := ((Kp.refl NoB _).alloc _).cell q3 (fun q => q)
      have hJa := hJ pre wr _ none hJs (World.grownBy_alloc wr (.cells #[.int .i64 kx, .slice A2 d c2] 58) none) (fun r e => by cases e)
      have hka : KpC w0.heap.size Bc W (wr.alloc (.cells #[.int .i64 kx, .slice A2 d c2] 58)) := hkp.trans ⟨(Below.refl _ _).alloc hbw.size _, fun v hv => ((Kp.refl NoB _).alloc _).cell hv (fun q => q)⟩
      obtain ⟨y1, y2, y3, y4, y5⟩ := (Bk.fresh wr 58 #[.int .i64 kx, .slice A2 d c2]).two
      by_cases hk : kx = k
      · rw [if_pos hk] at hW
        have hY1 := hY pre v _ hJa hle
        rw [hvv] at hY1
        obtain ⟨fn, tmps, assign, body, hy, hR⟩ := hY1
        have HR := Lib.hid hR
        clear hR hvv
        have HW := Lib.hid hW
        have HKA := Lib.hid hka
        clear hW hx hJs hJa hka hkp hbw k1
        have hkk : (kx == k) = true := by rw [hk]; simp
        clear hk
        gi_wp2
        refine HR.out.mono ?_
        rintro e W3 (⟨rfl, hJ3, hk3⟩ | ⟨rfl, hJx3⟩)
        · gi_wp2
          go_roundw
          case rel => exact ⟨j + 1, _, by omega, by go_num, by rw [HW.out, List.map_append, HP.out, ← HVX.out]; rfl, hJ3, HKA.out.trans hk3⟩
          case measure => simp [intOf]; omega
        · gi_wp2
          refine bodyPost_ret (results_none rfl _ _ _) rfl ?_
          refine ⟨⟨_, rfl⟩, .inr ⟨_, ?_, hJx3⟩⟩
          rw [List.map_append, HP.out, List.map_cons, List.map_nil, HVX.out, ← HW.out]
          exact (List.take_prefix (j + 1) xs).filter _
      · rw [if_neg hk, List.append_nil] at hW
        have hkk : (kx == k) = false := by simp [hk]
        have HW := Lib.hid hW
        clear hW hx hk
        gi_wp2
        refine ⟨fun _ h => (by cases h), ?_⟩
        gi_wp2
        go_roundw
        case rel => exact ⟨j + 1, pre, by omega, by go_num, by rw [HW.out, HP.out], hJa, hka⟩
        case measure => simp [intOf]; omega
    · obtain rfl : j = m := by omega
      gi_wp2
      go_end0
      exact ⟨⟨_, rfl⟩, .inl ⟨pre, by rw [hp, List.take_of_length_le (by rw [HM.out]; omega)], hJs⟩⟩

end Go.Proofs.YtjcmgfegnngjjaaDoor
