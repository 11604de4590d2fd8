/- capability.System: its contract. -/
import Derived.Test.YtjcmgfegnngjjaaDoorSysA
namespace Go.Proofs.YtjcmgfegnngjjaaDoor
open Go.RowKit Go.Shelf
set_option linter.unusedVariables false
set_option linter.unusedSimpArgs false
attribute [local go_sem] Oper.semAt_some

/-- The bytes that name a system. -/
def sysC (xs : List CapI) : Option (List Int) := ((withC 65 xs).find? (fun x => x.data.length == 4)).map CapI.data
def sysV (xs : List CapI) : Int := match sysC xs with | some d => big d | none => 0
def sysB (xs : List CapI) : Bool := (sysC xs).isSome
theorem sys_none {xs ys : List CapI} (h : ys = withC 65 xs) (hn : ∀ y ∈ ys, y.data.length ≠ 4) : sysV xs = 0 ∧ sysB xs = false := by
  have : sysC xs = none := by
    unfold sysC
    rw [← h, List.find?_eq_none.2 (fun y hy => by simpa using hn y hy)]
    rfl
  unfold sysV sysB
  rw [this]
  exact ⟨rfl, rfl⟩
theorem sys_some {xs pre : List CapI} {y : CapI} (h : pre ++ [y] <+: withC 65 xs) (hn : ∀ z ∈ pre, z.data.length ≠ 4) (hy : y.data.length = 4) : sysV xs = big y.data ∧ sysB xs = true := by
  obtain ⟨t, ht⟩ := h
  have : sysC xs = some y.data := by
    unfold sysC
    rw [← ht, List.append_assoc, List.find?_append, List.find?_eq_none.2 (fun y hy => by simpa using hn y hy)]
    simp [hy]
  unfold sysV sysB
  rw [this]
  exact ⟨rfl, rfl⟩

theorem Kp.others {w w' : World} (h : Kp NoB w w') : KeepsOthers w w' :=
  ⟨h.size, fun k o hk _ => (h.block k (Array.getElem?_eq_some_iff.1 hk).1 (fun q => q)).trans hk⟩

/-- Bytes read as a number, whole. -/
theorem num4_yes (w : World) (q r : Nat) (ys : List Int) (t : Nat) (h : Rd w q r ys t) (hl : ys.length = 4) : Calls Tryd.prog 70 #[.pointer (some ⟨r, 0, none⟩), .int .i64 4] w fun e w' => e = .returned (.tuple #[.int .u32 (big ys), .bool true]) ∧ Kp (OnB r) w w' := by
  refine (number_yes w q r ys t 4 h (by decide) (by decide) (by omega)).mono fun e w' ⟨h1, _, h3⟩ => ⟨?_, h3⟩
  rw [h1, List.take_of_length_le (by omega)]

set_option maxRecDepth 100000 in
set_option maxHeartbeats 4000000 in
theorem system_any (A : Option Addr) (c : Nat) (xs : List CapI) (cs : List Value) (w : World) (hx : CapL w xs cs) (ha : Arr w A cs) (hlen : xs.length ≤ 1000000) :
    Calls Tryd.prog 61 #[.slice A xs.length c] w (Stay (.tuple #[.int .u32 (sysV xs), .bool (sysB xs)]) w) := by
  have HS := Lib.hid (fun n hn l Bs Bc J Jx W => with1_in w n hn l Bs Bc 65 A c xs cs hx ha hlen J Jx W)
  obtain ⟨m, hm⟩ : ∃ m, xs.length = m := ⟨_, rfl⟩
  rw [hm] at HS hlen ⊢
  clear hx ha hm
  refine (callsIn_wide (n := 4)).1 ?_
  refine callsIn_of_wp_marks Tryd.func61 rfl trivial ?_ rfl
  simp only [Tryd.ntmps61, List.size_toArray, List.length_cons, List.length_nil, Nat.reduceAdd, Nat.reduceSub, Array.replicate_succ, Array.replicate_zero, List.push_toArray, List.append_toArray, List.nil_append, List.cons_append]
  gi_wp2_with (refine ⟨trivial, ?_⟩; gi_at_call 64; refine (callsIn_wide.2 (with_any 65 A m c _)).mono ?_; rintro e w' ⟨rfl, rfl⟩)
  have c0 := (Bk.fresh w 22 #[.int .u32 0])
  have c1 := (Bk.second w (.cells #[.int .u32 0] 22) 4 #[.bool false])
  have c2 := (Bk.third w (.cells #[.int .u32 0] 22) (.cells #[.bool false] 4) 3 #[.int .i64 65])
  have c3 := (Bk.fresh (((w.alloc (.cells #[.int .u32 0] 22)).alloc (.cells #[.bool false] 4)).alloc (.cells #[.int .i64 65] 3)) 28 #[.slice A m c])
  have e3 : (((w.alloc (.cells #[.int .u32 0] 22)).alloc (.cells #[.bool false] 4)).alloc (.cells #[.int .i64 65] 3)).heap.size = w.heap.size + 1 + 1 + 1 := by simp
  rw [e3] at c3
  obtain ⟨W0, hW0⟩ : ∃ W0, (((w.alloc (.cells #[.int .u32 0] 22)).alloc (.cells #[.bool false] 4)).alloc (.cells #[.int .i64 65] 3)).alloc (.cells #[.slice A m c] 28) = W0 := ⟨_, rfl⟩
  have hB0 : Below w.heap.size w W0 := by
    rw [← hW0]
    exact ((((Below.refl _ w).alloc (Nat.le_refl _) _).alloc (by simp) _).alloc (by simp; omega) _).alloc (by simp; omega) _
  have hsz : W0.heap.size = w.heap.size + 1 + 1 + 1 + 1 := by rw [← hW0]; simp
  have d0 : Bk W0 w.heap.size 22 #[.int .u32 0] := by rw [← hW0]; exact ((c0.alloc _).alloc _).alloc _
  have d1 : Bk W0 (w.heap.size + 1) 4 #[.bool false] := by rw [← hW0]; exact (c1.alloc _).alloc _
  have d2 : Bk W0 (w.heap.size + 1 + 1) 3 #[.int .i64 65] := by rw [← hW0]; exact c2.alloc _
  have d3 : Bk W0 (w.heap.size + 1 + 1 + 1) 28 #[.slice A m c] := by rw [← hW0]; exact c3
  rw [hW0]
  clear c0 c1 c2 c3 e3 hW0
  refine wpIn_rangeFunc_ownF rfl (by decide) (gf := 71) (lb := #[.pointer (some ⟨w.heap.size + 1 + 1 + 1, 0, none⟩), .pointer (some ⟨w.heap.size + 1 + 1, 0, none⟩)]) rfl trivial (enters_of Tryd.func71 (by kernel_rfl) rfl)
    (encs := fun x : CapV w => #[x.val]) (Kp := KpC w.heap.size (w.heap.size + 1 + 1)) (S := fun ys => ys.map CapV.x = withC 65 xs) (Sp := fun pre => pre.map CapV.x <+: withC 65 xs) (N := m)
    (fun l J Jx W hW hJ hJx hY h0 => HS.out 3 (by decide) l (w.heap.size + 1 + 1 + 1) (w.heap.size + 1 + 1) J Jx W (hB0.trans (hW.mono (by omega))) hJ hY ((hW.cell (p := ⟨w.heap.size + 1 + 1 + 1, 0, none⟩) (show w.heap.size + 1 + 1 + 1 < W0.heap.size by omega)).trans (d3.cell 0)) ((hW.cell (p := ⟨w.heap.size + 1 + 1, 0, none⟩) (show w.heap.size + 1 + 1 < W0.heap.size by omega)).trans (d2.cell 0)) h0)
    KpC.trans (kpC_b (by omega)) (Below.refl _ _) (fun _ => rfl)
    (fun pre W => ((∀ y ∈ pre, y.x.data.length ≠ 4) ∧ W.cell? ⟨w.heap.size, 0, none⟩ = some (.int .u32 0) ∧ W.frozen? ⟨w.heap.size, 0, none⟩ = false ∧ W.cell? ⟨w.heap.size + 1, 0, none⟩ = some (.bool false) ∧ W.frozen? ⟨w.heap.size + 1, 0, none⟩ = false) ∧ Below w.heap.size w W)
    (fun c pre W => (c = .ret ∧ ∃ pre' y, pre = pre' ++ [y] ∧ (∀ z ∈ pre', z.x.data.length ≠ 4) ∧ y.x.data.length = 4 ∧ W.cell? ⟨w.heap.size, 0, none⟩ = some (.int .u32 (big y.x.data)) ∧ W.cell? ⟨w.heap.size + 1, 0, none⟩ = some (.bool true)) ∧ Below w.heap.size w W)
    (OwnFrom.and (Own.from (fun s A B row hs hg hr => ⟨hs.1, cell_kept hs.2.1 hg hr, (frozen_kept hs.2.1 hg hr).trans hs.2.2.1, cell_kept hs.2.2.2.1 hg hr, (frozen_kept hs.2.2.2.1 hg hr).trans hs.2.2.2.2⟩) _) (ownFrom_below (Nat.le_refl _) (by omega)))
    (fun c => OwnFrom.and (Own.from (fun s A B row hs hg hr => by
      obtain ⟨h1, pre', y, h2, h3, h4, h5, h6⟩ := hs
      exact ⟨h1, pre', y, h2, h3, h4, cell_kept h5 hg hr, cell_kept h6 hg hr⟩) _) (ownFrom_below (Nat.le_refl _) (by omega)))
    ⟨⟨by simp, d0.cell 0, d0.frozen 0, d1.cell 0, d1.frozen 0⟩, hB0⟩
    (fun x => { tmps := #[.slice A m c, undef, .pointer (some ⟨w.heap.size, 0, none⟩), .pointer (some ⟨w.heap.size + 1, 0, none⟩), x.val, .slice A m c, .func (.func 71) #[] #[.pointer (some ⟨w.heap.size + 1 + 1 + 1, 0, none⟩), .pointer (some ⟨w.heap.size + 1 + 1, 0, none⟩)], x.val, undef, undef, undef, undef, undef, undef, undef, undef], defers := [] }) ?assign ?body ?done ?stop
  case assign =>
    intro l x W K hK
    gi_wp2
    exact hK
  case body =>
    rintro l pre x W ⟨⟨hp, hc1, hf1, hc2, hf2⟩, hB⟩ hlt
    have hP := Lib.hid hp
    clear hp
    obtain ⟨d, hd⟩ : ∃ d, x.x.data.length = d := ⟨_, rfl⟩
    have hv : x.val = .slice x.A d x.c := by rw [← hd]; rfl
    obtain ⟨h1, h2, h3, h4⟩ := x.h
    have HN := Lib.hid (fun (hd4 : d = 4) => new_any x.A x.c x.x.data W (by omega) (h1.and (Kp.of_below hB)) h4)
    rw [hd] at HN
    have HX := Lib.hid hd
    rw [hv]
    obtain ⟨xA, hxA⟩ : ∃ a, x.A = a := ⟨_, rfl⟩
    obtain ⟨xc, hxc⟩ : ∃ a, x.c = a := ⟨_, rfl⟩
    rw [hxA, hxc] at HN ⊢
    clear h1 h2 h3 h4 hd hv hxA hxc
    by_cases h4 : d = 4
    · subst h4
      gi_wp2_with (first
        | (refine ⟨trivial, ?_⟩; gi_at_call 69; refine (CallsIn.inRound l (callsIn_wide.2 (HN.out rfl))).mono ?_; rintro e w1 ⟨q, r, rfl, hr, hq, -, hR, hK1⟩; replace hR := Lib.hid hR)
        | (refine ⟨trivial, ?_⟩; gi_at_call 70; refine (CallsIn.inRound l (callsIn_wide.2 (num4_yes _ q r _ _ hR.out HX.out))).mono ?_; rintro e w2 ⟨rfl, hK2⟩; have k2 := hK1.new hK2 hr; have b1 := World.block_lt_of_cell? _ _ hc1; have b2 := World.block_lt_of_cell? _ _ hc2; have z1 := k2.cell hc1 (fun q => q); have z2 := (k2.frozen b1 (fun q => q)).trans hf1; have z3 := k2.cell hc2 (fun q => q); have z4 := (k2.frozen b2 (fun q => q)).trans hf2; replace k2 := Lib.hid k2; clear hK1 hK2 hc1 hf1 hc2 hf2))
      refine ⟨(k2.out.others.trans (KeepsOthers.setCell _ _ _)).trans (KeepsOthers.setCell _ _ _), ⟨rfl, pre, x, rfl, hP.out, HX.out, ?_, ?_⟩, ((hB.trans (k2.out.below.mono hB.size)).setCell (p := ⟨w.heap.size, 0, none⟩) (Nat.le_refl _) _).setCell (p := ⟨w.heap.size + 1, 0, none⟩) (by simp) _⟩
      · exact ((Kp.refl (OnB (w.heap.size + 1)) _).setCell (p := ⟨w.heap.size + 1, 0, none⟩) (fun _ => rfl) _).cell (World.cell?_setCell_same' w2 ⟨w.heap.size, 0, none⟩ _ (by rw [z1]; rfl)) (fun hq => by have hq' : w.heap.size = w.heap.size + 1 := hq; omega)
      · exact World.cell?_setCell_same' _ _ _ (by rw [((Kp.refl (OnB w.heap.size) w2).setCell (p := ⟨w.heap.size, 0, none⟩) (fun _ => rfl) _).cell z3 (fun hq => by have hq' : w.heap.size + 1 = w.heap.size := hq; omega)]; rfl)
    · have hd4 : (d == 4) = false := by simp [h4]
      have hd5 : ((d : Int) == 4) = false := by simp; omega
      gi_wp2
      refine ⟨KeepsOthers.refl _, KpC.refl _ _ _, ⟨fun y hy => ?_, hc1, hf1, hc2, hf2⟩, hB⟩
      rcases List.mem_append.1 hy with h | h
      · exact hP.out y h
      · rw [List.mem_singleton.1 h, HX.out]
        exact h4
  case done =>
    rintro D ys W hD hS ⟨⟨hne, hc1, hf1, hc2, hf2⟩, hB⟩ hK
    obtain ⟨s1, s2⟩ := sys_none hS (fun y hy => by
      obtain ⟨z, hz, rfl⟩ := List.mem_map.1 hy
      exact hne z hz)
    have hK' := ((KeepsOthers.setCell W ⟨w.heap.size, 0, none⟩ (.int .u32 0)).trans (KeepsOthers.setCell _ ⟨w.heap.size + 1, 0, none⟩ (.bool false))).same D _ hK rfl
    have g1 : ((W.setCell ⟨w.heap.size, 0, none⟩ (.int .u32 0)).setCell ⟨w.heap.size + 1, 0, none⟩ (.bool false)).cell? ⟨w.heap.size, 0, none⟩ = some (.int .u32 0) :=
      ((Kp.refl (OnB (w.heap.size + 1)) _).setCell (p := ⟨w.heap.size + 1, 0, none⟩) (fun _ => rfl) _).cell (World.cell?_setCell_same' W ⟨w.heap.size, 0, none⟩ _ (by rw [hc1]; rfl)) (fun hq => by have hq' : w.heap.size = w.heap.size + 1 := hq; omega)
    have g2 : ((W.setCell ⟨w.heap.size, 0, none⟩ (.int .u32 0)).setCell ⟨w.heap.size + 1, 0, none⟩ (.bool false)).cell? ⟨w.heap.size + 1, 0, none⟩ = some (.bool false) :=
      World.cell?_setCell_same' _ _ _ (by rw [((Kp.refl (OnB w.heap.size) W).setCell (p := ⟨w.heap.size, 0, none⟩) (fun _ => rfl) _).cell hc2 (fun hq => by have hq' : w.heap.size + 1 = w.heap.size := hq; omega)]; rfl)
    gi_wp2
    refine ⟨by simp, .inl ⟨_, _, rfl, run_takeDeferred hK', ?_⟩⟩
    replace g1 := cell_kept g1 (grownBy_putObj' _ D (.deferred none)) (fun r e => by cases e; exact ⟨_, hK', rfl⟩)
    replace g2 := cell_kept g2 (grownBy_putObj' _ D (.deferred none)) (fun r e => by cases e; exact ⟨_, hK', rfl⟩)
    refine ⟨.tuple #[.int .u32 0, .bool false], ?_, by rw [s1, s2], Kp.of_below (((hB.setCell (p := ⟨w.heap.size, 0, none⟩) (Nat.le_refl _) _).setCell (p := ⟨w.heap.size + 1, 0, none⟩) (by simp) _).trans (belowK_b (w := w) (Nat.le_refl _) _ D _ _ (by omega) hK' rfl rfl))⟩
    simp [results, Tryd.f61, go_sem, g1, g2]
  case stop =>
    rintro D c pre W hD hpre ⟨⟨rfl, pre', y, rfl, hn, hy, hc1, hc2⟩, hB⟩ hK
    rw [List.map_append] at hpre
    obtain ⟨s1, s2⟩ := sys_some hpre (fun z hz => by
      obtain ⟨z', hz', rfl⟩ := List.mem_map.1 hz
      exact hn z' hz') hy
    gi_wp2
    refine ⟨by simp, .inl ⟨_, _, rfl, run_takeDeferred hK, ?_⟩⟩
    have g1 := cell_kept hc1 (grownBy_putObj' _ D (.deferred none)) (fun r e => by cases e; exact ⟨_, hK, rfl⟩)
    have g2 := cell_kept hc2 (grownBy_putObj' _ D (.deferred none)) (fun r e => by cases e; exact ⟨_, hK, rfl⟩)
    refine ⟨.tuple #[.int .u32 (big y.x.data), .bool true], ?_, by rw [s1, s2], Kp.of_below (hB.trans (belowK_b (w := w) (Nat.le_refl _) W D _ _ (by omega) hK rfl rfl))⟩
    simp [results, Tryd.f61, go_sem, g1, g2]

end Go.Proofs.YtjcmgfegnngjjaaDoor
