/- Package community: Unique. No condition but the bounds that arguments have. -/
import Derived.Test.YtkhonebedoemoaaDoorComQ
import Derived.Test.YtkhonebedoemoaaDoorHeldR
namespace Go.Proofs.YtkhonebedoemoaaDoor
open Go.RowKit Go.Shelf
set_option linter.unusedVariables false
set_option linter.unusedSimpArgs false
attribute [local go_sem] Oper.semAt_some

theorem infoU : (Tryd.prog.info? 22).map (fun i => (i.zero, i.size, i.bytes)) = some (some (.int .u32 0), 1, 4) := by kernel_rfl
theorem sizeAt : (Tryd.prog.info? 28).map (·.size) = some 9 := by kernel_rfl
/-- A whole row is stored into a block, in a fenced walk. -/
theorem wpListIn_store_row {F : Fence} {n : Nat} {P : Program} {w : World} {ops : Array Oper} {rest : List Oper} {o : Oper} {a : Act} {Q : Exit → Act → World → Prop} (hgd : o.guard = none) (ty : TypeId) (x y : Operand) (ho : o.op = .store ty x y)
    (b : Nat) (t : TypeId) (z cells : Array Value) (hb : Bk w b t z) (hx : a.eval x = .pointer (some ⟨b, 0, none⟩)) (hy : a.eval y = .agg cells) (hi : (P.info? ty).map (·.size) = some cells.size)
    (hold : z.size = cells.size) (h1 : cells.all (·.oneCell') = true)
    (h : Bk (w.setRow b cells) b t cells → Kp (OnB b) w (w.setRow b cells) → wpListIn F n P ops Q rest (a.put o.dst undef) (w.setRow b cells)) : wpListIn F n P ops Q (o :: rest) a w :=
  wpListIn_plain hgd fun K hK => by
    have hr : (Instr.storeAt ty (.pointer (some ⟨b, 0, none⟩)) (.agg cells)).run P w = .ok () (w.setRow b cells) := by
      have := run_storeVar_row (P := P) w b t ty z cells hb hi hold h1
      simp only [Instr.storeAt, Instr.sureAddr, Sem.run_bind, Sem.run_pure, Result.andThen_ok, this]
    unfold Oper.wpIn
    refine ⟨by simp [Oper.about, ho], ?_⟩
    rw [Oper.semAt_plain F _ _ (by rw [ho]; intro c hc'; cases hc')]
    simp [execOp, ho, hx, hy, hr, Result.andThen]
    exact hK _ _ (h (setRow_heap w b z cells t (0, 0) hb) ⟨rfl, rfl, rfl, by simp, fun k hk hn => setRow_other w b k cells hn⟩)

/-- The attribute that Unique returns. -/
def zU (k : Int) (p : Bool) (A : Option Addr) (n c : Nat) : AtI := ⟨k, p, 0, 0, none, 0, 0, A, n, c, none, 0, 0, 0, none, 0, 0⟩
def zZ : AtI := ⟨0, false, 0, 0, none, 0, 0, none, 0, 0, none, 0, 0, 0, none, 0, 0⟩

/-- A list in an attribute of the caller's own; its row was made from E on. -/
def OutU (n0 rB E : Nat) (k : Int) (p : Bool) (l : List Int) (W : World) : Prop :=
  ∃ A c, Bk W rB 28 (zU k p A l.length c).cs ∧ W.ownsRow n0 22 1 (.slice A l.length c) l.length (us l) ∧ ∀ b, (Value.slice A l.length c).ownBlock = some b → E ≤ b
theorem OutU.and {n0 rB E : Nat} {k : Int} {p : Bool} {l : List Int} {W W' : World} (h : OutU n0 rB E k p l W) (kk : Kp NoB W W') : OutU n0 rB E k p l W' := by
  obtain ⟨A, c, h1, h2, h3⟩ := h
  exact ⟨A, c, h1.and kk, kk.own h2 (fun _ _ q => q), h3⟩
theorem outU_own {β : Type} (B n0 rB E : Nat) (k : Int) (p : Bool) (f : β → List Int) : OwnFrom B (fun s W => OutU n0 rB E k p (f s) W) := fun s X Y row ⟨A, c, h1, h2, h3⟩ hg hr =>
  ⟨A, c, bk_kept h1 hg (fun r e => (hr r e).2), row_kept h2 hg (fun r e => (hr r e).2), h3⟩
theorem setG_own {β : Type} (B b : Nat) (hb : b < B) (m : β → Nat) (f : β → List (List Int)) : OwnFrom B (fun s W => SetG W b (m s) (f s)) := fun s X Y row h hg hr =>
  h.grown hg (fun e => by have := (hr b e.symm).1; omega)
theorem arr_gcs {W : World} {b : Nat} {t : TypeId} {l : List Int} (h : Bk W b t (gcs l)) (hl : l.length ≤ 3) : Arr W (some ⟨b, 0, none⟩) (us l) := fun _ => by
  refine ⟨_, rfl, fun j u hu => ?_⟩
  rw [add_none, Nat.zero_add, h.cell j]
  have hj := (List.getElem?_eq_some_iff.1 hu).1
  simp only [us, List.length_map] at hj
  have hj3 : j = 0 ∨ j = 1 ∨ j = 2 := by omega
  unfold gcs
  rw [List.take_of_length_le hl]
  rw [us, List.getElem?_map, List.getElem?_eq_getElem hj] at hu
  rcases hj3 with rfl | rfl | rfl
  · rw [← hu]; simp [List.getD, List.getElem?_eq_getElem hj]
  · rw [← hu]; simp [List.getD, List.getElem?_eq_getElem hj]
  · rw [← hu]; simp [List.getD, List.getElem?_eq_getElem hj]

set_option maxRecDepth 100000 in
set_option maxHeartbeats 8000000 in
theorem cuniq_bad (z : AtI) (ok : z.Ok) (w : World) (hv : validC z = false) : Calls Tryd.prog 12 #[z.val] w (Stay zZ.val w) := by
  have HV := Lib.hid (fun W => valid_any z ok W)
  rw [hv] at HV
  have HB1 := Lib.hid ((Bk.fresh w 28 z.cs).alloc (.cells zZ.cs 28))
  have HB2 := Lib.hid (Bk.second w (.cells z.cs 28) 28 zZ.cs)
  have HK0 := Lib.hid (((Kp.refl NoB w).alloc (.cells z.cs 28)).alloc (.cells zZ.cs 28))
  clear hv
  obtain ⟨x0, x1, x2, x3, x4, x5, x6, x7, x8⟩ := HB1.out.attr
  unfold zZ AtI.val AtI.cs at *
  refine (callsIn_wide (n := 4)).1 ?_
  refine callsIn_of_wp_marks Tryd.func12 rfl trivial ?_ rfl
  simp only [Tryd.ntmps12, List.size_toArray, List.length_cons, List.length_nil, Nat.reduceAdd, Nat.reduceSub, Array.replicate_succ, Array.replicate_zero, List.push_toArray, List.append_toArray, List.nil_append, List.cons_append]
  gi_wp2_with (first
    | (refine ⟨trivial, ?_⟩; gi_at_call 19; refine (callsIn_wide.2 (HV.out _)).mono ?_; rintro e w1 ⟨rfl, hK⟩; have hk1 := Lib.hid (HK0.out.and hK); have hb1 := Lib.hid (HB2.out.and hK); clear hK)
    | (refine wpListIn_store_row rfl 28 (.tmp 2) (.tmp 9) rfl (w.heap.size + 1) _ _ _ hb1.out rfl rfl sizeAt rfl (by simp [Value.oneCell']) ?_; intro hb2 hk2))
  exact ⟨_, results_cell_row (fn := Tryd.f12) rfl _ _ (w.heap.size + 1) 28 _ (0, 0) _ rfl hb2 Tryd.underlying28 rfl (by kernel_rfl), rfl, hk1.out.new hk2 (by omega)⟩

/-- What comes of Unique. -/
def UniqR (w : World) (k : Int) (p : Bool) (l : List Int) (e : Ending) (w' : World) : Prop :=
  ∃ A c, e = .returned (zU k p A l.length c).val ∧ w'.ownsRow w.heap.size 22 1 (.slice A l.length c) l.length (us l) ∧ Kp NoB w w'

set_option maxRecDepth 100000 in
set_option maxHeartbeats 16000000 in
theorem cuniq_good (z : AtI) (ok : z.Ok) (xs : List Int) (w : World) (hx : InUs w z.L z.ln z.lc xs) (hl : z.ln ≤ 1000) (hv : validC z = true) :
    Calls Tryd.prog 12 #[z.val] w (UniqR w z.t z.p (uqL (grp z.t) xs (numG z)).flatten) := by
  obtain ⟨i0, hi, hz0, hz1, hz2⟩ := info_parts infoU
  have HV := Lib.hid (fun W => valid_any z ok W)
  rw [hv] at HV
  have hv' := hv
  unfold validC at hv'
  simp only [Bool.and_eq_true, decide_eq_true_eq] at hv'
  obtain ⟨⟨⟨hg0, hn0⟩, hmod⟩, -⟩ := hv'
  have HGS := Lib.hid (fun W => groups_any z W)
  have HR := Lib.hid (fun (w1 : World) (k : Kp NoB w w1) Ba hBa S q1 q2 q3 => groups1_rounds z ok xs w1 (hx.and k) (by omega) Ba hBa S q1 q2 q3)
  have HD := Lib.hid (fun ad (e : z.L = some ad) => hx.2.2.2.1.lt (by intro h; have := congrArg List.length h; simp [us, hx.1] at this; omega) ad e)
  have HGB := Lib.hid (fun j (hj : j < numG z) => (show GrB (chunkN (grp z.t) xs j) ∧ (chunkN (grp z.t) xs j).length = grp z.t from ⟨⟨fun x hx' => hx.2.2.2.2 x (List.mem_of_mem_drop (List.mem_of_mem_take hx')), by rw [chunk_len (by rw [hx.1]; exact (numG_pos hj).2.2.2)]; unfold grp; (repeat' split) <;> omega⟩, chunk_len (by rw [hx.1]; exact (numG_pos hj).2.2.2)⟩))
  have HFL := Lib.hid (fun j (hj : j < numG z) => (show (uqL (grp z.t) xs j).flatten.length ≤ 1000 by
    have h1 := (numG_pos hj).2.2.2
    have h2 : j * grp z.t ≤ xs.length := by rw [hx.1]; rw [Nat.succ_mul] at h1; omega
    rw [flat_len (uqL_len h2)]
    have h3 := Nat.mul_le_mul_right (grp z.t) (uqL_le (grp z.t) xs j)
    rw [hx.1] at h2
    omega))
  have HNL : Hid (numG z ≤ 1000) := Lib.hid (Nat.le_trans (numG_le z) hl)
  obtain ⟨N, hN⟩ : ∃ N, numG z = N := ⟨_, rfl⟩
  rw [hN] at HR HGB HFL HNL ⊢
  clear hN hv hmod hx
  have HB1 := Lib.hid ((Bk.fresh w 28 z.cs).alloc (.cells zZ.cs 28))
  have HB2 := Lib.hid (Bk.second w (.cells z.cs 28) 28 zZ.cs)
  have HK0 := Lib.hid (((Kp.refl NoB w).alloc (.cells z.cs 28)).alloc (.cells zZ.cs 28))
  obtain ⟨x0, x1, x2, x3, x4, x5, x6, x7, x8⟩ := HB1.out.attr
  have hmm := @run_makeMap Tryd.prog
  have hO1 := Lib.hid (fun (v1 : World) (k1 : Hid (Kp NoB w v1)) => k1.out.size)
  unfold AtI.val at HV HGS ⊢
  unfold AtI.cs at HV HGS x0 x1 x2 x3 x4 x5 x6 x7 x8 ⊢
  unfold zZ at x0 x1 x2 x3 x4 x5 x6 x7 x8
  simp only at x0 x1 x2 x3 x4 x5 x6 x7 x8
  refine (callsIn_wide (n := 4)).1 ?_
  refine callsIn_of_wp_marks Tryd.func12 rfl trivial ?_ rfl
  simp only [Tryd.ntmps12, List.size_toArray, List.length_cons, List.length_nil, Nat.reduceAdd, Nat.reduceSub, Array.replicate_succ, Array.replicate_zero, List.push_toArray, List.append_toArray, List.nil_append, List.cons_append]
  gi_wp2_with (first
    | (refine ⟨trivial, ?_⟩; gi_at_call 19; refine (callsIn_wide.2 (HV.out _)).mono ?_; rintro e w1 ⟨rfl, hK⟩; have hk1 := Lib.hid (HK0.out.and hK); have bz1 := Lib.hid (HB1.out.and hK); have br1 := Lib.hid (HB2.out.and hK); have bo1 := Lib.hid (Bk.fresh w1 28 (zU z.t z.p none 0 0).cs); clear x0 x1 x2 x3 x4 x5 x6 x7 x8; obtain ⟨x0, x1, x2, x3, x4, x5, x6, x7, x8⟩ := bz1.out.attr; obtain ⟨y0, y1, y2, y3, y4, y5, y6, y7, y8⟩ := (((bz1.out.alloc (.cells (zU z.t z.p none 0 0).cs 28)).alloc (.map #[] 0)).alloc (.cells #[.map (some (w1.heap.size + 1))] 55)).attr; unfold zU AtI.cs at y0 y1 y2 y3 y4 y5 y6 y7 y8; simp only at y0 y1 y2 y3 y4 y5 y6 y7 y8; clear hK)
    | (refine ⟨trivial, ?_⟩; gi_at_call 31; refine (callsIn_wide.2 (HGS.out _)).mono ?_; rintro e w3 ⟨rfl, hBg, hK⟩; have hk3 := Lib.hid ((((hk1.out.alloc _).alloc _).alloc _).and hK); have hs3 := hK.size; have br3 := Lib.hid ((((br1.out.alloc _).alloc _).alloc _).and hK); have bo3 := Lib.hid (((bo1.out.alloc (.map #[] 0)).alloc (.cells #[.map (some (w1.heap.size + 1))] 55)).and hK); have hm0 := SetG.made (w1.alloc (.cells (zU z.t z.p none 0 0).cs 28)); rw [World.size_alloc] at hm0; have hm3 := Lib.hid ((hm0.and ((Kp.refl NoB _).alloc (.cells #[.map (some (w1.heap.size + 1))] 55))).and hK); clear hm0; have bm0 := (Bk.third w1 (.cells (zU z.t z.p none 0 0).cs 28) (.map #[] 0) 55 #[.map (some (w1.heap.size + 1))]).and hK; have bm3 := Lib.hid bm0; clear bm0; simp only [World.size_alloc] at hs3 hBg; replace hBg := Lib.hid hBg; have hs1 := hk1.out.size; have hlt1 := br1.out.lt; clear hK x0 x1 x2 x3 x4 x5 x6 x7 x8 y0 y1 y2 y3 y4 y5 y6 y7 y8))
  refine wp_rounds (gf := 46) (lb := #[.pointer (some ⟨w1.heap.size + 1 + 1 + 1, 0, none⟩)]) (S0 := fun b => b = w1.heap.size ∨ b = w1.heap.size + 1) rfl (enters_of Tryd.func46 (by kernel_rfl) rfl)
    (HR.out w3 hk3.out (w1.heap.size + 1 + 1 + 1) hBg.out _ (fun b q => by rcases q with q | q <;> omega) (fun q => by rcases q with q | q <;> omega) (fun ad e _ q => by have := HD.out ad e; rcases q with q | q <;> omega)) (fun _ => rfl) (fun b q => by rcases q with q | q <;> omega)
    (fun E j W => OutU w.heap.size w1.heap.size E z.t z.p (uqL (grp z.t) xs j).flatten W ∧ (SetG W (w1.heap.size + 1) j (uqL (grp z.t) xs j) ∧ (Bk W (w1.heap.size + 1 + 1) 55 #[.map (some (w1.heap.size + 1))] ∧ (Bk W (w.heap.size + 1) 28 zZ.cs ∧ Kp NoB w W))))
    (fun c j W => False)
    (fun E => OwnFrom.and (outU_own _ _ _ _ _ _ _) (OwnFrom.and (setG_own _ _ (by omega) _ _) (OwnFrom.and (bk_own _ _ _ _) (OwnFrom.and (bk_own _ _ _ _) (kp_own (by omega))))))
    (fun c s X Y row h _ _ => h)
    (fun E => ⟨⟨none, 0, bo3.out, World.ownsRow_nil _ _ _ _, fun b e => by simp [Value.ownBlock] at e⟩, hm3.out, bm3.out, br3.out, hk3.out⟩)
    (fun E j a' W => ∃ Bx, w3.heap.size < Bx ∧ Bk W Bx 50 (gcs (chunkN (grp z.t) xs j)) ∧ ∃ u0 u6 u7 u8 u9 u10 u11 u12 u13 u14 u15 u16 u17 u18, a' = { tmps := #[u0, .pointer (some ⟨w.heap.size, 0, none⟩), .pointer (some ⟨w.heap.size + 1, 0, none⟩), .pointer (some ⟨w1.heap.size, 0, none⟩), .pointer (some ⟨w1.heap.size + 1 + 1, 0, none⟩), .pointer (some ⟨Bx, 0, none⟩), u6, u7, u8, u9, u10, u11, u12, u13, u14, u15, u16, u17, u18, undef, undef, undef, undef, undef, undef, undef, undef, undef, undef, undef, undef, undef, undef, undef], defers := [] })
    (fun E j a' s X Y row h hg hr => by
      obtain ⟨Bx, h1, h2, h3⟩ := h
      exact ⟨Bx, h1, bk_kept h2 hg (fun r e => (hr r e).2), h3⟩) ?assign ?body ?done ?stop
  case assign =>
    intro E l2 j W2 K hE hEW hj hI hK
    have HK := Lib.hid hK
    have HI := Lib.hid hI
    rw [grpV_eq]
    obtain ⟨g0, g1, g2, gk, hg, -⟩ := gcs_ex (chunkN (grp z.t) xs j)
    rw [hg] at HK ⊢
    clear hK hI hg
    gi_wp2
    have ha : Kp NoB W2 (W2.alloc (.cells #[.int .u32 g0, .int .u32 g1, .int .u32 g2, .int .i64 gk] 50)) := (Kp.refl NoB W2).alloc _
    obtain ⟨i1, i2, i3, i4, i5⟩ := HI.out
    exact HK.out _ _ (ha.wide _) ⟨i1.and ha, i2.and ha, i3.and ha, i4.and ha, i5.and ha⟩ ⟨W2.heap.size, by omega, Bk.fresh _ _ _, _, _, _, _, _, _, _, _, _, _, _, _, _, _, rfl⟩
  case body =>
    rintro E l2 j a' W2 hE hEW hj ⟨⟨A, c, i1, i2, i3⟩, i4, i6, i7, i5⟩ ⟨Bx, hBx, hbx, u0, u6, u7, u8, u9, u10, u11, u12, u13, u14, u15, u16, u17, u18, rfl⟩
    obtain ⟨hgb, hcl⟩ := HGB.out j hj
    have HUS := Lib.hid (uqL_succ (grp z.t) xs j)
    have hfl := HFL.out j hj
    have hnl := HNL.out
    obtain ⟨ck, hck⟩ : ∃ ck, chunkN (grp z.t) xs j = ck := ⟨_, rfl⟩
    rw [hck] at hgb hcl HUS hbx
    obtain ⟨ul, hul⟩ : ∃ ul, uqL (grp z.t) xs j = ul := ⟨_, rfl⟩
    rw [hul] at i1 i2 i3 i4 HUS hfl
    obtain ⟨fl, hflt⟩ : ∃ fl, ul.flatten = fl := ⟨_, rfl⟩
    rw [hflt] at i1 i2 i3 hfl
    obtain ⟨m, hm⟩ : ∃ m, fl.length = m := ⟨_, rfl⟩
    rw [hm] at i1 i2 i3 hfl
    have HAR0 := arr_gcs hbx hgb.2
    obtain ⟨g0, g1, g2, gk, hg, -, -, -, ek⟩ := gcs_ex ck
    have HGC := Lib.hid hg
    have hgk : gk = ck.length := by rw [ek]; have := hgb.2; omega
    rw [hg] at hbx
    have hgk3 : gk ≤ 3 := by rw [hgk]; exact hgb.2
    have HUL : Hid ((us ck).length = gk * 1) := Lib.hid (by rw [hgk]; simp [us])
    have HGBJ := Lib.hid hgb
    have HGK := Lib.hid hgk
    have HMF := Lib.hid hm
    have HFT := Lib.hid hflt
    have x0 := hbx.cell 0
    have x1 := hbx.cell 1
    have x2 := hbx.cell 2
    have x3 := hbx.cell 3
    simp only [List.getElem?_toArray, List.getElem?_cons_zero, List.getElem?_cons_succ] at x0 x1 x2 x3
    obtain ⟨m0, m1, m2⟩ := i6.one
    have l0 := i1.cell 5
    simp only [zU, AtI.cs, List.getElem?_toArray, List.getElem?_cons_zero, List.getElem?_cons_succ] at l0
    have HAR : Hid (Arr W2.drew (some ⟨Bx, 0, none⟩) (us ck)) := Lib.hid HAR0
    have I1 := Lib.hid i1
    have I2 := Lib.hid i2
    have I3 := Lib.hid i3
    have I4 := Lib.hid i4
    have I5 := Lib.hid i5
    have I6 := Lib.hid i6
    have I7 := Lib.hid i7
    have HBX := Lib.hid hbx
    have hsl := hsl3 Bx gk hgk3
    clear i1 i2 i3 i4 i5 i6 i7 hbx hg ek HAR0 hcl hgk hck hul HV HGS HR HD HGB HFL HB1 HB2 HK0 hgb hmm hm hflt
    by_cases hin : ck ∈ ul
    · have HIN := Lib.hid (decide_eq_true hin)
      have HM := Lib.hid hin
      clear hin
      gi_wp2_with (first
        | (refine wpListIn_look rfl (.tmp 19) (.tmp 20) rfl I4.out ck HGBJ.out rfl _ HGC.out rfl true HIN.out ?_)
        | (refine wpListIn_upd rfl (.tmp 31) (.tmp 32) _ rfl I4.out (by omega) ck HGBJ.out rfl _ HGC.out rfl rfl ?_; intro w5 hset5 hg5; have HS5 := Lib.hid hset5; have HG5 := Lib.hid hg5; clear hset5 hg5))
      have hUU : uqL (grp z.t) xs (j + 1) = ul := by rw [HUS.out]; unfold uStep; rw [if_pos HM.out]
      have hk5 := Kp.of_grown HG5.out
      refine ⟨(Kp.refl _ W2).grown HG5.out (fun b e => .inr (.inl (.inr (by injection e with e; exact e.symm)))), ⟨A, c, ?_, ?_, ?_⟩, HS5.out.eqv (fun x => ?_), I6.out.keep hk5 (fun e => by injection e with e; omega), I7.out.keep hk5 (fun e => by injection e with e; omega), I5.out.grown HG5.out (fun b e => .inl (by injection e with e; omega))⟩
      · rw [hUU, HFT.out, HMF.out]
        exact I1.out.keep hk5 (fun e => by injection e with e; omega)
      · rw [hUU, HFT.out, HMF.out]
        exact hk5.own I2.out (fun b e q => I4.out.off I2.out (by rw [e]; exact q))
      · rw [hUU, HFT.out, HMF.out]
        exact I3.out
      · rw [hUU]
        constructor
        · intro h
          rcases List.mem_append.1 h with h | h
          · exact h
          · rw [List.mem_singleton.1 h]
            exact HM.out
        · exact fun h => List.mem_append.2 (.inl h)
    · have HIN := Lib.hid (decide_eq_false hin)
      have HM := Lib.hid hin
      clear hin
      have hUU : uqL (grp z.t) xs (j + 1) = ul ++ [ck] := by rw [HUS.out]; unfold uStep; rw [if_neg HM.out]
      have hFF : (uqL (grp z.t) xs (j + 1)).flatten = fl ++ ck := by rw [hUU, List.flatten_append, HFT.out]; simp
      have HLF : Hid ((uqL (grp z.t) xs (j + 1)).flatten.length = m + gk) := Lib.hid (by rw [hFF, List.length_append, HMF.out, HGK.out])
      have HUF : Hid (us (uqL (grp z.t) xs (j + 1)).flatten = us fl ++ us ck) := Lib.hid (by rw [hFF]; simp [us])
      have HUU := Lib.hid hUU
      clear hUU hFF
      gi_wp2_with (refine wpListIn_look rfl (.tmp 19) (.tmp 20) rfl I4.out ck HGBJ.out rfl _ HGC.out rfl false HIN.out ?_)
      obtain ⟨R, hR0⟩ : ∃ R : Act → World → Prop, R = (fun a' W' => Kp (OutE (fun b => b = w1.heap.size ∨ b = w1.heap.size + 1) E) W2 W' ∧ OutU w.heap.size w1.heap.size E z.t z.p (uqL (grp z.t) xs (j + 1)).flatten W' ∧ SetG W' (w1.heap.size + 1) j ul ∧ Bk W' (w1.heap.size + 1 + 1) 55 #[.map (some (w1.heap.size + 1))] ∧ Bk W' (w.heap.size + 1) 28 zZ.cs ∧ Kp NoB w W' ∧ Bk W' Bx 50 #[.int .u32 g0, .int .u32 g1, .int .u32 g2, .int .i64 gk] ∧ ∃ u19 u20 u21 u22 u23 u24 u25 u26 u27 u28 u29 u30, a' = { tmps := #[u0, .pointer (some ⟨w.heap.size, 0, none⟩), .pointer (some ⟨w.heap.size + 1, 0, none⟩), .pointer (some ⟨w1.heap.size, 0, none⟩), .pointer (some ⟨w1.heap.size + 1 + 1, 0, none⟩), .pointer (some ⟨Bx, 0, none⟩), u6, u7, u8, u9, u10, u11, u12, u13, u14, u15, u16, u17, u18, u19, u20, u21, u22, u23, u24, u25, u26, u27, u28, u29, u30, undef, undef, undef], defers := [] }) := ⟨_, rfl⟩
      have HR0 := Lib.hid hR0
      clear hR0
      refine wp_neat R ?_ ?_
      · -- REGION
        refine held_round (S := fun W => W.cell? ⟨Bx, 3, none⟩ = some (.int .i64 gk)) (by kernel_rfl) (by kernel_rfl) (show W2.drew.cell? ⟨Bx, 3, none⟩ = some (.int .i64 gk) from x3) (fun hHeld => ?_)
        refine wpAnyH_take (i := 0) (oi := ⟨some 23, _, _, _, _, _⟩) (v := ?_) rfl (by kernel_rfl) (by kernel_rfl) (by kernel_rfl) (fun _ _ _ h => h) (Or.inl ⟨by rfl, fun w hSw => ?_⟩) (by assumption) ?_
        rotate_left
        · (try dsimp only at hSw)
          go_simp
          try with_reducible rfl
        try simp only [Act.put, List.setIfInBounds_toArray, List.set_cons_zero, List.set_cons_succ]
        refine wpAnyH_take (i := 2) (oi := ⟨some 25, _, _, _, _, _⟩) (v := ?_) rfl (by kernel_rfl) (by kernel_rfl) (by kernel_rfl) (fun _ _ _ h => h) (Or.inl ⟨by rfl, fun w hSw => ?_⟩) (by assumption) ?_
        rotate_left
        · (try dsimp only at hSw)
          go_simp
          try with_reducible rfl
        try simp only [Act.put, List.setIfInBounds_toArray, List.set_cons_zero, List.set_cons_succ]
        refine wpAnyH_take (i := 3) (oi := ⟨some 26, _, _, _, _, _⟩) (v := ?_) rfl (by kernel_rfl) (by kernel_rfl) (by kernel_rfl) (fun _ _ _ h => h) (Or.inl ⟨by rfl, fun w hSw => ?_⟩) (by assumption) ?_
        rotate_left
        · (try dsimp only at hSw)
          go_simp
          try with_reducible rfl
        try simp only [Act.put, List.setIfInBounds_toArray, List.set_cons_zero, List.set_cons_succ]
        refine wpAnyH_take (i := 4) (oi := ⟨some 27, _, _, _, _, _⟩) (v := ?_) rfl (by kernel_rfl) (by kernel_rfl) (by kernel_rfl) (fun _ _ _ h => h) (Or.inl ⟨by rfl, fun w hSw => ?_⟩) (by assumption) ?_
        rotate_left
        · (try dsimp only at hSw)
          go_simp
          try with_reducible rfl
        try simp only [Act.put, List.setIfInBounds_toArray, List.set_cons_zero, List.set_cons_succ]
        refine wpAnyH_take (i := 5) (oi := ⟨some 28, _, _, _, _, _⟩) (v := ?_) rfl (by kernel_rfl) (by kernel_rfl) (by kernel_rfl) (fun _ _ _ h => h) (Or.inl ⟨by rfl, fun w hSw => ?_⟩) (by assumption) ?_
        rotate_left
        · (try dsimp only at hSw)
          go_simp
          try with_reducible rfl
        try simp only [Act.put, List.setIfInBounds_toArray, List.set_cons_zero, List.set_cons_succ]
        refine wpAnyH_ready (rs := [1]) (by kernel_rfl) (by simp) ?_
        refine AllReadyH.cons (o := ⟨some 24, _, _, _, _, _⟩) rfl (fun K hK => ?_) AllReadyH.nil
        go_simp
        refine hK.out _ _ (show W2.drew.cell? ⟨Bx, 3, none⟩ = some (.int .i64 gk) from x3) (fun hHeld => ?_)
        clear hK K
        try simp only [Act.put, List.setIfInBounds_toArray, List.set_cons_zero, List.set_cons_succ]
        refine wpAnyH_ready (rs := [6]) (by kernel_rfl) (by simp) ?_
        refine AllReadyH.cons (o := ⟨some 29, _, _, _, _, _⟩) rfl (fun K hK => ?_) AllReadyH.nil
        rw [if_pos (by rfl)]
        refine wp_app (w := W2.drew) (w0 := w) (S := NoB) I5.out.drew (.tmp 24) (.tmp 28) 24 rfl 22 i0 (.int .u32 0) 1 4 Tryd.underlying24 hi hz0 hz1 hz2 rfl (by decide) (.slice A m c) m (us fl) rfl I2.out (some ⟨Bx, 0, none⟩) gk 3 (us ck) rfl HUL.out HAR.out (us_one _) (by omega) (by decide) (m + gk) rfl ?_
        intro A6 c6 w6 hown6 hk6 hg6 hor6
        have hb6 := Lib.hid (HBX.out.keep (Kp.of_grown (w := W2) (w' := w6) ⟨hg6.os, hg6.tape, hg6.output, hg6.size, hg6.block⟩) (fun q => own_off I2.out HBX.out (by decide) q.symm))
        have hr6 := Lib.hid (I1.out.keep (Kp.of_grown (w := W2) (w' := w6) ⟨hg6.os, hg6.tape, hg6.output, hg6.size, hg6.block⟩) (fun q => own_off I2.out I1.out (by decide) q.symm))
        have hm6 := Lib.hid (I6.out.keep (Kp.of_grown (w := W2) (w' := w6) ⟨hg6.os, hg6.tape, hg6.output, hg6.size, hg6.block⟩) (fun q => own_off I2.out I6.out (by decide) q.symm))
        have hq6 := Lib.hid (I7.out.keep (Kp.of_grown (w := W2) (w' := w6) ⟨hg6.os, hg6.tape, hg6.output, hg6.size, hg6.block⟩) (fun q => own_off I2.out I7.out (by decide) q.symm))
        have hs6 := Lib.hid (I4.out.keep (Kp.of_grown (w := W2) (w' := w6) ⟨hg6.os, hg6.tape, hg6.output, hg6.size, hg6.block⟩) (fun q => I4.out.off I2.out q.symm))
        have HK6 := Lib.hid hk6
        have HO6 := Lib.hid hown6
        have HE6 : Hid (∀ b, (Value.slice A6 (m + gk) c6).ownBlock = some b → E ≤ b) := Lib.hid (fun b hb => by
          rcases hor6 with q | q
          · exact I3.out b (by rw [← q]; exact hb)
          · rw [q] at hb
            injection hb with hb
            subst hb
            exact hEW)
        have HP6 : Hid (Kp (fun b => E ≤ b) W2 w6) := Lib.hid (((Kp.refl NoB W2).drew.wide _).grown hg6 (fun b e => .inr (I3.out b e.symm.symm)))
        clear hg6 hor6 hk6 hown6
        refine hK.out _ _ (show w6.cell? ⟨Bx, 3, none⟩ = some (.int .i64 gk) by have := hb6.out.cell 3; simpa using this) (fun hHeld => ?_)
        clear hK K
        try simp only [Act.put, List.setIfInBounds_toArray, List.set_cons_zero, List.set_cons_succ]
        refine wpAnyH_take (i := 7) (oi := ⟨some 30, _, _, _, _, _⟩) (v := ?_) rfl (by kernel_rfl) (by kernel_rfl) (by kernel_rfl) (fun _ _ _ h => h) (Or.inl ⟨by rfl, fun w hSw => ?_⟩) (by assumption) ?_
        rotate_left
        · (try dsimp only at hSw)
          go_simp
          try with_reducible rfl
        try simp only [Act.put, List.setIfInBounds_toArray, List.set_cons_zero, List.set_cons_succ]
        refine wpAnyH_ready (rs := [8]) (by kernel_rfl) (by simp) ?_
        refine AllReadyH.cons (o := ⟨none, _, _, _, _, _⟩) rfl (fun K hK => ?_) AllReadyH.nil
        have r0 := hr6.out.cell 5
        simp only [zU, AtI.cs, List.getElem?_toArray, List.getElem?_cons_zero, List.getElem?_cons_succ] at r0
        have r1 := hr6.out.frozen 5
        go_simp
        have hne : Bx ≠ w1.heap.size := by omega
        refine hK.out _ _ (by have := (hb6.out.far (p := ⟨w1.heap.size, 5, none⟩) hne (.slice A6 (m + gk) c6)).cell 3; simpa using this) (fun hHeld => ?_)
        clear hK K
        try simp only [Act.put, List.setIfInBounds_toArray, List.set_cons_zero, List.set_cons_succ]
        refine wpAnyH_done (by kernel_rfl) ?_ _
        show R _ _
        rw [HR0.out]
        refine ⟨?_, ⟨A6, c6, ?_, ?_, ?_⟩, hs6.out.keep ((Kp.refl (OnB w1.heap.size) w6).setCell (p := ⟨w1.heap.size, 5, none⟩) (fun _ => rfl) _) (by unfold OnB; omega), hm6.out.far (p := ⟨w1.heap.size, 5, none⟩) (by simp; omega) _, hq6.out.far (p := ⟨w1.heap.size, 5, none⟩) (by simp; omega) _, HK6.out.setCell (p := ⟨w1.heap.size, 5, none⟩) (fun h => by simp at h; omega) _, hb6.out.far (p := ⟨w1.heap.size, 5, none⟩) hne _, _, _, _, _, _, _, _, _, _, _, _, _, rfl⟩
        · exact (HP6.out.mono (fun b _ h => .inr h)).setCell (p := ⟨w1.heap.size, 5, none⟩) (fun _ => .inl (.inl rfl)) _
        · rw [HLF.out]
          exact hr6.out.set 5 _
        · rw [HLF.out, HUF.out]
          exact ((Kp.refl (OnB w1.heap.size) w6).setCell (p := ⟨w1.heap.size, 5, none⟩) (fun _ => rfl) _).own HO6.out (fun b e q => own_off HO6.out hr6.out (by decide) (by unfold OnB at q; rw [← q]; exact e))
        · rw [HLF.out]
          exact HE6.out
      · rintro a' W3 hR
        rw [HR0.out] at hR
        obtain ⟨r1, r2, r3, r4, r5, r6, r7, u19, u20, u21, u22, u23, u24, u25, u26, u27, u28, u29, u30, rfl⟩ := hR
        obtain ⟨m0, m1, m2⟩ := r4.one
        have x0 := r7.cell 0
        have x1 := r7.cell 1
        have x2 := r7.cell 2
        have x3 := r7.cell 3
        simp only [List.getElem?_toArray, List.getElem?_cons_zero, List.getElem?_cons_succ] at x0 x1 x2 x3
        obtain ⟨A3, c3, s1, s2, s3⟩ := r2
        have S1 := Lib.hid s1
        have S2 := Lib.hid s2
        have S3 := Lib.hid s3
        have R1 := Lib.hid r1
        have R3 := Lib.hid r3
        have R4 := Lib.hid r4
        have R5 := Lib.hid r5
        have R6 := Lib.hid r6
        clear r1 r3 r4 r5 r6 r7 s1 s2 s3
        gi_wp2_with (refine wpListIn_upd rfl (.tmp 31) (.tmp 32) _ rfl R3.out (by omega) ck HGBJ.out rfl _ HGC.out rfl rfl ?_; intro w5 hset5 hg5; have HS5 := Lib.hid hset5; have HG5 := Lib.hid hg5; clear hset5 hg5)
        have hk5 := Kp.of_grown HG5.out
        exact ⟨R1.out.grown HG5.out (fun b e => .inr (.inl (.inr (by injection e with e; exact e.symm)))), ⟨A3, c3, S1.out.keep hk5 (fun e => by injection e with e; omega), hk5.own S2.out (fun b e q => R3.out.off S2.out (by rw [e]; exact q)), S3.out⟩, by rw [HUU.out]; exact HS5.out, R4.out.keep hk5 (fun e => by injection e with e; omega), R5.out.keep hk5 (fun e => by injection e with e; omega), R6.out.grown HG5.out (fun b e => .inl (by injection e with e; omega))⟩
  case done =>
    rintro D E W2 hD ⟨⟨A, c, i1, i2, i3⟩, i4, i6, i7, i5⟩ hK
    obtain ⟨m, hm⟩ : ∃ m, (uqL (grp z.t) xs N).flatten.length = m := ⟨_, rfl⟩
    have HMM := Lib.hid hm
    rw [hm] at i1 i2 i3
    obtain ⟨x0, x1, x2, x3, x4, x5, x6, x7, x8⟩ := i1.attr
    unfold zU at x0 x1 x2 x3 x4 x5 x6 x7 x8
    simp only at x0 x1 x2 x3 x4 x5 x6 x7 x8
    have I1 := Lib.hid i1
    have I2 := Lib.hid i2
    have I5 := Lib.hid i5
    have I7 := Lib.hid i7
    have hDs := (Array.getElem?_eq_some_iff.1 hK).1
    clear i1 i2 i3 i4 i5 i6 i7 hm
    gi_wp2_with (refine wpListIn_store_row rfl 28 (.tmp 2) (.tmp 33) rfl (w.heap.size + 1) _ _ _ I7.out rfl rfl sizeAt rfl (by simp [Value.oneCell']) ?_; intro hb2 hk2)
    have hK' := (hk2.block D hDs (by unfold OnB; omega)).trans hK
    refine ⟨by simp, .inl ⟨_, _, rfl, run_takeDeferred hK', ?_⟩⟩
    have hb3 := bk_kept hb2 (grownBy_putObj' _ D (.deferred none)) (fun r e => by cases e; exact ⟨_, hK', rfl⟩)
    have ho2 := hk2.own I2.out (fun b e q => own_off I2.out I7.out (by decide) (by unfold OnB at q; rw [← q]; exact e))
    have ho3 := row_kept ho2 (grownBy_putObj' _ D (.deferred none)) (fun r e => by cases e; exact ⟨_, hK', rfl⟩)
    refine ⟨_, results_cell_row (fn := Tryd.f12) rfl _ _ (w.heap.size + 1) 28 _ (0, 0) _ rfl hb3 Tryd.underlying28 rfl (by kernel_rfl), A, c, ?_, ?_, (I5.out.new hk2 (by omega)).new (Kp.put _ D _) (by omega)⟩
    · rw [HMM.out]
      rfl
    · rw [HMM.out]
      exact ho3
  case stop => exact fun D c j W hD hj h _ => h.elim

end Go.Proofs.YtkhonebedoemoaaDoor
