/- The reference's Unique. No condition but the bounds that arguments have. -/
import Derived.Test.YtkhonebedoemoaaDoorComS
import Derived.Deep.RegionHeld3
namespace Go.Proofs.YtkhonebedoemoaaDoor
open Go.RowKit
set_option linter.unusedVariables false
set_option linter.unusedSimpArgs false

theorem wp_neatP {P : Program} {c : Code} {Q : Exit → Act → World → Prop} {a : Act} {w : World} (R : Act → World → Prop) (h : c.wp P (neat R) a w) (hq : ∀ a' w', R a' w' → Q .normal a' w') : c.wp P Q a w :=
  Code.wp_mono (fun e a' w' hp => by
    cases e with
    | normal => exact hq a' w' hp
    | _ => exact hp.elim) h
theorem us_len (l : List Int) : (us l).length = l.length := by simp [us]
theorem kp_setRow (w : World) (b : Nat) (cs : Array Value) : Kp (OnB b) w (w.setRow b cs) := ⟨rfl, rfl, rfl, by simp, fun k hk hn => setRow_other w b k cs hn⟩

theorem hslU (A : Option Addr) (n c I G : Nat) (hg : 0 < G) (h1 : I + G ≤ n) (h2 : n ≤ c) (W : World) : (Instr.sliceAt 24 (.slice A n c) (some (.int .i64 (I : Int))) (some (.int .i64 ((I : Int) + G))) none).run Tryd.prog W = .ok (.slice (A.map (fun x => x.add I)) G (c - I)) W := by
  have e1 : ((I : Int) + G).toNat = I + G := by omega
  have h3 : (I : Int) + (G : Int) ≤ (c : Int) := by omega
  have h4 : ¬ c = I := by omega
  have h5 : ¬ (I : Int) + (G : Int) < 0 := by omega
  simp [Instr.sliceAt, Instr.slice, go_sem, h3, h4, h5, e1]
theorem exec_slice {P : Program} {w : World} {ρ : Operand → Value} {o : Oper} {t : TypeId} {x lo hi : Operand} {v xv lv hv : Value} (ho : o.op = .slice t x (some lo) (some hi) none) (hx : ρ x = xv) (hl : ρ lo = lv) (hh : ρ hi = hv) (h : (Instr.sliceAt t xv (some lv) (some hv) none).run P w = .ok v w) : (execOp ρ o).run P w = .ok (.value v) w := by
  subst hx hl hh
  simp [execOp, ho, h, Result.andThen]
theorem wrap_i64 (x : Int) (h0 : 0 ≤ x) (h1 : x ≤ 9223372036854775807) : IntKind.i64.wrap x = x := by
  simp [IntKind.wrap, IntKind.bits, IntKind.signed]
  omega

theorem hslW (A : Option Addr) (n c I G : Nat) (hg : 0 < G) (h1 : I + G ≤ n) (h2 : n ≤ c) (h3 : c ≤ 9223372036854775807) (W : World) : (Instr.sliceAt 24 (.slice A n c) (some (.int .i64 (I : Int))) (some (.int .i64 (IntKind.i64.wrap ((I : Int) + G)))) none).run Tryd.prog W = .ok (.slice (A.map (fun x => x.add I)) G (c - I)) W := by
  rw [wrap_i64 _ (by omega) (by omega)]
  exact hslU A n c I G hg h1 h2 W

/-- Has the list so far the group? -/
theorem hasU {k : Int} {p : Bool} {A : Option Addr} {c g : Nat} {ul : List (List Int)} {ck : List Int} (hk : grp k = g) (hg : 0 < g) (hl : ∀ y ∈ ul, y.length = g) :
    (validC (zU k p A ul.flatten.length c) && hasL (grp (zU k p A ul.flatten.length c).t) ul.flatten ck) = decide (ck ∈ ul) := by
  have hfl := flat_len hl
  show (validC (zU k p A ul.flatten.length c) && hasL (grp k) ul.flatten ck) = _
  cases ul with
  | nil => simp [validC, zU]
  | cons x ls =>
    rw [zU_valid p A c (by rw [hk]; exact hg) (by rw [hfl, List.length_cons, Nat.succ_mul]; omega) (by rw [hfl, hk]; exact Nat.mul_mod_left _ _), Bool.true_and, hk, hasL_cks, hfl, Nat.mul_div_cancel _ hg, cks_flat hl, Bool.eq_iff_iff, List.any_eq_true, decide_eq_true_eq]
    constructor
    · rintro ⟨y, hy, e⟩
      rw [← of_decide_eq_true e]
      exact hy
    · intro h
      exact ⟨ck, h, decide_eq_true rfl⟩

set_option maxRecDepth 100000 in
set_option maxHeartbeats 8000000 in
theorem runiq_bad (z : AtI) (ok : z.Ok) (w : World) (hv : validC z = false) : Calls Tryd.prog 15 #[z.val] w (Stay zZ.val w) := by
  have HV := Lib.hid (fun W => rvalid_any z ok W)
  rw [hv] at HV
  have HB1 := Lib.hid ((Bk.fresh w 28 z.cs).alloc (.cells zZ.cs 28))
  have HB2 := Lib.hid (Bk.second w (.cells z.cs 28) 28 zZ.cs)
  have HK0 := Lib.hid (((Kp.refl NoB w).alloc (.cells z.cs 28)).alloc (.cells zZ.cs 28))
  clear hv
  obtain ⟨x0, x1, x2, x3, x4, x5, x6, x7, x8⟩ := HB1.out.attr
  unfold zZ AtI.val AtI.cs at *
  go_enter Tryd.func15, Tryd.ntmps15
  go_wp2_with (first
    | (go_at_call 20; (with_reducible refine Calls.mono (HV.out _) ?_); rintro e w1 ⟨rfl, hK⟩; have hk1 := Lib.hid (HK0.out.and hK); have hb1 := Lib.hid (HB2.out.and hK); clear hK)
    | (refine wpList_store_row rfl 28 (.tmp 2) (.tmp 9) rfl (w.heap.size + 1) _ rfl rfl 28 _ hb1.out sizeAt rfl (by simp [Value.oneCell']) ?_))
  exact bodyPost_ret (results_cell_row (fn := Tryd.f15) rfl _ _ (w.heap.size + 1) 28 _ (0, 0) _ rfl (setRow_heap _ _ _ _ _ _ hb1.out) Tryd.underlying28 rfl (by kernel_rfl)) rfl ⟨rfl, hk1.out.new (kp_setRow _ _ _) (by omega)⟩

set_option maxRecDepth 100000 in
set_option maxHeartbeats 16000000 in
theorem runiq_good (z : AtI) (ok : z.Ok) (xs : List Int) (w : World) (hx : InUs w z.L z.ln z.lc xs) (hl : z.ln ≤ 1000) (hv : validC z = true) :
    Calls Tryd.prog 15 #[z.val] w (UniqR w z.t z.p (uniqL z xs)) := by
  obtain ⟨i0, hi, hz0, hz1, hz2⟩ := info_parts infoU
  have HV := Lib.hid (fun W => rvalid_any z ok W)
  rw [hv] at HV
  have HG := Lib.hid (fun W => rgroup_any z.t W)
  obtain ⟨hg0, hmod, hn0, hN0, -⟩ := uniq_facts hv hx.1 hx.2.2.2.2
  have hg3 : grp z.t ≤ 3 := by unfold grp; (repeat' split) <;> omega
  obtain ⟨G, hG⟩ : ∃ g, grp z.t = g := ⟨_, rfl⟩
  have HGG := Lib.hid hG
  have hUL : uniqL z xs = (uqL G xs (numG z)).flatten := by unfold uniqL; rw [hG]
  rw [hUL]
  rw [hG] at HG hg0 hmod hg3 hN0
  obtain ⟨N, hN⟩ : ∃ N, numG z = N := ⟨_, rfl⟩
  rw [hN] at hN0 ⊢
  have hNG : N * G = z.ln := by rw [hN0, hx.1]; exact Nat.div_mul_cancel (Nat.dvd_of_mod_eq_zero hmod)
  have HLE := Lib.hid (fun j (hj : j ≤ N) => (show ∀ y ∈ uqL G xs j, y.length = G from uqL_len (by rw [hx.1, ← hNG]; exact Nat.mul_le_mul_right G hj)))
  have HFL := Lib.hid (fun j (hj : j ≤ N) => (show (uqL G xs j).flatten.length ≤ j * G by rw [flat_len (HLE.out j hj)]; exact Nat.mul_le_mul_right G (uqL_le G xs j)))
  have HCK := Lib.hid (fun j (hj : j < N) => (show (chunkN G xs j).length = G from chunk_len (by rw [hx.1, ← hNG]; exact Nat.mul_le_mul_right G hj)))
  have HCA := Lib.hid (fun j W (k : Kp NoB w W) => chunk_arr G j (hx.2.2.2.1.and k))
  have HIU := Lib.hid (fun j => (show IsU (uqL G xs j).flatten from fun x hx' => by
    obtain ⟨l, hl', hxl⟩ := List.mem_flatten.1 hx'
    obtain ⟨q, _, rfl⟩ := List.mem_map.1 ((uqL_mem _ _ _ _).1 hl')
    exact hx.2.2.2.2 x (List.mem_of_mem_drop (List.mem_of_mem_take hxl))))
  have HRH := Lib.hid (fun (y : AtI) (yok : y.Ok) (l ck : List Int) (B : Option Addr) (d : Nat) W (h1 : InUs W y.L y.ln y.lc l) (h2 : Arr W B (us ck)) (h3 : y.ln ≤ 100000) => rhas_any y yok l ck B d W h1 h2 h3)
  have hlc := hx.2.1
  have hcm := hx.2.2.1
  unfold maxLen at hcm
  have HT := Lib.hid ok.t
  clear hUL hN hN0 hmod hv hx hG ok
  have HB1 := Lib.hid ((Bk.fresh w 28 z.cs).alloc (.cells zZ.cs 28))
  have HB2 := Lib.hid (Bk.second w (.cells z.cs 28) 28 zZ.cs)
  have HK0 := Lib.hid (((Kp.refl NoB w).alloc (.cells z.cs 28)).alloc (.cells zZ.cs 28))
  obtain ⟨x0, x1, x2, x3, x4, x5, x6, x7, x8⟩ := HB1.out.attr
  unfold AtI.val at HV ⊢
  unfold AtI.cs at HV x0 x1 x2 x3 x4 x5 x6 x7 x8 ⊢
  unfold zZ at x0 x1 x2 x3 x4 x5 x6 x7 x8
  simp only at x0 x1 x2 x3 x4 x5 x6 x7 x8
  go_enter Tryd.func15, Tryd.ntmps15
  go_wp2_with (first
    | (go_at_call 20; (with_reducible refine Calls.mono (HV.out _) ?_); rintro e w1 ⟨rfl, hK⟩; have hk1 := Lib.hid (HK0.out.and hK); have bz1 := Lib.hid (HB1.out.and hK); have br1 := Lib.hid (HB2.out.and hK); clear x0 x1 x2 x3 x4 x5 x6 x7 x8; obtain ⟨x0, x1, x2, x3, x4, x5, x6, x7, x8⟩ := bz1.out.attr; clear hK)
    | (go_at_call 25; (with_reducible refine Calls.mono (HG.out _) ?_); rintro e w2 ⟨rfl, hK⟩; have hk2 := Lib.hid (hk1.out.and hK); have bz2 := Lib.hid (bz1.out.and hK); have br2 := Lib.hid (br1.out.and hK); clear x0 x1 x2 x3 x4 x5 x6 x7 x8; obtain ⟨x0, x1, x2, x3, x4, x5, x6, x7, x8⟩ := bz2.out.attr; clear hK))
  clear x0 x1 x2 x3 x4 x5 x6 x7 x8
  have hs2 := hk2.out.size
  have hlt2 := br2.out.lt
  go_loopw [5] (fun i wr => ∃ (j : Nat) (A : Option Addr) (m c : Nat), j ≤ N ∧ i = .int .i64 (j * G : Nat) ∧ Hid ((uqL G xs j).flatten.length = m) ∧ Hid (Kp NoB w wr) ∧ Hid (Bk wr w.heap.size 28 z.cs) ∧ Hid (Bk wr (w.heap.size + 1) 28 zZ.cs) ∧ Hid (Bk wr w2.heap.size 28 (zU z.t z.p A m c).cs) ∧ Hid (wr.ownsRow w.heap.size 22 1 (.slice A m c) m (us (uqL G xs j).flatten))) (fun i _ => z.ln - (intOf i).toNat)
  case atStart => exact ⟨0, none, 0, 0, Nat.zero_le _, by simp, Lib.hid rfl, Lib.hid (hk2.out.alloc _), Lib.hid (bz2.out.alloc _), Lib.hid (br2.out.alloc _), Lib.hid (Bk.fresh w2 28 (zU z.t z.p none 0 0).cs), Lib.hid (World.ownsRow_nil _ _ _ _)⟩
  case round =>
    obtain ⟨j, A, m, c, hj, rfl, HM, hk, bz, br, bo, ho⟩ := hrel
    obtain ⟨x0, x1, x2, x3, x4, x5, x6, x7, x8⟩ := bz.out.attr
    by_cases hlt : j < N
    · have hqi : j * G + G ≤ z.ln := by
        have h9 := Nat.mul_le_mul_right G (show j + 1 ≤ N from hlt)
        rw [Nat.succ_mul] at h9
        omega
      have hqs : (j + 1) * G = j * G + G := Nat.succ_mul j G
      have HQS := Lib.hid hqs
      have hcl := HCK.out j hlt
      have hfl := HFL.out j hj
      rw [HM.out] at hfl
      have HCI := Lib.hid (fun W k => HCA.out j W k)
      have HUS := Lib.hid (uqL_succ G xs j)
      have hle := HLE.out j hj
      have hiu := HIU.out j
      obtain ⟨ck, hck⟩ : ∃ ck, chunkN G xs j = ck := ⟨_, rfl⟩
      rw [hck] at HCI HUS hcl
      obtain ⟨ul, hul⟩ : ∃ ul, uqL G xs j = ul := ⟨_, rfl⟩
      rw [hul] at HM ho HUS hle hiu
      have hhas := hasU (k := z.t) (p := z.p) (A := A) (c := c) (ck := ck) HGG.out hg0 hle
      obtain ⟨fl, hflt⟩ : ∃ fl, ul.flatten = fl := ⟨_, rfl⟩
      rw [hflt] at HM ho hiu hhas
      rw [HM.out] at hhas
      obtain ⟨I, hI⟩ : ∃ I, j * G = I := ⟨_, rfl⟩
      rw [hI] at hqi hqs HQS HCI hfl ⊢
      have hlt2 : (I : Int) < z.ln := by omega
      obtain ⟨b, hb⟩ : ∃ b, decide (ck ∈ ul) = b := ⟨_, rfl⟩
      obtain ⟨A', c', he, hmc, hcc, hao⟩ := own_form ho.out
      injection he with he1 _ he3
      subst he1 he3
      have HFM := Lib.hid HM.out
      have HAO0 := Lib.hid hao
      have HS := Lib.hid (fun W (kk : Kp NoB wr W) => (show Calls Tryd.prog 10 #[(zU z.t z.p A m c).val, .slice (z.L.map (fun x => x.add I)) G (z.lc - I)] W (Stay (.bool b) W) by
        have h := HRH.out (zU z.t z.p A m c) (zU_ok HT.out z.p A c (show m ≤ 1000 by omega)) fl ck (z.L.map (fun x => x.add I)) (z.lc - I) W ⟨HM.out, hmc, hcc, hao.and kk, hiu⟩ (HCI.out W (hk.out.and kk)) (show m ≤ 100000 by omega)
        rw [hhas, hb, hcl] at h
        exact h))
      have HBB := Lib.hid hb
      have HCL := Lib.hid hcl
      have HFT := Lib.hid hflt
      clear hhas hle hiu hck hul hflt hb hcl hao hqs
      unfold zU AtI.val AtI.cs at HS
      simp only at HS
      obtain ⟨y0, y1, y2, y3, y4, y5, y6, y7, y8⟩ := bo.out.attr
      unfold zU at y0 y1 y2 y3 y4 y5 y6 y7 y8
      simp only at y0 y1 y2 y3 y4 y5 y6 y7 y8
      go_wp2
      -- REGION8
      refine wp_region_noPanic ?_
      refine wp_region_held_drew (S := (fun w' => w'.cell? ⟨w.heap.size, 5, none⟩ = some (.slice z.L z.ln z.lc) ∧ w'.cell? ⟨w2.heap.size, 0, none⟩ = some (.int .i64 z.t) ∧ w'.cell? ⟨w2.heap.size, 1, none⟩ = some (.bool z.p) ∧ w'.cell? ⟨w2.heap.size, 2, none⟩ = some (.int .u32 0) ∧ w'.cell? ⟨w2.heap.size, 3, none⟩ = some (.int .u32 0) ∧ w'.cell? ⟨w2.heap.size, 4, none⟩ = some (.slice none 0 0) ∧ w'.cell? ⟨w2.heap.size, 5, none⟩ = some (.slice A m c) ∧ w'.cell? ⟨w2.heap.size, 6, none⟩ = some (.slice none 0 0) ∧ w'.cell? ⟨w2.heap.size, 7, none⟩ = some (.int .i64 0) ∧ w'.cell? ⟨w2.heap.size, 8, none⟩ = some (.slice none 0 0))) (by kernel_rfl) ?_ (fun hHeld => ?_)
      · exact ⟨x5, y0, y1, y2, y3, y4, y5, y6, y7, y8⟩
      refine wpAnyH_take (i := 0) (oi := ⟨some 26, _, _, _, _, _⟩) (v := ?_) rfl (by kernel_rfl) (by kernel_rfl) (by kernel_rfl) (fun _ _ _ h => h) (Or.inl ⟨by rfl, fun w hSw => ?_⟩) (by assumption) ?_
      rotate_left
      · (try dsimp only at hSw)
        go_simp
        try with_reducible rfl
      try simp only [Act.put, List.setIfInBounds_toArray, List.set_cons_zero, List.set_cons_succ]
      refine wpAnyH_take (i := 1) (oi := ⟨some 27, _, _, _, _, _⟩) (v := ?_) rfl (by kernel_rfl) (by kernel_rfl) (by kernel_rfl) (fun _ _ _ h => h) (Or.inl ⟨by rfl, fun w hSw => ?_⟩) (by assumption) ?_
      rotate_left
      · (try dsimp only at hSw)
        go_simp
        try with_reducible rfl
      try simp only [Act.put, List.setIfInBounds_toArray, List.set_cons_zero, List.set_cons_succ]
      refine wpAnyH_take (i := 2) (oi := ⟨some 28, _, _, _, _, _⟩) (v := ?_) rfl (by kernel_rfl) (by kernel_rfl) (by kernel_rfl) (fun _ _ _ h => h) (Or.inl ⟨by rfl, fun w hSw => ?_⟩) (by assumption) ?_
      rotate_left
      · (try dsimp only at hSw)
        go_simp
        try with_reducible rfl
      try simp only [Act.put, List.setIfInBounds_toArray, List.set_cons_zero, List.set_cons_succ]
      refine wpAnyH_take (i := 3) (oi := ⟨some 29, _, _, _, _, _⟩) (v := ?_) rfl (by kernel_rfl) (by kernel_rfl) (by kernel_rfl) (fun _ _ _ h => h) (Or.inl ⟨by rfl, fun w hSw => ?_⟩) (by assumption) ?_
      rotate_left
      · (try dsimp only at hSw)
        go_simp
        try with_reducible rfl
      try simp only [Act.put, List.setIfInBounds_toArray, List.set_cons_zero, List.set_cons_succ]
      refine wpAnyH_take (i := 4) (oi := ⟨some 30, _, _, _, _, _⟩) (v := ?_) rfl (by kernel_rfl) (by kernel_rfl) (by kernel_rfl) (fun _ _ _ h => h) (Or.inl ⟨by rfl, fun w hSw => ?_⟩) (by assumption) ?_
      rotate_left
      · (try dsimp only at hSw)
        go_simp
        try with_reducible rfl
      try simp only [Act.put, List.setIfInBounds_toArray, List.set_cons_zero, List.set_cons_succ]
      refine wpAnyH_take (i := 5) (oi := ⟨some 31, _, _, _, _, _⟩) (v := ?_) rfl (by kernel_rfl) (by kernel_rfl) (by kernel_rfl) (fun _ _ _ h => h) (Or.inl ⟨by rfl, fun w hSw => ?_⟩) (by assumption) ?_
      rotate_left
      · (try dsimp only at hSw)
        go_simp
        try with_reducible rfl
      try simp only [Act.put, List.setIfInBounds_toArray, List.set_cons_zero, List.set_cons_succ]
      refine wpAnyH_take (i := 6) (oi := ⟨some 32, _, _, _, _, _⟩) (v := ?_) rfl (by kernel_rfl) (by kernel_rfl) (by kernel_rfl) (fun _ _ _ h => h) (Or.inl ⟨by rfl, fun w hSw => ?_⟩) (by assumption) ?_
      rotate_left
      · (try dsimp only at hSw)
        go_simp
        try with_reducible rfl
      try simp only [Act.put, List.setIfInBounds_toArray, List.set_cons_zero, List.set_cons_succ]
      refine wpAnyH_take (i := 7) (oi := ⟨some 33, _, _, _, _, _⟩) (v := .slice (z.L.map (fun x => x.add I)) G (z.lc - I)) rfl (by kernel_rfl) (by kernel_rfl) (by kernel_rfl) (fun _ _ _ h => h) (Or.inl ⟨by rfl, fun w hSw => exec_slice rfl rfl rfl rfl (hslW z.L z.ln z.lc I G hg0 hqi hlc (by omega) _)⟩) (by assumption) ?_
      try simp only [Act.put, List.setIfInBounds_toArray, List.set_cons_zero, List.set_cons_succ]
      refine wpAnyH_ready (rs := [8]) (by kernel_rfl) (by simp) ?_
      refine AllReadyH.cons (o := ⟨some 34, _, _, _, _, _⟩) rfl (fun K hK => ?_) AllReadyH.nil
      go_simp
      (with_reducible refine Calls.mono (HS.out _ (Kp.refl NoB wr).drew) ?_)
      rintro e w3 ⟨rfl, hK3⟩
      have hk3 := Lib.hid (hk.out.drew.and hK3)
      have bz3 := Lib.hid ((bk_drew bz.out).and hK3)
      have br3 := Lib.hid ((bk_drew br.out).and hK3)
      have bo3 := Lib.hid ((bk_drew bo.out).and hK3)
      have HAO := Lib.hid ((HAO0.out.and (Kp.refl NoB wr).drew).and hK3)
      have ho3 := Lib.hid (((Kp.refl NoB wr).drew.and hK3).own ho.out (fun _ _ q => q))
      clear x0 x1 x2 x3 x4 x5 x6 x7 x8 y0 y1 y2 y3 y4 y5 y6 y7 y8
      have x5 := bz3.out.attr.2.2.2.2.2.1
      obtain ⟨y0, y1, y2, y3, y4, y5, y6, y7, y8⟩ := bo3.out.attr
      unfold zU at y0 y1 y2 y3 y4 y5 y6 y7 y8
      simp only at y0 y1 y2 y3 y4 y5 y6 y7 y8
      clear hK3
      refine hK.out _ _ ?_ (fun hHeld => ?_)
      · (try dsimp only)
        exact ⟨x5, y0, y1, y2, y3, y4, y5, y6, y7, y8⟩
      clear hK K
      try simp only [Act.put, List.setIfInBounds_toArray, List.set_cons_zero, List.set_cons_succ]
      refine wpAnyH_take (i := 9) (oi := ⟨some 35, _, _, _, _, _⟩) (v := ?_) rfl (by kernel_rfl) (by kernel_rfl) (by kernel_rfl) (fun _ _ _ h => h) (Or.inl ⟨by rfl, fun w hSw => ?_⟩) (by assumption) ?_
      rotate_left
      · (try dsimp only at hSw)
        go_simp
        try with_reducible rfl
      try simp only [Act.put, List.setIfInBounds_toArray, List.set_cons_zero, List.set_cons_succ]
      refine wpAnyH_done (by kernel_rfl) ?_ _
      refine NoPanic.normal ?_
      -- END8
      have hx5 : w3.drew.cell? ⟨w.heap.size, 5, none⟩ = some (.slice z.L z.ln z.lc) := x5
      clear y0 y1 y2 y3 y4 y5 y6 y7 y8
      have hs3 := bo3.out.lt
      cases b
      · go_wp2
        have hUU : uqL G xs (j + 1) = ul ++ [ck] := by rw [HUS.out]; unfold uStep; rw [if_neg (of_decide_eq_false HBB.out)]
        have hFF : (uqL G xs (j + 1)).flatten = fl ++ ck := by rw [hUU, List.flatten_append, HFT.out]; simp
        have HLF : Hid ((uqL G xs (j + 1)).flatten.length = m + G) := Lib.hid (by rw [hFF, List.length_append, HFM.out, HCL.out])
        have HUF : Hid (us (uqL G xs (j + 1)).flatten = us fl ++ us ck) := Lib.hid (by rw [hFF]; simp [us])
        clear hUU hFF
        obtain ⟨R, hR0⟩ : ∃ R : Act → World → Prop, R = (fun a' W => ∃ (A6 : Option Addr) (c6 : Nat), Kp NoB w W ∧ Bk W w.heap.size 28 z.cs ∧ Bk W (w.heap.size + 1) 28 zZ.cs ∧ Bk W w2.heap.size 28 (zU z.t z.p A6 (m + G) c6).cs ∧ W.ownsRow w.heap.size 22 1 (.slice A6 (m + G) c6) (m + G) (us fl ++ us ck) ∧ ∃ v26 v27 v28 v29 v30 v31 v32 v33 v34 v35 v36 v37 v38 v39 v40 v41 v42 v43 v44 v45 v46 v47 v48, a' = { tmps := #[.agg #[.int .i64 z.t, .bool z.p, .int .u32 z.n, .int .u32 z.m, .slice z.S z.sn z.sc, .slice z.L z.ln z.lc, .slice z.B z.bn z.bc, .int .i64 z.f, .slice z.R z.rn z.rc], .pointer (some ⟨w.heap.size, 0, none⟩), .pointer (some ⟨w.heap.size + 1, 0, none⟩), .int .i64 G, .pointer (some ⟨w2.heap.size, 0, none⟩), .int .i64 I, .agg #[.int .i64 z.t, .bool z.p, .int .u32 z.n, .int .u32 z.m, .slice z.S z.sn z.sc, .slice z.L z.ln z.lc, .slice z.B z.bn z.bc, .int .i64 z.f, .slice z.R z.rn z.rc], .bool true, .bool false, undef, .pointer (some ⟨w.heap.size, 0, none⟩), .int .i64 z.t, .int .i64 G, .pointer (some ⟨w.heap.size, 0, none⟩), .int .i64 z.t, .pointer (some ⟨w.heap.size, 1, none⟩), .bool z.p, .agg #[.int .i64 z.t, .bool z.p, .int .u32 0, .int .u32 0, .slice none 0 0, .slice none 0 0, .slice none 0 0, .int .i64 0, .slice none 0 0], .int .i64 I, .pointer (some ⟨w.heap.size, 5, none⟩), .slice z.L z.ln z.lc, .int .i64 z.ln, .bool true, u23, u24, u25, v26, v27, v28, v29, v30, v31, v32, v33, v34, v35, v36, v37, v38, v39, v40, v41, v42, v43, v44, v45, v46, v47, v48, undef], defers := [] }) := ⟨_, rfl⟩
        have HR0 := Lib.hid hR0
        clear hR0
        refine wp_neatP R ?_ (fun a' W4 hR => ?_)
        rotate_left
        · rw [HR0.out] at hR
          obtain ⟨A6, c6, r1, r2, r3, r4, r5, v26, v27, v28, v29, v30, v31, v32, v33, v34, v35, v36, v37, v38, v39, v40, v41, v42, v43, v44, v45, v46, v47, v48, rfl⟩ := hR
          have R1 := Lib.hid r1
          have R2 := Lib.hid r2
          have R3 := Lib.hid r3
          have R4 := Lib.hid r4
          have R5 := Lib.hid r5
          clear r1 r2 r3 r4 r5 HS
          go_wp2
          go_roundw
          case rel => exact ⟨j + 1, A6, m + G, c6, hlt, by rw [HQS.out]; go_num, HLF, R1, R2, R3, R4, Lib.hid (by rw [HUF.out]; exact R5.out)⟩
          case measure =>
            simp [intOf]
            omega
        -- REGION
        refine wp_region_held_drew (S := fun W => W.cell? ⟨w.heap.size, 5, none⟩ = some (.slice z.L z.ln z.lc)) (by kernel_rfl) hx5 (fun hHeld => ?_)
        refine wpAnyH_take (i := 1) (oi := ⟨some 37, _, _, _, _, _⟩) (v := ?_) rfl (by kernel_rfl) (by kernel_rfl) (by kernel_rfl) (fun _ _ _ h => h) (Or.inl ⟨by rfl, fun w hSw => ?_⟩) (by assumption) ?_
        rotate_left
        · (try dsimp only at hSw)
          go_simp
          try with_reducible rfl
        try simp only [Act.put, List.setIfInBounds_toArray, List.set_cons_zero, List.set_cons_succ]
        refine wpAnyH_take (i := 4) (oi := ⟨some 40, _, _, _, _, _⟩) (v := ?_) rfl (by kernel_rfl) (by kernel_rfl) (by kernel_rfl) (fun _ _ _ h => h) (Or.inl ⟨by rfl, fun w hSw => ?_⟩) (by assumption) ?_
        rotate_left
        · (try dsimp only at hSw)
          go_simp
          try with_reducible rfl
        try simp only [Act.put, List.setIfInBounds_toArray, List.set_cons_zero, List.set_cons_succ]
        refine wpAnyH_take (i := 5) (oi := ⟨some 41, _, _, _, _, _⟩) (v := ?_) rfl (by kernel_rfl) (by kernel_rfl) (by kernel_rfl) (fun _ _ _ h => h) (Or.inl ⟨by rfl, fun w hSw => ?_⟩) (by assumption) ?_
        rotate_left
        · (try dsimp only at hSw)
          go_simp
          try with_reducible rfl
        try simp only [Act.put, List.setIfInBounds_toArray, List.set_cons_zero, List.set_cons_succ]
        refine wpAnyH_take (i := 6) (oi := ⟨some 42, _, _, _, _, _⟩) (v := ?_) rfl (by kernel_rfl) (by kernel_rfl) (by kernel_rfl) (fun _ _ _ h => h) (Or.inl ⟨by rfl, fun w hSw => ?_⟩) (by assumption) ?_
        rotate_left
        · (try dsimp only at hSw)
          go_simp
          try with_reducible rfl
        try simp only [Act.put, List.setIfInBounds_toArray, List.set_cons_zero, List.set_cons_succ]
        refine wpAnyH_take (i := 7) (oi := ⟨some 43, _, _, _, _, _⟩) (v := ?_) rfl (by kernel_rfl) (by kernel_rfl) (by kernel_rfl) (fun _ _ _ h => h) (Or.inl ⟨by rfl, fun w hSw => ?_⟩) (by assumption) ?_
        rotate_left
        · (try dsimp only at hSw)
          go_simp
          try with_reducible rfl
        try simp only [Act.put, List.setIfInBounds_toArray, List.set_cons_zero, List.set_cons_succ]
        refine wpAnyH_take (i := 8) (oi := ⟨some 44, _, _, _, _, _⟩) (v := ?_) rfl (by kernel_rfl) (by kernel_rfl) (by kernel_rfl) (fun _ _ _ h => h) (Or.inl ⟨by rfl, fun w hSw => ?_⟩) (by assumption) ?_
        rotate_left
        · (try dsimp only at hSw)
          go_simp
          try with_reducible rfl
        try simp only [Act.put, List.setIfInBounds_toArray, List.set_cons_zero, List.set_cons_succ]
        refine wpAnyH_take (i := 9) (oi := ⟨some 45, _, _, _, _, _⟩) (v := ?_) rfl (by kernel_rfl) (by kernel_rfl) (by kernel_rfl) (fun _ _ _ h => h) (Or.inl ⟨by rfl, fun w hSw => ?_⟩) (by assumption) ?_
        rotate_left
        · (try dsimp only at hSw)
          go_simp
          try with_reducible rfl
        try simp only [Act.put, List.setIfInBounds_toArray, List.set_cons_zero, List.set_cons_succ]
        refine wpAnyH_take (i := 10) (oi := ⟨some 46, _, _, _, _, _⟩) (v := .slice (z.L.map (fun x => x.add I)) G (z.lc - I)) rfl (by kernel_rfl) (by kernel_rfl) (by kernel_rfl) (fun _ _ _ h => h) (Or.inl ⟨by rfl, fun w hSw => exec_slice rfl rfl rfl rfl (hslW z.L z.ln z.lc I G hg0 hqi hlc (by omega) _)⟩) (by assumption) ?_
        try simp only [Act.put, List.setIfInBounds_toArray, List.set_cons_zero, List.set_cons_succ]
        refine wpAnyH_ready (rs := [0, 2]) (by kernel_rfl) (by simp) ?_
        refine AllReadyH.cons (o := ⟨some 36, _, _, _, _, _⟩) rfl (fun K hK => ?_) (AllReadyH.cons (o := ⟨some 38, _, _, _, _, _⟩) rfl (fun K hK => ?_) AllReadyH.nil)
        · go_simp
          refine hK.out _ _ (show (w3.drew.alloc (.cells #[] 22)).cell? ⟨w.heap.size, 5, none⟩ = some (.slice z.L z.ln z.lc) from (bz3.out.alloc _).attr.2.2.2.2.2.1) (fun hHeld => ?_)
          clear hK K
          try simp only [Act.put, List.setIfInBounds_toArray, List.set_cons_zero, List.set_cons_succ]
          have q0 : (w3.drew.alloc (.cells #[] 22)).cell? ⟨w2.heap.size, 5, none⟩ = some (.slice A m c) := (bo3.out.alloc _).attr.2.2.2.2.2.1
          refine wpAnyH_ready (rs := [2]) (by kernel_rfl) (by simp) ?_
          refine AllReadyH.cons (o := ⟨some 38, _, _, _, _, _⟩) rfl (fun K hK => ?_) AllReadyH.nil
          go_simp
          refine hK.out _ _ (show (w3.drew.alloc (.cells #[] 22)).cell? ⟨w.heap.size, 5, none⟩ = some (.slice z.L z.ln z.lc) from (bz3.out.alloc _).attr.2.2.2.2.2.1) (fun hHeld => ?_)
          clear hK K
          try simp only [Act.put, List.setIfInBounds_toArray, List.set_cons_zero, List.set_cons_succ]
          refine wpAnyH_ready (rs := [3]) (by kernel_rfl) (by simp) ?_
          refine AllReadyH.cons (o := ⟨some 39, _, _, _, _, _⟩) rfl (fun K hK => ?_) AllReadyH.nil
          rw [if_pos (by rfl)]
          have ho4 : (w3.drew.alloc (.cells #[] 22)).ownsRow w.heap.size 22 1 (.slice (some ⟨w3.drew.heap.size, 0, none⟩) 0 0) 0 [] := own_lit w3.drew w.heap.size 22 [] hk3.out.size (by decide)
          refine wp_app (w := w3.drew.alloc (.cells #[] 22)) (w0 := w) (S := NoB) (hk3.out.drew.alloc _) (.tmp 36) (.tmp 38) 24 rfl 22 i0 (.int .u32 0) 1 4 Tryd.underlying24 hi hz0 hz1 hz2 rfl (by decide) _ 0 [] rfl ho4 A m c (us fl) rfl (by rw [us_len, HFM.out, Nat.mul_one]) (HAO.out.and ((Kp.refl NoB w3).drew.alloc _)) (us_one _) (by omega) (by decide) m (by omega) ?_
          intro A5 c5 w5 hown5 hk5 hg5 hor5
          rw [List.nil_append] at hown5
          have bz5 := Lib.hid ((bz3.out.alloc (.cells #[] 22)).keep (Kp.of_grown (w := w3.alloc (.cells #[] 22)) (w' := w5) ⟨hg5.os, hg5.tape, hg5.output, hg5.size, hg5.block⟩) (fun q => own_off ho4 (bz3.out.alloc _) (by decide) q.symm))
          have br5 := Lib.hid ((br3.out.alloc (.cells #[] 22)).keep (Kp.of_grown (w := w3.alloc (.cells #[] 22)) (w' := w5) ⟨hg5.os, hg5.tape, hg5.output, hg5.size, hg5.block⟩) (fun q => own_off ho4 (br3.out.alloc _) (by decide) q.symm))
          have bo5 := Lib.hid ((bo3.out.alloc (.cells #[] 22)).keep (Kp.of_grown (w := w3.alloc (.cells #[] 22)) (w' := w5) ⟨hg5.os, hg5.tape, hg5.output, hg5.size, hg5.block⟩) (fun q => own_off ho4 (bo3.out.alloc _) (by decide) q.symm))
          have HK5 := Lib.hid hk5
          have HO5 := Lib.hid hown5
          clear hg5 hor5 hk5 hown5 ho4
          refine hK.out _ _ (show w5.cell? ⟨w.heap.size, 5, none⟩ = some (.slice z.L z.ln z.lc) from bz5.out.attr.2.2.2.2.2.1) (fun hHeld => ?_)
          clear hK K
          try simp only [Act.put, List.setIfInBounds_toArray, List.set_cons_zero, List.set_cons_succ]
          refine wpAnyH_ready (rs := [11]) (by kernel_rfl) (by simp) ?_
          refine AllReadyH.cons (o := ⟨some 47, _, _, _, _, _⟩) rfl (fun K hK => ?_) AllReadyH.nil
          rw [if_pos (by rfl)]
          refine wp_app (w := w5) (w0 := w) (S := NoB) HK5.out (.tmp 39) (.tmp 46) 24 rfl 22 i0 (.int .u32 0) 1 4 Tryd.underlying24 hi hz0 hz1 hz2 rfl (by decide) _ m (us fl) rfl HO5.out (z.L.map (fun x => x.add I)) G (z.lc - I) (us ck) rfl (by rw [us_len, HCL.out, Nat.mul_one]) (HCI.out w5 HK5.out) (us_one _) (by omega) (by decide) (m + G) rfl ?_
          intro A6 c6 w6 hown6 hk6 hg6 hor6
          have bz6 := Lib.hid (bz5.out.keep (Kp.of_grown hg6) (fun q => own_off HO5.out bz5.out (by decide) q.symm))
          have br6 := Lib.hid (br5.out.keep (Kp.of_grown hg6) (fun q => own_off HO5.out br5.out (by decide) q.symm))
          have bo6 := Lib.hid (bo5.out.keep (Kp.of_grown hg6) (fun q => own_off HO5.out bo5.out (by decide) q.symm))
          have HK6 := Lib.hid hk6
          have HO6 := Lib.hid hown6
          clear hg6 hor6 hk6 hown6
          refine hK.out _ _ (show w6.cell? ⟨w.heap.size, 5, none⟩ = some (.slice z.L z.ln z.lc) from bz6.out.attr.2.2.2.2.2.1) (fun hHeld => ?_)
          clear hK K
          try simp only [Act.put, List.setIfInBounds_toArray, List.set_cons_zero, List.set_cons_succ]
          refine wpAnyH_take (i := 12) (oi := ⟨some 48, _, _, _, _, _⟩) (v := ?_) rfl (by kernel_rfl) (by kernel_rfl) (by kernel_rfl) (fun _ _ _ h => h) (Or.inl ⟨by rfl, fun w hSw => ?_⟩) (by assumption) ?_
          rotate_left
          · (try dsimp only at hSw)
            go_simp
            try with_reducible rfl
          try simp only [Act.put, List.setIfInBounds_toArray, List.set_cons_zero, List.set_cons_succ]
          refine wpAnyH_ready (rs := [13]) (by kernel_rfl) (by simp) ?_
          refine AllReadyH.cons (o := ⟨none, _, _, _, _, _⟩) rfl (fun K hK => ?_) AllReadyH.nil
          have q1 : w6.cell? ⟨w2.heap.size, 5, none⟩ = some (.slice A m c) := bo6.out.attr.2.2.2.2.2.1
          have q2 := bo6.out.frozen 5
          go_simp
          have bz7 := bz6.out.far (p := ⟨w2.heap.size, 5, none⟩) (by simp; omega) (Value.slice A6 (m + G) c6)
          refine hK.out _ _ bz7.attr.2.2.2.2.2.1 (fun hHeld => ?_)
          clear hK K
          try simp only [Act.put, List.setIfInBounds_toArray, List.set_cons_zero, List.set_cons_succ]
          refine wpAnyH_done (by kernel_rfl) ?_ _
          show R _ _
          rw [HR0.out]
          exact ⟨A6, c6, HK6.out.setCell (p := ⟨w2.heap.size, 5, none⟩) (fun h => by simp at h; omega) _, bz7, br6.out.far (p := ⟨w2.heap.size, 5, none⟩) (by simp; omega) _, bo6.out.set 5 _, ((Kp.refl (OnB w2.heap.size) w6).setCell (p := ⟨w2.heap.size, 5, none⟩) (fun _ => rfl) _).own HO6.out (fun b e q => own_off HO6.out bo6.out (by decide) (by unfold OnB at q; rw [← q]; exact e)), _, _, _, _, _, _, _, _, _, _, _, _, _, _, _, _, _, _, _, _, _, _, _, rfl⟩
        · go_simp
          refine hK.out _ _ hx5 (fun hHeld => ?_)
          clear hK K
          try simp only [Act.put, List.setIfInBounds_toArray, List.set_cons_zero, List.set_cons_succ]
          refine wpAnyH_ready (rs := [0]) (by kernel_rfl) (by simp) ?_
          refine AllReadyH.cons (o := ⟨some 36, _, _, _, _, _⟩) rfl (fun K hK => ?_) AllReadyH.nil
          go_simp
          refine hK.out _ _ (show (w3.drew.alloc (.cells #[] 22)).cell? ⟨w.heap.size, 5, none⟩ = some (.slice z.L z.ln z.lc) from (bz3.out.alloc _).attr.2.2.2.2.2.1) (fun hHeld => ?_)
          clear hK K
          try simp only [Act.put, List.setIfInBounds_toArray, List.set_cons_zero, List.set_cons_succ]
          have q0 : (w3.drew.alloc (.cells #[] 22)).cell? ⟨w2.heap.size, 5, none⟩ = some (.slice A m c) := (bo3.out.alloc _).attr.2.2.2.2.2.1
          refine wpAnyH_ready (rs := [3]) (by kernel_rfl) (by simp) ?_
          refine AllReadyH.cons (o := ⟨some 39, _, _, _, _, _⟩) rfl (fun K hK => ?_) AllReadyH.nil
          rw [if_pos (by rfl)]
          have ho4 : (w3.drew.alloc (.cells #[] 22)).ownsRow w.heap.size 22 1 (.slice (some ⟨w3.drew.heap.size, 0, none⟩) 0 0) 0 [] := own_lit w3.drew w.heap.size 22 [] hk3.out.size (by decide)
          refine wp_app (w := w3.drew.alloc (.cells #[] 22)) (w0 := w) (S := NoB) (hk3.out.drew.alloc _) (.tmp 36) (.tmp 38) 24 rfl 22 i0 (.int .u32 0) 1 4 Tryd.underlying24 hi hz0 hz1 hz2 rfl (by decide) _ 0 [] rfl ho4 A m c (us fl) rfl (by rw [us_len, HFM.out, Nat.mul_one]) (HAO.out.and ((Kp.refl NoB w3).drew.alloc _)) (us_one _) (by omega) (by decide) m (by omega) ?_
          intro A5 c5 w5 hown5 hk5 hg5 hor5
          rw [List.nil_append] at hown5
          have bz5 := Lib.hid ((bz3.out.alloc (.cells #[] 22)).keep (Kp.of_grown (w := w3.alloc (.cells #[] 22)) (w' := w5) ⟨hg5.os, hg5.tape, hg5.output, hg5.size, hg5.block⟩) (fun q => own_off ho4 (bz3.out.alloc _) (by decide) q.symm))
          have br5 := Lib.hid ((br3.out.alloc (.cells #[] 22)).keep (Kp.of_grown (w := w3.alloc (.cells #[] 22)) (w' := w5) ⟨hg5.os, hg5.tape, hg5.output, hg5.size, hg5.block⟩) (fun q => own_off ho4 (br3.out.alloc _) (by decide) q.symm))
          have bo5 := Lib.hid ((bo3.out.alloc (.cells #[] 22)).keep (Kp.of_grown (w := w3.alloc (.cells #[] 22)) (w' := w5) ⟨hg5.os, hg5.tape, hg5.output, hg5.size, hg5.block⟩) (fun q => own_off ho4 (bo3.out.alloc _) (by decide) q.symm))
          have HK5 := Lib.hid hk5
          have HO5 := Lib.hid hown5
          clear hg5 hor5 hk5 hown5 ho4
          refine hK.out _ _ (show w5.cell? ⟨w.heap.size, 5, none⟩ = some (.slice z.L z.ln z.lc) from bz5.out.attr.2.2.2.2.2.1) (fun hHeld => ?_)
          clear hK K
          try simp only [Act.put, List.setIfInBounds_toArray, List.set_cons_zero, List.set_cons_succ]
          refine wpAnyH_ready (rs := [11]) (by kernel_rfl) (by simp) ?_
          refine AllReadyH.cons (o := ⟨some 47, _, _, _, _, _⟩) rfl (fun K hK => ?_) AllReadyH.nil
          rw [if_pos (by rfl)]
          refine wp_app (w := w5) (w0 := w) (S := NoB) HK5.out (.tmp 39) (.tmp 46) 24 rfl 22 i0 (.int .u32 0) 1 4 Tryd.underlying24 hi hz0 hz1 hz2 rfl (by decide) _ m (us fl) rfl HO5.out (z.L.map (fun x => x.add I)) G (z.lc - I) (us ck) rfl (by rw [us_len, HCL.out, Nat.mul_one]) (HCI.out w5 HK5.out) (us_one _) (by omega) (by decide) (m + G) rfl ?_
          intro A6 c6 w6 hown6 hk6 hg6 hor6
          have bz6 := Lib.hid (bz5.out.keep (Kp.of_grown hg6) (fun q => own_off HO5.out bz5.out (by decide) q.symm))
          have br6 := Lib.hid (br5.out.keep (Kp.of_grown hg6) (fun q => own_off HO5.out br5.out (by decide) q.symm))
          have bo6 := Lib.hid (bo5.out.keep (Kp.of_grown hg6) (fun q => own_off HO5.out bo5.out (by decide) q.symm))
          have HK6 := Lib.hid hk6
          have HO6 := Lib.hid hown6
          clear hg6 hor6 hk6 hown6
          refine hK.out _ _ (show w6.cell? ⟨w.heap.size, 5, none⟩ = some (.slice z.L z.ln z.lc) from bz6.out.attr.2.2.2.2.2.1) (fun hHeld => ?_)
          clear hK K
          try simp only [Act.put, List.setIfInBounds_toArray, List.set_cons_zero, List.set_cons_succ]
          refine wpAnyH_take (i := 12) (oi := ⟨some 48, _, _, _, _, _⟩) (v := ?_) rfl (by kernel_rfl) (by kernel_rfl) (by kernel_rfl) (fun _ _ _ h => h) (Or.inl ⟨by rfl, fun w hSw => ?_⟩) (by assumption) ?_
          rotate_left
          · (try dsimp only at hSw)
            go_simp
            try with_reducible rfl
          try simp only [Act.put, List.setIfInBounds_toArray, List.set_cons_zero, List.set_cons_succ]
          refine wpAnyH_ready (rs := [13]) (by kernel_rfl) (by simp) ?_
          refine AllReadyH.cons (o := ⟨none, _, _, _, _, _⟩) rfl (fun K hK => ?_) AllReadyH.nil
          have q1 : w6.cell? ⟨w2.heap.size, 5, none⟩ = some (.slice A m c) := bo6.out.attr.2.2.2.2.2.1
          have q2 := bo6.out.frozen 5
          go_simp
          have bz7 := bz6.out.far (p := ⟨w2.heap.size, 5, none⟩) (by simp; omega) (Value.slice A6 (m + G) c6)
          refine hK.out _ _ bz7.attr.2.2.2.2.2.1 (fun hHeld => ?_)
          clear hK K
          try simp only [Act.put, List.setIfInBounds_toArray, List.set_cons_zero, List.set_cons_succ]
          refine wpAnyH_done (by kernel_rfl) ?_ _
          show R _ _
          rw [HR0.out]
          exact ⟨A6, c6, HK6.out.setCell (p := ⟨w2.heap.size, 5, none⟩) (fun h => by simp at h; omega) _, bz7, br6.out.far (p := ⟨w2.heap.size, 5, none⟩) (by simp; omega) _, bo6.out.set 5 _, ((Kp.refl (OnB w2.heap.size) w6).setCell (p := ⟨w2.heap.size, 5, none⟩) (fun _ => rfl) _).own HO6.out (fun b e q => own_off HO6.out bo6.out (by decide) (by unfold OnB at q; rw [← q]; exact e)), _, _, _, _, _, _, _, _, _, _, _, _, _, _, _, _, _, _, _, _, _, _, _, rfl⟩
        -- END
      · go_wp2
        go_roundw
        case rel =>
          have hUU : uqL G xs (j + 1) = ul := by rw [HUS.out]; unfold uStep; rw [if_pos (of_decide_eq_true HBB.out)]
          exact ⟨j + 1, A, m, c, hlt, by rw [HQS.out]; go_num, Lib.hid (by rw [hUU, HFT.out]; exact HFM.out), hk3, bz3, br3, bo3, Lib.hid (by rw [hUU, HFT.out]; exact ho3.out)⟩
        case measure =>
          simp [intOf]
          omega
    · have hjN : j = N := by omega
      subst hjN
      rw [hNG]
      obtain ⟨y0, y1, y2, y3, y4, y5, y6, y7, y8⟩ := bo.out.attr
      unfold zU at y0 y1 y2 y3 y4 y5 y6 y7 y8
      simp only at y0 y1 y2 y3 y4 y5 y6 y7 y8
      go_wp2_with (refine wpList_store_row rfl 28 (.tmp 2) (.tmp 49) rfl (w.heap.size + 1) _ rfl rfl 28 _ br.out sizeAt rfl (by simp [Value.oneCell']) ?_)
      refine bodyPost_ret (results_cell_row (fn := Tryd.f15) rfl _ _ (w.heap.size + 1) 28 _ (0, 0) _ rfl (setRow_heap _ _ _ _ _ _ br.out) Tryd.underlying28 rfl (by kernel_rfl)) rfl ⟨A, c, ?_, ?_, hk.out.new (kp_setRow _ _ _) (by omega)⟩
      · rw [HM.out]
        rfl
      · rw [HM.out]
        exact (kp_setRow _ _ _).own ho.out (fun b e q => own_off ho.out br.out (by decide) (by unfold OnB at q; rw [← q]; exact e))

end Go.Proofs.YtkhonebedoemoaaDoor
