/- Package community: Text. No condition but the bounds that arguments have and the table of powers of ten. -/
import Derived.Test.YtkhonebedoemoaaDoorComM
import Derived.Test.YtkhonebedoemoaaDoorHeldR
namespace Go.Proofs.YtkhonebedoemoaaDoor
open Go.RowKit Go.Shelf
set_option linter.unusedVariables false
set_option linter.unusedSimpArgs false
attribute [local go_sem] Oper.semAt_some

/-- The texts of the first j groups. -/
def textsC (k : Int) (g : Nat) (xs : List Int) (j : Nat) : List (List UInt8) := (List.range j).map (fun q => gtextC k (chunkN g xs q))
theorem textsC_succ (k : Int) (g : Nat) (xs : List Int) (j : Nat) : textsC k g xs (j + 1) = textsC k g xs j ++ [gtextC k (chunkN g xs j)] := by simp [textsC, List.range_succ]
/-- The name of a type, as bytes. -/
def nameL (k : Int) : List UInt8 := (nameC k).data.toList
theorem name_short (k : Int) : (nameL k).length ≤ 200 := by
  unfold nameL nameC
  (repeat' split) <;> decide
theorem numG_le (z : AtI) : numG z ≤ z.ln := by
  unfold numG
  split
  · exact Nat.div_le_self _ _
  · exact Nat.zero_le _
theorem ba_name (k : Int) : ba (nameL k) = nameC k := rfl
/-- The text of an attribute. -/
def textC (z : AtI) (xs : List Int) : List UInt8 := if validC z = true then Lib.join (nameL z.t :: textsC z.t (grp z.t) xs (numG z)) [32] else []

/-- A row of strings in a box of the caller's; the row's block is r0, or was made from E on. -/
def OutS (n0 rB r0 E : Nat) (ls : List (List UInt8)) (W : World) : Prop :=
  ∃ A c, Bk W rB 61 #[.slice A ls.length c] ∧ W.ownsRow n0 9 1 (.slice A ls.length c) ls.length (ls.map strV) ∧ ∀ b, (Value.slice A ls.length c).ownBlock = some b → b = r0 ∨ E ≤ b
theorem row_kept {W W' : World} {row : Option Nat} {n0 n size : Nat} {e : TypeId} {v : Value} {xs : List Value} (h : W.ownsRow n0 e size v n xs) (hg : W.grownBy W' row) (hr : ∀ r, row = some r → ∃ o : Obj, W.heap[r]? = some o ∧ o.isCells = false) : W'.ownsRow n0 e size v n xs := by
  refine h.kept hg ?_
  rcases h.2 with ⟨rfl, _⟩ | ⟨g, cap, cur, rfl, _, hh, _⟩
  · exact .inl rfl
  · refine .inr (fun e => ?_)
    obtain ⟨o, h1, h2⟩ := hr g e.symm
    rw [hh] at h1
    cases h1
    cases h2
theorem OutS.and {n0 rB r0 E : Nat} {ls : List (List UInt8)} {W W' : World} (h : OutS n0 rB r0 E ls W) (k : Kp NoB W W') : OutS n0 rB r0 E ls W' := by
  obtain ⟨A, c, h1, h2, h3⟩ := h
  exact ⟨A, c, h1.and k, k.own h2 (fun _ _ q => q), h3⟩
theorem outS_own {β : Type} (B n0 rB r0 E : Nat) (f : β → List (List UInt8)) : OwnFrom B (fun s W => OutS n0 rB r0 E (f s) W) := fun s X Y row ⟨A, c, h1, h2, h3⟩ hg hr =>
  ⟨A, c, bk_kept h1 hg (fun r e => (hr r e).2), row_kept h2 hg (fun r e => (hr r e).2), h3⟩
theorem outS_put {n0 rB r0 E n : Nat} {W w3 : World} {ls : List Value} {o : Obj} {A A' : Option Addr} {c c' : Nat} {x : Value} (hE : E ≤ W.heap.size) (h : Bk W rB 61 #[.slice A n c]) (hr : W.ownsRow n0 9 1 (.slice A n c) n ls) (h0 : ∀ b, (Value.slice A n c).ownBlock = some b → b = r0 ∨ E ≤ b)
    (hown : w3.ownsRow n0 9 1 (.slice A' (n + 1) c') (n + 1) (ls ++ [x])) (hg : (W.alloc o).grownBy w3 (Value.slice A n c).ownBlock) (hat : (Value.slice A' (n + 1) c').ownBlock = (Value.slice A n c).ownBlock ∨ (Value.slice A' (n + 1) c').ownBlock = some (W.alloc o).heap.size) :
    Bk w3 rB 61 #[.slice A n c] ∧ Kp (fun b => b = r0 ∨ E ≤ b) W w3 ∧ ∀ b, (Value.slice A' (n + 1) c').ownBlock = some b → b = r0 ∨ E ≤ b := by
  have ha : Kp NoB W (W.alloc o) := (Kp.refl _ _).alloc o
  refine ⟨(h.and ha).keep (Kp.of_grown hg) (fun q => own_off hr h (by decide) q.symm), (ha.wide _).grown hg (fun b e => .inr (h0 b e)), fun b hb => ?_⟩
  rcases hat with q | q
  · exact h0 b (by rw [← q]; exact hb)
  · rw [q] at hb
    injection hb with hb
    subst hb
    simp
    omega

theorem mkS {W : World} {a b : Nat} {t t' : TypeId} {z : AtI} {g0 g1 g2 : Int} {gk : Nat} (hz : Bk W a t z.cs) (hb : Bk W b t' #[.int .u32 g0, .int .u32 g1, .int .u32 g2, .int .i64 gk]) :
    W.cell? ⟨a, 0, none⟩ = some (.int .i64 z.t) ∧ W.cell? ⟨b, 0, none⟩ = some (.int .u32 g0) ∧ W.cell? ⟨b, 1, none⟩ = some (.int .u32 g1) ∧ W.cell? ⟨b, 2, none⟩ = some (.int .u32 g2) ∧ W.cell? ⟨b, 3, none⟩ = some (.int .i64 gk) :=
  ⟨hz.attr.1, hb.cell 0, hb.cell 1, hb.cell 2, hb.cell 3⟩

set_option maxRecDepth 100000 in
set_option maxHeartbeats 8000000 in
theorem ctext_bad (z : AtI) (ok : z.Ok) (w : World) (hv : validC z = false) : Calls Tryd.prog 22 #[z.val] w (Stay (.string ⟨#[]⟩) w) := by
  have HV := Lib.hid (fun W => valid_any z ok W)
  rw [hv] at HV
  have hb := (Bk.fresh w 28 z.cs).attr
  clear hv
  obtain ⟨x0, x1, x2, x3, x4, x5, x6, x7, x8⟩ := hb
  unfold AtI.val AtI.cs at *
  refine (callsIn_wide (n := 4)).1 ?_
  refine callsIn_of_wp_marks Tryd.func22 rfl trivial ?_ rfl
  simp only [Tryd.ntmps22, List.size_toArray, List.length_cons, List.length_nil, Nat.reduceAdd, Nat.reduceSub, Array.replicate_succ, Array.replicate_zero, List.push_toArray, List.append_toArray, List.nil_append, List.cons_append]
  gi_wp2_with (refine ⟨trivial, ?_⟩; gi_at_call 19; refine (callsIn_wide.2 (HV.out _)).mono ?_; rintro e w' ⟨rfl, hK⟩; have hk := ((Kp.refl NoB w).alloc _).and hK; clear hK)
  exact ⟨_, results_tmp rfl _ _ _, rfl, hk⟩

set_option maxRecDepth 100000 in
set_option maxHeartbeats 8000000 in
theorem ctext_good (z : AtI) (ok : z.Ok) (xs : List Int) (w : World) (hx : InUs w z.L z.ln z.lc xs) (hl : z.ln ≤ 1000) (ht : Tb w) (hv : validC z = true) :
    Calls Tryd.prog 22 #[z.val] w (Stay (.string (ba (Lib.join (nameL z.t :: textsC z.t (grp z.t) xs (numG z)) [32]))) w) := by
  obtain ⟨i0, hi, hz0, hz1, hz2⟩ := info_parts infoStr
  have HV := Lib.hid (fun W => valid_any z ok W)
  rw [hv] at HV
  have hv' := hv
  unfold validC at hv'
  simp only [Bool.and_eq_true, decide_eq_true_eq] at hv'
  obtain ⟨⟨⟨hg0, hn0⟩, hmod⟩, -⟩ := hv'
  have HGS := Lib.hid (fun W => groups_any z W)
  have HNA := Lib.hid (fun W => cname_any z.t (grp_pos hg0) W)
  have HR := Lib.hid (fun (w1 : World) (k : Kp NoB w w1) Ba hBa S q1 q2 q3 => groups1_rounds z ok xs w1 (hx.and k) (by omega) Ba hBa S q1 q2 q3)
  have HD := Lib.hid (fun ad (e : z.L = some ad) => hx.2.2.2.1.lt (by intro h; have := congrArg List.length h; simp [us, hx.1] at this; omega) ad e)
  have HGT := Lib.hid (fun j (hj : j < numG z) W (k : Kp NoB w W) => gtext_any z.t (chunkN (grp z.t) xs j) (fun x hx' => hx.2.2.2.2 x (List.mem_of_mem_drop (List.mem_of_mem_take hx'))) hg0 (chunk_len (by rw [hx.1]; exact (numG_pos hj).2.2.2)) W (ht.and k))
  have HJ := Lib.hid (fun W A c h => join_any w.heap.size c A (nameL z.t :: textsC z.t (grp z.t) xs (numG z)) 32 W h (by simp only [textsC, List.length_cons, List.length_map, List.length_range]; have := numG_le z; omega) (by
    have := join_len 32 200 (nameL z.t :: textsC z.t (grp z.t) xs (numG z)) (fun y hy => by
      rcases List.mem_cons.1 hy with rfl | hy
      · exact name_short z.t
      · obtain ⟨q, hq, rfl⟩ := List.mem_map.1 hy
        exact gtext_short z.t _ (fun x hx' => hx.2.2.2.2 x (List.mem_of_mem_drop (List.mem_of_mem_take hx'))) (by rw [chunk_len (by rw [hx.1]; exact (numG_pos (List.mem_range.1 hq)).2.2.2)]; unfold grp; (repeat' split) <;> omega))
    have h2 : (nameL z.t :: textsC z.t (grp z.t) xs (numG z)).length ≤ 1001 := by simp only [textsC, List.length_cons, List.length_map, List.length_range]; have := numG_le z; omega
    have h3 := Nat.mul_le_mul_right (200 + 1) h2
    omega))
  obtain ⟨R, hR⟩ : ∃ R, ba (Lib.join (nameL z.t :: textsC z.t (grp z.t) xs (numG z)) [32]) = R := ⟨_, rfl⟩
  rw [hR] at HJ ⊢
  obtain ⟨N, hN⟩ : ∃ N, numG z = N := ⟨_, rfl⟩
  rw [hN] at HR HGT HJ
  have HLN : Hid (N ≤ 1000) := Lib.hid (by rw [← hN]; unfold numG; rw [if_pos hv]; exact Nat.le_trans (Nat.div_le_self _ _) hl)
  clear hR hN hv hmod ht hx
  have HZ := Lib.hid (Bk.fresh w 28 z.cs)
  obtain ⟨x0, x1, x2, x3, x4, x5, x6, x7, x8⟩ := HZ.out.attr
  unfold AtI.val at HV HGS ⊢
  unfold AtI.cs at HV HGS ⊢
  refine (callsIn_wide (n := 4)).1 ?_
  refine callsIn_of_wp_marks Tryd.func22 rfl trivial ?_ rfl
  simp only [Tryd.ntmps22, List.size_toArray, List.length_cons, List.length_nil, Nat.reduceAdd, Nat.reduceSub, Array.replicate_succ, Array.replicate_zero, List.push_toArray, List.append_toArray, List.nil_append, List.cons_append]
  gi_wp2_with (first
    | (refine ⟨trivial, ?_⟩; gi_at_call 19; refine (callsIn_wide.2 (HV.out _)).mono ?_; rintro e w1 ⟨rfl, hK⟩; have bz1 := HZ.out.and hK; clear x0 x1 x2 x3 x4 x5 x6 x7 x8; obtain ⟨x0, x1, x2, x3, x4, x5, x6, x7, x8⟩ := bz1.attr; have hk1 := Lib.hid (((Kp.refl NoB w).alloc (.cells z.cs 28)).and hK); replace bz1 := Lib.hid bz1; clear hK)
    | (refine ⟨trivial, ?_⟩; gi_at_call 37; refine (callsIn_wide.2 (HNA.out _)).mono ?_; rintro e w2 ⟨rfl, hK⟩; have hk2 := Lib.hid (hk1.out.and hK); have bz2 := bz1.out.and hK; clear x0 x1 x2 x3 x4 x5 x6 x7 x8; have ho2 := Lib.hid (own_lit w2 w.heap.size 9 [.string (nameC z.t)] hk2.out.size (by simp [maxLen])); obtain ⟨x0, x1, x2, x3, x4, x5, x6, x7, x8⟩ := ((bz2.alloc (.cells #[.string (nameC z.t)] 9)).alloc (.cells #[.slice (some ⟨w2.heap.size, 0, none⟩) 1 1] 61)).attr; replace bz2 := Lib.hid bz2; clear hK)
    | (refine ⟨trivial, ?_⟩; gi_at_call 31; refine (callsIn_wide.2 (HGS.out _)).mono ?_; rintro e w3 ⟨rfl, hBg, hK⟩; have hk3 := Lib.hid (((hk2.out.alloc _).alloc _).and hK); have hs3 := hK.size; have hz3 := Lib.hid (((bz2.out.alloc _).alloc _).and hK); have hr3 : Hid (Bk w3 (w2.heap.size + 1) 61 #[.slice (some ⟨w2.heap.size, 0, none⟩) 1 1]) := Lib.hid ((Bk.second w2 _ _ _).and hK); have ho3 : Hid (w3.ownsRow w.heap.size 9 1 (.slice (some ⟨w2.heap.size, 0, none⟩) 1 1) 1 [strV (nameL z.t)]) := Lib.hid (hK.own (((Kp.refl NoB _).alloc _).own ho2.out (fun _ _ q => q)) (fun _ _ q => q)); simp only [World.size_alloc] at hs3 hBg; replace hBg := Lib.hid hBg; have hs2 := hk2.out.size; clear hK x0 x1 x2 x3 x4 x5 x6 x7 x8))
  refine wp_rounds (gf := 46) (lb := #[.pointer (some ⟨w2.heap.size + 1 + 1, 0, none⟩)]) (S0 := fun b => b = w2.heap.size + 1 ∨ b = w2.heap.size) rfl (enters_of Tryd.func46 (by kernel_rfl) rfl)
    (HR.out w3 hk3.out (w2.heap.size + 1 + 1) hBg.out _ (fun b q => by rcases q with q | q <;> omega) (fun q => by rcases q with q | q <;> omega) (fun ad e _ q => by have := HD.out ad e; rcases q with q | q <;> omega)) (fun _ => rfl) (fun b q => by rcases q with q | q <;> omega)
    (fun E j W => OutS w.heap.size (w2.heap.size + 1) w2.heap.size E (nameL z.t :: textsC z.t (grp z.t) xs j) W ∧ (Bk W w.heap.size 28 z.cs ∧ Kp NoB w W))
    (fun c j W => False)
    (fun E => OwnFrom.and (outS_own _ _ _ _ _ _) (OwnFrom.and (bk_own _ _ _ _) (kp_own (by omega))))
    (fun c s X Y row h _ _ => h)
    (fun E => ⟨⟨_, _, hr3.out, ho3.out, fun b e => .inl (by injection e with e; exact e.symm)⟩, hz3.out, hk3.out⟩)
    (fun E j a' W => ∃ Bx, w3.heap.size < Bx ∧ Bk W Bx 50 (gcs (chunkN (grp z.t) xs j)) ∧ ∃ u0 u5 u6 u7 u8 u9 u10 u11 u12 u13 u14, a' = { tmps := #[u0, .pointer (some ⟨w.heap.size, 0, none⟩), .string ⟨#[]⟩, .pointer (some ⟨w2.heap.size + 1, 0, none⟩), .pointer (some ⟨Bx, 0, none⟩), u5, u6, u7, u8, u9, u10, u11, u12, u13, u14, undef, undef, undef, undef, undef, undef, undef, undef, undef], defers := [] })
    (fun E j a' s X Y row h hg hr => by
      obtain ⟨Bx, h1, h2, h3⟩ := h
      exact ⟨Bx, h1, bk_kept h2 hg (fun r e => (hr r e).2), h3⟩) ?assign ?body ?done ?stop
  case assign =>
    intro E l2 j W2 K hE hEW hj hI hK
    have HK := Lib.hid hK
    have HI := Lib.hid hI
    rw [grpV_eq]
    obtain ⟨g0, g1, g2, gk, hg, -⟩ := gcs_ex (chunkN (grp z.t) xs j)
    rw [hg] at HK ⊢
    clear hK hI hg
    gi_wp2
    have ha : Kp NoB W2 (W2.alloc (.cells #[.int .u32 g0, .int .u32 g1, .int .u32 g2, .int .i64 gk] 50)) := (Kp.refl NoB W2).alloc _
    obtain ⟨i1, i2, i3⟩ := HI.out
    exact HK.out _ _ (ha.wide _) ⟨i1.and ha, i2.and ha, i3.and ha⟩ ⟨W2.heap.size, by omega, Bk.fresh _ _ _, _, _, _, _, _, _, _, _, _, _, _, rfl⟩
  case body =>
    rintro E l2 j a' W2 hE hEW hj ⟨⟨A, c, i1, i2, i3⟩, i4, i5⟩ ⟨Bx, hBx, hbx, u0, u5, u6, u7, u8, u9, u10, u11, u12, u13, u14, rfl⟩
    have HT := Lib.hid (fun W k => HGT.out j hj W k)
    obtain ⟨T, hT⟩ : ∃ T, gtextC z.t (chunkN (grp z.t) xs j) = T := ⟨_, rfl⟩
    rw [hT, grpV_eq] at HT
    obtain ⟨g0, g1, g2, gk, hg, -⟩ := gcs_ex (chunkN (grp z.t) xs j)
    rw [hg] at hbx HT
    obtain ⟨n, hn⟩ : ∃ n, (nameL z.t :: textsC z.t (grp z.t) xs j).length = n := ⟨_, rfl⟩
    rw [hn] at i1 i2 i3
    obtain ⟨x0, x1, x2, x3, x4, x5, x6, x7, x8⟩ := i4.attr
    obtain ⟨r0, r1, r2⟩ := i1.one
    have y0 := hbx.cell 0
    have y1 := hbx.cell 1
    have y2 := hbx.cell 2
    have y3 := hbx.cell 3
    simp only [List.getElem?_toArray, List.getElem?_cons_zero, List.getElem?_cons_succ] at y0 y1 y2 y3
    have I1 := Lib.hid i1
    have I2 := Lib.hid i2
    have I3 := Lib.hid i3
    have I4 := Lib.hid i4
    have I5 := Lib.hid i5
    have HBX := Lib.hid hbx
    have HN := Lib.hid hn
    have HNS : Hid ((nameL z.t :: textsC z.t (grp z.t) xs (j + 1)).length = n + 1) := Lib.hid (by rw [← hn, textsC_succ]; simp)
    have HLS : Hid ((nameL z.t :: textsC z.t (grp z.t) xs (j + 1)).map strV = (nameL z.t :: textsC z.t (grp z.t) xs j).map strV ++ [.string (ba T)]) := Lib.hid (by rw [textsC_succ, hT]; simp [strV])
    have HNL : Hid (n ≤ 1001) := Lib.hid (by rw [← hn]; simp only [textsC, List.length_cons, List.length_map, List.length_range]; have := HLN.out; omega)
    clear hg i1 i2 i3 i4 i5 hn hT hbx HV HGS HNA HR HD HGT HJ HZ
    refine wpIn_block ?_
    obtain ⟨R, hR0⟩ : ∃ R : Act → World → Prop, R = fun a' W' => Kp (OutE (fun b => b = w2.heap.size + 1 ∨ b = w2.heap.size) E) W2 W' ∧ OutS w.heap.size (w2.heap.size + 1) w2.heap.size E (nameL z.t :: textsC z.t (grp z.t) xs (j + 1)) W' ∧ (Bk W' w.heap.size 28 z.cs ∧ Kp NoB w W') := ⟨_, rfl⟩
    refine wp_neat R ?_ (fun a' W' h => by rw [hR0] at h; exact h)
    have HR0 := Lib.hid hR0
    clear hR0
    -- REGION
    refine held_round (S := fun W => W.cell? ⟨w.heap.size, 0, none⟩ = some (.int .i64 z.t) ∧ W.cell? ⟨Bx, 0, none⟩ = some (.int .u32 g0) ∧ W.cell? ⟨Bx, 1, none⟩ = some (.int .u32 g1) ∧ W.cell? ⟨Bx, 2, none⟩ = some (.int .u32 g2) ∧ W.cell? ⟨Bx, 3, none⟩ = some (.int .i64 gk)) (by kernel_rfl) (by kernel_rfl) (mkS (W := W2.drew) I4.out HBX.out) (fun hHeld => ?_)
    refine wpAnyH_take (i := 1) (oi := ⟨some 16, _, _, _, _, _⟩) (v := ?_) rfl (by kernel_rfl) (by kernel_rfl) (by kernel_rfl) (fun _ _ _ h => h) (Or.inl ⟨by rfl, fun w hSw => ?_⟩) (by assumption) ?_
    rotate_left
    · (try dsimp only at hSw)
      go_simp
      try with_reducible rfl
    try simp only [Act.put, List.setIfInBounds_toArray, List.set_cons_zero, List.set_cons_succ]
    refine wpAnyH_take (i := 2) (oi := ⟨some 17, _, _, _, _, _⟩) (v := ?_) rfl (by kernel_rfl) (by kernel_rfl) (by kernel_rfl) (fun _ _ _ h => h) (Or.inl ⟨by rfl, fun w hSw => ?_⟩) (by assumption) ?_
    rotate_left
    · (try dsimp only at hSw)
      go_simp
      try with_reducible rfl
    try simp only [Act.put, List.setIfInBounds_toArray, List.set_cons_zero, List.set_cons_succ]
    refine wpAnyH_take (i := 3) (oi := ⟨some 18, _, _, _, _, _⟩) (v := ?_) rfl (by kernel_rfl) (by kernel_rfl) (by kernel_rfl) (fun _ _ _ h => h) (Or.inl ⟨by rfl, fun w hSw => ?_⟩) (by assumption) ?_
    rotate_left
    · (try dsimp only at hSw)
      go_simp
      try with_reducible rfl
    try simp only [Act.put, List.setIfInBounds_toArray, List.set_cons_zero, List.set_cons_succ]
    refine wpAnyH_ready (rs := [0, 4]) (by kernel_rfl) (by simp) ?_
    refine AllReadyH.cons (o := ⟨some 15, _, _, _, _, _⟩) rfl (fun K hK => ?_) (AllReadyH.cons (o := ⟨some 19, _, _, _, _, _⟩) rfl (fun K hK => ?_) AllReadyH.nil)
    · go_simp
      refine hK.out _ _ (mkS (W := W2.drew) I4.out HBX.out) (fun hHeld => ?_)
      clear hK K
      try simp only [Act.put, List.setIfInBounds_toArray, List.set_cons_zero, List.set_cons_succ]
      refine wpAnyH_ready (rs := [4]) (by kernel_rfl) (by simp) ?_
      refine AllReadyH.cons (o := ⟨some 19, _, _, _, _, _⟩) rfl (fun K hK => ?_) AllReadyH.nil
      go_simp
      (with_reducible refine Calls.mono (HT.out W2.drew I5.out.drew) ?_)
      rintro e w4 ⟨rfl, hK4⟩
      have hk4 := Lib.hid ((Kp.refl NoB W2).drew.and hK4)
      clear r0 r1 r2
      obtain ⟨r0, r1, r2⟩ := (I1.out.and hk4.out).one
      clear hK4
      refine hK.out _ _ (mkS (I4.out.and hk4.out) (HBX.out.and hk4.out)) (fun hHeld => ?_)
      clear hK K
      try simp only [Act.put, List.setIfInBounds_toArray, List.set_cons_zero, List.set_cons_succ]
      refine wpAnyH_ready (rs := [5]) (by kernel_rfl) (by simp) ?_
      refine AllReadyH.cons (o := ⟨some 20, _, _, _, _, _⟩) rfl (fun K hK => ?_) AllReadyH.nil
      go_simp
      clear r0 r1 r2
      obtain ⟨r0, r1, r2⟩ := ((I1.out.and hk4.out).alloc (.cells #[.string (ba T)] 9)).one
      refine hK.out _ _ (mkS ((I4.out.and hk4.out).alloc (.cells #[.string (ba T)] 9)) ((HBX.out.and hk4.out).alloc (.cells #[.string (ba T)] 9))) (fun hHeld => ?_)
      clear hK K
      try simp only [Act.put, List.setIfInBounds_toArray, List.set_cons_zero, List.set_cons_succ]
      refine wpAnyH_ready (rs := [6]) (by kernel_rfl) (by simp) ?_
      refine AllReadyH.cons (o := ⟨some 21, _, _, _, _, _⟩) rfl (fun K hK => ?_) AllReadyH.nil
      rw [if_pos (by rfl)]
      refine wp_app (w0 := w) (S := NoB) ((I5.out.and hk4.out).alloc (.cells #[.string (ba T)] 9)) (.tmp 15) (.tmp 20) 61 rfl 9 i0 (.string ⟨#[]⟩) 1 16 Tryd.underlying61 hi hz0 hz1 hz2 rfl (by decide) _ _ _ rfl (((Kp.refl NoB _).alloc _).own (hk4.out.own I2.out (fun _ _ q => q)) (fun _ _ q => q)) _ 1 1 [.string (ba T)] rfl rfl (Arr.lit _ _ _) (by simp [Value.oneCell']) (by have := HNL.out; omega) (by decide) (n + 1) rfl ?_
      intro A6 c6 w6 hown6 hk6 hg6 hor6
      have hp6 := outS_put (Nat.le_trans hEW hk4.out.size) (I1.out.and hk4.out) (hk4.out.own I2.out (fun _ _ q => q)) I3.out hown6 hg6 hor6
      have hz6 := Lib.hid (((I4.out.and hk4.out).alloc (.cells #[.string (ba T)] 9)).keep (Kp.of_grown hg6) (fun q => own_off (hk4.out.own I2.out (fun _ _ q => q)) (I4.out.and hk4.out) (by decide) q.symm))
      have hb6 := Lib.hid (((HBX.out.and hk4.out).alloc (.cells #[.string (ba T)] 9)).keep (Kp.of_grown hg6) (fun q => own_off (hk4.out.own I2.out (fun _ _ q => q)) (HBX.out.and hk4.out) (by decide) q.symm))
      have hs6 := Nat.le_trans hEW (Nat.le_trans hk4.out.size hp6.2.1.size)
      clear r0 r1 r2
      obtain ⟨r0, r1, r2⟩ := hp6.1.one
      have HP6 := Lib.hid hp6
      have HK6 := Lib.hid hk6
      have HO6 := Lib.hid hown6
      clear hp6 hg6 hor6 hk6 hown6
      refine hK.out _ _ (mkS hz6.out hb6.out) (fun hHeld => ?_)
      clear hK K
      try simp only [Act.put, List.setIfInBounds_toArray, List.set_cons_zero, List.set_cons_succ]
      refine wpAnyH_ready (rs := [7]) (by kernel_rfl) (by simp) ?_
      refine AllReadyH.cons (o := ⟨none, _, _, _, _, _⟩) rfl (fun K hK => ?_) AllReadyH.nil
      go_simp
      refine hK.out _ _ (mkS (hz6.out.far (p := ⟨w2.heap.size + 1, 0, none⟩) (by simp; omega) _) (hb6.out.far (p := ⟨w2.heap.size + 1, 0, none⟩) (by simp; omega) _)) (fun hHeld => ?_)
      clear hK K
      try simp only [Act.put, List.setIfInBounds_toArray, List.set_cons_zero, List.set_cons_succ]
      refine wpAnyH_done (by kernel_rfl) ?_ _
      show R _ _
      rw [HR0.out]
      refine ⟨?_, ⟨A6, c6, ?_, ?_, ?_⟩, hz6.out.far (p := ⟨w2.heap.size + 1, 0, none⟩) (by simp; omega) _, HK6.out.setCell (p := ⟨w2.heap.size + 1, 0, none⟩) (fun h => by simp at h; omega) _⟩
      · refine (((hk4.out.wide _).same (HP6.out.2.1.mono (fun b _ h => ?_)))).setCell (p := ⟨w2.heap.size + 1, 0, none⟩) (fun _ => .inl (.inl rfl)) _
        rcases h with h | h
        · exact .inl (.inr h)
        · exact .inr h
      · rw [HNS.out]
        exact HP6.out.1.set 0 _
      · rw [HNS.out, HLS.out]
        exact ((Kp.refl (OnB (w2.heap.size + 1)) w6).setCell (p := ⟨w2.heap.size + 1, 0, none⟩) (fun _ => rfl) _).own HO6.out (fun b e q => own_off HO6.out HP6.out.1 (by decide) (by unfold OnB at q; rw [← q]; exact e))
      · rw [HNS.out]
        exact HP6.out.2.2
    · go_simp
      (with_reducible refine Calls.mono (HT.out W2.drew I5.out.drew) ?_)
      rintro e w4 ⟨rfl, hK4⟩
      have hk4 := Lib.hid ((Kp.refl NoB W2).drew.and hK4)
      clear r0 r1 r2
      obtain ⟨r0, r1, r2⟩ := (I1.out.and hk4.out).one
      clear hK4
      refine hK.out _ _ (mkS (I4.out.and hk4.out) (HBX.out.and hk4.out)) (fun hHeld => ?_)
      clear hK K
      try simp only [Act.put, List.setIfInBounds_toArray, List.set_cons_zero, List.set_cons_succ]
      refine wpAnyH_ready (rs := [0, 5]) (by kernel_rfl) (by simp) ?_
      refine AllReadyH.cons (o := ⟨some 15, _, _, _, _, _⟩) rfl (fun K hK => ?_) (AllReadyH.cons (o := ⟨some 20, _, _, _, _, _⟩) rfl (fun K hK => ?_) AllReadyH.nil)
      · go_simp
        refine hK.out _ _ (mkS (I4.out.and hk4.out) (HBX.out.and hk4.out)) (fun hHeld => ?_)
        clear hK K
        try simp only [Act.put, List.setIfInBounds_toArray, List.set_cons_zero, List.set_cons_succ]
        refine wpAnyH_ready (rs := [5]) (by kernel_rfl) (by simp) ?_
        refine AllReadyH.cons (o := ⟨some 20, _, _, _, _, _⟩) rfl (fun K hK => ?_) AllReadyH.nil
        go_simp
        clear r0 r1 r2
        obtain ⟨r0, r1, r2⟩ := ((I1.out.and hk4.out).alloc (.cells #[.string (ba T)] 9)).one
        refine hK.out _ _ (mkS ((I4.out.and hk4.out).alloc (.cells #[.string (ba T)] 9)) ((HBX.out.and hk4.out).alloc (.cells #[.string (ba T)] 9))) (fun hHeld => ?_)
        clear hK K
        try simp only [Act.put, List.setIfInBounds_toArray, List.set_cons_zero, List.set_cons_succ]
        refine wpAnyH_ready (rs := [6]) (by kernel_rfl) (by simp) ?_
        refine AllReadyH.cons (o := ⟨some 21, _, _, _, _, _⟩) rfl (fun K hK => ?_) AllReadyH.nil
        rw [if_pos (by rfl)]
        refine wp_app (w0 := w) (S := NoB) ((I5.out.and hk4.out).alloc (.cells #[.string (ba T)] 9)) (.tmp 15) (.tmp 20) 61 rfl 9 i0 (.string ⟨#[]⟩) 1 16 Tryd.underlying61 hi hz0 hz1 hz2 rfl (by decide) _ _ _ rfl (((Kp.refl NoB _).alloc _).own (hk4.out.own I2.out (fun _ _ q => q)) (fun _ _ q => q)) _ 1 1 [.string (ba T)] rfl rfl (Arr.lit _ _ _) (by simp [Value.oneCell']) (by have := HNL.out; omega) (by decide) (n + 1) rfl ?_
        intro A6 c6 w6 hown6 hk6 hg6 hor6
        have hp6 := outS_put (Nat.le_trans hEW hk4.out.size) (I1.out.and hk4.out) (hk4.out.own I2.out (fun _ _ q => q)) I3.out hown6 hg6 hor6
        have hz6 := Lib.hid (((I4.out.and hk4.out).alloc (.cells #[.string (ba T)] 9)).keep (Kp.of_grown hg6) (fun q => own_off (hk4.out.own I2.out (fun _ _ q => q)) (I4.out.and hk4.out) (by decide) q.symm))
        have hb6 := Lib.hid (((HBX.out.and hk4.out).alloc (.cells #[.string (ba T)] 9)).keep (Kp.of_grown hg6) (fun q => own_off (hk4.out.own I2.out (fun _ _ q => q)) (HBX.out.and hk4.out) (by decide) q.symm))
        have hs6 := Nat.le_trans hEW (Nat.le_trans hk4.out.size hp6.2.1.size)
        clear r0 r1 r2
        obtain ⟨r0, r1, r2⟩ := hp6.1.one
        have HP6 := Lib.hid hp6
        have HK6 := Lib.hid hk6
        have HO6 := Lib.hid hown6
        clear hp6 hg6 hor6 hk6 hown6
        refine hK.out _ _ (mkS hz6.out hb6.out) (fun hHeld => ?_)
        clear hK K
        try simp only [Act.put, List.setIfInBounds_toArray, List.set_cons_zero, List.set_cons_succ]
        refine wpAnyH_ready (rs := [7]) (by kernel_rfl) (by simp) ?_
        refine AllReadyH.cons (o := ⟨none, _, _, _, _, _⟩) rfl (fun K hK => ?_) AllReadyH.nil
        go_simp
        refine hK.out _ _ (mkS (hz6.out.far (p := ⟨w2.heap.size + 1, 0, none⟩) (by simp; omega) _) (hb6.out.far (p := ⟨w2.heap.size + 1, 0, none⟩) (by simp; omega) _)) (fun hHeld => ?_)
        clear hK K
        try simp only [Act.put, List.setIfInBounds_toArray, List.set_cons_zero, List.set_cons_succ]
        refine wpAnyH_done (by kernel_rfl) ?_ _
        show R _ _
        rw [HR0.out]
        refine ⟨?_, ⟨A6, c6, ?_, ?_, ?_⟩, hz6.out.far (p := ⟨w2.heap.size + 1, 0, none⟩) (by simp; omega) _, HK6.out.setCell (p := ⟨w2.heap.size + 1, 0, none⟩) (fun h => by simp at h; omega) _⟩
        · refine (((hk4.out.wide _).same (HP6.out.2.1.mono (fun b _ h => ?_)))).setCell (p := ⟨w2.heap.size + 1, 0, none⟩) (fun _ => .inl (.inl rfl)) _
          rcases h with h | h
          · exact .inl (.inr h)
          · exact .inr h
        · rw [HNS.out]
          exact HP6.out.1.set 0 _
        · rw [HNS.out, HLS.out]
          exact ((Kp.refl (OnB (w2.heap.size + 1)) w6).setCell (p := ⟨w2.heap.size + 1, 0, none⟩) (fun _ => rfl) _).own HO6.out (fun b e q => own_off HO6.out HP6.out.1 (by decide) (by unfold OnB at q; rw [← q]; exact e))
        · rw [HNS.out]
          exact HP6.out.2.2
      · go_simp
        clear r0 r1 r2
        obtain ⟨r0, r1, r2⟩ := ((I1.out.and hk4.out).alloc (.cells #[.string (ba T)] 9)).one
        refine hK.out _ _ (mkS ((I4.out.and hk4.out).alloc (.cells #[.string (ba T)] 9)) ((HBX.out.and hk4.out).alloc (.cells #[.string (ba T)] 9))) (fun hHeld => ?_)
        clear hK K
        try simp only [Act.put, List.setIfInBounds_toArray, List.set_cons_zero, List.set_cons_succ]
        refine wpAnyH_ready (rs := [0]) (by kernel_rfl) (by simp) ?_
        refine AllReadyH.cons (o := ⟨some 15, _, _, _, _, _⟩) rfl (fun K hK => ?_) AllReadyH.nil
        go_simp
        refine hK.out _ _ (mkS ((I4.out.and hk4.out).alloc (.cells #[.string (ba T)] 9)) ((HBX.out.and hk4.out).alloc (.cells #[.string (ba T)] 9))) (fun hHeld => ?_)
        clear hK K
        try simp only [Act.put, List.setIfInBounds_toArray, List.set_cons_zero, List.set_cons_succ]
        refine wpAnyH_ready (rs := [6]) (by kernel_rfl) (by simp) ?_
        refine AllReadyH.cons (o := ⟨some 21, _, _, _, _, _⟩) rfl (fun K hK => ?_) AllReadyH.nil
        rw [if_pos (by rfl)]
        refine wp_app (w0 := w) (S := NoB) ((I5.out.and hk4.out).alloc (.cells #[.string (ba T)] 9)) (.tmp 15) (.tmp 20) 61 rfl 9 i0 (.string ⟨#[]⟩) 1 16 Tryd.underlying61 hi hz0 hz1 hz2 rfl (by decide) _ _ _ rfl (((Kp.refl NoB _).alloc _).own (hk4.out.own I2.out (fun _ _ q => q)) (fun _ _ q => q)) _ 1 1 [.string (ba T)] rfl rfl (Arr.lit _ _ _) (by simp [Value.oneCell']) (by have := HNL.out; omega) (by decide) (n + 1) rfl ?_
        intro A6 c6 w6 hown6 hk6 hg6 hor6
        have hp6 := outS_put (Nat.le_trans hEW hk4.out.size) (I1.out.and hk4.out) (hk4.out.own I2.out (fun _ _ q => q)) I3.out hown6 hg6 hor6
        have hz6 := Lib.hid (((I4.out.and hk4.out).alloc (.cells #[.string (ba T)] 9)).keep (Kp.of_grown hg6) (fun q => own_off (hk4.out.own I2.out (fun _ _ q => q)) (I4.out.and hk4.out) (by decide) q.symm))
        have hb6 := Lib.hid (((HBX.out.and hk4.out).alloc (.cells #[.string (ba T)] 9)).keep (Kp.of_grown hg6) (fun q => own_off (hk4.out.own I2.out (fun _ _ q => q)) (HBX.out.and hk4.out) (by decide) q.symm))
        have hs6 := Nat.le_trans hEW (Nat.le_trans hk4.out.size hp6.2.1.size)
        clear r0 r1 r2
        obtain ⟨r0, r1, r2⟩ := hp6.1.one
        have HP6 := Lib.hid hp6
        have HK6 := Lib.hid hk6
        have HO6 := Lib.hid hown6
        clear hp6 hg6 hor6 hk6 hown6
        refine hK.out _ _ (mkS hz6.out hb6.out) (fun hHeld => ?_)
        clear hK K
        try simp only [Act.put, List.setIfInBounds_toArray, List.set_cons_zero, List.set_cons_succ]
        refine wpAnyH_ready (rs := [7]) (by kernel_rfl) (by simp) ?_
        refine AllReadyH.cons (o := ⟨none, _, _, _, _, _⟩) rfl (fun K hK => ?_) AllReadyH.nil
        go_simp
        refine hK.out _ _ (mkS (hz6.out.far (p := ⟨w2.heap.size + 1, 0, none⟩) (by simp; omega) _) (hb6.out.far (p := ⟨w2.heap.size + 1, 0, none⟩) (by simp; omega) _)) (fun hHeld => ?_)
        clear hK K
        try simp only [Act.put, List.setIfInBounds_toArray, List.set_cons_zero, List.set_cons_succ]
        refine wpAnyH_done (by kernel_rfl) ?_ _
        show R _ _
        rw [HR0.out]
        refine ⟨?_, ⟨A6, c6, ?_, ?_, ?_⟩, hz6.out.far (p := ⟨w2.heap.size + 1, 0, none⟩) (by simp; omega) _, HK6.out.setCell (p := ⟨w2.heap.size + 1, 0, none⟩) (fun h => by simp at h; omega) _⟩
        · refine (((hk4.out.wide _).same (HP6.out.2.1.mono (fun b _ h => ?_)))).setCell (p := ⟨w2.heap.size + 1, 0, none⟩) (fun _ => .inl (.inl rfl)) _
          rcases h with h | h
          · exact .inl (.inr h)
          · exact .inr h
        · rw [HNS.out]
          exact HP6.out.1.set 0 _
        · rw [HNS.out, HLS.out]
          exact ((Kp.refl (OnB (w2.heap.size + 1)) w6).setCell (p := ⟨w2.heap.size + 1, 0, none⟩) (fun _ => rfl) _).own HO6.out (fun b e q => own_off HO6.out HP6.out.1 (by decide) (by unfold OnB at q; rw [← q]; exact e))
        · rw [HNS.out]
          exact HP6.out.2.2
    -- END
  case done =>
    rintro D E W2 hD ⟨⟨A, c, i1, i2, i3⟩, i4, i5⟩ hK
    obtain ⟨r0, r1, r2⟩ := i1.one
    have HJW := Lib.hid (HJ.out W2 A c i2)
    obtain ⟨n, hn⟩ : ∃ n, (nameL z.t :: textsC z.t (grp z.t) xs N).length = n := ⟨_, rfl⟩
    rw [hn] at HJW r0
    have I5 := Lib.hid i5
    have hDs := (Array.getElem?_eq_some_iff.1 hK).1
    clear i1 i2 i3 i4 i5 hn
    gi_wp2_with (refine ⟨trivial, ?_⟩; gi_at_call 39; refine (callsIn_wide.2 HJW.out).mono ?_; rintro e w5 ⟨rfl, hK5⟩; have hk5 := Lib.hid (I5.out.and hK5); have hK' := (hK5.block D hDs (fun q => q)).trans hK; clear hK5)
    refine ⟨by simp, .inl ⟨_, _, rfl, run_takeDeferred hK', ?_⟩⟩
    exact ⟨_, results_tmp rfl _ _ _, rfl, hk5.out.new (Kp.put _ D _) (by omega)⟩
  case stop => exact fun D c j W hD hj h _ => h.elim

end Go.Proofs.YtkhonebedoemoaaDoor
