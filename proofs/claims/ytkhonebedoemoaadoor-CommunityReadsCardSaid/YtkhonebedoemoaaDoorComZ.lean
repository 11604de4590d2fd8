/- The reference's Read. No condition but the bounds that arguments have. -/
import Derived.Test.YtkhonebedoemoaaDoorComY
import Derived.Test.YtkhonebedoemoaaDoorRBig
import Derived.Deep.RegionHeld3
namespace Go.Proofs.YtkhonebedoemoaaDoor
open Go.RowKit
set_option linter.unusedVariables false
set_option linter.unusedSimpArgs false

theorem hslB (A : Option Addr) (n c I : Nat) (h1 : I + 4 ≤ n) (h2 : n ≤ c) (h3 : c ≤ 9223372036854775807) (W : World) : (Instr.sliceAt 25 (.slice A n c) (some (.int .i64 (I : Int))) (some (.int .i64 (IntKind.i64.wrap ((I : Int) + 4)))) none).run Tryd.prog W = .ok (.slice (A.map (fun x => x.add I)) 4 (c - I)) W := by
  rw [wrap_i64 _ (by omega) (by omega)]
  have e1 : ((I : Int) + 4).toNat = I + 4 := by omega
  have h3 : (I : Int) + 4 ≤ (c : Int) := by omega
  have h4 : ¬ c = I := by omega
  have h5 : ¬ (I : Int) + 4 < 0 := by omega
  simp [Instr.sliceAt, Instr.slice, go_sem, h3, h4, h5, e1]

set_option maxRecDepth 100000 in
set_option maxHeartbeats 8000000 in
theorem rread_any (k : Int) (hk0 : -9223372036854775808 ≤ k ∧ k ≤ 9223372036854775807) (A : Option Addr) (c : Nat) (b : List Int) (w : World) (ha : Arr w A (bs b)) (hb : IsB b) (hl : b.length ≤ 4000) (hnc : b.length ≤ c) (hcm : c ≤ maxLen) :
    Calls Tryd.prog 27 #[.int .i64 k, .slice A b.length c] w (ReadU w (rdK k b) (rdL k b) (rdV k b)) := by
  obtain ⟨i0, hi, hz0, hz1, hz2⟩ := info_parts infoU
  have HV := Lib.hid (fun (A : Option Addr) (j d : Nat) (hj : j ≤ 1000) W => rvalid_any (zU k false A j d) (zU_ok hk0 false A d hj) W)
  have HBIG := Lib.hid (fun I W (kk : Kp NoB w W) (hI : I + 4 ≤ b.length) => (show Calls Tryd.prog 45 #[.slice (A.map (fun x => x.add I)) 4 (c - I)] W (fun e w' => e = .returned (.int .u32 (big ((b.drop I).take 4))) ∧ w' = W) by
    have hlen : ((b.drop I).take 4).length = 4 := by rw [List.length_take, List.length_drop]; omega
    have har : Arr W (A.map (fun x => x.add I)) (bs ((b.drop I).take 4)) := by
      have h := ((ha.and kk).drop (n := I) (c := c) (by rw [bs_length]; exact hnc)).take 4
      rw [show cutA A I c = A.map (fun x => x.add I) by unfold cutA; rw [if_neg (by omega)]] at h
      simpa [bs, List.map_take, List.map_drop] using h
    have h := rbig_any (A.map (fun x => x.add I)) (c - I) ((b.drop I).take 4) W har (fun x hx => hb x (List.mem_of_mem_drop (List.mem_of_mem_take hx))) (by omega)
    rw [hlen] at h
    exact h))
  have HGOOD := Lib.hid (fun (e : Ending) (w' : World) (j : Nat) (A : Option Addr) (d : Nat) => @readU_good w w' k b e j A d)
  have HBAD := Lib.hid (fun (e : Ending) (w' : World) => @readU_bad w w' k b e)
  have HF := Lib.hid (fun (h : b.length % 4 ≠ 0) => (show readOk k b = false by unfold readOk; rw [decide_eq_false h, Bool.false_and]))
  have HF2 := Lib.hid (fun (j : Nat) (A : Option Addr) (d : Nat) (h : b.length = 4 * j) (hv : validC (zU k false A j d) = false) => (show readOk k b = false by
    unfold readOk
    rw [show b.length / 4 = j by omega, valid_len k false false none A j 0 d, hv, Bool.and_false]))
  obtain ⟨K, hK⟩ : ∃ x, rdK k b = x := ⟨_, rfl⟩
  obtain ⟨L, hL⟩ : ∃ x, rdL k b = x := ⟨_, rfl⟩
  obtain ⟨V, hV⟩ : ∃ x, rdV k b = x := ⟨_, rfl⟩
  rw [hK, hL, hV] at HGOOD HBAD ⊢
  obtain ⟨n, hn⟩ : ∃ n, b.length = n := ⟨_, rfl⟩
  have HRN : Hid (∀ e w' j A d, n = 4 * j → _ → _ → _ → _ → ReadU w K L V e w') := Lib.hid (fun e w' j A d h1 h2 h3 h4 h5 => HGOOD.out e w' j A d (by rw [hn]; exact h1) h2 h3 h4 h5)
  rw [hn] at hl HF HF2 HBIG hnc ⊢
  unfold maxLen at hcm
  clear ha hb hK hL hV hn HGOOD
  have HB0 := Lib.hid ((Bk.fresh w 28 zZ.cs).alloc (.cells (zU k false none 0 0).cs 28))
  have HB1 := Lib.hid (Bk.second w (.cells zZ.cs 28) 28 (zU k false none 0 0).cs)
  have HK0 := Lib.hid (((Kp.refl NoB w).alloc (.cells zZ.cs 28)).alloc (.cells (zU k false none 0 0).cs 28))
  go_enter Tryd.func27, Tryd.ntmps27
  go_wp2
  go_loopw [7] (fun v wr => ∃ (j : Nat) (A' : Option Addr) (c' : Nat), 4 * j ≤ n ∧ v = .int .i64 (4 * j : Nat) ∧ Hid (Bk wr w.heap.size 28 zZ.cs) ∧ Hid (Bk wr (w.heap.size + 1) 28 (zU k false A' j c').cs) ∧ Hid (wr.ownsRow w.heap.size 22 1 (.slice A' j c') j (us (numsU b j))) ∧ Hid (Kp NoB w wr)) (fun v wr => n - (intOf v).toNat)
  case atStart => exact ⟨0, none, 0, Nat.zero_le _, by simp, HB0, HB1, Lib.hid (World.ownsRow_nil _ _ _ _), HK0⟩
  case round =>
    obtain ⟨j, A', c', hj, rfl, bz, bo, ho, hk⟩ := hrel
    obtain ⟨y0, y1, y2, y3, y4, y5, y6, y7, y8⟩ := bo.out.attr
    unfold zU at y0 y1 y2 y3 y4 y5 y6 y7 y8
    simp only at y0 y1 y2 y3 y4 y5 y6 y7 y8
    have HNS := Lib.hid (numsU_succ b j)
    have HJ1 : Hid (((4 * j : Nat) : Int) + 4 = ((4 * (j + 1) : Nat) : Int)) := Lib.hid (by omega)
    by_cases h4 : 4 * j + 4 ≤ n
    · have HB := Lib.hid (fun W kk => HBIG.out (4 * j) W kk h4)
      obtain ⟨x, hx⟩ : ∃ x, big ((b.drop (4 * j)).take 4) = x := ⟨_, rfl⟩
      rw [hx] at HB HNS
      clear hx
      obtain ⟨I, hI⟩ : ∃ I, 4 * j = I := ⟨_, rfl⟩
      have HI := Lib.hid hI
      rw [hI] at HB h4 HJ1 ⊢
      have hI4 : I + 4 ≤ n := h4
      have hle : (I : Int) + 4 ≤ (n : Int) := by omega
      have hj1 : j ≤ 1000 := by omega
      clear hI h4
      go_wp2
      obtain ⟨R, hR0⟩ : ∃ R : Act → World → Prop, R = (fun a' W => ∃ (A6 : Option Addr) (c6 : Nat), Kp NoB w W ∧ Bk W w.heap.size 28 zZ.cs ∧ Bk W (w.heap.size + 1) 28 (zU k false A6 (j + 1) c6).cs ∧ W.ownsRow w.heap.size 22 1 (.slice A6 (j + 1) c6) (j + 1) (us (numsU b j) ++ [.int .u32 x]) ∧ ∃ v17 v18 v19 v20 v21 v22 v23 v24 v25 v26 v27, a' = { tmps := #[.int .i64 k, .slice A n c, undef, undef, .pointer (some ⟨w.heap.size, 0, none⟩), .int .i64 0, .pointer (some ⟨w.heap.size + 1, 0, none⟩), .int .i64 I, .int .i64 k, .agg #[.int .i64 k, .bool false, .int .u32 0, .int .u32 0, .slice none 0 0, .slice none 0 0, .slice none 0 0, .int .i64 0, .slice none 0 0], .int .i64 I, .int .i64 ((I : Int) + 4), .slice A n c, .int .i64 n, .bool true, u15, u16, v17, v18, v19, v20, v21, v22, v23, v24, v25, v26, v27, undef, undef, undef, undef, undef, undef, undef, undef, undef, undef, undef], defers := [] }) := ⟨_, rfl⟩
      have HR0 := Lib.hid hR0
      clear hR0
      refine wp_neatP R ?_ (fun a' W4 hR => ?_)
      rotate_left
      · rw [HR0.out] at hR
        obtain ⟨A6, c6, r1, r2, r3, r4, v17, v18, v19, v20, v21, v22, v23, v24, v25, v26, v27, rfl⟩ := hR
        have R1 := Lib.hid r1
        have R2 := Lib.hid r2
        have R3 := Lib.hid r3
        have R4 := Lib.hid r4
        clear r1 r2 r3 r4
        go_wp2
        go_roundw
        case rel => exact ⟨j + 1, A6, c6, by have := HI.out; omega, by rw [← HJ1.out], R2, R3, Lib.hid (by rw [HNS.out]; simpa [us] using R4.out), R1⟩
        case measure =>
          simp [intOf]
          omega
      -- REGION
      refine wp_region_held_drew (S := fun _ => True) (by kernel_rfl) trivial (fun hHeld => ?_)
      refine wpAnyH_take (i := 0) (oi := ⟨some 17, _, _, _, _, _⟩) (v := ?_) rfl (by kernel_rfl) (by kernel_rfl) (by kernel_rfl) (fun _ _ _ h => h) (Or.inl ⟨by rfl, fun w hSw => ?_⟩) (by assumption) ?_
      rotate_left
      · (try dsimp only at hSw)
        go_simp
        try with_reducible rfl
      try simp only [Act.put, List.setIfInBounds_toArray, List.set_cons_zero, List.set_cons_succ]
      refine wpAnyH_take (i := 2) (oi := ⟨some 19, _, _, _, _, _⟩) (v := ?_) rfl (by kernel_rfl) (by kernel_rfl) (by kernel_rfl) (fun _ _ _ h => h) (Or.inl ⟨by rfl, fun w hSw => ?_⟩) (by assumption) ?_
      rotate_left
      · (try dsimp only at hSw)
        go_simp
        try with_reducible rfl
      try simp only [Act.put, List.setIfInBounds_toArray, List.set_cons_zero, List.set_cons_succ]
      refine wpAnyH_take (i := 3) (oi := ⟨some 20, _, _, _, _, _⟩) (v := ?_) rfl (by kernel_rfl) (by kernel_rfl) (by kernel_rfl) (fun _ _ _ h => h) (Or.inl ⟨by rfl, fun w hSw => ?_⟩) (by assumption) ?_
      rotate_left
      · (try dsimp only at hSw)
        go_simp
        try with_reducible rfl
      try simp only [Act.put, List.setIfInBounds_toArray, List.set_cons_zero, List.set_cons_succ]
      refine wpAnyH_take (i := 4) (oi := ⟨some 21, _, _, _, _, _⟩) (v := ?_) rfl (by kernel_rfl) (by kernel_rfl) (by kernel_rfl) (fun _ _ _ h => h) (Or.inl ⟨by rfl, fun w hSw => ?_⟩) (by assumption) ?_
      rotate_left
      · (try dsimp only at hSw)
        go_simp
        try with_reducible rfl
      try simp only [Act.put, List.setIfInBounds_toArray, List.set_cons_zero, List.set_cons_succ]
      refine wpAnyH_take (i := 5) (oi := ⟨some 22, _, _, _, _, _⟩) (v := ?_) rfl (by kernel_rfl) (by kernel_rfl) (by kernel_rfl) (fun _ _ _ h => h) (Or.inl ⟨by rfl, fun w hSw => ?_⟩) (by assumption) ?_
      rotate_left
      · (try dsimp only at hSw)
        go_simp
        try with_reducible rfl
      try simp only [Act.put, List.setIfInBounds_toArray, List.set_cons_zero, List.set_cons_succ]
      refine wpAnyH_take (i := 6) (oi := ⟨some 23, _, _, _, _, _⟩) (v := .slice (A.map (fun x => x.add I)) 4 (c - I)) rfl (by kernel_rfl) (by kernel_rfl) (by kernel_rfl) (fun _ _ _ h => h) (Or.inl ⟨by rfl, fun w hSw => exec_slice rfl rfl rfl rfl (hslB A n c I hI4 hnc hcm _)⟩) (by assumption) ?_
      try simp only [Act.put, List.setIfInBounds_toArray, List.set_cons_zero, List.set_cons_succ]
      refine wpAnyH_ready (rs := [1, 7]) (by kernel_rfl) (by simp) ?_
      refine AllReadyH.cons (o := ⟨some 18, _, _, _, _, _⟩) rfl (fun K hK => ?_) (AllReadyH.cons (o := ⟨some 24, _, _, _, _, _⟩) rfl (fun K hK => ?_) AllReadyH.nil)
      · go_simp
        refine hK.out _ _ trivial (fun hHeld => ?_)
        clear hK K
        try simp only [Act.put, List.setIfInBounds_toArray, List.set_cons_zero, List.set_cons_succ]
        refine wpAnyH_ready (rs := [7]) (by kernel_rfl) (by simp) ?_
        refine AllReadyH.cons (o := ⟨some 24, _, _, _, _, _⟩) rfl (fun K hK => ?_) AllReadyH.nil
        go_simp
        (with_reducible refine Calls.mono (HB.out wr.drew hk.out.drew) ?_)
        rintro e w3 ⟨rfl, rfl⟩
        refine hK.out _ _ trivial (fun hHeld => ?_)
        clear hK K
        try simp only [Act.put, List.setIfInBounds_toArray, List.set_cons_zero, List.set_cons_succ]
        refine wpAnyH_ready (rs := [8]) (by kernel_rfl) (by simp) ?_
        refine AllReadyH.cons (o := ⟨some 25, _, _, _, _, _⟩) rfl (fun K hK => ?_) AllReadyH.nil
        go_simp
        refine hK.out _ _ trivial (fun hHeld => ?_)
        clear hK K
        try simp only [Act.put, List.setIfInBounds_toArray, List.set_cons_zero, List.set_cons_succ]
        have y6 : (wr.drew.alloc (.cells #[.int .u32 x] 22)).cell? ⟨w.heap.size + 1, 5, none⟩ = some (.slice A' j c') := (bo.out.alloc _).attr.2.2.2.2.2.1
        have y6b : (wr.alloc (.cells #[.int .u32 x] 22)).cell? ⟨w.heap.size + 1, 5, none⟩ = some (.slice A' j c') := (bo.out.alloc _).attr.2.2.2.2.2.1
        refine wpAnyH_ready (rs := [9]) (by kernel_rfl) (by simp) ?_
        refine AllReadyH.cons (o := ⟨some 26, _, _, _, _, _⟩) rfl (fun K hK => ?_) AllReadyH.nil
        rw [if_pos (by rfl)]
        refine wp_app (w := wr.drew.alloc (.cells #[.int .u32 x] 22)) (w0 := w) (S := NoB) (hk.out.drew.alloc _) (.tmp 18) (.tmp 25) 24 rfl 22 i0 (.int .u32 0) 1 4 Tryd.underlying24 hi hz0 hz1 hz2 rfl (by decide) (.slice A' j c') j (us (numsU b j)) rfl (((Kp.refl NoB wr).drew.alloc _).own ho.out (fun _ _ q => q)) _ 1 1 [.int .u32 x] rfl rfl (Arr.one wr.drew _ _) (by simp [Value.oneCell']) (by omega) (by decide) (j + 1) rfl ?_
        intro A4 c4 w4 hown4 hk4' hg4 _
        have hkg : Kp (fun b => some b = (Value.slice A' j c').ownBlock) (wr.alloc (.cells #[.int .u32 x] 22)) w4 := ⟨hg4.os, hg4.tape, hg4.output, hg4.size, hg4.block⟩
        have hoA : (wr.alloc (.cells #[.int .u32 x] 22)).ownsRow w.heap.size 22 1 (.slice A' j c') j (us (numsU b j)) := ((Kp.refl NoB wr).alloc _).own ho.out (fun _ _ q => q)
        have bz4 := Lib.hid ((bz.out.alloc (.cells #[.int .u32 x] 22)).keep hkg (fun e => own_off hoA (bz.out.alloc _) (by decide) e.symm))
        have bo4 := Lib.hid ((bo.out.alloc (.cells #[.int .u32 x] 22)).keep hkg (fun e => own_off hoA (bo.out.alloc _) (by decide) e.symm))
        have HK4 := Lib.hid hk4'
        have HO4 := Lib.hid hown4
        clear hg4 hk4' hown4 hkg hoA
        refine hK.out _ _ trivial (fun hHeld => ?_)
        clear hK K
        try simp only [Act.put, List.setIfInBounds_toArray, List.set_cons_zero, List.set_cons_succ]
        refine wpAnyH_take (i := 10) (oi := ⟨some 27, _, _, _, _, _⟩) (v := ?_) rfl (by kernel_rfl) (by kernel_rfl) (by kernel_rfl) (fun _ _ _ h => h) (Or.inl ⟨by rfl, fun w hSw => ?_⟩) (by assumption) ?_
        rotate_left
        · (try dsimp only at hSw)
          go_simp
          try with_reducible rfl
        try simp only [Act.put, List.setIfInBounds_toArray, List.set_cons_zero, List.set_cons_succ]
        refine wpAnyH_ready (rs := [11]) (by kernel_rfl) (by simp) ?_
        refine AllReadyH.cons (o := ⟨none, _, _, _, _, _⟩) rfl (fun K hK => ?_) AllReadyH.nil
        have y7 : w4.cell? ⟨w.heap.size + 1, 5, none⟩ = some (.slice A' j c') := bo4.out.attr.2.2.2.2.2.1
        have y8 := bo4.out.frozen 5
        go_simp
        refine hK.out _ _ trivial (fun hHeld => ?_)
        clear hK K
        try simp only [Act.put, List.setIfInBounds_toArray, List.set_cons_zero, List.set_cons_succ]
        refine wpAnyH_done (by kernel_rfl) ?_ _
        show R _ _
        rw [HR0.out]
        exact ⟨A4, c4, HK4.out.setCell (p := ⟨w.heap.size + 1, 5, none⟩) (fun h => by simp at h; omega) _, bz4.out.far (p := ⟨w.heap.size + 1, 5, none⟩) (by simp) _, bo4.out.set 5 _, ((Kp.refl (OnB (w.heap.size + 1)) w4).setCell (p := ⟨w.heap.size + 1, 5, none⟩) (fun _ => rfl) _).own HO4.out (fun b e q => own_off HO4.out bo4.out (by decide) (by unfold OnB at q; rw [← q]; exact e)), _, _, _, _, _, _, _, _, _, _, _, rfl⟩
      · go_simp
        (with_reducible refine Calls.mono (HB.out wr.drew hk.out.drew) ?_)
        rintro e w3 ⟨rfl, rfl⟩
        refine hK.out _ _ trivial (fun hHeld => ?_)
        clear hK K
        try simp only [Act.put, List.setIfInBounds_toArray, List.set_cons_zero, List.set_cons_succ]
        refine wpAnyH_ready (rs := [1, 8]) (by kernel_rfl) (by simp) ?_
        refine AllReadyH.cons (o := ⟨some 18, _, _, _, _, _⟩) rfl (fun K hK => ?_) (AllReadyH.cons (o := ⟨some 25, _, _, _, _, _⟩) rfl (fun K hK => ?_) AllReadyH.nil)
        · go_simp
          refine hK.out _ _ trivial (fun hHeld => ?_)
          clear hK K
          try simp only [Act.put, List.setIfInBounds_toArray, List.set_cons_zero, List.set_cons_succ]
          refine wpAnyH_ready (rs := [8]) (by kernel_rfl) (by simp) ?_
          refine AllReadyH.cons (o := ⟨some 25, _, _, _, _, _⟩) rfl (fun K hK => ?_) AllReadyH.nil
          go_simp
          refine hK.out _ _ trivial (fun hHeld => ?_)
          clear hK K
          try simp only [Act.put, List.setIfInBounds_toArray, List.set_cons_zero, List.set_cons_succ]
          have y6 : (wr.drew.alloc (.cells #[.int .u32 x] 22)).cell? ⟨w.heap.size + 1, 5, none⟩ = some (.slice A' j c') := (bo.out.alloc _).attr.2.2.2.2.2.1
          have y6b : (wr.alloc (.cells #[.int .u32 x] 22)).cell? ⟨w.heap.size + 1, 5, none⟩ = some (.slice A' j c') := (bo.out.alloc _).attr.2.2.2.2.2.1
          refine wpAnyH_ready (rs := [9]) (by kernel_rfl) (by simp) ?_
          refine AllReadyH.cons (o := ⟨some 26, _, _, _, _, _⟩) rfl (fun K hK => ?_) AllReadyH.nil
          rw [if_pos (by rfl)]
          refine wp_app (w := wr.drew.alloc (.cells #[.int .u32 x] 22)) (w0 := w) (S := NoB) (hk.out.drew.alloc _) (.tmp 18) (.tmp 25) 24 rfl 22 i0 (.int .u32 0) 1 4 Tryd.underlying24 hi hz0 hz1 hz2 rfl (by decide) (.slice A' j c') j (us (numsU b j)) rfl (((Kp.refl NoB wr).drew.alloc _).own ho.out (fun _ _ q => q)) _ 1 1 [.int .u32 x] rfl rfl (Arr.one wr.drew _ _) (by simp [Value.oneCell']) (by omega) (by decide) (j + 1) rfl ?_
          intro A4 c4 w4 hown4 hk4' hg4 _
          have hkg : Kp (fun b => some b = (Value.slice A' j c').ownBlock) (wr.alloc (.cells #[.int .u32 x] 22)) w4 := ⟨hg4.os, hg4.tape, hg4.output, hg4.size, hg4.block⟩
          have hoA : (wr.alloc (.cells #[.int .u32 x] 22)).ownsRow w.heap.size 22 1 (.slice A' j c') j (us (numsU b j)) := ((Kp.refl NoB wr).alloc _).own ho.out (fun _ _ q => q)
          have bz4 := Lib.hid ((bz.out.alloc (.cells #[.int .u32 x] 22)).keep hkg (fun e => own_off hoA (bz.out.alloc _) (by decide) e.symm))
          have bo4 := Lib.hid ((bo.out.alloc (.cells #[.int .u32 x] 22)).keep hkg (fun e => own_off hoA (bo.out.alloc _) (by decide) e.symm))
          have HK4 := Lib.hid hk4'
          have HO4 := Lib.hid hown4
          clear hg4 hk4' hown4 hkg hoA
          refine hK.out _ _ trivial (fun hHeld => ?_)
          clear hK K
          try simp only [Act.put, List.setIfInBounds_toArray, List.set_cons_zero, List.set_cons_succ]
          refine wpAnyH_take (i := 10) (oi := ⟨some 27, _, _, _, _, _⟩) (v := ?_) rfl (by kernel_rfl) (by kernel_rfl) (by kernel_rfl) (fun _ _ _ h => h) (Or.inl ⟨by rfl, fun w hSw => ?_⟩) (by assumption) ?_
          rotate_left
          · (try dsimp only at hSw)
            go_simp
            try with_reducible rfl
          try simp only [Act.put, List.setIfInBounds_toArray, List.set_cons_zero, List.set_cons_succ]
          refine wpAnyH_ready (rs := [11]) (by kernel_rfl) (by simp) ?_
          refine AllReadyH.cons (o := ⟨none, _, _, _, _, _⟩) rfl (fun K hK => ?_) AllReadyH.nil
          have y7 : w4.cell? ⟨w.heap.size + 1, 5, none⟩ = some (.slice A' j c') := bo4.out.attr.2.2.2.2.2.1
          have y8 := bo4.out.frozen 5
          go_simp
          refine hK.out _ _ trivial (fun hHeld => ?_)
          clear hK K
          try simp only [Act.put, List.setIfInBounds_toArray, List.set_cons_zero, List.set_cons_succ]
          refine wpAnyH_done (by kernel_rfl) ?_ _
          show R _ _
          rw [HR0.out]
          exact ⟨A4, c4, HK4.out.setCell (p := ⟨w.heap.size + 1, 5, none⟩) (fun h => by simp at h; omega) _, bz4.out.far (p := ⟨w.heap.size + 1, 5, none⟩) (by simp) _, bo4.out.set 5 _, ((Kp.refl (OnB (w.heap.size + 1)) w4).setCell (p := ⟨w.heap.size + 1, 5, none⟩) (fun _ => rfl) _).own HO4.out (fun b e q => own_off HO4.out bo4.out (by decide) (by unfold OnB at q; rw [← q]; exact e)), _, _, _, _, _, _, _, _, _, _, _, rfl⟩
        · go_simp
          refine hK.out _ _ trivial (fun hHeld => ?_)
          clear hK K
          try simp only [Act.put, List.setIfInBounds_toArray, List.set_cons_zero, List.set_cons_succ]
          have y6 : (wr.drew.alloc (.cells #[.int .u32 x] 22)).cell? ⟨w.heap.size + 1, 5, none⟩ = some (.slice A' j c') := (bo.out.alloc _).attr.2.2.2.2.2.1
          have y6b : (wr.alloc (.cells #[.int .u32 x] 22)).cell? ⟨w.heap.size + 1, 5, none⟩ = some (.slice A' j c') := (bo.out.alloc _).attr.2.2.2.2.2.1
          refine wpAnyH_ready (rs := [1]) (by kernel_rfl) (by simp) ?_
          refine AllReadyH.cons (o := ⟨some 18, _, _, _, _, _⟩) rfl (fun K hK => ?_) AllReadyH.nil
          go_simp
          refine hK.out _ _ trivial (fun hHeld => ?_)
          clear hK K
          try simp only [Act.put, List.setIfInBounds_toArray, List.set_cons_zero, List.set_cons_succ]
          refine wpAnyH_ready (rs := [9]) (by kernel_rfl) (by simp) ?_
          refine AllReadyH.cons (o := ⟨some 26, _, _, _, _, _⟩) rfl (fun K hK => ?_) AllReadyH.nil
          rw [if_pos (by rfl)]
          refine wp_app (w := wr.drew.alloc (.cells #[.int .u32 x] 22)) (w0 := w) (S := NoB) (hk.out.drew.alloc _) (.tmp 18) (.tmp 25) 24 rfl 22 i0 (.int .u32 0) 1 4 Tryd.underlying24 hi hz0 hz1 hz2 rfl (by decide) (.slice A' j c') j (us (numsU b j)) rfl (((Kp.refl NoB wr).drew.alloc _).own ho.out (fun _ _ q => q)) _ 1 1 [.int .u32 x] rfl rfl (Arr.one wr.drew _ _) (by simp [Value.oneCell']) (by omega) (by decide) (j + 1) rfl ?_
          intro A4 c4 w4 hown4 hk4' hg4 _
          have hkg : Kp (fun b => some b = (Value.slice A' j c').ownBlock) (wr.alloc (.cells #[.int .u32 x] 22)) w4 := ⟨hg4.os, hg4.tape, hg4.output, hg4.size, hg4.block⟩
          have hoA : (wr.alloc (.cells #[.int .u32 x] 22)).ownsRow w.heap.size 22 1 (.slice A' j c') j (us (numsU b j)) := ((Kp.refl NoB wr).alloc _).own ho.out (fun _ _ q => q)
          have bz4 := Lib.hid ((bz.out.alloc (.cells #[.int .u32 x] 22)).keep hkg (fun e => own_off hoA (bz.out.alloc _) (by decide) e.symm))
          have bo4 := Lib.hid ((bo.out.alloc (.cells #[.int .u32 x] 22)).keep hkg (fun e => own_off hoA (bo.out.alloc _) (by decide) e.symm))
          have HK4 := Lib.hid hk4'
          have HO4 := Lib.hid hown4
          clear hg4 hk4' hown4 hkg hoA
          refine hK.out _ _ trivial (fun hHeld => ?_)
          clear hK K
          try simp only [Act.put, List.setIfInBounds_toArray, List.set_cons_zero, List.set_cons_succ]
          refine wpAnyH_take (i := 10) (oi := ⟨some 27, _, _, _, _, _⟩) (v := ?_) rfl (by kernel_rfl) (by kernel_rfl) (by kernel_rfl) (fun _ _ _ h => h) (Or.inl ⟨by rfl, fun w hSw => ?_⟩) (by assumption) ?_
          rotate_left
          · (try dsimp only at hSw)
            go_simp
            try with_reducible rfl
          try simp only [Act.put, List.setIfInBounds_toArray, List.set_cons_zero, List.set_cons_succ]
          refine wpAnyH_ready (rs := [11]) (by kernel_rfl) (by simp) ?_
          refine AllReadyH.cons (o := ⟨none, _, _, _, _, _⟩) rfl (fun K hK => ?_) AllReadyH.nil
          have y7 : w4.cell? ⟨w.heap.size + 1, 5, none⟩ = some (.slice A' j c') := bo4.out.attr.2.2.2.2.2.1
          have y8 := bo4.out.frozen 5
          go_simp
          refine hK.out _ _ trivial (fun hHeld => ?_)
          clear hK K
          try simp only [Act.put, List.setIfInBounds_toArray, List.set_cons_zero, List.set_cons_succ]
          refine wpAnyH_done (by kernel_rfl) ?_ _
          show R _ _
          rw [HR0.out]
          exact ⟨A4, c4, HK4.out.setCell (p := ⟨w.heap.size + 1, 5, none⟩) (fun h => by simp at h; omega) _, bz4.out.far (p := ⟨w.heap.size + 1, 5, none⟩) (by simp) _, bo4.out.set 5 _, ((Kp.refl (OnB (w.heap.size + 1)) w4).setCell (p := ⟨w.heap.size + 1, 5, none⟩) (fun _ => rfl) _).own HO4.out (fun b e q => own_off HO4.out bo4.out (by decide) (by unfold OnB at q; rw [← q]; exact e)), _, _, _, _, _, _, _, _, _, _, _, rfl⟩
      -- END
    · have hle : ¬ ((4 * j : Nat) : Int) + 4 ≤ (n : Int) := by omega
      obtain ⟨I, hI⟩ : ∃ I, 4 * j = I := ⟨_, rfl⟩
      have HI := Lib.hid hI
      rw [hI] at hle HJ1 ⊢
      have hIn : I ≤ n := by omega
      have hw64 : wrap64 ((I : Int) + 4) = (I : Int) + 4 := by rw [Go.IntWalk.wrap64_in _ ⟨by omega, by omega⟩]
      by_cases hm : n % 4 = 0
      · have hj4 : n = 4 * j := by omega
        have hmm : ((n : Int) % 4 != 0) = false := by simp; omega
        have HVV := Lib.hid (fun W => HV.out A' j c' (by omega) W)
        have HF2' := Lib.hid (fun hv => HF2.out j A' c' hj4 hv)
        have HGG := Lib.hid (fun e w' => HRN.out e w' j A' c' hj4)
        obtain ⟨bv, hbv⟩ : ∃ bv, validC (zU k false A' j c') = bv := ⟨_, rfl⟩
        rw [hbv] at HVV HF2'
        have HBV := Lib.hid hbv
        unfold zU AtI.val AtI.cs at HVV
        simp only at HVV
        clear hbv hI hj4
        cases bv
        · have HFN := Lib.hid (HF2'.out rfl)
          go_wp2_with (first
            | (go_at_call 20; (with_reducible refine Calls.mono (HVV.out _) ?_); rintro e w3 ⟨rfl, hK3⟩; have hk3 := Lib.hid (hk.out.and hK3); have bz3 := Lib.hid (bz.out.and hK3); clear hK3)
            | (refine wpList_store_row rfl 28 (.tmp 4) (.tmp 37) rfl w.heap.size _ rfl rfl 28 _ bz3.out sizeAt rfl (by simp [Value.oneCell']) ?_))
          exact bodyPost_ret (results_row_tmp (fn := Tryd.f27) rfl _ _ w.heap.size 28 _ (0, 0) _ rfl (setRow_heap _ _ _ _ _ _ bz3.out) Tryd.underlying28 rfl (by kernel_rfl)) rfl (HBAD.out _ _ HFN.out rfl (hk3.out.new (kp_setRow _ _ _) (Nat.le_refl _)))
        · go_wp2_with (first
            | (go_at_call 20; (with_reducible refine Calls.mono (HVV.out _) ?_); rintro e w3 ⟨rfl, hK3⟩; have hk3 := Lib.hid (hk.out.and hK3); have bz3 := Lib.hid (bz.out.and hK3); have ho3 := Lib.hid (hK3.own ho.out (fun _ _ q => q)); have bo3 := bo.out.and hK3; clear y0 y1 y2 y3 y4 y5 y6 y7 y8; obtain ⟨y0, y1, y2, y3, y4, y5, y6, y7, y8⟩ := bo3.attr; unfold zU at y0 y1 y2 y3 y4 y5 y6 y7 y8; simp only at y0 y1 y2 y3 y4 y5 y6 y7 y8; clear hK3 bo3)
            | (refine wpList_store_row rfl 28 (.tmp 4) (.tmp 38) rfl w.heap.size _ rfl rfl 28 _ bz3.out sizeAt rfl (by simp [Value.oneCell']) ?_))
          refine bodyPost_ret (results_row_tmp (fn := Tryd.f27) rfl _ _ w.heap.size 28 _ (0, 0) _ rfl (setRow_heap _ _ _ _ _ _ bz3.out) Tryd.underlying28 rfl (by kernel_rfl)) rfl (HGG.out _ _ HBV.out rfl ?_ (hk3.out.new (kp_setRow _ _ _) (Nat.le_refl _)))
          exact (kp_setRow _ _ _).own ho3.out (fun b e q => own_off ho3.out bz3.out (by decide) (by unfold OnB at q; rw [← q]; exact e))
      · have hmm : ((n : Int) % 4 != 0) = true := by simp; omega
        have HFN := Lib.hid (HF.out hm)
        clear hI
        go_wp2_with (refine wpList_store_row rfl 28 (.tmp 4) (.tmp 37) rfl w.heap.size _ rfl rfl 28 _ bz.out sizeAt rfl (by simp [Value.oneCell']) ?_)
        exact bodyPost_ret (results_row_tmp (fn := Tryd.f27) rfl _ _ w.heap.size 28 _ (0, 0) _ rfl (setRow_heap _ _ _ _ _ _ bz.out) Tryd.underlying28 rfl (by kernel_rfl)) rfl (HBAD.out _ _ HFN.out rfl (hk.out.new (kp_setRow _ _ _) (Nat.le_refl _)))

end Go.Proofs.YtkhonebedoemoaaDoor
