/- A log: put. Printed by wip/tools/finl.py. No condition but the bounds that arguments have. -/
import Derived.Test.YtknaogpkakdcoaaDoorFinK
import Derived.Deep.RegionHeld3
namespace Go.Proofs.YtknaogpkakdcoaaDoor
open Go.RowKit
set_option linter.unusedVariables false
set_option linter.unusedSimpArgs false

theorem sizeVs : (Tryd.prog.info? 29).map (·.size) = some 1 := by kernel_rfl

set_option maxRecDepth 100000 in
set_option maxHeartbeats 4000000 in
theorem put_any (base L : Nat) (A : Option Addr) (n c : Nat) (zs : List ArgV) (z : ArgV) (w : World) (h0 : LogS base w L (.slice A n c) zs) (hn : zs.length = n) (hn1 : n ≤ 1000000) (hbase : base ≤ w.heap.size) (hz : Arr w z.A (bs z.d)) (hl : z.d.length ≤ 1000) (hB : IsB z.d) :
    Calls Tryd.prog 40 #[.pointer (some ⟨L, 0, none⟩), z.val] w fun e w' => e = .returned (.tuple #[]) ∧ ∃ A' c' z', Like z' z ∧ LogTo base w L (.slice A n c) zs (.slice A' (n + 1) c') (zs ++ [z']) w' := by
  obtain ⟨zk, zc, zs', zd, zA, zm, za⟩ := z
  simp only at hz hl hB
  obtain ⟨i0, hi, hz0, hz1, hz2⟩ := info_parts infoV5
  have H0 := Lib.hid h0
  have HR0 := Lib.hid (fun W (k : Kp NoB w W) => (show W.ownsRow base 24 5 (.slice A n c) n (flatZ zs) by have := (h0.and k).row.row; rwa [hn] at this))
  have hk0 := ((Kp.refl NoB w).alloc (.cells #[.int .i64 zk, .int .i64 zc, .int .i64 zs', .slice zA zd.length zm, .int .i64 za] 24)).drew
  have HC := Lib.hid (fclone_any ⟨zk, zc, zs', zd, zA, zm, za⟩ _ (hz.and hk0) (by simp only; omega))
  have HK0 := Lib.hid hk0
  have H0c := Lib.hid ((h0.and hk0).bk.one.1)
  have hlt := h0.lt
  have HND := Lib.hid (show ¬ some w.heap.size = (Value.slice A n c).ownBlock from fun q => by have := (hlt _ (.inr (.inl q))).2; omega)
  have HLD := Lib.hid (show ¬ some L = (Value.slice A n c).ownBlock from fun q => h0.sep (.inl q))
  have HLW := Lib.hid (show w.heap.size ≠ L from fun q => by have := (hlt L (.inl rfl)).2; omega)
  unfold VerM at HC
  unfold ArgV.val at HC ⊢
  simp only at HC ⊢
  clear h0 hz hlt hk0
  go_enter Tryd.func40, Tryd.ntmps40
  go_wp2
  refine wp_region_noPanic ?_
  refine wp_region_held_drew (S := (fun w' => w'.cell? ⟨w.heap.size, 0, none⟩ = some (.int .i64 zk) ∧ w'.cell? ⟨w.heap.size, 1, none⟩ = some (.int .i64 zc) ∧ w'.cell? ⟨w.heap.size, 2, none⟩ = some (.int .i64 zs') ∧ w'.cell? ⟨w.heap.size, 3, none⟩ = some (.slice zA zd.length zm) ∧ w'.cell? ⟨w.heap.size, 4, none⟩ = some (.int .i64 za))) (by kernel_rfl) (bk_drew (Bk.fresh w 24 #[.int .i64 zk, .int .i64 zc, .int .i64 zs', .slice zA zd.length zm, .int .i64 za])).five (fun hHeld => ?_)
  refine wpAnyH_take (i := 0) (oi := ⟨some 4, _, _, _, _, _⟩) (v := ?_) rfl (by kernel_rfl) (by kernel_rfl) (by kernel_rfl) (fun _ _ _ h => h) (Or.inl ⟨by rfl, fun w hSw => ?_⟩) (by assumption) ?_
  rotate_left
  · (try dsimp only at hSw)
    go_simp
    try with_reducible rfl
  try simp only [Act.put, List.setIfInBounds_toArray, List.set_cons_zero, List.set_cons_succ]
  refine wpAnyH_take (i := 1) (oi := ⟨some 5, _, _, _, _, _⟩) (v := ?_) rfl (by kernel_rfl) (by kernel_rfl) (by kernel_rfl) (fun _ _ _ h => h) (Or.inl ⟨by rfl, fun w hSw => ?_⟩) (by assumption) ?_
  rotate_left
  · (try dsimp only at hSw)
    go_simp
    try with_reducible rfl
  try simp only [Act.put, List.setIfInBounds_toArray, List.set_cons_zero, List.set_cons_succ]
  refine wpAnyH_take (i := 2) (oi := ⟨some 6, _, _, _, _, _⟩) (v := ?_) rfl (by kernel_rfl) (by kernel_rfl) (by kernel_rfl) (fun _ _ _ h => h) (Or.inl ⟨by rfl, fun w hSw => ?_⟩) (by assumption) ?_
  rotate_left
  · (try dsimp only at hSw)
    go_simp
    try with_reducible rfl
  try simp only [Act.put, List.setIfInBounds_toArray, List.set_cons_zero, List.set_cons_succ]
  refine wpAnyH_take (i := 3) (oi := ⟨some 7, _, _, _, _, _⟩) (v := ?_) rfl (by kernel_rfl) (by kernel_rfl) (by kernel_rfl) (fun _ _ _ h => h) (Or.inl ⟨by rfl, fun w hSw => ?_⟩) (by assumption) ?_
  rotate_left
  · (try dsimp only at hSw)
    go_simp
    try with_reducible rfl
  try simp only [Act.put, List.setIfInBounds_toArray, List.set_cons_zero, List.set_cons_succ]
  refine wpAnyH_take (i := 5) (oi := ⟨some 9, _, _, _, _, _⟩) (v := ?_) rfl (by kernel_rfl) (by kernel_rfl) (by kernel_rfl) (fun _ _ _ h => h) (Or.inl ⟨by rfl, fun w hSw => ?_⟩) (by assumption) ?_
  rotate_left
  · (try dsimp only at hSw)
    go_simp
    try with_reducible rfl
  try simp only [Act.put, List.setIfInBounds_toArray, List.set_cons_zero, List.set_cons_succ]
  refine wpAnyH_ready (rs := [4, 6]) (by kernel_rfl) (by simp) ?_
  refine AllReadyH.cons (o := ⟨some 8, _, _, _, _, _⟩) rfl (fun K hK => ?_) (AllReadyH.cons (o := ⟨some 10, _, _, _, _, _⟩) rfl (fun K hK => ?_) AllReadyH.nil)
  · rw [if_pos (by rfl)]
    refine wp_load_one 29 (.tmp 7) rfl ⟨L, 0, none⟩ rfl (.slice A n c) H0c.out _ Tryd.underlying29 rfl ?_
    refine hK.out _ _ (bk_drew (Bk.fresh w 24 #[.int .i64 zk, .int .i64 zc, .int .i64 zs', .slice zA zd.length zm, .int .i64 za])).five (fun hHeld => ?_)
    clear hK K
    try simp only [Act.put, List.setIfInBounds_toArray, List.set_cons_zero, List.set_cons_succ]
    refine wpAnyH_ready (rs := [6]) (by kernel_rfl) (by simp) ?_
    refine AllReadyH.cons (o := ⟨some 10, _, _, _, _, _⟩) rfl (fun K hK => ?_) AllReadyH.nil
    go_simp
    (with_reducible refine Calls.mono HC.out ?_)
    rintro e w1 ⟨A1, m1, rfl, ha, ho, hKC⟩
    have k1 := Lib.hid (HK0.out.and hKC)
    have v1 := Lib.hid (Bk.and (bk_drew (Bk.fresh w 24 #[.int .i64 zk, .int .i64 zc, .int .i64 zs', .slice zA zd.length zm, .int .i64 za])) hKC)
    have a1 := Lib.hid ha
    have o1 := Lib.hid ho
    have c1 := Lib.hid ((H0.out.and k1.out).bk.one.1)
    clear hKC ha ho
    refine hK.out _ _ v1.out.five (fun hHeld => ?_)
    clear hK K
    try simp only [Act.put, List.setIfInBounds_toArray, List.set_cons_zero, List.set_cons_succ]
    refine wpAnyH_ready (rs := [7]) (by kernel_rfl) (by simp) ?_
    refine AllReadyH.cons (o := ⟨some 11, _, _, _, _, _⟩) rfl (fun K hK => ?_) AllReadyH.nil
    go_simp
    refine hK.out _ _ (v1.out.alloc _).five (fun hHeld => ?_)
    clear hK K
    try simp only [Act.put, List.setIfInBounds_toArray, List.set_cons_zero, List.set_cons_succ]
    refine wpAnyH_ready (rs := [8]) (by kernel_rfl) (by simp) ?_
    refine AllReadyH.cons (o := ⟨some 12, _, _, _, _, _⟩) rfl (fun K hK => ?_) AllReadyH.nil
    rw [if_pos (by rfl)]
    refine wp_appb base (Nat.le_trans hbase ((k1.out.alloc _).size)) (.tmp 8) (.tmp 11) 29 rfl 24 i0 (.agg zeroZ.cs.toArray) 5 56 Tryd.underlying29 hi hz0 hz1 hz2 rfl (by decide) (.slice A n c) n (flatZ zs) rfl (HR0.out _ (k1.out.alloc _)) (some ⟨w1.heap.size, 0, none⟩) 1 1 (ArgV.cs ⟨zk, zc, zs', zd, A1, m1, za⟩) rfl rfl (Arr.lit w1 _ _) (by intro u hu; exact flatZ_one (xs := [⟨zk, zc, zs', zd, A1, m1, za⟩]) u (by simpa [flatZ] using hu)) (by omega) (by decide) (n + 1) rfl ?_
    intro A2 c2 w3 hown hg hor
    replace hown := Lib.hid hown
    replace hg := Lib.hid hg
    replace hor := Lib.hid hor
    have v3 := Lib.hid ((v1.out.alloc _).keep (Kp.of_grown hg.out) HND.out)
    have b3 := Lib.hid ((H0.out.and (k1.out.alloc _)).bk.keep (Kp.of_grown hg.out) HLD.out)
    refine hK.out _ _ v3.out.five (fun hHeld => ?_)
    clear hK K
    try simp only [Act.put, List.setIfInBounds_toArray, List.set_cons_zero, List.set_cons_succ]
    refine wpAnyH_take (i := 9) (oi := ⟨some 13, _, _, _, _, _⟩) (v := ?_) rfl (by kernel_rfl) (by kernel_rfl) (by kernel_rfl) (fun _ _ _ h => h) (Or.inl ⟨by rfl, fun w hSw => ?_⟩) (by assumption) ?_
    rotate_left
    · (try dsimp only at hSw)
      go_simp
      try with_reducible rfl
    try simp only [Act.put, List.setIfInBounds_toArray, List.set_cons_zero, List.set_cons_succ]
    refine wpAnyH_take (i := 10) (oi := ⟨some 14, _, _, _, _, _⟩) (v := ?_) rfl (by kernel_rfl) (by kernel_rfl) (by kernel_rfl) (fun _ _ _ h => h) (Or.inl ⟨by rfl, fun w hSw => ?_⟩) (by assumption) ?_
    rotate_left
    · (try dsimp only at hSw)
      go_simp
      try with_reducible rfl
    try simp only [Act.put, List.setIfInBounds_toArray, List.set_cons_zero, List.set_cons_succ]
    refine wpAnyH_ready (rs := [11]) (by kernel_rfl) (by simp) ?_
    refine AllReadyH.cons (o := ⟨none, _, _, _, _, _⟩) rfl (fun K hK => ?_) AllReadyH.nil
    rw [if_pos (by rfl)]
    refine wp_store_one 29 (.tmp 14) (.tmp 12) rfl L 0 (.slice A2 (n + 1) c2) rfl rfl rfl sizeVs (by rw [b3.out.one.1]; rfl) b3.out.one.2.1 rfl ?_
    refine hK.out _ _ (v3.out.far (p := ⟨L, 0, none⟩) HLW.out _).five (fun hHeld => ?_)
    clear hK K
    try simp only [Act.put, List.setIfInBounds_toArray, List.set_cons_zero, List.set_cons_succ]
    refine wpAnyH_done (by kernel_rfl) ?_ _
    refine NoPanic.normal ?_
    have HE := Lib.hid (put_end H0.out hn hbase (k1.out.alloc _) hg.out hown.out hor.out ⟨a1.out.alloc _, hl, hB⟩ (fun hd ad e => Nat.le_trans (HK0.out.size) (Nat.le_of_lt (o1.out ad e))))
    clear hown hg hor v3 b3 v1 a1 o1 c1 k1
    go_wp2
    refine bodyPost_end (results_none rfl _ _ _) rfl ?_
    exact ⟨rfl, A2, c2, ⟨zk, zc, zs', zd, A1, m1, za⟩, ⟨rfl, rfl, rfl, rfl, rfl⟩, HE.out⟩
  · go_simp
    (with_reducible refine Calls.mono HC.out ?_)
    rintro e w1 ⟨A1, m1, rfl, ha, ho, hKC⟩
    have k1 := Lib.hid (HK0.out.and hKC)
    have v1 := Lib.hid (Bk.and (bk_drew (Bk.fresh w 24 #[.int .i64 zk, .int .i64 zc, .int .i64 zs', .slice zA zd.length zm, .int .i64 za])) hKC)
    have a1 := Lib.hid ha
    have o1 := Lib.hid ho
    have c1 := Lib.hid ((H0.out.and k1.out).bk.one.1)
    clear hKC ha ho
    refine hK.out _ _ v1.out.five (fun hHeld => ?_)
    clear hK K
    try simp only [Act.put, List.setIfInBounds_toArray, List.set_cons_zero, List.set_cons_succ]
    refine wpAnyH_ready (rs := [4, 7]) (by kernel_rfl) (by simp) ?_
    refine AllReadyH.cons (o := ⟨some 8, _, _, _, _, _⟩) rfl (fun K hK => ?_) (AllReadyH.cons (o := ⟨some 11, _, _, _, _, _⟩) rfl (fun K hK => ?_) AllReadyH.nil)
    · rw [if_pos (by rfl)]
      refine wp_load_one 29 (.tmp 7) rfl ⟨L, 0, none⟩ rfl (.slice A n c) c1.out _ Tryd.underlying29 rfl ?_
      refine hK.out _ _ v1.out.five (fun hHeld => ?_)
      clear hK K
      try simp only [Act.put, List.setIfInBounds_toArray, List.set_cons_zero, List.set_cons_succ]
      refine wpAnyH_ready (rs := [7]) (by kernel_rfl) (by simp) ?_
      refine AllReadyH.cons (o := ⟨some 11, _, _, _, _, _⟩) rfl (fun K hK => ?_) AllReadyH.nil
      go_simp
      refine hK.out _ _ (v1.out.alloc _).five (fun hHeld => ?_)
      clear hK K
      try simp only [Act.put, List.setIfInBounds_toArray, List.set_cons_zero, List.set_cons_succ]
      refine wpAnyH_ready (rs := [8]) (by kernel_rfl) (by simp) ?_
      refine AllReadyH.cons (o := ⟨some 12, _, _, _, _, _⟩) rfl (fun K hK => ?_) AllReadyH.nil
      rw [if_pos (by rfl)]
      refine wp_appb base (Nat.le_trans hbase ((k1.out.alloc _).size)) (.tmp 8) (.tmp 11) 29 rfl 24 i0 (.agg zeroZ.cs.toArray) 5 56 Tryd.underlying29 hi hz0 hz1 hz2 rfl (by decide) (.slice A n c) n (flatZ zs) rfl (HR0.out _ (k1.out.alloc _)) (some ⟨w1.heap.size, 0, none⟩) 1 1 (ArgV.cs ⟨zk, zc, zs', zd, A1, m1, za⟩) rfl rfl (Arr.lit w1 _ _) (by intro u hu; exact flatZ_one (xs := [⟨zk, zc, zs', zd, A1, m1, za⟩]) u (by simpa [flatZ] using hu)) (by omega) (by decide) (n + 1) rfl ?_
      intro A2 c2 w3 hown hg hor
      replace hown := Lib.hid hown
      replace hg := Lib.hid hg
      replace hor := Lib.hid hor
      have v3 := Lib.hid ((v1.out.alloc _).keep (Kp.of_grown hg.out) HND.out)
      have b3 := Lib.hid ((H0.out.and (k1.out.alloc _)).bk.keep (Kp.of_grown hg.out) HLD.out)
      refine hK.out _ _ v3.out.five (fun hHeld => ?_)
      clear hK K
      try simp only [Act.put, List.setIfInBounds_toArray, List.set_cons_zero, List.set_cons_succ]
      refine wpAnyH_take (i := 9) (oi := ⟨some 13, _, _, _, _, _⟩) (v := ?_) rfl (by kernel_rfl) (by kernel_rfl) (by kernel_rfl) (fun _ _ _ h => h) (Or.inl ⟨by rfl, fun w hSw => ?_⟩) (by assumption) ?_
      rotate_left
      · (try dsimp only at hSw)
        go_simp
        try with_reducible rfl
      try simp only [Act.put, List.setIfInBounds_toArray, List.set_cons_zero, List.set_cons_succ]
      refine wpAnyH_take (i := 10) (oi := ⟨some 14, _, _, _, _, _⟩) (v := ?_) rfl (by kernel_rfl) (by kernel_rfl) (by kernel_rfl) (fun _ _ _ h => h) (Or.inl ⟨by rfl, fun w hSw => ?_⟩) (by assumption) ?_
      rotate_left
      · (try dsimp only at hSw)
        go_simp
        try with_reducible rfl
      try simp only [Act.put, List.setIfInBounds_toArray, List.set_cons_zero, List.set_cons_succ]
      refine wpAnyH_ready (rs := [11]) (by kernel_rfl) (by simp) ?_
      refine AllReadyH.cons (o := ⟨none, _, _, _, _, _⟩) rfl (fun K hK => ?_) AllReadyH.nil
      rw [if_pos (by rfl)]
      refine wp_store_one 29 (.tmp 14) (.tmp 12) rfl L 0 (.slice A2 (n + 1) c2) rfl rfl rfl sizeVs (by rw [b3.out.one.1]; rfl) b3.out.one.2.1 rfl ?_
      refine hK.out _ _ (v3.out.far (p := ⟨L, 0, none⟩) HLW.out _).five (fun hHeld => ?_)
      clear hK K
      try simp only [Act.put, List.setIfInBounds_toArray, List.set_cons_zero, List.set_cons_succ]
      refine wpAnyH_done (by kernel_rfl) ?_ _
      refine NoPanic.normal ?_
      have HE := Lib.hid (put_end H0.out hn hbase (k1.out.alloc _) hg.out hown.out hor.out ⟨a1.out.alloc _, hl, hB⟩ (fun hd ad e => Nat.le_trans (HK0.out.size) (Nat.le_of_lt (o1.out ad e))))
      clear hown hg hor v3 b3 v1 a1 o1 c1 k1
      go_wp2
      refine bodyPost_end (results_none rfl _ _ _) rfl ?_
      exact ⟨rfl, A2, c2, ⟨zk, zc, zs', zd, A1, m1, za⟩, ⟨rfl, rfl, rfl, rfl, rfl⟩, HE.out⟩
    · go_simp
      refine hK.out _ _ (v1.out.alloc _).five (fun hHeld => ?_)
      clear hK K
      try simp only [Act.put, List.setIfInBounds_toArray, List.set_cons_zero, List.set_cons_succ]
      refine wpAnyH_ready (rs := [4]) (by kernel_rfl) (by simp) ?_
      refine AllReadyH.cons (o := ⟨some 8, _, _, _, _, _⟩) rfl (fun K hK => ?_) AllReadyH.nil
      rw [if_pos (by rfl)]
      refine wp_load_one 29 (.tmp 7) rfl ⟨L, 0, none⟩ rfl (.slice A n c) ((H0.out.and (k1.out.alloc _)).bk.one.1) _ Tryd.underlying29 rfl ?_
      refine hK.out _ _ (v1.out.alloc _).five (fun hHeld => ?_)
      clear hK K
      try simp only [Act.put, List.setIfInBounds_toArray, List.set_cons_zero, List.set_cons_succ]
      refine wpAnyH_ready (rs := [8]) (by kernel_rfl) (by simp) ?_
      refine AllReadyH.cons (o := ⟨some 12, _, _, _, _, _⟩) rfl (fun K hK => ?_) AllReadyH.nil
      rw [if_pos (by rfl)]
      refine wp_appb base (Nat.le_trans hbase ((k1.out.alloc _).size)) (.tmp 8) (.tmp 11) 29 rfl 24 i0 (.agg zeroZ.cs.toArray) 5 56 Tryd.underlying29 hi hz0 hz1 hz2 rfl (by decide) (.slice A n c) n (flatZ zs) rfl (HR0.out _ (k1.out.alloc _)) (some ⟨w1.heap.size, 0, none⟩) 1 1 (ArgV.cs ⟨zk, zc, zs', zd, A1, m1, za⟩) rfl rfl (Arr.lit w1 _ _) (by intro u hu; exact flatZ_one (xs := [⟨zk, zc, zs', zd, A1, m1, za⟩]) u (by simpa [flatZ] using hu)) (by omega) (by decide) (n + 1) rfl ?_
      intro A2 c2 w3 hown hg hor
      replace hown := Lib.hid hown
      replace hg := Lib.hid hg
      replace hor := Lib.hid hor
      have v3 := Lib.hid ((v1.out.alloc _).keep (Kp.of_grown hg.out) HND.out)
      have b3 := Lib.hid ((H0.out.and (k1.out.alloc _)).bk.keep (Kp.of_grown hg.out) HLD.out)
      refine hK.out _ _ v3.out.five (fun hHeld => ?_)
      clear hK K
      try simp only [Act.put, List.setIfInBounds_toArray, List.set_cons_zero, List.set_cons_succ]
      refine wpAnyH_take (i := 9) (oi := ⟨some 13, _, _, _, _, _⟩) (v := ?_) rfl (by kernel_rfl) (by kernel_rfl) (by kernel_rfl) (fun _ _ _ h => h) (Or.inl ⟨by rfl, fun w hSw => ?_⟩) (by assumption) ?_
      rotate_left
      · (try dsimp only at hSw)
        go_simp
        try with_reducible rfl
      try simp only [Act.put, List.setIfInBounds_toArray, List.set_cons_zero, List.set_cons_succ]
      refine wpAnyH_take (i := 10) (oi := ⟨some 14, _, _, _, _, _⟩) (v := ?_) rfl (by kernel_rfl) (by kernel_rfl) (by kernel_rfl) (fun _ _ _ h => h) (Or.inl ⟨by rfl, fun w hSw => ?_⟩) (by assumption) ?_
      rotate_left
      · (try dsimp only at hSw)
        go_simp
        try with_reducible rfl
      try simp only [Act.put, List.setIfInBounds_toArray, List.set_cons_zero, List.set_cons_succ]
      refine wpAnyH_ready (rs := [11]) (by kernel_rfl) (by simp) ?_
      refine AllReadyH.cons (o := ⟨none, _, _, _, _, _⟩) rfl (fun K hK => ?_) AllReadyH.nil
      rw [if_pos (by rfl)]
      refine wp_store_one 29 (.tmp 14) (.tmp 12) rfl L 0 (.slice A2 (n + 1) c2) rfl rfl rfl sizeVs (by rw [b3.out.one.1]; rfl) b3.out.one.2.1 rfl ?_
      refine hK.out _ _ (v3.out.far (p := ⟨L, 0, none⟩) HLW.out _).five (fun hHeld => ?_)
      clear hK K
      try simp only [Act.put, List.setIfInBounds_toArray, List.set_cons_zero, List.set_cons_succ]
      refine wpAnyH_done (by kernel_rfl) ?_ _
      refine NoPanic.normal ?_
      have HE := Lib.hid (put_end H0.out hn hbase (k1.out.alloc _) hg.out hown.out hor.out ⟨a1.out.alloc _, hl, hB⟩ (fun hd ad e => Nat.le_trans (HK0.out.size) (Nat.le_of_lt (o1.out ad e))))
      clear hown hg hor v3 b3 v1 a1 o1 c1 k1
      go_wp2
      refine bodyPost_end (results_none rfl _ _ _) rfl ?_
      exact ⟨rfl, A2, c2, ⟨zk, zc, zs', zd, A1, m1, za⟩, ⟨rfl, rfl, rfl, rfl, rfl⟩, HE.out⟩

end Go.Proofs.YtknaogpkakdcoaaDoor
