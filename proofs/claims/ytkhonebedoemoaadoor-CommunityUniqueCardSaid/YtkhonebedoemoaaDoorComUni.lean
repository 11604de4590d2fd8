/- CommunityUnique's walk. No condition but the table of powers of ten. -/
import Derived.Test.YtkhonebedoemoaaDoorComU
import Derived.Deep.RegionHeld3
namespace Go.Proofs.YtkhonebedoemoaaDoor
open Go.RowKit
set_option linter.unusedVariables false
set_option linter.unusedSimpArgs false

/-- What comes of Unique, its fields written out. -/
def UniqE (w : World) (k : Int) (p : Bool) (l : List Int) (n : Nat) (e : Ending) (w' : World) : Prop :=
  ∃ A c, e = .returned (.agg #[.int .i64 k, .bool p, .int .u32 0, .int .u32 0, .slice none 0 0, .slice A n c, .slice none 0 0, .int .i64 0, .slice none 0 0]) ∧ w'.ownsRow w.heap.size 22 1 (.slice A n c) n (us l) ∧ Kp NoB w w'
theorem UniqR.e {w w' : World} {k : Int} {p : Bool} {l : List Int} {e : Ending} (h : UniqR w k p l e w') : UniqE w k p l l.length e w' := h
theorem own_facts {W : World} {base n c : Nat} {e : TypeId} {size : Nat} {A : Option Addr} {xs : List Value} (h : W.ownsRow base e size (.slice A n c) n xs) : n ≤ c ∧ c ≤ maxLen ∧ Arr W A xs := by
  obtain ⟨A', c', he, h1, h2, h3⟩ := own_form h
  injection he with e1 _ e3
  subst e1 e3
  exact ⟨h1, h2, h3⟩
/-- Cells of numbers that may be written. -/
def RowW (W : World) (A : Option Addr) (n : Nat) : Prop := ∀ j, j < n → ∃ g x, A = some ⟨g, 0, none⟩ ∧ W.cell? ⟨g, j, none⟩ = some (.int .u32 x) ∧ W.frozen? ⟨g, j, none⟩ = false
theorem RowW.set {W : World} {n g : Nat} {A : Option Addr} (h : RowW W A n) (hA : A = some ⟨g, 0, none⟩) (i : Nat) (y : Int) : RowW (W.setCell ⟨g, i, none⟩ (.int .u32 y)) A n := by
  intro j hj
  obtain ⟨g', x, e, hc, hf⟩ := h j hj
  rw [hA] at e
  injection e with e
  injection e with e
  subst e
  by_cases hij : j = i
  · subst hij
    exact ⟨g, y, hA, World.cell?_setCell_same' _ _ _ (by rw [hc]; rfl), by rw [World.frozen?_setCell]; exact hf⟩
  · exact ⟨g, x, hA, by rw [World.cell?_setCell_other _ _ _ _ (fun q => hij (by injection q with _ q _; exact q.symm))]; exact hc, by rw [World.frozen?_setCell]; exact hf⟩
theorem rowW_own {W : World} {base n c : Nat} {A : Option Addr} {l : List Int} (h : W.ownsRow base 22 1 (.slice A n c) n (us l)) (hl : l.length = n) : RowW W A n := by
  intro j hj
  rcases h.2 with ⟨he, h0⟩ | ⟨g, cap, cur, he, _, hh, _⟩
  · omega
  · obtain ⟨g', e1, _, hlt, hc, hf⟩ := own_at h (by omega)
    have hjl : j < l.length := by omega
    exact ⟨g', l[j], e1, hc j _ (by simp [us, hjl]), by
      injection he with he1 _ _
      rw [he1] at e1
      injection e1 with e1
      injection e1 with e1
      rw [← e1]
      simp [World.frozen?, hh]⟩

set_option maxRecDepth 100000 in
set_option maxHeartbeats 16000000 in
theorem cuni_row (z : AtI) (w : World) (hz : InAt9 w z) (ld : Ld w) :
    Calls Tryd.prog 4 #[z.val] w fun e w' => e = .returned (.bool true) ∧ Kp NoB w w' := by
  obtain ⟨hin, xs, hx⟩ := hz
  have HSM := Lib.hid (fun W (k : Kp NoB w W) => small_any z W (hin.and k))
  have HAL := Lib.hid (fun W (k : Kp NoB w W) => alive_any W (ld.tb.and k))
  obtain ⟨k, hk⟩ : ∃ k, uK z = k := ⟨_, rfl⟩
  obtain ⟨p, hp⟩ : ∃ p, uP z = p := ⟨_, rfl⟩
  obtain ⟨l, hl⟩ : ∃ l, uL z xs = l := ⟨_, rfl⟩
  obtain ⟨n, hn⟩ : ∃ n, l.length = n := ⟨_, rfl⟩
  have HCL := Lib.hid (fun (s : z.small) W (kk : Kp NoB w W) => (show Calls Tryd.prog 13 #[.slice z.L z.ln z.lc] W (fun e w' => ∃ A c, e = .returned (.slice A z.ln c) ∧ w'.ownsRow W.heap.size 22 1 (.slice A z.ln c) z.ln (us xs) ∧ Kp NoB W w') by
    have h := uclone_any z.L z.lc xs W (by unfold AtI.small at s; rw [hx.1]; omega) (hx.2.2.2.1.and kk)
    rw [hx.1] at h
    refine h.mono (fun e w' ⟨A, c, h1, h2, h3⟩ => ⟨A, c, ?_, ?_, h3⟩)
    · rw [h1, hx.1]
    · rw [hx.1] at h2
      exact h2))
  have HU1 := Lib.hid (fun (s : z.small) W (kk : Kp NoB w W) => (show Calls Tryd.prog 12 #[z.val] W (UniqE W k p l n) by
    have h := cuniq_any z (hin.1.ok s) xs W (hx.and kk) (by unfold AtI.small at s; omega)
    rw [hk, hp, hl] at h
    rw [← hn]
    exact h))
  have HRU := Lib.hid (fun (s : z.small) W (kk : Kp NoB w W) => (show Calls Tryd.prog 15 #[z.val] W (UniqE W k p l n) by
    have h := runiq_any z (hin.1.ok s) xs W (hx.and kk) (by unfold AtI.small at s; omega)
    rw [hk, hp, hl] at h
    rw [← hn]
    exact h))
  have hlf := uL_facts hx.1 hx.2.2.2.2
  rw [hl, hn] at hlf
  have HU2 := Lib.hid (fun (s : z.small) A c W (ha : n ≤ c ∧ c ≤ maxLen ∧ Arr W A (us l)) => (show Calls Tryd.prog 12 #[(zU k p A n c).val] W (UniqE W k p l n) by
    have hle : n ≤ 1000 := by have := hlf.1; unfold AtI.small at s; omega
    have h := cuniq_any (zU k p A n c) (zU_ok (by rw [← hk]; exact uK_ok (hin.1.ok s)) p A c hle) l W ⟨hn, ha.1, ha.2.1, ha.2.2, hlf.2⟩ hle
    have h2 := uniq_again hx.1 hx.2.2.2.2 A c
    rw [hk, hp, hl, hn] at h2
    rw [h2.1, h2.2.1, h2.2.2] at h
    rw [← hn]
    rw [← hn] at h
    exact h))
  have HSS := Lib.hid (fun (s : z.small) A B c d W (ha : Arr W A (us l)) (hb : Arr W B (us l)) => (show Calls Tryd.prog 14 #[(zU k p A n c).val, (zU k p B n d).val] W (Stay (.bool true) W) by
    have hle : n ≤ 1000 := by have := hlf.1; unfold AtI.small at s; omega
    have h := usame2 k p A B c d l W (by omega) ha hb
    rw [hn] at h
    exact h))
  have HEQ := Lib.hid (fun (s : z.small) B d W (kk : Kp NoB w W) (hb : Arr W B (us xs)) => (show Calls Tryd.prog 16 #[.slice z.L z.ln z.lc, .slice B z.ln d] W (Stay (.bool true) W) by
    have h := uequal_any z.L B z.lc d xs xs W (hx.2.2.2.1.and kk) hb (by unfold AtI.small at s; rw [hx.1]; omega)
    rw [hx.1, decide_eq_true rfl] at h
    exact h))
  have HN := Lib.hid hn
  have HXL := Lib.hid hx.1
  have hsn : z.small → n ≤ 1000 := fun s => by have := hlf.1; unfold AtI.small at s; omega
  have HSN := Lib.hid hsn
  clear hin hx ld hk hp hl hn hlf hsn
  unfold AtI.val AtI.cs at HSM HU1 HRU ⊢
  unfold zU AtI.val AtI.cs at HU2 HSS
  simp only at HU2 HSS
  go_enter Tryd.func4, Tryd.ntmps4
  go_wp2_with (first
    | (go_at_call 8; refine Calls.mono (HSM.out _ ((Kp.refl NoB w).alloc _)) ?_; rintro e w1 ⟨b, rfl, hs, hK⟩; obtain ⟨hk1', hZ'⟩ := fin_at (z := z) hK; have hk1 := Lib.hid hk1'; have hZ := Lib.hid hZ'; have HS := Lib.hid hs; obtain ⟨x0, x1, x2, x3, x4, x5, x6, x7, x8⟩ := hZ'.attr; clear hK hk1' hZ' hs)
    | (go_at_call 9; refine Calls.mono (HAL.out _ hk1.out) ?_; rintro e w2 ⟨rfl, hK⟩; have hk2 := Lib.hid (hk1.out.and hK); clear hK))
  · go_ret
    exact ⟨rfl, hk2.out⟩
  · have HSm := Lib.hid (HS.out (by cases b <;> simp_all))
    have HCL' := Lib.hid (HCL.out HSm.out)
    have HU1' := Lib.hid (HU1.out HSm.out)
    have HRU' := Lib.hid (HRU.out HSm.out)
    have HU2' := Lib.hid (HU2.out HSm.out)
    have HSS' := Lib.hid (HSS.out HSm.out)
    have HEQ' := Lib.hid (HEQ.out HSm.out)
    have hn1 := HSN.out HSm.out
    clear HCL HU1 HRU HU2 HSS HEQ HS HSM
    go_wp2_with (first
      | (go_at_call 13; (with_reducible refine Calls.mono (HCL'.out _ hk1.out) ?_); rintro e w2 ⟨CA, cc, rfl, ho, hK⟩; have hk2 := Lib.hid (hk1.out.and hK); have hZ2 := Lib.hid (hZ.out.and hK); have ho2 := Lib.hid ho; clear x0 x1 x2 x3 x4 x5 x6 x7 x8; obtain ⟨x0, x1, x2, x3, x4, x5, x6, x7, x8⟩ := hZ2.out.attr; clear hK ho)
      | (go_at_call 12; (with_reducible refine Calls.mono (HU1'.out _ hk2.out) ?_); rintro e w3 ⟨A, c, rfl, ho, hK⟩; have hk3 := Lib.hid (hk2.out.and hK); have hZ3 := Lib.hid (hZ2.out.and hK); have hC3 := Lib.hid (hK.own ho2.out (fun _ _ q => q)); have hf3 := Lib.hid (own_facts ho); have ho3 := Lib.hid ho; have bu3 := Lib.hid (Bk.fresh w3 28 (zU k p A n c).cs); have hlt3 := hZ3.out.lt; obtain ⟨y0, y1, y2, y3, y4, y5, y6, y7, y8⟩ := bu3.out.attr; unfold zU AtI.cs at y0 y1 y2 y3 y4 y5 y6 y7 y8; simp only at y0 y1 y2 y3 y4 y5 y6 y7 y8; clear hK ho x0 x1 x2 x3 x4 x5 x6 x7 x8)
      | (go_at_call 12; (with_reducible refine Calls.mono (HU2'.out A c _ ⟨hf3.out.1, hf3.out.2.1, hf3.out.2.2.and ((Kp.refl NoB w3).alloc _)⟩) ?_); rintro e w4 ⟨A2, c2, rfl, ho, hK⟩; have hk4 := Lib.hid ((hk3.out.alloc _).and hK); have hZ4 := Lib.hid ((hZ3.out.alloc _).and hK); have bu4 := Lib.hid (bu3.out.and hK); have hC4 := Lib.hid (hK.own (((Kp.refl NoB w3).alloc _).own hC3.out (fun _ _ q => q)) (fun _ _ q => q)); have hO4 := Lib.hid (hK.own (((Kp.refl NoB w3).alloc _).own ho3.out (fun _ _ q => q)) (fun _ _ q => q)); have hf4 := Lib.hid (own_facts ho); have bu3' := bu4.out.lt; clear hK ho y0 y1 y2 y3 y4 y5 y6 y7 y8))
    obtain ⟨w5, hw5⟩ : ∃ w5, w4.alloc (.cells #[.int .i64 k, .bool p, .int .u32 0, .int .u32 0, .slice none 0 0, .slice A2 n c2, .slice none 0 0, .int .i64 0, .slice none 0 0] 28) = w5 := ⟨_, rfl⟩
    have hka : Kp NoB w4 w5 := by rw [← hw5]; exact (Kp.refl NoB w4).alloc _
    have ba5 : Hid (Bk w5 w4.heap.size 28 (zU k p A2 n c2).cs) := Lib.hid (by rw [← hw5]; exact Bk.fresh w4 _ _)
    have hk5 := Lib.hid (hk4.out.and hka)
    have hZ5 := Lib.hid (hZ4.out.and hka)
    have bu5 := Lib.hid (bu4.out.and hka)
    have hA5 := Lib.hid (own_facts (hka.own hO4.out (fun _ _ q => q)))
    have hB5 : Hid (n ≤ c2 ∧ c2 ≤ maxLen ∧ Arr w5 A2 (us l)) := Lib.hid ⟨hf4.out.1, hf4.out.2.1, hf4.out.2.2.and hka⟩
    have hO5 := Lib.hid (hka.own hO4.out (fun _ _ q => q))
    have hC5 := Lib.hid (hka.own hC4.out (fun _ _ q => q))
    have hs3 := ba5.out.lt
    rw [hw5]
    clear hw5 hka
    -- REGION6
    refine wp_region_noPanic ?_
    refine wp_region_held_drew (S := (fun w' => (w'.cell? ⟨w.heap.size, 0, none⟩ = some (.int .i64 z.t) ∧ w'.cell? ⟨w.heap.size, 1, none⟩ = some (.bool z.p) ∧ w'.cell? ⟨w.heap.size, 2, none⟩ = some (.int .u32 z.n) ∧ w'.cell? ⟨w.heap.size, 3, none⟩ = some (.int .u32 z.m) ∧ w'.cell? ⟨w.heap.size, 4, none⟩ = some (.slice z.S z.sn z.sc) ∧ w'.cell? ⟨w.heap.size, 5, none⟩ = some (.slice z.L z.ln z.lc) ∧ w'.cell? ⟨w.heap.size, 6, none⟩ = some (.slice z.B z.bn z.bc) ∧ w'.cell? ⟨w.heap.size, 7, none⟩ = some (.int .i64 z.f) ∧ w'.cell? ⟨w.heap.size, 8, none⟩ = some (.slice z.R z.rn z.rc)) ∧ (w'.cell? ⟨w3.heap.size, 0, none⟩ = some (.int .i64 k) ∧ w'.cell? ⟨w3.heap.size, 1, none⟩ = some (.bool p) ∧ w'.cell? ⟨w3.heap.size, 2, none⟩ = some (.int .u32 0) ∧ w'.cell? ⟨w3.heap.size, 3, none⟩ = some (.int .u32 0) ∧ w'.cell? ⟨w3.heap.size, 4, none⟩ = some (.slice none 0 0) ∧ w'.cell? ⟨w3.heap.size, 5, none⟩ = some (.slice A n c) ∧ w'.cell? ⟨w3.heap.size, 6, none⟩ = some (.slice none 0 0) ∧ w'.cell? ⟨w3.heap.size, 7, none⟩ = some (.int .i64 0) ∧ w'.cell? ⟨w3.heap.size, 8, none⟩ = some (.slice none 0 0)) ∧ (w'.cell? ⟨w4.heap.size, 0, none⟩ = some (.int .i64 k) ∧ w'.cell? ⟨w4.heap.size, 1, none⟩ = some (.bool p) ∧ w'.cell? ⟨w4.heap.size, 2, none⟩ = some (.int .u32 0) ∧ w'.cell? ⟨w4.heap.size, 3, none⟩ = some (.int .u32 0) ∧ w'.cell? ⟨w4.heap.size, 4, none⟩ = some (.slice none 0 0) ∧ w'.cell? ⟨w4.heap.size, 5, none⟩ = some (.slice A2 n c2) ∧ w'.cell? ⟨w4.heap.size, 6, none⟩ = some (.slice none 0 0) ∧ w'.cell? ⟨w4.heap.size, 7, none⟩ = some (.int .i64 0) ∧ w'.cell? ⟨w4.heap.size, 8, none⟩ = some (.slice none 0 0)))) (by kernel_rfl) ?_ (fun hHeld => ?_)
    · exact ⟨hZ5.out.attr, bu5.out.attr, ba5.out.attr⟩
    refine wpAnyH_take (i := 0) (oi := ⟨some 18, _, _, _, _, _⟩) (v := ?_) rfl (by kernel_rfl) (by kernel_rfl) (by kernel_rfl) (fun _ _ _ h => h) (Or.inl ⟨by rfl, fun w hSw => ?_⟩) (by assumption) ?_
    rotate_left
    · (try dsimp only at hSw)
      go_simp
      try with_reducible rfl
    try simp only [Act.put, List.setIfInBounds_toArray, List.set_cons_zero, List.set_cons_succ]
    refine wpAnyH_take (i := 1) (oi := ⟨some 19, _, _, _, _, _⟩) (v := ?_) rfl (by kernel_rfl) (by kernel_rfl) (by kernel_rfl) (fun _ _ _ h => h) (Or.inl ⟨by rfl, fun w hSw => ?_⟩) (by assumption) ?_
    rotate_left
    · (try dsimp only at hSw)
      go_simp
      try with_reducible rfl
    try simp only [Act.put, List.setIfInBounds_toArray, List.set_cons_zero, List.set_cons_succ]
    refine wpAnyH_ready (rs := [2]) (by kernel_rfl) (by simp) ?_
    refine AllReadyH.cons (o := ⟨some 20, _, _, _, _, _⟩) rfl (fun K hK => ?_) AllReadyH.nil
    go_simp
    (with_reducible refine Calls.mono (HRU'.out _ (hk5.out.drew)) ?_)
    rintro e w6 ⟨A6, c6, rfl, ho, hK6⟩
    have hk6 := Lib.hid (hk5.out.drew.and hK6)
    have hZ6 := Lib.hid ((bk_drew hZ5.out).and hK6)
    have bu6 := Lib.hid ((bk_drew bu5.out).and hK6)
    have ba6 := Lib.hid ((bk_drew ba5.out).and hK6)
    have hr6 := Lib.hid (own_facts ho)
    have hkk6 : Hid (Kp NoB w5 w6) := Lib.hid ((Kp.refl NoB w5).drew.and hK6)
    clear hK6 ho
    refine hK.out _ _ ?_ (fun hHeld => ?_)
    · (try dsimp only)
      exact ⟨hZ6.out.attr, bu6.out.attr, ba6.out.attr⟩
    clear hK K
    try simp only [Act.put, List.setIfInBounds_toArray, List.set_cons_zero, List.set_cons_succ]
    refine wpAnyH_ready (rs := [3]) (by kernel_rfl) (by simp) ?_
    refine AllReadyH.cons (o := ⟨some 21, _, _, _, _, _⟩) rfl (fun K hK => ?_) AllReadyH.nil
    go_simp
    (with_reducible refine Calls.mono (HSS'.out A A6 c c6 _ (hA5.out.2.2.and hkk6.out) hr6.out.2.2) ?_)
    rintro e w7 ⟨rfl, hK7⟩
    have hk7 := Lib.hid (hk6.out.and hK7)
    have hZ7 := Lib.hid (hZ6.out.and hK7)
    have bu7 := Lib.hid (bu6.out.and hK7)
    have ba7 := Lib.hid (ba6.out.and hK7)
    have hkk7 := Lib.hid (hkk6.out.and hK7)
    clear hK7
    refine hK.out _ _ ?_ (fun hHeld => ?_)
    · (try dsimp only)
      exact ⟨hZ7.out.attr, bu7.out.attr, ba7.out.attr⟩
    clear hK K
    try simp only [Act.put, List.setIfInBounds_toArray, List.set_cons_zero, List.set_cons_succ]
    refine wpAnyH_take (i := 4) (oi := ⟨some 22, _, _, _, _, _⟩) (v := ?_) rfl (by kernel_rfl) (by kernel_rfl) (by kernel_rfl) (fun _ _ _ h => h) (Or.inl ⟨by rfl, fun w hSw => ?_⟩) (by assumption) ?_
    rotate_left
    · (try dsimp only at hSw)
      go_simp
      try with_reducible rfl
    try simp only [Act.put, List.setIfInBounds_toArray, List.set_cons_zero, List.set_cons_succ]
    refine wpAnyH_take (i := 5) (oi := ⟨some 23, _, _, _, _, _⟩) (v := ?_) rfl (by kernel_rfl) (by kernel_rfl) (by kernel_rfl) (fun _ _ _ h => h) (Or.inl ⟨by rfl, fun w hSw => ?_⟩) (by assumption) ?_
    rotate_left
    · (try dsimp only at hSw)
      go_simp
      try with_reducible rfl
    try simp only [Act.put, List.setIfInBounds_toArray, List.set_cons_zero, List.set_cons_succ]
    refine wpAnyH_take (i := 6) (oi := ⟨some 24, _, _, _, _, _⟩) (v := ?_) rfl (by kernel_rfl) (by kernel_rfl) (by kernel_rfl) (fun _ _ _ h => h) (Or.inl ⟨by rfl, fun w hSw => ?_⟩) (by assumption) ?_
    rotate_left
    · (try dsimp only at hSw)
      go_simp
      try with_reducible rfl
    try simp only [Act.put, List.setIfInBounds_toArray, List.set_cons_zero, List.set_cons_succ]
    refine wpAnyH_take (i := 7) (oi := ⟨some 25, _, _, _, _, _⟩) (v := ?_) rfl (by kernel_rfl) (by kernel_rfl) (by kernel_rfl) (fun _ _ _ h => h) (Or.inl ⟨by rfl, fun w hSw => ?_⟩) (by assumption) ?_
    rotate_left
    · (try dsimp only at hSw)
      go_simp
      try with_reducible rfl
    try simp only [Act.put, List.setIfInBounds_toArray, List.set_cons_zero, List.set_cons_succ]
    refine wpAnyH_ready (rs := [8]) (by kernel_rfl) (by simp) ?_
    refine AllReadyH.cons (o := ⟨some 26, _, _, _, _, _⟩) rfl (fun K hK => ?_) AllReadyH.nil
    go_simp
    (with_reducible refine Calls.mono (HSS'.out A2 A c2 c _ (hB5.out.2.2.and hkk7.out) (hA5.out.2.2.and hkk7.out)) ?_)
    rintro e w8 ⟨rfl, hK8⟩
    have hk8 := Lib.hid (hk7.out.and hK8)
    have hZ8 := Lib.hid (hZ7.out.and hK8)
    have bu8 := Lib.hid (bu7.out.and hK8)
    have ba8 := Lib.hid (ba7.out.and hK8)
    have hkk8 := Lib.hid (hkk7.out.and hK8)
    clear hK8
    refine hK.out _ _ ?_ (fun hHeld => ?_)
    · (try dsimp only)
      exact ⟨hZ8.out.attr, bu8.out.attr, ba8.out.attr⟩
    clear hK K
    try simp only [Act.put, List.setIfInBounds_toArray, List.set_cons_zero, List.set_cons_succ]
    refine wpAnyH_take (i := 9) (oi := ⟨some 27, _, _, _, _, _⟩) (v := ?_) rfl (by kernel_rfl) (by kernel_rfl) (by kernel_rfl) (fun _ _ _ h => h) (Or.inl ⟨by rfl, fun w hSw => ?_⟩) (by assumption) ?_
    rotate_left
    · (try dsimp only at hSw)
      go_simp
      try with_reducible rfl
    try simp only [Act.put, List.setIfInBounds_toArray, List.set_cons_zero, List.set_cons_succ]
    refine wpAnyH_take (i := 10) (oi := ⟨some 28, _, _, _, _, _⟩) (v := ?_) rfl (by kernel_rfl) (by kernel_rfl) (by kernel_rfl) (fun _ _ _ h => h) (Or.inl ⟨by rfl, fun w hSw => ?_⟩) (by assumption) ?_
    rotate_left
    · (try dsimp only at hSw)
      go_simp
      try with_reducible rfl
    try simp only [Act.put, List.setIfInBounds_toArray, List.set_cons_zero, List.set_cons_succ]
    refine wpAnyH_done (by kernel_rfl) ?_ _
    refine NoPanic.normal ?_
    -- END6
    have HG : Hid (∀ g, A = some ⟨g, 0, none⟩ → 0 < n → w.heap.size < g ∧ g < w3.heap.size ∧ ∀ ad, CA = some ad → us xs ≠ [] → ad.block ≠ g) := Lib.hid (fun g hg hn0 => by
      obtain ⟨g', e, hb', hlt, _, _⟩ := own_at ho3.out hn0
      rw [hg] at e
      injection e with e
      injection e with e
      subst e
      have h2 := hZ2.out.lt
      refine ⟨by omega, hlt, fun ad e hne q => ?_⟩
      have := (own_facts ho2.out).2.2.lt hne ad e
      omega)
    have HR8 : Hid (RowW w8 A n) := Lib.hid (rowW_own (hkk8.out.own hO5.out (fun _ _ q => q)) HN.out)
    have HC8 : Hid (Arr w8 CA (us xs)) := Lib.hid ((own_facts hC5.out).2.2.and hkk8.out)
    obtain ⟨y0, y1, y2, y3, y4, y5, y6, y7, y8⟩ := bu8.out.attr
    unfold zU at y5
    simp only at y5
    clear y0 y1 y2 y3 y4 y6 y7 y8
    go_wp2
    go_loopw [32] (fun i wr => ∃ (j : Nat), j ≤ n ∧ i = .int .i64 j ∧ Hid (Kp NoB w wr) ∧ Hid (Bk wr w.heap.size 28 z.cs) ∧ Hid (Bk wr w3.heap.size 28 (zU k p A n c).cs) ∧ Hid (RowW wr A n) ∧ Hid (Arr wr CA (us xs))) (fun i _ => n - (intOf i).toNat)
    case atStart => exact ⟨0, Nat.zero_le _, rfl, hk8, hZ8, bu8, HR8, HC8⟩
    case round =>
      obtain ⟨j, hj, rfl, hk, hz, hb, hr, hc⟩ := hrel
      clear y5
      by_cases hlt : j < n
      · obtain ⟨g, x, hA, hcx, hfx⟩ := hr.out j hlt
        have HGG := HG.out g hA (by omega)
        obtain ⟨y0, y1, y2, y3, y4, y5, y6, y7, y8⟩ := hb.out.attr
        unfold zU at y5
        simp only at y5
        clear y0 y1 y2 y3 y4 y6 y7 y8
        rw [hA] at y5
        have hjc : j < c := by have := hf3.out.1; omega
        have hcn : Hid (us xs ≠ [] → ∀ ad, CA = some ad → ad.block ≠ g) := Lib.hid (fun h ad e => HGG.2.2 ad e h)
        have HG1 := HGG.1
        have HG2 := HGG.2.1
        clear HGG
        go_wp2
        go_roundw
        case rel =>
          refine ⟨j + 1, by omega, by go_num, Lib.hid (hk.out.setCell (p := ⟨g, j, none⟩) (fun q => by simp at q; omega) _), Lib.hid (hz.out.far (p := ⟨g, j, none⟩) (by simp; omega) _), Lib.hid (hb.out.far (p := ⟨g, j, none⟩) (by simp; omega) _), Lib.hid (hr.out.set hA j _), Lib.hid (fun hne => ?_)⟩
          obtain ⟨ad, e, hcc⟩ := hc.out hne
          have hb := hcn.out hne ad e
          exact ⟨ad, e, fun i u hu => ((Kp.refl (OnB g) wr).setCell (p := ⟨g, j, none⟩) (fun _ => rfl) _).cell (hcc i u hu) (by rw [block_add]; exact hb)⟩
        case measure =>
          simp [intOf]
          omega
      · have hjn : j = n := by omega
        subst hjn
        obtain ⟨x0, x1, x2, x3, x4, x5, x6, x7, x8⟩ := hz.out.attr
        go_wp2_with (first
          | (go_at_call 9; (with_reducible refine Calls.mono (HAL.out _ hk.out) ?_); rintro e w9 ⟨rfl, hK⟩; have hk9 := Lib.hid (hk.out.and hK); have hz9 := hz.out.and hK; have hc9 := Lib.hid (hc.out.and hK); clear x0 x1 x2 x3 x4 x5 x6 x7 x8; obtain ⟨x0, x1, x2, x3, x4, x5, x6, x7, x8⟩ := hz9.attr; clear hK hz9)
          | (go_at_call 16; (with_reducible refine Calls.mono (HEQ'.out CA cc _ hk9.out hc9.out) ?_); rintro e w10 ⟨rfl, hK⟩; have hk10 := Lib.hid (hk9.out.and hK); clear hK))
        go_ret
        exact ⟨rfl, hk10.out⟩

end Go.Proofs.YtkhonebedoemoaaDoor
