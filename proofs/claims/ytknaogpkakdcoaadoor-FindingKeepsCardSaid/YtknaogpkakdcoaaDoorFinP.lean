/- clone and All once more: the blocks of the data told. A nil log. Rows that are written. No condition. -/
import Derived.Test.YtknaogpkakdcoaaDoorFinO
namespace Go.Proofs.YtknaogpkakdcoaaDoor
open Go.RowKit
set_option linter.unusedVariables false
set_option linter.unusedSimpArgs false

/-- The data lie at the head of a block of bytes. -/
def OwnB (w : World) (A : Option Addr) (d : List Int) : Prop := d ≠ [] → ∃ h cur, A = some ⟨h, 0, none⟩ ∧ Bk w h 5 cur
theorem OwnB.keep {S : Nat → Prop} {w w' : World} {A : Option Addr} {d : List Int} (h : OwnB w A d) (k : Kp S w w') (hs : d ≠ [] → ∀ ad, A = some ad → ¬ S ad.block) : OwnB w' A d := fun hd => by
  obtain ⟨g, cur, e, hb⟩ := h hd
  exact ⟨g, cur, e, hb.keep k (hs hd _ e)⟩
theorem ownB_of {w : World} {base n c : Nat} {A : Option Addr} {d : List Int} (h : w.ownsRow base 5 1 (.slice A n c) n (bs d)) : OwnB w A d := fun hd => by
  have h1 := h.1
  rw [bs_length] at h1
  rcases h.2 with ⟨_, h0⟩ | ⟨g, cap, cur, hv, hg, hh, _⟩
  · exact absurd (List.eq_nil_of_length_eq_zero (by omega)) hd
  · injection hv with hv
    exact ⟨g, cur, hv, hh⟩
theorem ownB_snoc {w w2 : World} {row : Option Nat} {zs : List ArgV} {z : ArgV} (h : ∀ y ∈ zs, OwnB w y.A y.d) (hz : OwnB w z.A z.d) (hg : w.grownBy w2 row) (hf : ∀ y ∈ zs ++ [z], y.d ≠ [] → ∀ ad, y.A = some ad → some ad.block ≠ row) : ∀ y ∈ zs ++ [z], OwnB w2 y.A y.d := fun y hy => by
  refine OwnB.keep ?_ (Kp.of_grown hg) (fun hd ad e => hf y hy hd ad e)
  rcases List.mem_append.1 hy with hy | hy
  · exact h y hy
  · rw [List.mem_singleton] at hy
    subst hy
    exact hz
/-- A verdict, its data in a block of its own. -/
def VerO (w : World) (z : ArgV) (e : Ending) (w' : World) : Prop := ∃ A m, e = .returned ({ z with A := A, m := m } : ArgV).val ∧ (Arr w' A (bs z.d) ∧ OwnB w' A z.d) ∧ (∀ ad, A = some ad → w.heap.size < ad.block) ∧ Kp NoB w w'

set_option maxRecDepth 100000 in
set_option maxHeartbeats 1600000 in
theorem fclone_own (z : ArgV) (w : World) (ha : Arr w z.A (bs z.d)) (hl : z.d.length ≤ 140737488355328) :
    Calls Tryd.prog 36 #[z.val] w (VerO w z) := by
  obtain ⟨k, c, s, d, A, m, a⟩ := z
  have hk0 := ((Kp.refl NoB w).alloc (.cells #[.int .i64 k, .int .i64 c, .int .i64 s, .slice A d.length m, .int .i64 a] 24)).alloc (.cells zeroZ.cs.toArray 24)
  have HC := Lib.hid (clone_any A m d _ hl (ha.and hk0))
  have HV := Lib.hid ((Bk.fresh w 24 #[.int .i64 k, .int .i64 c, .int .i64 s, .slice A d.length m, .int .i64 a]).alloc (.cells zeroZ.cs.toArray 24))
  have HR := Lib.hid (Bk.second w (.cells #[.int .i64 k, .int .i64 c, .int .i64 s, .slice A d.length m, .int .i64 a] 24) 24 zeroZ.cs.toArray)
  have HK := Lib.hid hk0
  unfold Cloned at HC
  have HF := Lib.hid (fun (A' : Option Addr) (m' : Nat) (w' : World) (h : Arr w' A' (bs d) ∧ OwnB w' A' d) (o : ∀ ad, A' = some ad → w.heap.size < ad.block) (q : Kp NoB w w') => (show VerO w ⟨k, c, s, d, A, m, a⟩ (.returned (.agg #[.int .i64 k, .int .i64 c, .int .i64 s, .slice A' d.length m', .int .i64 a])) w' from ⟨A', m', rfl, h, o, q⟩))
  unfold ArgV.val
  simp only
  simp only at ha
  obtain ⟨n, hn⟩ : ∃ n, d.length = n := ⟨_, rfl⟩
  rw [hn] at HC HV HR HK HF ⊢
  clear ha hl hn hk0
  go_enter Tryd.func36, Tryd.ntmps36
  go_wp2_with (go_at_call 47; (refine Calls.mono HC.out ?_); rintro e w1 ⟨A', m', rfl, hown, hK⟩; have hk1 := Lib.hid (HK.out.and hK); have hv1 := Lib.hid (HV.out.and hK); have hr1 := Lib.hid (HR.out.and hK); have hA := Lib.hid (Arr.of_own hown); have ho := Lib.hid hown; obtain ⟨x0, x1, x2, x3, x4⟩ := hv1.out.five; obtain ⟨y0, y1, y2, y3, y4⟩ := hr1.out.five; have e3 := hv1.out.frozen 3; have f0 := hr1.out.frozen 0; have f1 := hr1.out.frozen 1; have f2 := hr1.out.frozen 2; have f3 := hr1.out.frozen 3; have f4 := hr1.out.frozen 4; have hlt : w.heap.size + 1 < w1.heap.size := hr1.out.lt; have hlt0 : w.heap.size < w1.heap.size := hv1.out.lt; clear hK hown)
  have hk2 := kp5 (hk1.out.setCell (p := ⟨w.heap.size, 3, none⟩) (fun q => absurd q (by simp)) (.slice A' n m')) (Nat.le_succ w.heap.size) (.int .i64 k) (.int .i64 c) (.int .i64 s) (.slice A' n m') (.int .i64 a)
  have hr2 := set5 (hr1.out.far (p := ⟨w.heap.size, 3, none⟩) (Nat.ne_of_gt (Nat.lt_succ_self _)) (.slice A' n m')) (.int .i64 k) (.int .i64 c) (.int .i64 s) (.slice A' n m') (.int .i64 a)
  have hA2 : Arr _ A' (bs d) := hA.out.keep (S := fun b => b = w.heap.size ∨ b = w.heap.size + 1) (((((((Kp.refl _ w1).setCell (p := ⟨w.heap.size, 3, none⟩) (fun _ => .inl rfl) (.slice A' n m')).setCell (p := ⟨w.heap.size + 1, 0, none⟩) (fun _ => .inr rfl) (.int .i64 k)).setCell (p := ⟨w.heap.size + 1, 1, none⟩) (fun _ => .inr rfl) (.int .i64 c)).setCell (p := ⟨w.heap.size + 1, 2, none⟩) (fun _ => .inr rfl) (.int .i64 s)).setCell (p := ⟨w.heap.size + 1, 3, none⟩) (fun _ => .inr rfl) (.slice A' n m')).setCell (p := ⟨w.heap.size + 1, 4, none⟩) (fun _ => .inr rfl) (.int .i64 a)) (fun ad e => by
    subst e
    have h2 := (own_base ho.out ad.block rfl)
    simp only [World.size_alloc] at h2
    show ¬ (ad.block = w.heap.size ∨ ad.block = w.heap.size + 1)
    omega)
  have hO2 : OwnB _ A' d := (ownB_of ho.out).keep (S := fun b => b = w.heap.size ∨ b = w.heap.size + 1) (((((((Kp.refl _ w1).setCell (p := ⟨w.heap.size, 3, none⟩) (fun _ => .inl rfl) (.slice A' n m')).setCell (p := ⟨w.heap.size + 1, 0, none⟩) (fun _ => .inr rfl) (.int .i64 k)).setCell (p := ⟨w.heap.size + 1, 1, none⟩) (fun _ => .inr rfl) (.int .i64 c)).setCell (p := ⟨w.heap.size + 1, 2, none⟩) (fun _ => .inr rfl) (.int .i64 s)).setCell (p := ⟨w.heap.size + 1, 3, none⟩) (fun _ => .inr rfl) (.slice A' n m')).setCell (p := ⟨w.heap.size + 1, 4, none⟩) (fun _ => .inr rfl) (.int .i64 a)) (fun _ ad e => by
    subst e
    have h2 := (own_base ho.out ad.block rfl)
    simp only [World.size_alloc] at h2
    show ¬ (ad.block = w.heap.size ∨ ad.block = w.heap.size + 1)
    omega)
  refine bodyPost_ret (v := .agg #[.int .i64 k, .int .i64 c, .int .i64 s, .slice A' n m', .int .i64 a]) (results_cell_row (fn := Tryd.f36) rfl _ _ (w.heap.size + 1) 24 _ (0, 0) _ rfl hr2 Tryd.underlying24 rfl (by kernel_rfl)) rfl (HF.out _ _ _ ⟨hA2, hO2⟩ (fun ad e => by
    subst e
    have h2 := (own_base ho.out ad.block rfl)
    simp only [World.size_alloc] at h2
    omega) hk2)

set_option maxRecDepth 100000 in
set_option maxHeartbeats 4000000 in
theorem all_own (base L : Nat) (A : Option Addr) (n c : Nat) (zs : List ArgV) (w : World) (h0 : LogS base w L (.slice A n c) zs) (hn : zs.length = n) (hn1 : n ≤ 100000) :
    Calls Tryd.prog 25 #[.pointer (some ⟨L, 0, none⟩)] w fun e w' => ∃ A' c' zs', e = .returned (.slice A' n c') ∧ AllM w zs n w' A' c' zs' ∧ ∀ z ∈ zs', OwnB w' z.A z.d := by
  obtain ⟨i0, hi, hz0, hz1, hz2⟩ := info_parts infoV5
  have H0 := Lib.hid h0
  have HN := Lib.hid hn
  obtain ⟨l0, l1, l2⟩ := h0.bk.one
  clear h0 hn
  go_enter Tryd.func25, Tryd.ntmps25
  go_wp2
  go_loopw [3, 14] (fun v i wr => ∃ (j : Nat) (A' : Option Addr) (c' : Nat), j ≤ n ∧ i = .int .i64 j ∧ v = .slice A' j c' ∧ Hid (∃ zs', zs'.length = j ∧ zs'.map key = (zs.take j).map key ∧ ZRow w.heap.size wr (.slice A' j c') zs' ∧ ∀ z ∈ zs', OwnB wr z.A z.d) ∧ Hid (Kp NoB w wr)) (fun _ i _ => n - (intOf i).toNat)
  case atStart => exact ⟨0, none, 0, Nat.zero_le _, rfl, rfl, Lib.hid ⟨[], rfl, rfl, ZRow.nil _ _, (fun z hz => nomatch hz)⟩, Lib.hid (Kp.refl _ _)⟩
  case round =>
    clear l0 l1 l2
    obtain ⟨j, A', c', hj, rfl, rfl, HI, HK⟩ := hrel
    by_cases hlt : j < n
    · obtain ⟨zs', hl', hm', hr', ho'⟩ := HI.out
      have hjl : j < zs.length := by rw [HN.out]; exact hlt
      have hrow := H0.out.row.and HK.out
      have hvs := hrow.vs HN.out
      have hdz := hrow.dat _ (List.getElem_mem hjl)
      have hst : (zs.take (j + 1)).map key = (zs.take j).map key ++ [key zs[j]] := by rw [List.take_succ_eq_append_getElem hjl, List.map_append]; rfl
      obtain ⟨ad, rfl, x0, x1, x2, x3, x4⟩ := vs_at hvs hjl
      obtain ⟨z, hz⟩ : ∃ z, zs[j] = z := ⟨_, rfl⟩
      rw [hz] at x0 x1 x2 x3 x4 hdz hst
      obtain ⟨k, cc, s, dd, ZA, zm, za⟩ := z
      simp only at x0 x1 x2 x3 x4 hdz
      have hk0 := (Kp.refl NoB wr).alloc (.cells #[.int .i64 k, .int .i64 cc, .int .i64 s, .slice ZA dd.length zm, .int .i64 za] 24)
      have HC := Lib.hid (fclone_own ⟨k, cc, s, dd, ZA, zm, za⟩ _ (hdz.1.and hk0) (by have := hdz.2.1; simp only; omega))
      have HK0 := Lib.hid hk0
      have HDZ := Lib.hid hdz.2
      have HST := Lib.hid hst
      have HL' := Lib.hid hl'
      have HM' := Lib.hid hm'
      have HR' := Lib.hid hr'
      have HO' := Lib.hid ho'
      have HOW := Lib.hid (fun W (q : Kp NoB wr W) => (show W.ownsRow w.heap.size 24 5 (.slice A' j c') j (flatZ zs') by have := (hr'.and q).row; rwa [hl'] at this))
      unfold VerO at HC
      unfold ArgV.val at HC
      simp only at HC
      clear hvs hz hdz hst hrow hk0 hl' hm' hr' ho' HI
      go_wp2_with (first
        | (go_at_call 36; (with_reducible refine Calls.mono HC.out ?_); rintro e w1 ⟨A1, m1, rfl, ha, ho, hK⟩; have a1 := Lib.hid ha.1; have b1 := Lib.hid ha.2; have o1 := Lib.hid ho; have k1 := Lib.hid (HK0.out.and hK); clear hK ha ho x0 x1 x2 x3 x4)
        | (at_builtin; refine wpList_app (HK.out.and (k1.out.alloc _)) rfl (.tmp 18) (.tmp 21) 29 rfl 24 i0 (.agg zeroZ.cs.toArray) 5 56 Tryd.underlying29 hi hz0 hz1 hz2 rfl (by decide) _ j (flatZ zs') rfl (HOW.out _ (k1.out.alloc _)) (some ⟨w1.heap.size, 0, none⟩) 1 1 (ArgV.cs ⟨k, cc, s, dd, A1, m1, za⟩) rfl rfl (Arr.lit w1 _ _) (by intro u hu; exact flatZ_one (xs := [⟨k, cc, s, dd, A1, m1, za⟩]) u (by simpa [flatZ] using hu)) (by omega) (by decide) (j + 1) rfl ?_; intro A2 c2 w2 hown2 hK2 hg2 hor2; have OW2 := Lib.hid hown2; have K2 := Lib.hid hK2; have G2 := Lib.hid hg2; have R2 := Lib.hid hor2; clear hown2 hK2 hg2 hor2))
      go_roundw
      case rel =>
        refine ⟨j + 1, A2, c2, by omega, by go_num, rfl, Lib.hid ⟨zs' ++ [⟨k, cc, s, dd, A1, m1, za⟩], by rw [List.length_append, HL'.out]; rfl, by rw [HST.out, List.map_append, HM'.out]; rfl, ?_⟩, K2⟩
        have hf : dd ≠ [] → ∀ ad', A1 = some ad' → w.heap.size ≤ ad'.block ∧ some ad'.block ≠ (Value.slice A' j c').ownBlock := fun hd ad' e => by
          have q1 := o1.out ad' e
          have q2 := HK0.out.size
          have q3 := HK.out.size
          refine ⟨by omega, fun q => ?_⟩
          have := (HR'.out.lt _ (.inl q)).2
          omega
        refine ⟨(HR'.out.and (k1.out.alloc _)).snoc HL'.out G2.out OW2.out R2.out ⟨a1.out.alloc _, HDZ.out⟩ hf, ownB_snoc (fun y hy => (HO'.out y hy).keep (k1.out.alloc _) (fun _ _ _ q => q)) (b1.out.keep ((Kp.refl NoB w1).alloc _) (fun _ _ _ q => q)) G2.out (fun y hy => ?_)⟩
        rcases List.mem_append.1 hy with hy | hy
        · exact fun hd ad' e => (HR'.out.far y hy hd ad' e).2
        · rw [List.mem_singleton] at hy
          subst hy
          exact fun hd ad' e => (hf hd ad' e).2
      case measure => simp [intOf]; omega
    · have hj' : j = n := by omega
      subst hj'
      have HE := Lib.hid (show ∃ zs', AllM w zs j wr A' c' zs' ∧ ∀ z ∈ zs', OwnB wr z.A z.d from by
        obtain ⟨zs', q1, q2, q3, q4⟩ := HI.out
        rw [List.take_of_length_le (by rw [HN.out]; omega)] at q2
        exact ⟨zs', ⟨q1, q2, q3, HK.out⟩, q4⟩)
      clear HI
      go_wp2
      go_ret
      obtain ⟨zs', h⟩ := HE.out
      exact ⟨A', c', zs', rfl, h.1, h.2⟩

/-! ### a nil log -/
set_option maxRecDepth 100000 in
set_option maxHeartbeats 400000 in
theorem add_nil (B : Option Addr) (m d : Nat) (w : World) : Calls Tryd.prog 23 #[.pointer none, .slice B m d] w (Stay (.int .i64 0) w) := by
  go_enter Tryd.func23, Tryd.ntmps23
  go_wp2
  go_ret
  exact ⟨rfl, Kp.refl _ _⟩
set_option maxRecDepth 100000 in
set_option maxHeartbeats 400000 in
theorem all_nil (w : World) : Calls Tryd.prog 25 #[.pointer none] w (Stay (.slice none 0 0) w) := by
  go_enter Tryd.func25, Tryd.ntmps25
  go_wp2
  go_ret
  exact ⟨rfl, Kp.refl _ _⟩
set_option maxRecDepth 100000 in
set_option maxHeartbeats 400000 in
theorem count_nil (k : Int) (w : World) : Calls Tryd.prog 26 #[.pointer none, .int .i64 k] w (Stay (.int .i64 0) w) := by
  have H := Lib.hid (all_nil w)
  go_enter Tryd.func26, Tryd.ntmps26
  go_wp2_with (go_at_call 25; (with_reducible refine Calls.mono H.out ?_); rintro e w1 ⟨rfl, hK⟩; have k1 := Lib.hid hK; clear hK)
  go_loopw [5, 11] (fun v i wr => v = .int .i64 0 ∧ i = .int .i64 0 ∧ Hid (Kp NoB w wr)) (fun _ i _ => 0)
  case atStart => exact ⟨rfl, rfl, k1⟩
  case round =>
    obtain ⟨rfl, rfl, HK⟩ := hrel
    go_wp2
    go_ret
    exact ⟨rfl, HK.out⟩
set_option maxRecDepth 100000 in
set_option maxHeartbeats 400000 in
theorem worst_nil (w : World) : Calls Tryd.prog 27 #[.pointer none] w (Stay zeroZ.val w) := by
  have HZ := Lib.hid (Bk.fresh w 24 zeroZ.cs.toArray)
  go_enter Tryd.func27, Tryd.ntmps27
  go_wp2
  refine bodyPost_ret (v := zeroZ.val) (results_cell_row (fn := Tryd.f27) rfl _ _ w.heap.size 24 zeroZ.cs.toArray (0, 0) _ rfl HZ.out Tryd.underlying24 rfl (by kernel_rfl)) rfl ⟨rfl, (Kp.refl _ _).alloc _⟩

/-! ### rows that are written -/
/-- Bytes that may be written, away from F and from block g. -/
def DW (w : World) (F : Nat → Prop) (g : Nat) (A : Option Addr) (d : Nat) : Prop := d ≤ 1000 ∧ (0 < d → ∃ h cur, A = some ⟨h, 0, none⟩ ∧ Bk w h 5 cur ∧ ¬ F h ∧ h ≠ g ∧ ∀ j, j < d → ∃ x : Int, cur[j]? = some (.int .u8 x))
/-- Verdicts in block g that may be written, away from F. -/
structure WRow (w : World) (F : Nat → Prop) (g n : Nat) : Prop where
  ex : ∃ cur : Array Value, Bk w g 24 cur ∧ ∀ i, i < n → ∃ (k a : Int) (A : Option Addr) (d m : Nat), cur[i * 5]? = some (.int .i64 k) ∧ cur[i * 5 + 4]? = some (.int .i64 a) ∧ cur[i * 5 + 3]? = some (.slice A d m) ∧ DW w F g A d
  nf : ¬ F g
section
variable {w w' : World} {F S : Nat → Prop} {g n : Nat}
theorem DW.keep {A : Option Addr} {d : Nat} (h : DW w F g A d) (k : Kp S w w') (hs : ∀ b, S b → F b) : DW w' F g A d := by
  refine ⟨h.1, fun h0 => ?_⟩
  obtain ⟨b, cur, e, hb, hf, hg, hc⟩ := h.2 h0
  exact ⟨b, cur, e, hb.keep k (fun q => hf (hs b q)), hf, hg, hc⟩
theorem WRow.keep (h : WRow w F g n) (k : Kp S w w') (hs : ∀ b, S b → F b) : WRow w' F g n := by
  obtain ⟨⟨cur, hb, hc⟩, hf⟩ := h
  refine ⟨⟨cur, hb.keep k (fun q => hf (hs g q)), fun i hi => ?_⟩, hf⟩
  obtain ⟨p, a, A, d, m, h1, h2, h3, h4⟩ := hc i hi
  exact ⟨p, a, A, d, m, h1, h2, h3, h4.keep k hs⟩
theorem WRow.and (h : WRow w F g n) (k : Kp NoB w w') : WRow w' F g n := h.keep k (fun _ q => q.elim)
theorem WRow.at (h : WRow w F g n) {i : Nat} (hi : i < n) : ∃ (k a : Int) (A : Option Addr) (d m : Nat), w.cell? ⟨g, i * 5, none⟩ = some (.int .i64 k) ∧ w.cell? ⟨g, i * 5 + 4, none⟩ = some (.int .i64 a) ∧ w.cell? ⟨g, i * 5 + 3, none⟩ = some (.slice A d m) ∧ DW w F g A d ∧ w.frozen? ⟨g, i * 5, none⟩ = false ∧ w.frozen? ⟨g, i * 5 + 4, none⟩ = false := by
  obtain ⟨⟨cur, hb, hc⟩, hf⟩ := h
  obtain ⟨k, a, A, d, m, h1, h2, h3, h4⟩ := hc i hi
  exact ⟨k, a, A, d, m, by rw [hb.cell]; exact h1, by rw [hb.cell]; exact h2, by rw [hb.cell]; exact h3, h4, hb.frozen _, hb.frozen _⟩
/-- A number of the row is written. -/
theorem WRow.setI (h : WRow w F g n) (o : Nat) (ho : o % 5 ≠ 3) (x : Int) : WRow (w.setCell ⟨g, o, none⟩ (.int .i64 x)) F g n := by
  obtain ⟨⟨cur, hb, hc⟩, hf⟩ := h
  refine ⟨⟨_, hb.set o _, fun i hi => ?_⟩, hf⟩
  obtain ⟨k, a, A, d, m, h1, h2, h3, h4⟩ := hc i hi
  have g1 : ∃ k' : Int, (cur.setIfInBounds o (.int .i64 x))[i * 5]? = some (.int .i64 k') := by
    rw [Array.getElem?_setIfInBounds]
    by_cases q : o = i * 5
    · subst q
      rw [if_pos rfl, if_pos (Array.getElem?_eq_some_iff.1 h1).1]
      exact ⟨x, rfl⟩
    · rw [if_neg q]
      exact ⟨k, h1⟩
  have g2 : ∃ k' : Int, (cur.setIfInBounds o (.int .i64 x))[i * 5 + 4]? = some (.int .i64 k') := by
    rw [Array.getElem?_setIfInBounds]
    by_cases q : o = i * 5 + 4
    · subst q
      rw [if_pos rfl, if_pos (Array.getElem?_eq_some_iff.1 h2).1]
      exact ⟨x, rfl⟩
    · rw [if_neg q]
      exact ⟨a, h2⟩
  obtain ⟨k', g1⟩ := g1
  obtain ⟨a', g2⟩ := g2
  refine ⟨k', a', A, d, m, g1, g2, ?_, h4.1, fun h0 => ?_⟩
  · rw [Array.getElem?_setIfInBounds, if_neg (by intro q; subst q; omega)]
    exact h3
  · obtain ⟨b, c2, e, hb2, hf2, hg2, hc2⟩ := h4.2 h0
    exact ⟨b, c2, e, hb2.far (p := ⟨g, o, none⟩) hg2 _, hf2, hg2, hc2⟩
theorem DW.setD {A A2 : Option Addr} {d d2 : Nat} (h : DW w F g A d) {b : Nat} {cur : Array Value} (hb : Bk w b 5 cur) (o : Nat) (x : Int) : DW (w.setCell ⟨b, o, none⟩ (.int .u8 x)) F g A d := by
  refine ⟨h.1, fun h0 => ?_⟩
  obtain ⟨b2, c2, e, hb2, hf2, hg2, hc2⟩ := h.2 h0
  by_cases q : b2 = b
  · subst q
    have hcc : cur = c2 := by
      unfold Bk at hb hb2
      rw [hb] at hb2
      injection hb2 with hb2
      injection hb2
    subst hcc
    refine ⟨b2, _, e, hb2.set o _, hf2, hg2, fun j hj => ?_⟩
    obtain ⟨y, hy⟩ := hc2 j hj
    rw [Array.getElem?_setIfInBounds]
    by_cases q2 : o = j
    · subst q2
      rw [if_pos rfl, if_pos (Array.getElem?_eq_some_iff.1 hy).1]
      exact ⟨x, rfl⟩
    · rw [if_neg q2]
      exact ⟨y, hy⟩
  · exact ⟨b2, c2, e, hb2.far (p := ⟨b, o, none⟩) q _, hf2, hg2, hc2⟩
/-- A byte of the data is written. -/
theorem WRow.setD (h : WRow w F g n) {b : Nat} {cur : Array Value} (hb : Bk w b 5 cur) (hbg : b ≠ g) (o : Nat) (x : Int) : WRow (w.setCell ⟨b, o, none⟩ (.int .u8 x)) F g n := by
  obtain ⟨⟨cu, hb0, hc⟩, hf⟩ := h
  refine ⟨⟨cu, hb0.far (p := ⟨b, o, none⟩) (fun q => hbg q.symm) _, fun i hi => ?_⟩, hf⟩
  obtain ⟨k, a, A, d, m, h1, h2, h3, h4⟩ := hc i hi
  exact ⟨k, a, A, d, m, h1, h2, h3, h4.setD (A2 := none) (d2 := 0) hb o x⟩
/-- A row of the call's own may be written. -/
theorem WRow.of {base c : Nat} {A : Option Addr} {zs : List ArgV} (h : ZRow base w (.slice A n c) zs) (hn : zs.length = n) (ho : ∀ z ∈ zs, OwnB w z.A z.d) (h0 : 0 < n) (hF : ∀ b, FZ (.slice A n c) zs b → ¬ F b) : ∃ g, A = some ⟨g, 0, none⟩ ∧ WRow w F g n := by
  have hr := h.row
  rw [hn] at hr
  rcases hr.2 with ⟨_, q⟩ | ⟨g, cap, cur, hv, hg, hh, hnc, hcm, hsz, htk⟩
  · omega
  · injection hv with hv
    subst hv
    have hbk : Bk w g 24 cur := hh
    refine ⟨g, rfl, ⟨⟨cur, hbk, fun i hi => ?_⟩, hF g (.inl rfl)⟩⟩
    have hiz : i < zs.length := by omega
    have hcell : ∀ q v, (zs[i].cs)[q]? = some v → cur[i * 5 + q]? = some v := fun q v hq => by
      have h5 := flatZ_get zs i _ (List.getElem?_eq_getElem hiz) q v hq
      have hq5 : q < 5 := (List.getElem?_eq_some_iff.1 hq).1
      rw [← htk, List.getElem?_take, if_pos (by omega)] at h5
      rw [← Array.getElem?_toList]
      exact h5
    have hm := List.getElem_mem hiz
    refine ⟨zs[i].k, zs[i].a, zs[i].A, zs[i].d.length, zs[i].m, hcell 0 _ rfl, hcell 4 _ rfl, hcell 3 _ rfl, (h.dat _ hm).2.1, fun hd0 => ?_⟩
    have hne : zs[i].d ≠ [] := fun q => by rw [q] at hd0; simp at hd0
    obtain ⟨b, c2, e, hb2⟩ := ho _ hm hne
    refine ⟨b, c2, e, hb2, hF b (.inr ⟨_, hm, hne, _, e, rfl⟩), fun q => (h.far _ hm hne _ e).2 (by rw [q]; rfl), fun j hj => ?_⟩
    have ha := (h.dat _ hm).1
    rw [e] at ha
    obtain ⟨ad, e2, hc⟩ := ha.at (bs_get zs[i].d j hj)
    injection e2 with e2
    subst e2
    rw [add_none, Nat.zero_add, hb2.cell] at hc
    exact ⟨_, hc⟩
end

end Go.Proofs.YtknaogpkakdcoaaDoor
