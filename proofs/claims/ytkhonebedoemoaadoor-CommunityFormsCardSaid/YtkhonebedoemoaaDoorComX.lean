/- Package community: Read. No condition but the bounds that arguments have. -/
import Derived.Test.YtkhonebedoemoaaDoorComW
import Derived.Test.YtkhonebedoemoaaDoorLeftO
import Derived.Test.YtkhonebedoemoaaDoorNum
import Derived.Test.YtkhonebedoemoaaDoorNewO
namespace Go.Proofs.YtkhonebedoemoaaDoor
open Go.RowKit
set_option linter.unusedVariables false
set_option linter.unusedSimpArgs false

/-- The first j numbers of bytes. -/
def numsU (b : List Int) (j : Nat) : List Int := (List.range j).map (fun q => big ((b.drop (4 * q)).take 4))
theorem numsU_succ (b : List Int) (j : Nat) : numsU b (j + 1) = numsU b j ++ [big ((b.drop (4 * j)).take 4)] := by simp [numsU, List.range_succ]
theorem numsU_len (b : List Int) (j : Nat) : (numsU b j).length = j := by simp [numsU]
theorem big4 (b : List Int) (j : Nat) (h : IsB b) : 0 ≤ big ((b.drop j).take 4) ∧ big ((b.drop j).take 4) < 4294967296 := by
  have hb : IsB ((b.drop j).take 4) := fun x hx => h x (List.mem_of_mem_drop (List.mem_of_mem_take hx))
  obtain ⟨h1, h2⟩ := big_bound _ hb
  refine ⟨h1, Int.lt_of_lt_of_le h2 ?_⟩
  have : (256 : Nat) ^ ((b.drop j).take 4).length ≤ 256 ^ 4 := Nat.pow_le_pow_right (by decide) (by rw [List.length_take]; omega)
  have h3 : ((256 ^ ((b.drop j).take 4).length : Nat) : Int) ≤ ((256 ^ 4 : Nat) : Int) := by exact_mod_cast this
  simpa using h3
theorem numsU_isU (b : List Int) (j : Nat) (h : IsB b) : IsU (numsU b j) := by
  intro x hx
  obtain ⟨q, _, rfl⟩ := List.mem_map.1 hx
  exact big4 b _ h
/-- Is there an attribute of type k with these bytes? -/
def readOk (k : Int) (b : List Int) : Bool := decide (b.length % 4 = 0) && validC (zU k false none (b.length / 4) 0)
theorem valid_len (k : Int) (p p' : Bool) (A B : Option Addr) (n c d : Nat) : validC (zU k p A n c) = validC (zU k p' B n d) := rfl
def rdK (k : Int) (b : List Int) : Int := if readOk k b = true then k else 0
def rdL (k : Int) (b : List Int) : List Int := if readOk k b = true then numsU b (b.length / 4) else []
def rdV (k : Int) (b : List Int) : Int := if readOk k b = true then 0 else 2
/-- What Read leaves. -/
def ReadU (w : World) (k : Int) (l : List Int) (v : Int) (e : Ending) (w' : World) : Prop :=
  ∃ A c, e = .returned (.tuple #[(zU k false A l.length c).val, .int .i64 v]) ∧ w'.ownsRow w.heap.size 22 1 (.slice A l.length c) l.length (us l) ∧ Kp NoB w w'
theorem readU_bad {w w' : World} {k : Int} {b : List Int} {e : Ending} (h : readOk k b = false) (he : e = .returned (.tuple #[zZ.val, .int .i64 2])) (hk : Kp NoB w w') : ReadU w (rdK k b) (rdL k b) (rdV k b) e w' := by
  unfold rdK rdL rdV
  rw [if_neg (by rw [h]; decide), if_neg (by rw [h]; decide), if_neg (by rw [h]; decide)]
  exact ⟨none, 0, he, World.ownsRow_nil _ _ _ _, hk⟩
theorem readU_good {w w' : World} {k : Int} {b : List Int} {e : Ending} {j : Nat} {A : Option Addr} {c : Nat} (hb : b.length = 4 * j) (h : validC (zU k false A j c) = true) (he : e = .returned (.tuple #[(zU k false A j c).val, .int .i64 0]))
    (ho : w'.ownsRow w.heap.size 22 1 (.slice A j c) j (us (numsU b j))) (hk : Kp NoB w w') : ReadU w (rdK k b) (rdL k b) (rdV k b) e w' := by
  have hd : b.length / 4 = j := by omega
  have hr : readOk k b = true := by
    unfold readOk
    rw [hd, valid_len k false false none A j 0 c, h]
    simp
    omega
  unfold rdK rdL rdV
  rw [if_pos hr, if_pos hr, if_pos hr, hd]
  exact ⟨A, c, by rw [numsU_len]; exact he, by rw [numsU_len]; exact ho, hk⟩

set_option maxRecDepth 100000 in
set_option maxHeartbeats 8000000 in
theorem cread_any (k : Int) (hk0 : -9223372036854775808 ≤ k ∧ k ≤ 9223372036854775807) (A : Option Addr) (c : Nat) (b : List Int) (w : World) (ha : Arr w A (bs b)) (hb : IsB b) (hl : b.length ≤ 4000) :
    Calls Tryd.prog 26 #[.int .i64 k, .slice A b.length c] w (ReadU w (rdK k b) (rdL k b) (rdV k b)) := by
  obtain ⟨i0, hi, hz0, hz1, hz2⟩ := info_parts infoU
  have HNW := Lib.hid (fun W (kk : Kp NoB w W) => new_any A c b W (by omega) (ha.and kk) hb)
  have HV := Lib.hid (fun (A : Option Addr) (j d : Nat) (hj : j ≤ 1000) W => valid_any (zU k false A j d) (zU_ok hk0 false A d hj) W)
  have HBG := Lib.hid (fun j => big4 b j hb)
  have HGOOD := Lib.hid (fun (e : Ending) (w' : World) (j : Nat) (A : Option Addr) (d : Nat) => @readU_good w w' k b e j A d)
  have HBAD := Lib.hid (fun (e : Ending) (w' : World) => @readU_bad w w' k b e)
  have HF := Lib.hid (fun (h : b.length % 4 ≠ 0) => (show readOk k b = false by unfold readOk; rw [decide_eq_false h, Bool.false_and]))
  have HF2 := Lib.hid (fun (j : Nat) (A : Option Addr) (d : Nat) (h : b.length = 4 * j) (hv : validC (zU k false A j d) = false) => (show readOk k b = false by
    unfold readOk
    rw [show b.length / 4 = j by omega, valid_len k false false none A j 0 d, hv, Bool.and_false]))
  obtain ⟨K, hK⟩ : ∃ x, rdK k b = x := ⟨_, rfl⟩
  obtain ⟨L, hL⟩ : ∃ x, rdL k b = x := ⟨_, rfl⟩
  obtain ⟨V, hV⟩ : ∃ x, rdV k b = x := ⟨_, rfl⟩
  rw [hK, hL, hV] at HGOOD HBAD ⊢
  obtain ⟨n, hn⟩ : ∃ n, b.length = n := ⟨_, rfl⟩
  have HN := Lib.hid hn
  rw [hn] at hl HNW HF HF2 ⊢
  have HRN : Hid (∀ e w' j A d, n = 4 * j → _ → _ → _ → _ → ReadU w K L V e w') := Lib.hid (fun e w' j A d h1 h2 h3 h4 h5 => HGOOD.out e w' j A d (by rw [hn]; exact h1) h2 h3 h4 h5)
  clear ha hb hK hL hV hn HGOOD
  have HB0 := Lib.hid (fun W (kk : Kp NoB ((w.alloc (.cells zZ.cs 28)).alloc (.cells (zU k false none 0 0).cs 28)) W) => And.intro (((Bk.fresh w 28 zZ.cs).alloc _).and kk) ((Bk.second w (.cells zZ.cs 28) 28 (zU k false none 0 0).cs).and kk))
  have HK0 := Lib.hid (((Kp.refl NoB w).alloc (.cells zZ.cs 28)).alloc (.cells (zU k false none 0 0).cs 28))
  unfold zZ zU AtI.cs at HK0
  simp only at HK0
  go_enter Tryd.func26, Tryd.ntmps26
  go_wp2_with (go_at_call 42; (with_reducible refine Calls.mono (HNW.out _ HK0.out) ?_); rintro e w1 ⟨q, r, rfl, hr0, hq0, hqr, hR0, hK1⟩)
  obtain ⟨bz1, bo1⟩ := HB0.out _ hK1
  have hr1 := hR0.lt
  have hq1 := fun h => hR0.lt_q h
  have hk1 := Lib.hid (HK0.out.and hK1)
  simp only [World.size_alloc] at hr0 hq0
  have HQ : Hid (∀ ys : List Int, ys ≠ [] → ys <:+ b → w.heap.size + 2 ≤ q ∧ q < w1.heap.size) := Lib.hid (fun ys hys hsu => ⟨by omega, hq1 (fun e => hys (by rw [e] at hsu; exact List.suffix_nil.1 hsu))⟩)
  replace bz1 := Lib.hid bz1
  replace bo1 := Lib.hid bo1
  replace hR0 := Lib.hid hR0
  clear hK1 hqr hq1
  have HRD : Hid (Rd w1 q r (b.drop (4 * 0)) 0) := Lib.hid hR0.out
  go_loopw [8] (fun v wr => ∃ (j t : Nat) (A' : Option Addr) (c' : Nat), 4 * j ≤ n ∧ Hid (Rd wr q r (b.drop (4 * j)) t) ∧ Hid (Bk wr w.heap.size 28 zZ.cs) ∧ Hid (Bk wr (w.heap.size + 1) 28 (zU k false A' j c').cs) ∧ Hid (wr.ownsRow w1.heap.size 22 1 (.slice A' j c') j (us (numsU b j))) ∧ Hid (Kp NoB w wr) ∧ Hid (Kp (fun _ => True) w1 wr)) (fun v wr => match wr.cell? ⟨r, 0, none⟩ with | some (.slice _ m _) => m | _ => 0)
  case atStart => exact ⟨0, 0, none, 0, Nat.zero_le _, HRD, bz1, bo1, Lib.hid (World.ownsRow_nil _ _ _ _), hk1, Lib.hid (Kp.refl _ _)⟩
  case round =>
    obtain ⟨j, t, A', c', hj, HR, bz, bo, ho, hk, HT⟩ := hrel
    have hsz := HT.out.size
    have HME : Hid ((match wr.cell? ⟨r, 0, none⟩ with | some (.slice _ m _) => m | _ => 0) = n - 4 * j) := Lib.hid (by
      obtain ⟨A2, c2, hB, _⟩ := HR.out
      rw [hB.cell 0]
      simp [HN.out])
    rw [HME.out]
    have HLEN : Hid (((b.drop (4 * j)).length : Int) = ((n - 4 * j : Nat) : Int)) := Lib.hid (by rw [List.length_drop, HN.out])
    have HL := Lib.hid (left_any wr q r (b.drop (4 * j)) t HR.out)
    rw [HLEN.out] at HL
    by_cases h0 : 4 * j < n
    · have hpos : (0 : Int) < ((n - 4 * j : Nat) : Int) := by omega
      obtain ⟨M, hM⟩ : ∃ M, n - 4 * j = M := ⟨_, rfl⟩
      rw [hM] at HL hpos
      by_cases h4 : 4 * j + 4 ≤ n
      · have HNU := Lib.hid (fun W (kk : Kp NoB wr W) => number_yes W q r (b.drop (4 * j)) t 4 (HR.out.and kk) (by decide) (by decide) (by rw [List.length_drop, HN.out]; omega))
        unfold NumYes at HNU
        have hbg := HBG.out (4 * j)
        obtain ⟨x, hx⟩ : ∃ x, big ((b.drop (4 * j)).take 4) = x := ⟨_, rfl⟩
        rw [hx] at HNU hbg
        have HX := Lib.hid hx
        clear hx HME
        have hne3 : w.heap.size + 1 ≠ r := by omega
        go_wp2_with (first
          | (go_at_call 43; (with_reducible refine Calls.mono HL.out ?_); rintro e w2 ⟨rfl, hK2⟩; have hk2 := Lib.hid hK2; clear hK2)
          | (go_at_call 44; (with_reducible refine Calls.mono (HNU.out _ hk2.out) ?_); rintro e w3 ⟨rfl, hR3, hK3⟩; have HR3 := Lib.hid hR3; have hk3 := Lib.hid ((hk.out.and hk2.out).new hK3 (by omega)); have bz3 := Lib.hid ((bz.out.and hk2.out).keep hK3 (by unfold OnB; omega)); have bo3 := Lib.hid ((bo.out.and hk2.out).keep hK3 (by unfold OnB; omega)); have ho3 := Lib.hid (hK3.own (hk2.out.own ho.out (fun _ _ q => q)) (fun b e q => by have := own_base ho.out b e; unfold OnB at q; omega)); have HT3 : Hid (Kp (fun _ => True) w1 w3) := Lib.hid ((HT.out.and hk2.out).same (hK3.mono (fun _ _ _ => trivial))); have hs3 := HT3.out.size; have y5 := bo3.out.cell 5; simp only [zU, AtI.cs, List.getElem?_toArray, List.getElem?_cons_zero, List.getElem?_cons_succ] at y5; clear hR3 hK3)
          | (at_builtin; refine wpList_app (w0 := w1) (S := fun _ => True) (HT3.out.alloc _) rfl (.tmp 26) (.tmp 28) 24 rfl 22 i0 (.int .u32 0) 1 4 Tryd.underlying24 hi hz0 hz1 hz2 rfl (by decide) (.slice A' j c') j (us (numsU b j)) rfl (((Kp.refl NoB _).alloc _).own ho3.out (fun _ _ q => q)) _ 1 1 [.int .u32 x] rfl rfl (Arr.one w3 _ _) (by simp [Value.oneCell']) (by omega) (by decide) (j + 1) rfl ?_; intro A4 c4 w4 hown4 hK4 hG4 _; have HB4 : Hid (∀ g, (Value.slice A' j c').ownBlock = some g → w1.heap.size ≤ g) := Lib.hid (fun g e => own_base ho3.out g e); have hkg := Kp.of_grown hG4; have bo4 := Lib.hid ((bo3.out.alloc (.cells #[.int .u32 x] 22)).keep hkg (fun e => own_off (((Kp.refl NoB w3).alloc _).own ho3.out (fun _ _ q => q)) (bo3.out.alloc (.cells #[.int .u32 x] 22)) (by decide) e.symm)); have bz4 := Lib.hid ((bz3.out.alloc (.cells #[.int .u32 x] 22)).keep hkg (fun e => own_off (((Kp.refl NoB w3).alloc _).own ho3.out (fun _ _ q => q)) (bz3.out.alloc (.cells #[.int .u32 x] 22)) (by decide) e.symm)); have HR4 := Lib.hid ((HR3.out.and ((Kp.refl NoB w3).alloc (.cells #[.int .u32 x] 22))).keep hkg (fun e => by have := HB4.out r e.symm; omega) (fun hne e => by have := HB4.out q e.symm; have := HQ.out _ hne (List.IsSuffix.trans (List.drop_suffix _ _) (List.drop_suffix _ _)); omega)); have hk4 := Lib.hid ((hk3.out.alloc (.cells #[.int .u32 x] 22)).grown hG4 (fun g e => .inl (by have := HB4.out g e; omega))); have ho4 := Lib.hid hown4; have HT4 := Lib.hid hK4; have y6 := bo4.out.cell 5; simp only [zU, AtI.cs, List.getElem?_toArray, List.getElem?_cons_zero, List.getElem?_cons_succ] at y6; have y7 := bo4.out.frozen 5; clear hown4 hK4 hG4 hkg y5))
        go_roundw
        case rel =>
          have hfar : r ≠ (⟨w.heap.size + 1, 5, none⟩ : Addr).block := by simp; omega
          refine ⟨j + 1, t + 4, A4, c4, by omega, Lib.hid ?_, Lib.hid (bz4.out.far (p := ⟨w.heap.size + 1, 5, none⟩) (by simp) _), Lib.hid (bo4.out.set 5 _), Lib.hid ?_, Lib.hid (hk4.out.setCell (p := ⟨w.heap.size + 1, 5, none⟩) (fun h => by simp at h; omega) _), Lib.hid (HT4.out.setCell (p := ⟨w.heap.size + 1, 5, none⟩) (fun _ => trivial) _)⟩
          · have h := HR4.out.keep ((Kp.refl (OnB (w.heap.size + 1)) _).setCell (p := ⟨w.heap.size + 1, 5, none⟩) (fun _ => rfl) (.slice A4 (j + 1) c4)) (fun e => hne3 e.symm) (fun hne e => by have := HQ.out _ hne (List.IsSuffix.trans (List.drop_suffix _ _) (List.drop_suffix _ _)); unfold OnB at e; omega)
            rw [List.drop_drop] at h
            exact h
          · rw [numsU_succ, HX.out]
            have h := ((Kp.refl (OnB (w.heap.size + 1)) _).setCell (p := ⟨w.heap.size + 1, 5, none⟩) (fun _ => rfl) (.slice A4 (j + 1) c4)).own ho4.out (fun b e q => own_off ho4.out bo4.out (by decide) (by unfold OnB at q; rw [← q]; exact e))
            simpa [us] using h
        case measure =>
          have h := HR4.out.keep ((Kp.refl (OnB (w.heap.size + 1)) _).setCell (p := ⟨w.heap.size + 1, 5, none⟩) (fun _ => rfl) (.slice A4 (j + 1) c4)) (fun e => hne3 e.symm) (fun hne e => by have := HQ.out _ hne (List.IsSuffix.trans (List.drop_suffix _ _) (List.drop_suffix _ _)); unfold OnB at e; omega)
          obtain ⟨A5, c5, hB, _⟩ := h
          rw [hB.cell 0]
          simp [HN.out]
          omega
      · have hshort : (((b.drop (4 * j)).length : Nat) : Int) < 4 := by rw [List.length_drop, HN.out]; omega
        have HNU := Lib.hid (fun W (kk : Kp NoB wr W) => number_short W q r (b.drop (4 * j)) t 4 (HR.out.and kk) (by decide) (by decide) hshort)
        have HFN := Lib.hid (HF.out (by omega))
        clear hshort HME
        go_wp2_with (first
          | (go_at_call 43; (with_reducible refine Calls.mono HL.out ?_); rintro e w2 ⟨rfl, hK2⟩; have hk2 := Lib.hid hK2; clear hK2)
          | (go_at_call 44; (with_reducible refine Calls.mono (HNU.out _ hk2.out) ?_); rintro e w3 ⟨rfl, hK3⟩; have hk3 := Lib.hid ((hk.out.and hk2.out).and hK3); have bz3 := Lib.hid ((bz.out.and hk2.out).and hK3); clear hK3)
          | (refine wpList_store_row rfl 28 (.tmp 4) (.tmp 24) rfl w.heap.size _ rfl rfl 28 _ bz3.out sizeAt rfl (by simp [Value.oneCell']) ?_))
        exact bodyPost_ret (results_row_tmp (fn := Tryd.f26) rfl _ _ w.heap.size 28 _ (0, 0) _ rfl (setRow_heap _ _ _ _ _ _ bz3.out) Tryd.underlying28 rfl (by kernel_rfl)) rfl (HBAD.out _ _ HFN.out rfl (hk3.out.new (kp_setRow _ _ _) (Nat.le_refl _)))
    · have hj4 : n = 4 * j := by omega
      have hM0 : n - 4 * j = 0 := by omega
      rw [hM0] at HL
      have HVV := Lib.hid (fun W => HV.out A' j c' (by omega) W)
      have HF2' := Lib.hid (fun hv => HF2.out j A' c' hj4 hv)
      have HGG := Lib.hid (fun e w' => HRN.out e w' j A' c' hj4)
      clear HME
      obtain ⟨y0, y1, y2, y3, y4, y5, y6, y7, y8⟩ := bo.out.attr
      obtain ⟨bv, hbv⟩ : ∃ bv, validC (zU k false A' j c') = bv := ⟨_, rfl⟩
      rw [hbv] at HVV HF2'
      have HBV := Lib.hid hbv
      unfold zU AtI.val AtI.cs at HVV
      unfold zU at y0 y1 y2 y3 y4 y5 y6 y7 y8
      simp only at HVV y0 y1 y2 y3 y4 y5 y6 y7 y8
      clear hbv
      cases bv
      · have HFN := Lib.hid (HF2'.out rfl)
        go_wp2_with (first
          | (go_at_call 43; (with_reducible refine Calls.mono HL.out ?_); rintro e w2 ⟨rfl, hK2⟩; have hk2 := Lib.hid (hk.out.and hK2); have bz2 := Lib.hid (bz.out.and hK2); have bo2 := bo.out.and hK2; clear y0 y1 y2 y3 y4 y5 y6 y7 y8; obtain ⟨y0, y1, y2, y3, y4, y5, y6, y7, y8⟩ := bo2.attr; unfold zU at y0 y1 y2 y3 y4 y5 y6 y7 y8; simp only at y0 y1 y2 y3 y4 y5 y6 y7 y8; clear hK2 bo2)
          | (go_at_call 19; (with_reducible refine Calls.mono (HVV.out _) ?_); rintro e w3 ⟨rfl, hK3⟩; have hk3 := Lib.hid (hk2.out.and hK3); have bz3 := Lib.hid (bz2.out.and hK3); clear hK3)
          | (refine wpList_store_row rfl 28 (.tmp 4) (.tmp 34) rfl w.heap.size _ rfl rfl 28 _ bz3.out sizeAt rfl (by simp [Value.oneCell']) ?_))
        exact bodyPost_ret (results_row_tmp (fn := Tryd.f26) rfl _ _ w.heap.size 28 _ (0, 0) _ rfl (setRow_heap _ _ _ _ _ _ bz3.out) Tryd.underlying28 rfl (by kernel_rfl)) rfl (HBAD.out _ _ HFN.out rfl (hk3.out.new (kp_setRow _ _ _) (Nat.le_refl _)))
      · go_wp2_with (first
          | (go_at_call 43; (with_reducible refine Calls.mono HL.out ?_); rintro e w2 ⟨rfl, hK2⟩; have hk2 := Lib.hid (hk.out.and hK2); have bz2 := Lib.hid (bz.out.and hK2); have ho2 := Lib.hid (hK2.own ho.out (fun _ _ q => q)); have bo2 := Lib.hid (bo.out.and hK2); clear y0 y1 y2 y3 y4 y5 y6 y7 y8; obtain ⟨y0, y1, y2, y3, y4, y5, y6, y7, y8⟩ := bo2.out.attr; unfold zU at y0 y1 y2 y3 y4 y5 y6 y7 y8; simp only at y0 y1 y2 y3 y4 y5 y6 y7 y8; clear hK2)
          | (go_at_call 19; (with_reducible refine Calls.mono (HVV.out _) ?_); rintro e w3 ⟨rfl, hK3⟩; have hk3 := Lib.hid (hk2.out.and hK3); have bz3 := Lib.hid (bz2.out.and hK3); have ho3 := Lib.hid (hK3.own ho2.out (fun _ _ q => q)); have bo3 := bo2.out.and hK3; clear y0 y1 y2 y3 y4 y5 y6 y7 y8; obtain ⟨y0, y1, y2, y3, y4, y5, y6, y7, y8⟩ := bo3.attr; unfold zU at y0 y1 y2 y3 y4 y5 y6 y7 y8; simp only at y0 y1 y2 y3 y4 y5 y6 y7 y8; clear hK3 bo3)
          | (refine wpList_store_row rfl 28 (.tmp 4) (.tmp 35) rfl w.heap.size _ rfl rfl 28 _ bz3.out sizeAt rfl (by simp [Value.oneCell']) ?_))
        refine bodyPost_ret (results_row_tmp (fn := Tryd.f26) rfl _ _ w.heap.size 28 _ (0, 0) _ rfl (setRow_heap _ _ _ _ _ _ bz3.out) Tryd.underlying28 rfl (by kernel_rfl)) rfl (HGG.out _ _ HBV.out rfl ?_ (hk3.out.new (kp_setRow _ _ _) (Nat.le_refl _)))
        exact own_lower ((kp_setRow _ _ _).own ho3.out (fun b e q => own_off ho3.out bz3.out (by decide) (by unfold OnB at q; rw [← q]; exact e))) (by omega)

end Go.Proofs.YtkhonebedoemoaaDoor
