/- The iterator that community.groups returns: its contract. No condition but the bounds that arguments have. -/
import Derived.Test.YtkhonebedoemoaaDoorComJ
namespace Go.Proofs.YtkhonebedoemoaaDoor
open Go.RowKit Go.Shelf
set_option linter.unusedVariables false
set_option linter.unusedSimpArgs false
attribute [local go_sem] Oper.semAt_some

theorem own_kp {β : Type} {B : Nat} {I : β → World → Prop} (h : OwnFrom B I) {s : β} {W W' : World} (hs : I s W) (k : Kp NoB W W') : I s W' :=
  h s W W' none hs ⟨k.os, k.tape, k.output, k.size, fun b hb _ => k.block b hb (fun q => q)⟩ (fun r e => by cases e)
theorem bk_kept {W W' : World} {row : Option Nat} {b : Nat} {t : TypeId} {cs : Array Value} (h : Bk W b t cs) (hg : W.grownBy W' row) (hr : ∀ r, row = some r → ∃ o : Obj, W.heap[r]? = some o ∧ o.isCells = false) : Bk W' b t cs :=
  (hg.block b h.lt (fun e => by
    obtain ⟨o, q1, q2⟩ := hr b e.symm
    unfold Bk at h
    rw [h] at q1
    cases q1
    cases q2)).trans h
theorem bk_own {β : Type} (B b : Nat) (t : TypeId) (cs : Array Value) : OwnFrom B (fun (_ : β) W => Bk W b t cs) := fun s X Y row hs hg hr => bk_kept hs hg (fun r e => (hr r e).2)
theorem arr_own {β : Type} (B : Nat) (A : Option Addr) (vs : List Value) : OwnFrom B (fun (_ : β) W => Arr W A vs) := fun s X Y row hs hg hr hn => by
  obtain ⟨ad, e, hc⟩ := hs hn
  exact ⟨ad, e, fun j u hu => cell_kept (hc j u hu) hg (fun r e => (hr r e).2)⟩

/-- A region that goes on. -/
def neat (P : Act → World → Prop) : Exit → Act → World → Prop
  | .normal, a, w => P a w
  | _, _, _ => False
theorem wp_neat {F : Fence} {n : Nat} {P : Program} {c : Code} {Q : Exit → Act → World → Prop} {a : Act} {w : World} (R : Act → World → Prop) (h : c.wpIn F n P (neat R) a w) (hq : ∀ a' w', R a' w' → Q .normal a' w') : c.wpIn F n P Q a w :=
  wpIn_mono h (fun e a' w' hp => by
    cases e with
    | normal => exact hq a' w' hp
    | _ => exact hp.elim)

/-- How many groups an attribute has. -/
def numG (z : AtI) : Nat := if validC z = true then z.ln / grp z.t else 0

theorem chunk_arr {w : World} {A : Option Addr} {xs : List Int} (g q : Nat) (h : Arr w A (us xs)) : Arr w (A.map (fun x => x.add (q * g))) (us (chunkN g xs q)) := by
  intro hn
  unfold chunkN at hn ⊢
  have hx : us xs ≠ [] := by
    intro e
    have : xs = [] := by simpa [us] using e
    subst this
    simp [us] at hn
  obtain ⟨ad, rfl, hc⟩ := h hx
  refine ⟨ad.add (q * g), rfl, fun j u hu => ?_⟩
  rw [add_add]
  refine hc _ _ ?_
  simp only [us, List.map_take, List.map_drop, List.getElem?_take, List.getElem?_drop] at hu ⊢
  split at hu
  · exact hu
  · cases hu
theorem chunk_len {xs : List Int} {g q : Nat} (h : (q + 1) * g ≤ xs.length) : (chunkN g xs q).length = g := by
  unfold chunkN
  rw [List.length_take, List.length_drop]
  rw [Nat.succ_mul] at h
  omega

set_option maxRecDepth 100000 in
set_option maxHeartbeats 8000000 in
theorem groups1_rounds (z : AtI) (ok : z.Ok) (xs : List Int) (w0 : World) (hx : InUs w0 z.L z.ln z.lc xs) (hsm : z.ln ≤ 100000) (Ba : Nat) (hBa : Bk w0 Ba 28 z.cs) (S0 : Nat → Prop) (hs0 : ∀ b, S0 b → b < w0.heap.size) (hs1 : ¬ S0 Ba) (hs2 : ∀ ad, z.L = some ad → 0 < z.ln → ¬ S0 ad.block) :
    Rounds Tryd.prog 46 #[.pointer (some ⟨Ba, 0, none⟩)] (fun j => #[grpV (chunkN (grp z.t) xs j)]) (numG z) S0 w0 := by
  intro l J Jx W hW hl0 hl hJ hJx hY h0
  have HV := Lib.hid (fun W => valid_any z ok W)
  have HG := Lib.hid (fun W => group_any z.t W)
  have HOF := Lib.hid (fun (j : Nat) (W : World) (ha : Arr W z.L (us xs)) (hl : (chunkN (grp z.t) xs j).length = grp z.t) => by
    have := of_any (z.L.map (fun x => x.add (j * grp z.t))) (grp z.t) (chunkN (grp z.t) xs j) W (chunk_arr (grp z.t) j ha) (by rw [hl]; unfold grp; (repeat' split) <;> omega)
    rwa [hl] at this)
  have HBA := Lib.hid (hBa.and hW)
  have HAR := Lib.hid (hx.2.2.2.1.and hW)
  unfold numG at hY ⊢
  cases hv : validC z with
  | false =>
    rw [hv] at HV
    have HJ0 := Lib.hid (fun (W' : World) (k : Kp NoB W W') => own_kp (hJ 0) (h0 0) k)
    clear hY h0 hBa
    have hba := (HBA.out.alloc (.cells #[.func (.yield l) #[] #[]] 72)).attr
    obtain ⟨x0, x1, x2, x3, x4, x5, x6, x7, x8⟩ := hba
    unfold AtI.val AtI.cs at *
    refine (callsIn_wide (n := 4)).1 ?_
    refine callsIn_of_wp_marks Tryd.func46 rfl trivial ?_ rfl
    simp only [Tryd.ntmps46, List.size_toArray, List.length_cons, List.length_nil, Nat.reduceAdd, Nat.reduceSub, Array.replicate_succ, Array.replicate_zero, List.push_toArray, List.append_toArray, List.nil_append, List.cons_append]
    gi_wp2_with (refine ⟨trivial, ?_⟩; gi_at_call 19; refine (callsIn_wide.2 (HV.out _)).mono ?_; rintro e w' ⟨rfl, hK⟩; have hk := ((Kp.refl NoB W).alloc _).and hK; clear hK)
    exact ⟨_, results_none rfl _ _ _, ⟨_, rfl⟩, ⟨0, HJ0.out _ hk⟩⟩
  | true =>
    rw [hv] at HV
    have hv' := hv
    unfold validC at hv'
    simp only [Bool.and_eq_true, decide_eq_true_eq] at hv'
    obtain ⟨⟨⟨hg0, hn0⟩, hmod⟩, -⟩ := hv'
    obtain ⟨G, hG⟩ : ∃ G, grp z.t = G := ⟨_, rfl⟩
    have hG3 : G ≤ 3 := by rw [← hG]; unfold grp; (repeat' split) <;> omega
    rw [hG] at hg0 hmod HG HOF hY ⊢
    simp only [hv, if_true] at hY ⊢
    obtain ⟨N, hN⟩ : ∃ N, z.ln / G = N := ⟨_, rfl⟩
    rw [hN] at hY ⊢
    have hNG : N * G = z.ln := by rw [← hN]; exact Nat.div_mul_cancel (Nat.dvd_of_mod_eq_zero hmod)
    have HCL := Lib.hid (fun j (hj : j < N) => chunk_len (xs := xs) (g := G) (q := j) (by rw [hx.1, ← hNG]; exact Nat.mul_le_mul_right G hj))
    have HCH := Lib.hid (fun W => chunk_any z.L z.ln z.lc G hg0 W)
    have HR := Lib.hid (fun (w1 : World) (Bs Bg : Nat) S (q1 : ¬ S Bs) (q2 : ¬ S Bg) => chunk1_rounds w1 z.L z.ln z.lc G N hg0 hNG hx.2.1 (by omega) hx.2.2.1 (fun _ => by
      intro e
      obtain ⟨ad, h, -⟩ := hx.2.2.2.1 (by intro h; have := congrArg List.length h; simp [us, hx.1] at this; omega)
      rw [h] at e
      cases e) Bs Bg S q1 q2)
    have HY := Lib.hid hY
    have H0 := Lib.hid (fun (E : Nat) (W' : World) (k : Kp NoB W W') => own_kp (hJ E) (h0 E) k)
    have hyb := Bk.fresh W 72 #[.func (.yield l) #[] #[]]
    have HYB := Lib.hid hyb
    have hsz0 := hW.size
    have hdat : ∀ ad, z.L = some ad → ad.block < w0.heap.size := fun ad e => hx.2.2.2.1.lt (by intro h; have := congrArg List.length h; simp [us, hx.1] at this; omega) ad e
    have HDAT := Lib.hid hdat
    clear hY h0 hBa hv hyb hdat hN hx hNG hmod
    have hmm : Tryd.prog.follows .mixedOrders = true := by kernel_rfl
    have hba := (HBA.out.alloc (.cells #[.func (.yield l) #[] #[]] 72)).attr
    obtain ⟨x0, x1, x2, x3, x4, x5, x6, x7, x8⟩ := hba
    have HZ : Hid (z.cs = z.cs) := Lib.hid rfl
    unfold AtI.val at HV
    unfold AtI.cs at HV HBA
    refine (callsIn_wide (n := 4)).1 ?_
    refine callsIn_of_wp_marks Tryd.func46 rfl trivial ?_ rfl
    simp only [Tryd.ntmps46, List.size_toArray, List.length_cons, List.length_nil, Nat.reduceAdd, Nat.reduceSub, Array.replicate_succ, Array.replicate_zero, List.push_toArray, List.append_toArray, List.nil_append, List.cons_append]
    gi_wp2_with (refine ⟨trivial, ?_⟩; gi_at_call 19; refine (callsIn_wide.2 (HV.out _)).mono ?_; rintro e w1 ⟨rfl, hK⟩; have hk1 := ((Kp.refl NoB W).alloc (.cells #[.func (.yield l) #[] #[]] 72)).and hK; have hb1 := (HYB.out.and hK); replace hb1 := Lib.hid hb1; clear hK x0 x1 x2 x3 x4 x5 x6 x7 x8; obtain ⟨x0, x1, x2, x3, x4, x5, x6, x7, x8⟩ := Bk.attr (z := z) (HBA.out.and hk1); replace hk1 := Lib.hid hk1)
    refine wp_neat (fun a' w' => ∃ (p : Nat) (u4 u5 u6 u7 u8 u9 u10 u11 : Value), a' = { tmps := #[.func (.yield l) #[] #[], .pointer (some ⟨Ba, 0, none⟩), .pointer (some ⟨W.heap.size, 0, none⟩), undef, u4, u5, u6, u7, u8, u9, u10, u11, .func (.func 58) #[] #[.pointer (some ⟨p, 0, none⟩), .pointer (some ⟨p + 1, 0, none⟩)], undef, undef, undef, undef, undef, undef], defers := [] } ∧ W.heap.size ≤ p ∧ Hid (Kp NoB W w') ∧ Hid (Bk w' W.heap.size 72 #[.func (.yield l) #[] #[]]) ∧ Hid (Bk w' p 24 #[.slice z.L z.ln z.lc]) ∧ Hid (Bk w' (p + 1) 3 #[.int .i64 G])) ?_ ?_
    · gi_region_with (first
        | (refine ⟨trivial, ?_⟩; gi_at_call 24; refine (callsIn_wide.2 (HG.out _)).mono ?_; rintro e w2 ⟨rfl, hK⟩; have hk2 := (hk1.out.drew.and hK); clear x0 x1 x2 x3 x4 x5 x6 x7 x8; obtain ⟨x0, x1, x2, x3, x4, x5, x6, x7, x8⟩ := Bk.attr (z := z) (HBA.out.and hk2); have hb2 := (hb1.out.drewN 1).and hK; replace hk2 := Lib.hid hk2; replace hb2 := Lib.hid hb2; clear hK)
        | (refine ⟨trivial, ?_⟩; gi_at_call 47; refine (callsIn_wide.2 (HCH.out _)).mono ?_; rintro e w3 ⟨rfl, hBs, hBg, hK⟩; have hk3 := Lib.hid (hk2.out.and hK); have hb3 := Lib.hid (hb2.out.and hK); replace hBs := Lib.hid hBs; replace hBg := Lib.hid hBg; clear hK))
      all_goals exact ⟨_, _, _, _, _, _, _, _, _, rfl, hk2.out.size, hk3, hb3, hBs, hBg⟩
    rintro a' w3 ⟨p, u4, u5, u6, u7, u8, u9, u10, u11, rfl, hp, hk3, hb3, hBs, hBg⟩
    clear x0 x1 x2 x3 x4 x5 x6 x7 x8
    gi_wp2
    have hsz3 := hk3.out.size
    have hS0 : ∀ b, (S0 b ∨ b = l) → b < W.heap.size := fun b h => by
      rcases h with h | h
      · have := hs0 b h
        omega
      · omega
    refine wp_rounds (gf := 58) (lb := #[.pointer (some ⟨p, 0, none⟩), .pointer (some ⟨p + 1, 0, none⟩)]) (S0 := fun b => S0 b ∨ b = l) rfl (enters_of Tryd.func58 (by kernel_rfl) rfl)
      (HR.out w3 p (p + 1) _ (fun q => by have := hS0 _ q; omega) (fun q => by have := hS0 _ q; omega) hBs.out hBg.out) (fun _ => rfl) (fun b q => by have := hS0 b q; omega)
      (fun E j W' => J E j W' ∧ (Bk W' W.heap.size 72 #[.func (.yield l) #[] #[]] ∧ Arr W' z.L (us xs)))
      (fun c j W' => c = .ret ∧ Jx j W')
      (fun E => OwnFrom.and (fun s A B row h hg hr => hJ E s A B row h hg (fun r e => ⟨by have := (hr r e).1; omega, (hr r e).2⟩)) (OwnFrom.and (bk_own _ _ _ _) (arr_own _ _ _)))
      (fun c s A B row h hg hr => ⟨h.1, hJx s A B row h.2 hg (fun r e => ⟨by have := (hr r e).1; omega, (hr r e).2⟩)⟩)
      (fun E => ⟨H0.out E _ hk3.out, hb3.out, HAR.out.and hk3.out⟩)
      (fun E j a' W' => a' = { tmps := #[.func (.yield l) #[] #[], .pointer (some ⟨Ba, 0, none⟩), .pointer (some ⟨W.heap.size, 0, none⟩), .slice (z.L.map (fun x => x.add (j * G))) G G, u4, u5, u6, u7, u8, u9, u10, u11, .func (.func 58) #[] #[.pointer (some ⟨p, 0, none⟩), .pointer (some ⟨p + 1, 0, none⟩)], .slice (z.L.map (fun x => x.add (j * G))) G G, undef, undef, undef, undef, undef], defers := [] })
      (fun E j a' s A B row h _ _ => h) ?assign ?body ?done ?stop
    case assign =>
      intro E l2 j W2 K hE hEW hj hI hK
      gi_wp2
      exact hK _ _ (Kp.refl _ _) hI rfl
    case body =>
      rintro E l2 j a' W2 hE hEW hj ⟨hJ2, hb2, ha2⟩ rfl
      have HO := Lib.hid (HOF.out j)
      have HL := Lib.hid (HCL.out j hj)
      have HYJ := Lib.hid (fun W1 h1 h2 h3 => YieldAt.mono (R' := fun e W' => ∃ b : Bool, e = .returned (.bool b) ∧ ((b = true ∧ J E (j + 1) W') ∨ (b = false ∧ Jx (j + 1) W')) ∧ Kp (OutL S0 l E) W1 W') (HY.out E j W1 h1 h2 hj h3) (fun e W' h => by
        obtain ⟨⟨rfl, h1⟩ | ⟨rfl, h1⟩, h2⟩ := h
        · exact ⟨true, rfl, .inl ⟨rfl, h1⟩, h2⟩
        · exact ⟨false, rfl, .inr ⟨rfl, h1⟩, h2⟩))
      obtain ⟨gv, hgv⟩ : ∃ gv, grpV (chunkN G xs j) = gv := ⟨_, rfl⟩
      rw [hgv] at HO HYJ
      obtain ⟨y1, y2, y3⟩ := hb2.one
      have HB2 := Lib.hid hb2
      have HA2 := Lib.hid ha2
      have HJ2 := Lib.hid (fun W' (k : Kp NoB W2 W') => own_kp (hJ E) hJ2 k)
      clear hgv hb2 ha2 hJ2 HV HG HCH HR HYB HY HOF
      refine wpIn_block (wpIn_seq ?_)
      obtain ⟨R, hR0⟩ : ∃ R : Act → World → Prop, R = fun a' W3 => ∃ (b : Bool) (u14 u15 u16 u17 : Value), a' = { tmps := #[.func (.yield l) #[] #[], .pointer (some ⟨Ba, 0, none⟩), .pointer (some ⟨W.heap.size, 0, none⟩), .slice (z.L.map (fun x => x.add (j * G))) G G, u4, u5, u6, u7, u8, u9, u10, u11, .func (.func 58) #[] #[.pointer (some ⟨p, 0, none⟩), .pointer (some ⟨p + 1, 0, none⟩)], .slice (z.L.map (fun x => x.add (j * G))) G G, u14, u15, u16, u17, .bool b], defers := [] } ∧ Hid (Kp (OutL S0 l E) W2 W3) ∧ ((b = false ∧ J E (j + 1) W3) ∨ (b = true ∧ Jx (j + 1) W3)) := ⟨_, rfl⟩
      have HRR0 := Lib.hid hR0
      clear hR0
      refine wp_neat R ?_ ?_
      · gi_region_with (first
          | (refine ⟨trivial, ?_⟩; gi_at_call 30; refine (CallsIn.inRound l2 (callsIn_wide.2 (HO.out W2.drew HA2.out HL.out))).mono ?_; rintro e w4 ⟨rfl, hK⟩; have hk4 := ((Kp.refl NoB W2).drew.and hK); obtain ⟨z1, z2, z3⟩ := (HB2.out.and hk4).one; obtain ⟨fn, tmps, assign, body, hy, hR⟩ := HYJ.out w4 (by omega) (Nat.le_trans hEW hk4.size) (HJ2.out _ hk4); have HRR := Lib.hid hR; replace hk4 := Lib.hid hk4; clear hR hK;  )
          | (refine (round_depth HRR.out).mono ?_; rintro e w5 ⟨b, rfl, hJ5, hk5⟩; have HK5 := Lib.hid hk5; have HJ5 := Lib.hid hJ5; clear hJ5 hk5))
        all_goals
          show R _ _
          rw [HRR0.out]
          refine ⟨!b, _, _, _, _, rfl, Lib.hid ((hk4.out.wide _).same HK5.out), ?_⟩
          rcases HJ5.out with ⟨rfl, h⟩ | ⟨rfl, h⟩
          · exact .inl ⟨rfl, h⟩
          · exact .inr ⟨rfl, h⟩
      · rintro a' W3 hR
        rw [HRR0.out] at hR
        obtain ⟨b, u14, u15, u16, u17, rfl, hk, hj3⟩ := hR
        have hk' : Kp (OutE (fun b => S0 b ∨ b = l) E) W2 W3 := hk.out.mono (fun b _ h => by
          rcases h with h | h | h
          · exact .inl (.inl h)
          · exact .inl (.inr h)
          · exact .inr h)
        rcases hj3 with ⟨rfl, hj3⟩ | ⟨rfl, hj3⟩
        · have hb3' := HB2.out.keep hk' (fun q => by
            rcases q with q | q
            · have := hS0 _ q
              omega
            · omega)
          have ha3' := HA2.out.keep hk' (fun ad e q => by
            have hlt := HDAT.out ad e
            rcases q with (q | q) | q
            · exact hs2 ad e hn0 q
            · omega
            · omega)
          gi_wp2
          exact ⟨hk', hj3, hb3', ha3'⟩
        · gi_wp2
          exact ⟨hk', rfl, hj3⟩
    case done =>
      rintro D E W2 hD ⟨hJ2, hb2, ha2⟩ hK
      gi_wp2
      refine ⟨by simp, .inl ⟨_, _, rfl, run_takeDeferred hK, ?_⟩⟩
      exact ⟨_, results_none rfl _ _ _, ⟨_, rfl⟩, .inl ⟨E, (hJ E).putObj _ hJ2 (by omega) hK rfl⟩⟩
    case stop =>
      rintro D c j W2 hD hj ⟨rfl, hJ2⟩ hK
      gi_wp2
      refine ⟨by simp, .inl ⟨_, _, rfl, run_takeDeferred hK, ?_⟩⟩
      exact ⟨_, results_none rfl _ _ _, ⟨_, rfl⟩, .inr ⟨j, hj, hJx.putObj _ hJ2 (by omega) hK rfl⟩⟩

end Go.Proofs.YtkhonebedoemoaaDoor
