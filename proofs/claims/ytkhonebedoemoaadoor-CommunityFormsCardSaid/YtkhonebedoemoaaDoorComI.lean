/- Ranges over functions whose iterators range over functions themselves: a contract for the iterator, which counts its rounds and says what a round must leave, and the law for the caller. No condition. -/
import Derived.Test.YtkhonebedoemoaaDoorComH
import Derived.RangeFuncNested
import Derived.RangeFuncBound
import Derived.RangeFuncCalls
import Derived.RangeFuncLeaves
import Derived.Shelf.Abstract
import Derived.Shelf.RegionOpen
import Derived.WalkKit
import Derived.OwnWalkIn
import Derived.TacticsInMore
import Derived.LoopNIn
import Derived.LoopIn
namespace Go.Proofs.YtkhonebedoemoaaDoor
open Go.RowKit Go.Shelf
set_option linter.unusedVariables false
set_option linter.unusedSimpArgs false
attribute [local go_sem] Oper.semAt_some

/-- What a round's body may turn: the caller's own blocks S0, and what lies from E on. -/
def OutE (S0 : Nat → Prop) (E : Nat) : Nat → Prop := fun b => S0 b ∨ E ≤ b
/-- What a round may turn: these, and the record of its loop. -/
def OutL (S0 : Nat → Prop) (l E : Nat) : Nat → Prop := fun b => S0 b ∨ b = l ∨ E ≤ b

/-- The iterator's contract: N rounds, the j-th with the values encs j; what it laid itself ends ahead of some E; a round leaves all but S0 and what lies from E on. -/
def Rounds (P : Program) (g : Nat) (lb : Array Value) (encs : Nat → Array Value) (N : Nat) (S0 : Nat → Prop) (w : World) : Prop :=
  ∀ (l : Nat) (J : Nat → Nat → World → Prop) (Jx : Nat → World → Prop) (W : World), Kp NoB w W → w.heap.size ≤ l → l < W.heap.size →
    (∀ E, OwnFrom W.heap.size (J E)) → OwnFrom W.heap.size Jx →
    (∀ E j W1, W.heap.size ≤ E → E ≤ W1.heap.size → j < N → J E j W1 → YieldAt Fence.wide 0 P l (encs j) W1 fun e W' =>
      ((e = .returned (.bool true) ∧ J E (j + 1) W') ∨ (e = .returned (.bool false) ∧ Jx (j + 1) W')) ∧ Kp (OutL S0 l E) W1 W') →
    (∀ E, J E 0 W) →
    Calls P g (#[.func (.yield l) #[] #[]] ++ lb) W fun e W' => (∃ v, e = .returned v) ∧ ((∃ E, J E N W') ∨ (∃ j, j < N ∧ Jx (j + 1) W'))

theorem wide_room (k : Nat) : Fence.wide.room k := fun d h => by cases h
theorem round_depth {m m' : Nat} {P : Program} {l : Nat} {f : FuncId} {tmps : Array Value} {assign body : Code} {w : World} {R : Ending → World → Prop}
    (h : RoundIn Fence.wide m P l f tmps assign body w R) : RoundIn Fence.wide m' P l f tmps assign body w R := ⟨h.1, fun c cs _ => h.2 c cs (wide_room _)⟩
theorem yield_depth {m : Nat} (m' : Nat) {P : Program} {l : Nat} {args : Array Value} {W : World} {R : Ending → World → Prop} (h : YieldAt Fence.wide m P l args W R) : YieldAt Fence.wide m' P l args W R := by
  obtain ⟨fn, tmps, assign, body, hy, hR⟩ := h
  exact ⟨fn, tmps, assign, body, hy, round_depth hR⟩

/-- How a round's body may be left. -/
def roundQ (S : Nat → Prop) (I : Nat → World → Prop) (Ix : Code → Nat → World → Prop) (j : Nat) (W : World) : Exit → Act → World → Prop
  | .normal, _, W' => Kp S W W' ∧ I j W'
  | .ret, _, W' => Kp S W W' ∧ Ix .ret j W'
  | .exit id, _, W' => Kp S W W' ∧ Ix (.exit id) j W'
  | .goto t, _, W' => Kp S W W' ∧ Ix (.goto t) j W'
  | .panic _, _, _ => False
  | .outgrown, _, _ => False

theorem Kp.put (W : World) (l : Nat) (o : Obj) : Kp (OnB l) W (W.putObj l o) := (Kp.of_grown (grownBy_putObj' W l o)).mono (fun b _ h => by injection h)

/-- **The caller's law.** -/
theorem wp_rounds {P : Program} {n : Nat} {g : Operand} {ps : Array Tmp} {assign body : Code} {Q : Exit → Act → World → Prop} {a : Act} {w : World} {gf : Nat} {lb : Array Value}
    (hg : a.eval g = .func (.func gf) #[] lb) (eg : ∀ args w, (callFunc gf args).run P w = .ok (.enter gf args) w)
    {encs : Nat → Array Value} {N : Nat} {S0 : Nat → Prop} (hit : Rounds P gf lb encs N S0 w) (hps : ∀ j, (encs j).size = ps.size) (hS0 : ∀ b, S0 b → b < w.heap.size)
    (I : Nat → Nat → World → Prop) (Ix : Code → Nat → World → Prop) (hI : ∀ E, OwnFrom w.heap.size (I E)) (hIx : ∀ c, OwnFrom w.heap.size (Ix c)) (h0 : ∀ E, I E 0 w)
    (Ax : Nat → Nat → Act → World → Prop) (hAx : ∀ E j a', OwnFrom w.heap.size (fun (_ : Unit) W => Ax E j a' W))
    (hassign : ∀ (E l j : Nat) (W : World) (K : Act → World → Prop), w.heap.size < E → E ≤ W.heap.size → j < N → I E j W → (∀ a' W', Kp (OutE S0 E) W W' → I E j W' → Ax E j a' W' → K a' W') →
      assign.wpIn (Fence.wide.inRound l) 2 P (Exit.then K (fun _ _ _ => False)) { tmps := (ps.zip (encs j)).foldl (fun t (p, v) => t.setIfInBounds p v) a.tmps, defers := [] } W)
    (hbody : ∀ (E l j : Nat) (a' : Act) (W : World), w.heap.size < E → E ≤ W.heap.size → j < N → I E j W → Ax E j a' W → body.wpIn (Fence.wide.inRound l) 2 P (roundQ (OutE S0 E) (I E) Ix (j + 1) W) a' W)
    (hdone : ∀ (D E : Nat) (W : World), w.heap.size ≤ D → I E N W → W.heap[D]? = some (.deferred (some [])) → Q .normal { a with defers := { target := .collected D, args := #[] } :: a.defers } W)
    (hstop : ∀ (D : Nat) (c : Code) (j : Nat) (W : World), w.heap.size ≤ D → j < N → Ix c (j + 1) W → W.heap[D]? = some (.deferred (some [])) → c.wpIn Fence.wide n P Q { a with defers := { target := .collected D, args := #[] } :: a.defers } W) :
    (Code.rangeFunc g ps assign body).wpIn Fence.wide n P Q a w := by
  refine wpIn_rangeFunc ?_
  intro fn hfn
  obtain ⟨rec, hrec⟩ : ∃ rec : LoopState → Option Code → Loop, rec = fun st pe => { state := st, pending := pe, fn, tmps := a.tmps, params := ps, assign, body, defers := w.heap.size } := ⟨_, rfl⟩
  obtain ⟨W1, hW1⟩ : ∃ W1, (w.alloc (.deferred (some []))).alloc (.loop (rec .ready none)) = W1 := ⟨_, rfl⟩
  have hL1 : W1.heap[w.heap.size + 1]? = some (.loop (rec .ready none)) := by
    rw [← hW1]
    have := World.alloc_heap_new (w.alloc (.deferred (some []))) (.loop (rec .ready none))
    rwa [World.size_alloc] at this
  have hK1 : W1.heap[w.heap.size]? = some (.deferred (some [])) := by
    rw [← hW1]
    exact (Below.heap_alloc _ _ _ (by simp)).trans (World.alloc_heap_new w _)
  have hI1 : ∀ E, I E 0 W1 := fun E => by rw [← hW1]; exact (hI E).alloc _ ((hI E).alloc _ (h0 E))
  have hk1 : Kp NoB w W1 := by rw [← hW1]; exact ((Kp.refl NoB w).alloc _).alloc _
  have hs1 : W1.heap.size = w.heap.size + 2 := by rw [← hW1]; simp
  refine ⟨w.heap.size + 1, [{ target := .collected w.heap.size, args := #[] }], W1, { target := .fn (.func gf) lb, args := #[.func (.yield (w.heap.size + 1)) #[] #[]] }, W1, gf,
    #[.func (.yield (w.heap.size + 1)) #[] #[]] ++ lb, W1, ?_, ?_, fun _ _ => trivial, ?_, fun h => by (cases h), ?_⟩
  · rw [← hW1, hrec]
    exact run_enterLoop_outer _ _ _ _ _
  · simp only [resolve, hg]
    simp [go_sem]
  · simp [invoke, go_sem, eg]
  · clear hW1
    have hnw : ∀ {A B : World} {row : Option Nat}, (∀ r, row = some r → W1.heap.size ≤ r ∧ ∃ o : Obj, A.heap[r]? = some o ∧ o.isCells = false) → (∀ r, row = some r → w.heap.size ≤ r ∧ ∃ o : Obj, A.heap[r]? = some o ∧ o.isCells = false) :=
      fun hr r e => ⟨by have := (hr r e).1; omega, (hr r e).2⟩
    have hst : ∀ {A B : World} {row : Option Nat} {k : Nat} {o : Obj}, A.grownBy B row → (∀ r, row = some r → W1.heap.size ≤ r ∧ ∃ o : Obj, A.heap[r]? = some o ∧ o.isCells = false) → k < W1.heap.size → A.heap[k]? = some o → B.heap[k]? = some o :=
      fun hg' hr hk ho => (hg'.block _ (Array.getElem?_eq_some_iff.1 ho).1 (fun e => by have := (hr _ e.symm).1; omega)).trans ho
    refine CallsIn.mono (callsIn_wide.2 (hit (w.heap.size + 1)
      (fun E j W => I E j W ∧ W.heap[w.heap.size + 1]? = some (.loop (rec .ready none)) ∧ W.heap[w.heap.size]? = some (.deferred (some [])))
      (fun j W => ∃ c, Ix c j W ∧ W.heap[w.heap.size + 1]? = some (.loop (rec .done (some c))) ∧ W.heap[w.heap.size]? = some (.deferred (some [])))
      W1 hk1 (by omega) (by omega)
      (fun E s A B row hs hg' hr => ⟨hI E s A B row hs.1 hg' (hnw (B := B) hr), hst hg' hr (by omega) hs.2.1, hst hg' hr (by omega) hs.2.2⟩)
      (fun s A B row hs hg' hr => by
        obtain ⟨c, hc, hl, hk⟩ := hs
        exact ⟨c, hIx c s A B row hc hg' (hnw (B := B) hr), hst hg' hr (by omega) hl, hst hg' hr (by omega) hk⟩)
      ?_ (fun E => ⟨hI1 E, hL1, hK1⟩))) ?_
    · -- one round
      rintro E j W hE hEW hj ⟨hi, hl, hk⟩
      have hy := run_yield (P := P) (args := encs j) hl (by rw [hrec]; exact hps j)
      rw [hrec] at hy
      refine ⟨fn, _, assign, body, hy, round_depth (m := 2) (roundIn_of_wpIn hfn (hassign E _ j W _ (by omega) hEW hj hi ?_))⟩
      clear hy
      intro a' Wa hka hia hax
      have hls : ∀ {b : Nat}, w.heap.size ≤ b → b < w.heap.size + 2 → ¬ OutE S0 E b := fun h1 h2 h3 => by
        rcases h3 with h3 | h3
        · have := hS0 _ h3
          omega
        · omega
      have hlt0 := (Array.getElem?_eq_some_iff.1 hl).1
      have hdt0 := (Array.getElem?_eq_some_iff.1 hk).1
      have hla := (hka.block _ hlt0 (hls (by omega) (by omega))).trans hl
      have hda := (hka.block _ hdt0 (hls (by omega) (by omega))).trans hk
      have hlt := (Array.getElem?_eq_some_iff.1 hla).1
      refine ⟨_, run_beginRound hla (by rw [hrec]), ?_⟩
      obtain ⟨W2, hW2⟩ : ∃ W2, Wa.putObj (w.heap.size + 1) (.loop { rec .ready none with state := .busy }) = W2 := ⟨_, rfl⟩
      have hl2 : W2.heap[w.heap.size + 1]? = some (.loop { rec .ready none with state := .busy }) := by rw [← hW2]; exact World.putObj_heap_same hlt
      have hk2 : W2.heap[w.heap.size]? = some (.deferred (some [])) := by rw [← hW2]; exact (World.putObj_heap_other (by omega)).trans hda
      have hp2 : Kp (OnB (w.heap.size + 1)) Wa W2 := by rw [← hW2]; exact Kp.put _ _ _
      have hi2 : I E j W2 := by rw [← hW2]; exact (hI E).putObj _ hia (by omega) hla rfl
      have hx2 : Ax E j a' W2 := by rw [← hW2]; exact (hAx E j a').putObj (s := ()) _ hax (by omega) hla rfl
      have hs2 : E ≤ W2.heap.size := Nat.le_trans hEW (Nat.le_trans hka.size hp2.size)
      have hkk : Kp (OutL S0 (w.heap.size + 1) E) W W2 := (hka.mono (fun b _ h => by
        rcases h with h | h
        · exact .inl h
        · exact .inr (.inr h))).trans hp2 (fun b _ h => .inr (.inl h))
      rw [hW2]
      refine wpIn_mono (hbody E _ j a' W2 (by omega) hs2 hj hi2 hx2) ?_
      clear hW2 hx2 hi2 hax hia
      have fin : ∀ (jump : Option Code) (W3 : World), Kp (OutE S0 E) W2 W3 →
          (Instr.endRound (w.heap.size + 1) jump).run P W3 = .ok (.bool jump.isNone) (W3.putObj (w.heap.size + 1) (.loop (rec (if jump.isNone then .ready else .done) jump))) ∧
          W3.heap[w.heap.size + 1]? = some (.loop { rec .ready none with state := .busy }) ∧
          (W3.putObj (w.heap.size + 1) (.loop (rec (if jump.isNone then .ready else .done) jump))).heap[w.heap.size + 1]? = some (.loop (rec (if jump.isNone then .ready else .done) jump)) ∧
          (W3.putObj (w.heap.size + 1) (.loop (rec (if jump.isNone then .ready else .done) jump))).heap[w.heap.size]? = some (.deferred (some [])) ∧
          Kp (OutL S0 (w.heap.size + 1) E) W (W3.putObj (w.heap.size + 1) (.loop (rec (if jump.isNone then .ready else .done) jump))) := fun jump W3 hk3 => by
        have hl3 := (hk3.block _ (Array.getElem?_eq_some_iff.1 hl2).1 (hls (by omega) (by omega))).trans hl2
        have hd3 := (hk3.block _ (Array.getElem?_eq_some_iff.1 hk2).1 (hls (by omega) (by omega))).trans hk2
        have := run_endRound (P := P) jump hl3
        rw [hrec] at this ⊢
        refine ⟨this, by rw [hrec] at hl3; exact hl3, World.putObj_heap_same (Array.getElem?_eq_some_iff.1 hl3).1, (World.putObj_heap_other (by omega)).trans hd3, ?_⟩
        exact (hkk.trans hk3 (fun b _ h => by
          rcases h with h | h
          · exact .inl h
          · exact .inr (.inr h))).trans (Kp.put _ _ _) (fun b _ h => .inr (.inl h))
      rintro e a3 W3 hp
      cases e with
      | normal =>
        obtain ⟨hk3, hi3⟩ := hp
        obtain ⟨hr, hl3, hl4, hk4, hq⟩ := fin none W3 hk3
        exact ⟨_, _, hr, .inl ⟨rfl, (hI E).putObj _ hi3 (by omega) hl3 rfl, hl4, hk4⟩, hq⟩
      | ret =>
        obtain ⟨hk3, hi3⟩ := hp
        obtain ⟨hr, hl3, hl4, hk4, hq⟩ := fin (some .ret) W3 hk3
        exact ⟨_, _, hr, .inr ⟨rfl, .ret, (hIx _).putObj _ hi3 (by omega) hl3 rfl, hl4, hk4⟩, hq⟩
      | exit id =>
        obtain ⟨hk3, hi3⟩ := hp
        obtain ⟨hr, hl3, hl4, hk4, hq⟩ := fin (some (.exit id)) W3 hk3
        exact ⟨_, _, hr, .inr ⟨rfl, .exit id, (hIx _).putObj _ hi3 (by omega) hl3 rfl, hl4, hk4⟩, hq⟩
      | goto t =>
        obtain ⟨hk3, hi3⟩ := hp
        obtain ⟨hr, hl3, hl4, hk4, hq⟩ := fin (some (.goto t)) W3 hk3
        exact ⟨_, _, hr, .inr ⟨rfl, .goto t, (hIx _).putObj _ hi3 (by omega) hl3 rfl, hl4, hk4⟩, hq⟩
      | panic ch => exact hp.elim
      | outgrown => exact hp.elim
    · -- behind the iterator
      rintro e W2 ⟨⟨v, rfl⟩, (⟨E, hi, hl, hk⟩ | ⟨j, hj, c, hi, hl, hk⟩)⟩
      · exact ⟨none, _, by have := run_endLoop (P := P) hl (by rw [hrec]; simp); rw [hrec] at this; exact this, hdone _ E _ (Nat.le_refl _) ((hI E).putObj _ hi (by omega) hl rfl) ((World.putObj_heap_other (by omega)).trans hk)⟩
      · exact ⟨some c, _, by have := run_endLoop (P := P) hl (by rw [hrec]; simp); rw [hrec] at this; exact this, hstop _ c j _ (Nat.le_refl _) hj ((hIx c).putObj _ hi (by omega) hl rfl) ((World.putObj_heap_other (by omega)).trans hk)⟩

end Go.Proofs.YtkhonebedoemoaaDoor
