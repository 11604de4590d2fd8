/- A region that draws its order of evaluation, in a round of a range over a function: walked as outside of one, by what is held. No condition. -/
import Derived.Test.YtkhonebedoemoaaDoorComK
import Derived.Deep.RegionHeld3
namespace Go.Proofs.YtkhonebedoemoaaDoor
open Go.RowKit Go.Shelf
set_option linter.unusedVariables false
set_option linter.unusedSimpArgs false

theorem rows_round {P : Program} {n l : Nat} {row : String} {args : Array Value} {w : World} {R : Value → World → Prop} (h : Rows P row args w R) : RowsIn (Fence.wide.inRound l) n P row args w R :=
  fun c cs _ => let ⟨v, w', r, s⟩ := h c cs; ⟨v, w', r, stepsIn_wide.2 s⟩
theorem upon_round {P : Program} {n l : Nat} {o : Oper} {a : Act} {K : Act → World → Prop} {Q : Exit → Act → World → Prop} (r : Result Next) (h : o.upon P a K Q r) : o.uponIn (Fence.wide.inRound l) n P a K Q r := by
  cases r with
  | ok x w' =>
    cases x with
    | value v => exact h
    | skip => exact h
    | defer d => exact h
    | enter f args => exact ⟨fun q => (by cases q), CallsIn.inRound l (callsIn_wide.2 h)⟩
    | row row args => exact ⟨fun q => (by cases q), rows_round h⟩
    | round l f tmps assign body => exact (h : False).elim
    | _ => exact h
  | halt e w' =>
    cases e with
    | panic v => exact h
    | _ => exact h
theorem wp_round {P : Program} {n l : Nat} {o : Oper} {a : Act} {w : World} {K : Act → World → Prop} {Q : Exit → Act → World → Prop} (hd : ∀ c, o.op ≠ .defer c) (h : o.wp P a w K Q) : o.wpIn (Fence.wide.inRound l) n P a w K Q := by
  refine ⟨fun f _ => trivial, ?_⟩
  rw [Oper.semAt_plain _ _ _ hd]
  exact upon_round _ h
theorem any_round {P : Program} {n l : Nat} {md : Region.Mode} {ops : Array Oper} {R : Act → World → Prop} (hd : ∀ (i : Nat) (o : Oper), ops[i]? = some o → ∀ c, o.op ≠ .defer c) :
    ∀ (fuel : Nat) (listed : Array Bool) (a : Act) (w : World), wpAny P md ops (neat R) fuel listed a w → wpAnyIn (Fence.wide.inRound l) n P md ops (neat R) fuel listed a w
  | 0, _, _, _, h => h
  | fuel + 1, listed, a, w, h => ⟨h.1, fun i hi => by
    have hx := h.2 i hi
    unfold wpOp at hx
    unfold wpOpIn
    cases ho : ops[i]? with
    | none =>
      rw [ho] at hx
      exact any_round hd fuel _ a w hx
    | some o =>
      rw [ho] at hx
      simp only at hx ⊢
      split at hx
      · rw [if_pos (by assumption)]
        rcases hx with hx | ⟨_, a', w', hx⟩
        · exact Oper.wpIn_mono (fun a w h => any_round hd fuel _ a w h) (wp_round (hd i o ho) hx)
        · exact hx.elim
      · rw [if_neg (by assumption)]
        exact ⟨fun _ _ => trivial, any_round hd fuel _ _ _ hx⟩⟩
/-- No operation defers. -/
def noDefer (ops : Array Oper) : Bool := ops.all (fun o => match o.op with | .defer _ => false | _ => true)
theorem noDefer_spec {ops : Array Oper} (h : noDefer ops = true) : ∀ (i : Nat) (o : Oper), ops[i]? = some o → ∀ c, o.op ≠ .defer c := fun i o ho c e => by
  unfold noDefer at h
  rw [Array.all_eq_true] at h
  obtain ⟨hi, he⟩ := Array.getElem?_eq_some_iff.1 ho
  have := h i hi
  rw [he, e] at this
  cases this
theorem held_round {P : Program} {n l id : Nat} {ops : Array Oper} {R : Act → World → Prop} {S : World → Prop} {a : Act} {w : World} (hm : P.follows .mixedOrders = true) (hd : noDefer ops = true) (hS : S w.drew)
    (h : S w.drew → wpAnyH P .any ops (neat R) S ops.size (Array.replicate ops.size false) a w.drew) : (Code.region id ops true).wpIn (Fence.wide.inRound l) n P (neat R) a w :=
  wpIn_region_any hm (any_round (noDefer_spec hd) _ _ _ _ (wpAny_of_held _ _ _ _ (h hS)))

end Go.Proofs.YtkhonebedoemoaaDoor
