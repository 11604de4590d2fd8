/- A region that draws its order, whose first operation alone may turn the world: behind it the rest only reads: ONE walk. No program's text. -/
import Derived.Test.YthdipbabfilciaaMem
import Derived.StillTactics
import Derived.RegionTactic
namespace Go.Proofs.Ythdipbabfilciaa
open Go.RowKit

theorem wp_region_head {P : Program} {id : Nat} {Q : Exit → Act → World → Prop} {a : Act} {w : World} {o : Oper} {l : List Oper} (hm : P.follows .mixedOrders = true)
    (hr : Region.ready .any (o :: l).toArray (Array.replicate (l.length + 1) false) = [0]) (hs : Region.noSelect (o :: l).toArray = true)
    (hlex : Region.lexFrom .any (o :: l).toArray l.length 1 ((Array.replicate (l.length + 1) false).setIfInBounds 0 true) = true) (hg : o.guard = none)
    (h : ∀ K : Act → World → Prop, (∀ a w, wpStill P (o :: l).toArray w (fun a'' => Q .normal a'' w) l a → K a w) → o.wp P a w.drew K Q) : (Code.region id (o :: l).toArray true).wp P Q a w := by
  refine wp_region_any hm ?_
  have hsz : (o :: l).toArray.size = l.length + 1 := by simp
  rw [hsz]
  refine ⟨fun h0 => absurd (hr.symm.trans h0) (by simp), fun i hi => ?_⟩
  rw [hr] at hi
  obtain rfl : i = 0 := by simpa using hi
  refine wpOp_step (o := o) (by simp) (fun K hK => ?_)
  have hw : Region.wanted o (yielded (o :: l).toArray a.tmps) = true := by unfold Region.wanted; rw [hg]
  rw [if_pos hw]
  refine h K (fun a' w' hst => hK a' w' ?_)
  refine wpAny_of_still (Q := fun a'' => Q .normal a'' w') (fun _ h => h) _ _ _ ?_
  exact wpAnyS_lex hs l 1 _ _ (fun j => by simp [Nat.add_comm 1 j]) hlex hst

end Go.Proofs.Ythdipbabfilciaa
