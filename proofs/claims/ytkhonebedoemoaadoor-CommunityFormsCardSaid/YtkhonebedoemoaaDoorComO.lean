/- Package community: Text, whole; the chapter's example; Ld. No condition but the table of powers of ten. -/
import Derived.Test.YtkhonebedoemoaaDoorComN
import Derived.Test.YtkhonebedoemoaaDoorRows
import Derived.Stop.LaidErr
import Derived.MakeChecks
namespace Go.Proofs.YtkhonebedoemoaaDoor
open Go.RowKit
set_option linter.unusedVariables false
set_option linter.unusedSimpArgs false

theorem ctext_any (z : AtI) (ok : z.Ok) (xs : List Int) (w : World) (hx : InUs w z.L z.ln z.lc xs) (hl : z.ln ≤ 1000) (ht : Tb w) :
    Calls Tryd.prog 22 #[z.val] w (Stay (.string (ba (textC z xs))) w) := by
  cases hv : validC z with
  | false =>
    have h := ctext_bad z ok w hv
    unfold textC
    rw [if_neg (by rw [hv]; decide)]
    exact h
  | true =>
    have h := ctext_good z ok xs w hx hl ht hv
    unfold textC
    rw [if_pos hv]
    exact h

/-- What the rows' condition gives. -/
structure Ld (w : World) : Prop where
  tb : Tb w
theorem Ld.and {w w' : World} (h : Ld w) (k : Kp NoB w w') : Ld w' := ⟨h.tb.and k⟩
theorem ld_of {W : World} (h : laidMetH Tryd.prog Rows.communityHasRow.laid W) : Ld W := by
  rw [MakeChecks.laidMetH_plain _ _ _ (by kernel_rfl)] at h
  exact ⟨tb_of (laidMet.tail (laidMet.tail h)) (by kernel_rfl)⟩

/-- The attribute of the chapter's example. -/
def zE (b : Nat) : AtI := ⟨8, false, 0, 0, none, 0, 0, some ⟨b, 0, none⟩, 1, 1, none, 0, 0, 0, none, 0, 0⟩
theorem okE (b : Nat) : (zE b).Ok := ⟨by simp [zE], by simp [zE], by simp [zE], by simp [zE], by simp [zE]⟩
theorem textE (b : Nat) : textC (zE b) [4259840007] = [99, 111, 109, 109, 117, 110, 105, 116, 105, 101, 115, 32, 54, 53, 48, 48, 48, 58, 55] := by
  have hv : validC (zE b) = true := by simp [validC, zE, grp, plainB, AtI.rest, AtI.bare]
  have hn : numG (zE b) = 1 := by unfold numG; rw [if_pos hv]; simp [zE, grp]
  have hg : grp (zE b).t = 1 := rfl
  have hd1 : decL (4259840007 / 65536) = [54, 53, 48, 48, 48] := by decide +kernel
  have hd2 : decL (4259840007 % 65536) = [55] := by decide +kernel
  have hc : gtextC (zE b).t (chunkN 1 [4259840007] 0) = [54, 53, 48, 48, 48, 58, 55] := by
    have : gtextC 8 [4259840007] = Lib.join [decL (4259840007 / 65536), decL (4259840007 % 65536)] [58] := rfl
    show gtextC 8 [4259840007] = _
    rw [this, hd1, hd2]
    rfl
  unfold textC
  rw [if_pos hv, hn, hg]
  have : textsC (zE b).t 1 [4259840007] 1 = [gtextC (zE b).t (chunkN 1 [4259840007] 0)] := rfl
  rw [this, hc]
  rfl

set_option maxRecDepth 100000 in
set_option maxHeartbeats 1600000 in
theorem alive_any (w : World) (ht : Tb w) : Calls Tryd.prog 9 #[] w (Stay (.bool true) w) := by
  have HT := Lib.hid (ctext_any (zE w.heap.size) (okE _) [4259840007] (w.alloc (.cells #[.int .u32 4259840007] 22)) ⟨rfl, Nat.le_refl _, by simp [zE, maxLen], Arr.lit w _ (us [4259840007]), (fun x hx => by simp at hx; omega)⟩ (by simp [zE]) (ht.and ((Kp.refl NoB w).alloc _)))
  rw [textE] at HT
  unfold zE AtI.val AtI.cs at HT
  clear ht
  have hE : ((ba [99, 111, 109, 109, 117, 110, 105, 116, 105, 101, 115, 32, 54, 53, 48, 48, 48, 58, 55]).toList == [99, 111, 109, 109, 117, 110, 105, 116, 105, 101, 115, 32, 54, 53, 48, 48, 48, 58, 55]) = true := by decide +kernel
  go_enter Tryd.func9, Tryd.ntmps9
  go_wp2_with (go_at_call 22; (with_reducible refine Calls.mono HT.out ?_); rintro e w1 ⟨rfl, hK⟩; have hk1 := Lib.hid (((Kp.refl NoB w).alloc (.cells #[.int .u32 4259840007] 22)).and hK); clear hK)
  go_ret
  exact ⟨rfl, hk1.out⟩

end Go.Proofs.YtkhonebedoemoaaDoor
