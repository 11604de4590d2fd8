/- basic.Bytes, Read, Text: their contracts. No condition but the bounds that arguments have, and the table. -/
import Derived.Test.YthgcfoednhdbcaaDoorBasD
import Derived.Test.YthgcfoednhdbcaaDoorPutO
import Derived.Test.YthgcfoednhdbcaaDoorNewO
import Derived.Test.YthgcfoednhdbcaaDoorNum
namespace Go.Proofs.YthgcfoednhdbcaaDoor
open Go.RowKit
set_option linter.unusedVariables false
set_option linter.unusedSimpArgs false

theorem RowsAt.at_some {w : World} {b : Nat} {v1 v3 v4 v5 v9 : Value} (h : RowsAt w b v1 v3 v4 v5 v9) {k : Int} {v : Value} (hk : rowsF v1 v3 v4 v5 v9 k = some v) (wk : -9223372036854775808 ≤ k ∧ k ≤ 9223372036854775807) :
    (Instr.lookup 52 (.map (some b)) (.int .i64 k) false).run Tryd.prog w = .ok v w := by
  rw [h.map.at Tryd.underlying3 Tryd.underlying52 (zeroRow w) (wf_i64 k wk), hk]
  rfl

/-- The width of a type's value. -/
def wdT (k : Int) : Nat := match wdO k with
  | none => 0
  | some (a, _, _) => a.toNat
theorem wdT_le (k : Int) : wdT k ≤ 4 := by
  have h : ∀ o : Option (Int × Int × Int), (match o with | none => 0 | some (a, _, _) => a.toNat) = (o.map (fun r => r.1.toNat)).getD 0 := fun o => by cases o <;> rfl
  unfold wdT
  rw [h]
  unfold wdO
  repeat' split
  all_goals decide
theorem wdO_a {k a m c : Int} (h : wdO k = some (a, m, c)) : a = (wdT k : Int) ∧ (a = 0 ∨ a = 1 ∨ a = 4) := by
  unfold wdT
  rw [h]
  unfold wdO at h
  repeat' split at h
  all_goals first | (cases h; simp; done) | cases h

/-- The bytes of an attribute. -/
def bytesA (z : AtI) : List Int := if validA z then putL (wdT z.t) z.n else []
/-- What Bytes leaves. -/
def BytesM (w : World) (z : AtI) (e : Ending) (w' : World) : Prop :=
  ∃ A c, e = .returned (.tuple #[.slice A (bytesA z).length c, .bool (validA z)]) ∧ Arr w' A (bs (bytesA z)) ∧ (bytesA z).length ≤ c ∧ c ≤ maxLen ∧ Kp NoB w w'

theorem putL_drop (n : Int) (h0 : 0 ≤ n) (h1 : n < 4294967296) (k : Nat) (hk : k ≤ 4) : (putL 4 n).drop (4 - k) = putL k n := by
  have aux : ∀ (j k : Nat) (x : Int), (putL (k + j) x).drop j = putL k x := by
    intro j k
    induction k with
    | zero => intro x; rw [Nat.zero_add]; exact List.drop_eq_nil_of_le (by rw [putL_length]; exact Nat.le_refl _)
    | succ k ih =>
      intro x
      rw [show k + 1 + j = (k + j) + 1 by omega]
      simp only [putL]
      rw [List.drop_append_of_le_length (by rw [putL_length]; omega), ih]
  have := aux (4 - k) k n
  rwa [show k + (4 - k) = 4 by omega] at this

theorem fld0 (a m c : Int) (F : Fn) (X Y : Array Value) (w : World) : (Instr.field 51 (.agg #[.int .i64 a, .int .u32 m, .int .i64 c, .func F X Y]) 0).run Tryd.prog w = .ok (.int .i64 a) w := by kernel_rfl
theorem fld3 (a m c : Int) (F : Fn) (X Y : Array Value) (w : World) : (Instr.field 51 (.agg #[.int .i64 a, .int .u32 m, .int .i64 c, .func F X Y]) 3).run Tryd.prog w = .ok (.func F X Y) w := by kernel_rfl
theorem sl_from (A : Option Addr) (n c k : Nat) (hk : k ≤ n) (W : World) : (Instr.slice 25 (.slice A n c) (some (.int .i64 (k : Int))) none none).run Tryd.prog W = .ok (.slice (cutA A k c) (n - k) (c - k)) W := by
  have hs : (sizeOf (Tryd.prog.elem 25)).run Tryd.prog W = .ok 1 W := by kernel_rfl
  rw [run_slice_l W 25 A n c (by kernel_rfl) .i64 k (by omega) (by omega), hs]
  simp [sliced, cutA]
theorem cells_drew {vs : List Value} {w w' : World} {g : Nat} (h : ∀ j u, vs[j]? = some u → w.cell? ⟨g, j, none⟩ = some u) (k : Kp NoB w.drew w') : ∀ j u, vs[j]? = some u → w'.cell? ⟨g, j, none⟩ = some u :=
  fun j u hu => k.cell (p := ⟨g, j, none⟩) (show w.drew.cell? _ = _ from h j u hu) (fun q => q)
theorem bytes_bad (z : AtI) (ok : z.Ok) (hv : validA z = false) (w : World) : Calls Tryd.prog 15 #[z.val] w (Stay (.tuple #[.slice none 0 0, .bool false]) w) := by
  have HV := Lib.hid (fun W => valid_any z ok W)
  simp only [hv] at HV
  unfold AtI.val AtI.cs at *
  go_enter Tryd.func15, Tryd.ntmps15
  go_wp2_with (go_at_call 22; refine Calls.mono (HV.out _) ?_; rintro e w1 ⟨rfl, hK⟩; have hk1 := Lib.hid (((Kp.refl NoB w).alloc _).and hK); clear hK)
  go_ret2
  exact ⟨rfl, hk1.out⟩

set_option maxRecDepth 100000 in
set_option maxHeartbeats 1600000 in
theorem bytes_good (z : AtI) (ok : z.Ok) (a m c : Int) (hk : wdO z.t = some (a, m, c)) (hv : validA z = true) (w : World) : Calls Tryd.prog 15 #[z.val] w (BytesM w z) := by
  have HV := Lib.hid (fun W => valid_any z ok W)
  simp only [hv] at HV
  have hn := ok.n
  have wk := ok.t
  obtain ⟨ha, ha3⟩ := wdO_a hk
  have HP := Lib.hid (fun W => put_any 4 z.n W hn.1 hn.2)
  have hf : fits 4 z.n = true := by simp [fits]; omega
  have hr : putR 4 z.n = putL 4 z.n := by unfold putR; rw [if_pos hf]; rfl
  have h4 : (putL 4 z.n).length = 4 := putL_length _ _
  unfold PutAny at HP
  simp only [hr, h4, hf] at HP
  unfold AtI.val AtI.cs at *
  go_enter Tryd.func15, Tryd.ntmps15
  go_wp2_with (first
    | (go_at_call 22; refine Calls.mono (HV.out _) ?_; rintro e w1 ⟨rfl, hK⟩; have hb1 := Lib.hid ((Bk.fresh w 28 z.cs).and hK); have hk1 := Lib.hid (((Kp.refl NoB w).alloc _).and hK); obtain ⟨x0, x1, x2, x3, x4, x5, x6, x7, x8⟩ := hb1.out.attr; clear hK)
    | (go_at_call 31; refine Calls.mono (HP.out _) ?_; rintro e w2 ⟨A, cp, rfl, hown, hK⟩; have hb2 := Lib.hid (hb1.out.and hK); have hk2 := Lib.hid (hk1.out.and hK); clear hK x0 x1 x2 x3 x4 x5 x6 x7 x8; obtain ⟨x0, x1, x2, x3, x4, x5, x6, x7, x8⟩ := hb2.out.attr))
  obtain ⟨g, rfl, hg1, hg2, hgc, hgf⟩ := own_at hown (by omega)
  obtain ⟨A', c', he, hc1, hc2, -⟩ := own_form hown
  obtain ⟨rfl, rfl⟩ : A' = some ⟨g, 0, none⟩ ∧ c' = cp := by injection he with h1 _ h3; exact ⟨h1.symm, h3.symm⟩
  have HG := Lib.hid hgc
  have HD := Lib.hid (putL_drop z.n hn.1 hn.2 (wdT z.t) (wdT_le _))
  have HA := Lib.hid ha
  have hfl := fld0
  have w4 : IntKind.i64.wrap (4 - 0) = 4 := by decide
  have w3 : IntKind.i64.wrap (4 - 1) = 3 := by decide
  have w0 : IntKind.i64.wrap (4 - 4) = 0 := by decide
  have u4 : IntKind.i64.wrap 4 = 4 := by decide
  have u3 : IntKind.i64.wrap 3 = 3 := by decide
  have u0 : IntKind.i64.wrap 0 = 0 := by decide
  have hne3 : ¬ c' = 3 := by omega
  have hne0 : ¬ c' = 0 := by omega
  clear hgc hgf he hown hr h4 hf ha
  have HR := Lib.hid rows_any
  have HC := Lib.hid (And.intro hc1 hc2)
  clear hc1 hc2
  rcases ha3 with rfl | rfl | rfl
  · by_cases hc4 : c' = 4
    · go_region_held3 (fun w' => w'.cell? ⟨w.heap.size, 0, none⟩ = some (.int .i64 z.t)) (go_keep)
        (first
          | (go_at_call 32; refine Calls.mono (rows_any _) ?_; rintro e w3 ⟨b, v1, v3, v4, v5, v9, rfl, hR, hK⟩; have hk3 := Lib.hid (hk2.out.drew.and hK); have hb3 := Lib.hid ((bk_drew hb2.out).and hK); clear x0 x1 x2 x3 x4 x5 x6 x7 x8; obtain ⟨x0, x1, x2, x3, x4, x5, x6, x7, x8⟩ := hb3.out.attr; obtain ⟨F, X, Y, hfm⟩ := hR.form hk; have hl := hR.at_some hfm wk; have hcell := Lib.hid (cells_drew HG.out hK); clear hK))
      go_wp2
      go_ret2
      have hw : wdT z.t = 0 := by have := HA.out; omega
      have hD := HD.out
      rw [hw] at hD
      have hB : bytesA z = putL 0 z.n := by unfold bytesA; rw [if_pos hv, hw]
      refine ⟨some ⟨g, 0, none⟩, c' - 4, ?_, ?_, ?_, ?_, hk3.out⟩
      · rw [hB, putL_length, hv]; first | rfl | (subst hc4; rfl)
      · rw [hB]; exact Arr.nil _ _
      · rw [hB, putL_length]; have := HC.out.1; omega
      · have := HC.out.2; omega
    · go_region_held3 (fun w' => w'.cell? ⟨w.heap.size, 0, none⟩ = some (.int .i64 z.t)) (go_keep)
        (first
          | (go_at_call 32; refine Calls.mono (rows_any _) ?_; rintro e w3 ⟨b, v1, v3, v4, v5, v9, rfl, hR, hK⟩; have hk3 := Lib.hid (hk2.out.drew.and hK); have hb3 := Lib.hid ((bk_drew hb2.out).and hK); clear x0 x1 x2 x3 x4 x5 x6 x7 x8; obtain ⟨x0, x1, x2, x3, x4, x5, x6, x7, x8⟩ := hb3.out.attr; obtain ⟨F, X, Y, hfm⟩ := hR.form hk; have hl := hR.at_some hfm wk; have hcell := Lib.hid (cells_drew HG.out hK); clear hK))
      go_wp2
      go_ret2
      have hw : wdT z.t = 0 := by have := HA.out; omega
      have hD := HD.out
      rw [hw] at hD
      have hB : bytesA z = putL 0 z.n := by unfold bytesA; rw [if_pos hv, hw]
      refine ⟨some ⟨g, 4, none⟩, c' - 4, ?_, ?_, ?_, ?_, hk3.out⟩
      · rw [hB, putL_length, hv]; first | rfl | (subst hc4; rfl)
      · rw [hB]; exact Arr.nil _ _
      · rw [hB, putL_length]; have := HC.out.1; omega
      · have := HC.out.2; omega
  · go_region_held3 (fun w' => w'.cell? ⟨w.heap.size, 0, none⟩ = some (.int .i64 z.t)) (go_keep)
      (first
        | (go_at_call 32; refine Calls.mono (rows_any _) ?_; rintro e w3 ⟨b, v1, v3, v4, v5, v9, rfl, hR, hK⟩; have hk3 := Lib.hid (hk2.out.drew.and hK); have hb3 := Lib.hid ((bk_drew hb2.out).and hK); clear x0 x1 x2 x3 x4 x5 x6 x7 x8; obtain ⟨x0, x1, x2, x3, x4, x5, x6, x7, x8⟩ := hb3.out.attr; obtain ⟨F, X, Y, hfm⟩ := hR.form hk; have hl := hR.at_some hfm wk; have hcell := Lib.hid (cells_drew HG.out hK); clear hK))
    go_wp2
    go_ret2
    have hw : wdT z.t = 1 := by have := HA.out; omega
    have hD := HD.out
    rw [hw] at hD
    have hB : bytesA z = putL 1 z.n := by unfold bytesA; rw [if_pos hv, hw]
    refine ⟨some ⟨g, 3, none⟩, c' - 3, ?_, ?_, ?_, ?_, hk3.out⟩
    · rw [hB, putL_length, hv]; first | rfl | (subst hc4; rfl)
    · rw [hB, ← hD, bs_drop]
      exact fun _ => ⟨_, rfl, fun j u hu => by rw [add_none]; exact hcell.out (3 + j) u (by rw [List.getElem?_drop] at hu; exact hu)⟩
    · rw [hB, putL_length]; have := HC.out.1; omega
    · have := HC.out.2; omega
  · go_region_held3 (fun w' => w'.cell? ⟨w.heap.size, 0, none⟩ = some (.int .i64 z.t)) (go_keep)
      (first
        | (go_at_call 32; refine Calls.mono (rows_any _) ?_; rintro e w3 ⟨b, v1, v3, v4, v5, v9, rfl, hR, hK⟩; have hk3 := Lib.hid (hk2.out.drew.and hK); have hb3 := Lib.hid ((bk_drew hb2.out).and hK); clear x0 x1 x2 x3 x4 x5 x6 x7 x8; obtain ⟨x0, x1, x2, x3, x4, x5, x6, x7, x8⟩ := hb3.out.attr; obtain ⟨F, X, Y, hfm⟩ := hR.form hk; have hl := hR.at_some hfm wk; have hcell := Lib.hid (cells_drew HG.out hK); clear hK))
    go_wp2
    go_ret2
    have hw : wdT z.t = 4 := by have := HA.out; omega
    have hD := HD.out
    rw [hw] at hD
    have hB : bytesA z = putL 4 z.n := by unfold bytesA; rw [if_pos hv, hw]
    refine ⟨some ⟨g, 0, none⟩, c' - 0, ?_, ?_, ?_, ?_, hk3.out⟩
    · rw [hB, putL_length, hv]; first | rfl | (subst hc4; rfl)
    · rw [hB]
      exact fun _ => ⟨_, rfl, fun j u hu => by rw [add_none, Nat.zero_add]; exact hcell.out j u hu⟩
    · rw [hB, putL_length]; have := HC.out.1; omega
    · have := HC.out.2; omega

theorem bytes_any (z : AtI) (ok : z.Ok) (w : World) : Calls Tryd.prog 15 #[z.val] w (BytesM w z) := by
  cases hv : validA z with
  | false => exact (bytes_bad z ok hv w).mono fun e w' ⟨he, hK⟩ => ⟨none, 0, by unfold bytesA; rw [he, hv]; rfl, by unfold bytesA; rw [hv]; exact Arr.nil _ _, by unfold bytesA; rw [hv]; exact Nat.le_refl _, by simp [maxLen], hK⟩
  | true =>
    cases hk : wdO z.t with
    | none => unfold validA at hv; rw [hk] at hv; cases hv
    | some r => obtain ⟨a, m, c⟩ := r; exact bytes_good z ok a m c hk hv w

/-- The text of a type and a number. -/
def txtK (k n : Int) : List UInt8 := if k = 1 then txtL sOrigin (orgL n) else if k = 3 then txtL sNexthop (addrL n) else if k = 4 then txtL sMed (Lib.decDigits n.toNat) else if k = 5 then txtL sLocal (Lib.decDigits n.toNat) else if k = 9 then txtL sOriginator (addrL n) else [97, 116, 111, 109, 105, 99]
/-- The text of an attribute. -/
def textA (z : AtI) : List UInt8 := if validA z then txtK z.t z.n else []

theorem text_bad (z : AtI) (ok : z.Ok) (hv : validA z = false) (w : World) : Calls Tryd.prog 17 #[z.val] w (Stay (.string ⟨#[]⟩) w) := by
  have HV := Lib.hid (fun W => valid_any z ok W)
  simp only [hv] at HV
  unfold AtI.val AtI.cs at *
  go_enter Tryd.func17, Tryd.ntmps17
  go_wp2_with (go_at_call 22; refine Calls.mono (HV.out _) ?_; rintro e w1 ⟨rfl, hK⟩; have hk1 := Lib.hid (((Kp.refl NoB w).alloc _).and hK); clear hK)
  go_ret
  exact ⟨rfl, hk1.out⟩

theorem rows1_any (n : Int) (w : World) : Calls Tryd.prog 41 #[.int .u32 n] w (Stay (.string ⟨#[97, 116, 111, 109, 105, 99]⟩) w) := by
  go_enter Tryd.func41, Tryd.ntmps41
  go_wp2
  go_ret
  exact ⟨rfl, Kp.refl _ _⟩

/-- A row whose closure is one over a string and a function. -/
theorem RowsAt.clo {w : World} {b : Nat} {v1 v3 v4 v5 v9 : Value} (h : RowsAt w b v1 v3 v4 v5 v9) {k : Int} (hk : k = 1 ∨ k = 3 ∨ k = 4 ∨ k = 5 ∨ k = 9) :
    ∃ a m c B C, rowsF v1 v3 v4 v5 v9 k = some (.agg #[.int .i64 a, .int .u32 m, .int .i64 c, .func (.func 44) #[] #[.pointer (some ⟨B, 0, none⟩), .pointer (some ⟨C, 0, none⟩)]]) ∧
      (k = 1 ∧ w.cell? ⟨B, 0, none⟩ = some (.string sOrigin) ∧ w.cell? ⟨C, 0, none⟩ = some (.func (.func 40) #[] #[]) ∨
       k = 3 ∧ w.cell? ⟨B, 0, none⟩ = some (.string sNexthop) ∧ w.cell? ⟨C, 0, none⟩ = some (.func (.func 12) #[] #[]) ∨
       k = 4 ∧ w.cell? ⟨B, 0, none⟩ = some (.string sMed) ∧ w.cell? ⟨C, 0, none⟩ = some (.func (.func 28) #[] #[]) ∨
       k = 5 ∧ w.cell? ⟨B, 0, none⟩ = some (.string sLocal) ∧ w.cell? ⟨C, 0, none⟩ = some (.func (.func 28) #[] #[]) ∨
       k = 9 ∧ w.cell? ⟨B, 0, none⟩ = some (.string sOriginator) ∧ w.cell? ⟨C, 0, none⟩ = some (.func (.func 12) #[] #[])) := by
  rcases hk with rfl | rfl | rfl | rfl | rfl
  · obtain ⟨B, C, rfl, _, _, h4, h5⟩ := h.c1; exact ⟨_, _, _, B, C, rfl, .inl ⟨rfl, h4, h5⟩⟩
  · obtain ⟨B, C, rfl, _, _, h4, h5⟩ := h.c3; exact ⟨_, _, _, B, C, rfl, .inr (.inl ⟨rfl, h4, h5⟩)⟩
  · obtain ⟨B, C, rfl, _, _, h4, h5⟩ := h.c4; exact ⟨_, _, _, B, C, rfl, .inr (.inr (.inl ⟨rfl, h4, h5⟩))⟩
  · obtain ⟨B, C, rfl, _, _, h4, h5⟩ := h.c5; exact ⟨_, _, _, B, C, rfl, .inr (.inr (.inr (.inl ⟨rfl, h4, h5⟩)))⟩
  · obtain ⟨B, C, rfl, _, _, h4, h5⟩ := h.c9; exact ⟨_, _, _, B, C, rfl, .inr (.inr (.inr (.inr ⟨rfl, h4, h5⟩)))⟩

theorem addr_short (n : Int) : (addrL n).length ≤ 200 := by
  unfold addrL
  have h := dotL_len _ (putL_isB 4 n)
  rw [putL_length] at h
  rw [List.length_drop]
  omega
theorem org_short (n : Int) : (orgL n).length ≤ 200 := by
  unfold orgL
  repeat' split
  all_goals decide

/-- What a row's closure returns, whatever it is. -/
theorem clo_call {w : World} (htab : Tb w) {k n : Int} (h0 : 0 ≤ n) (h1 : n < 4294967296) (ho : k = 1 → n ≤ 2) {B C : Nat}
    (h : k = 1 ∧ w.cell? ⟨B, 0, none⟩ = some (.string sOrigin) ∧ w.cell? ⟨C, 0, none⟩ = some (.func (.func 40) #[] #[]) ∨
       k = 3 ∧ w.cell? ⟨B, 0, none⟩ = some (.string sNexthop) ∧ w.cell? ⟨C, 0, none⟩ = some (.func (.func 12) #[] #[]) ∨
       k = 4 ∧ w.cell? ⟨B, 0, none⟩ = some (.string sMed) ∧ w.cell? ⟨C, 0, none⟩ = some (.func (.func 28) #[] #[]) ∨
       k = 5 ∧ w.cell? ⟨B, 0, none⟩ = some (.string sLocal) ∧ w.cell? ⟨C, 0, none⟩ = some (.func (.func 28) #[] #[]) ∨
       k = 9 ∧ w.cell? ⟨B, 0, none⟩ = some (.string sOriginator) ∧ w.cell? ⟨C, 0, none⟩ = some (.func (.func 12) #[] #[])) :
    Calls Tryd.prog 44 #[.int .u32 n, .pointer (some ⟨B, 0, none⟩), .pointer (some ⟨C, 0, none⟩)] w
      (Stay (.string (ba (txtK k n))) w) := by
  have hd := dec_short n.toNat (by omega)
  rcases h with ⟨rfl, hB, hC⟩ | ⟨rfl, hB, hC⟩ | ⟨rfl, hB, hC⟩ | ⟨rfl, hB, hC⟩ | ⟨rfl, hB, hC⟩
  · exact clo_origin _ (by decide) B C n _ (org_short _) w hB hC (fun w' hK => origin_any n h0 (ho rfl) w')
  · exact clo_Address _ (by decide) B C n _ (addr_short _) w hB hC (fun w' hK => address_any n h0 h1 w' (htab.and hK))
  · exact clo_decimal _ (by decide) B C n _ (by omega) w hB hC (fun w' hK => decimal_any n h0 h1 w' (htab.and hK))
  · exact clo_decimal _ (by decide) B C n _ (by omega) w hB hC (fun w' hK => decimal_any n h0 h1 w' (htab.and hK))
  · exact clo_Address _ (by decide) B C n _ (addr_short _) w hB hC (fun w' hK => address_any n h0 h1 w' (htab.and hK))

end Go.Proofs.YthgcfoednhdbcaaDoor
