/- Maps from groups to bools that the call made, told as sets: laws for the walk. No condition. -/
import Derived.Test.YtkhonebedoemoaaDoorComP
import Derived.DeepKeys5
import Derived.Maps.Own
import Derived.Maps.OwnOps
import Derived.Maps.OwnSet
import Derived.Maps.Views
import Derived.Maps.OwnIn
namespace Go.Proofs.YtkhonebedoemoaaDoor
open Go.RowKit Go.Maps
set_option linter.unusedVariables false

theorem mapM_ex {α β : Type} (f : α → Option β) : ∀ l : List α, (∀ a ∈ l, ∃ y, f a = some y) → ∃ ys, l.mapM f = some ys
  | [], _ => ⟨[], rfl⟩
  | a :: l, h => by
    obtain ⟨y, hy⟩ := h a (by simp)
    obtain ⟨ys, hys⟩ := mapM_ex f l (fun b hb => h b (by simp [hb]))
    exact ⟨y :: ys, by simp [List.mapM_cons, hy, hys]⟩
theorem lits_int {P : Program} {t : TypeId} {q : IntKind} (hu : P.underlying t = some (.int q)) {n : Int} (hw : (Lit.int q n).wf = true) (d : Nat) : P.keyLits (d + 1) t [.int q n] = some [.int q n] := by
  simp [Program.keyLits, hu, hw]
theorem wf_u32 (n : Int) (h0 : 0 ≤ n) (h1 : n < 4294967296) : (Lit.int .u32 n).wf = true := by
  simp only [Lit.wf, show IntKind.u32.min = 0 from rfl, show IntKind.u32.max = 4294967295 from rfl, Bool.and_eq_true, decide_eq_true_eq]
  omega
theorem wf_i64 (n : Int) (h0 : -9223372036854775808 ≤ n) (h1 : n ≤ 9223372036854775807) : (Lit.int .i64 n).wf = true := by
  simp only [Lit.wf, show IntKind.i64.min = -9223372036854775808 from rfl, show IntKind.i64.max = 9223372036854775807 from rfl, Bool.and_eq_true, decide_eq_true_eq]
  omega
/-- A group within bounds. -/
def GrB (l : List Int) : Prop := IsU l ∧ l.length ≤ 3
theorem GrB.at {l : List Int} (h : GrB l) (i : Nat) : 0 ≤ (l.take 3).getD i 0 ∧ (l.take 3).getD i 0 < 4294967296 := by
  rw [List.take_of_length_le h.2]
  by_cases hi : i < l.length
  · have := h.1 l[i] (List.getElem_mem hi)
    simpa [List.getD, List.getElem?_eq_getElem hi] using this
  · simp [List.getD, List.getElem?_eq_none (show l.length ≤ i by omega)]
theorem lits_ar (d : Nat) (a b c : Int) (ha : 0 ≤ a ∧ a < 4294967296) (hb : 0 ≤ b ∧ b < 4294967296) (hc : 0 ≤ c ∧ c < 4294967296) : ∃ ls, Tryd.prog.keyLits (d + 2) 48 [.int .u32 a, .int .u32 b, .int .u32 c] = some ls := by
  have e1 : Tryd.prog.cellsOf 22 = 1 := by kernel_rfl
  have e3 : Tryd.prog.cellsOf 48 = 3 := by kernel_rfl
  have qa := lits_int (P := Tryd.prog) Tryd.underlying22 (wf_u32 a ha.1 ha.2) d
  have qb := lits_int (P := Tryd.prog) Tryd.underlying22 (wf_u32 b hb.1 hb.2) d
  have qc := lits_int (P := Tryd.prog) Tryd.underlying22 (wf_u32 c hc.1 hc.2) d
  obtain ⟨ys, hys⟩ := mapM_ex (fun i => Tryd.prog.keyLits (d + 1) 22 (([Value.int .u32 a, .int .u32 b, .int .u32 c].drop (i * Tryd.prog.cellsOf 22)).take (Tryd.prog.cellsOf 22))) (List.range 3) (fun i hi => by
    have hi' : i = 0 ∨ i = 1 ∨ i = 2 := by have := List.mem_range.1 hi; omega
    rcases hi' with rfl | rfl | rfl
    · exact ⟨_, by rw [e1]; exact qa⟩
    · exact ⟨_, by rw [e1]; exact qb⟩
    · exact ⟨_, by rw [e1]; exact qc⟩)
  refine ⟨ys.flatten, ?_⟩
  rw [Program.keyLits.eq_def]
  simp only [Tryd.underlying48]
  rw [if_pos (by rw [e3]; rfl), hys]
  rfl
theorem lits_gr (d : Nat) (a b c : Int) (k : Nat) (ha : 0 ≤ a ∧ a < 4294967296) (hb : 0 ≤ b ∧ b < 4294967296) (hc : 0 ≤ c ∧ c < 4294967296) (hk : k ≤ 3) : ∃ ls, Tryd.prog.keyLits (d + 3) 50 [.int .u32 a, .int .u32 b, .int .u32 c, .int .i64 k] = some ls := by
  obtain ⟨la, hla⟩ := lits_ar d a b c ha hb hc
  have e4 : Tryd.prog.cellsOf 50 = 4 := by kernel_rfl
  have e3 : Tryd.prog.cellsOf 48 = 3 := by kernel_rfl
  have e1 : Tryd.prog.cellsOf 3 = 1 := by kernel_rfl
  have q1 := lits_int (P := Tryd.prog) Tryd.underlying3 (wf_i64 (k : Int) (by omega) (by omega)) (d + 1)
  refine ⟨la ++ [.int .i64 k], ?_⟩
  rw [Program.keyLits.eq_def]
  simp only [Tryd.underlying50]
  rw [if_pos (by rw [e4]; exact ⟨rfl, by kernel_rfl⟩)]
  simp [List.mapM_cons, e1, e3, q1, hla]
theorem key_some (l : List Int) (h : GrB l) : ∃ k, keyOf Tryd.prog 50 (grpV l) = some k := by
  have hT : Tryd.prog.types.size + 1 = Tryd.prog.types.size - 2 + 3 := by kernel_rfl
  obtain ⟨ls, hls⟩ := lits_gr (Tryd.prog.types.size - 2) _ _ _ (min 3 l.length) (h.at 0) (h.at 1) (h.at 2) (by omega)
  have hk : Tryd.prog.keyType 50 = true := by kernel_rfl
  have e4 : Tryd.prog.cellsOf 50 = 4 := by kernel_rfl
  refine ⟨.string (keyBytes ls), ?_⟩
  unfold keyOf grpV
  simp only [Tryd.underlying50]
  rw [if_pos (by simp [hk, Value.formed, Tryd.underlying50, e4]), hT]
  simp only [Value.cells, hls]
  rfl
noncomputable def keyG (l : List Int) : Lit := (keyOf Tryd.prog 50 (grpV l)).getD (.bool false)
theorem keyG_is (l : List Int) (h : GrB l) : keyOf Tryd.prog 50 (grpV l) = some (keyG l) := by
  obtain ⟨k, hk⟩ := key_some l h
  rw [keyG, hk]
  rfl
theorem keyedG : Keyed Tryd.prog 50 := Keyed.of_law (deep_law_gate (by kernel_rfl) (of_decide_eq_true (by kernel_rfl)) (of_decide_eq_true (by kernel_rfl)) (by kernel_rfl) (by kernel_rfl))
theorem grpV_inj {l m : List Int} (hl : l.length ≤ 3) (hm : m.length ≤ 3) (h : grpV l = grpV m) : l = m := by
  unfold grpV at h
  injection h with h
  have h := congrArg Array.toList h
  simp only [List.cons.injEq] at h
  obtain ⟨h0, h1, h2, h3, -⟩ := h
  injection h0 with _ h0
  injection h1 with _ h1
  injection h2 with _ h2
  injection h3 with _ h3
  exact (grp_eq (g := l.length) rfl hl).1 ⟨⟨h0, h1, h2⟩, by omega⟩
theorem keyG_inj {l m : List Int} (hl : GrB l) (hm : GrB m) (h : keyG l = keyG m) : l = m := grpV_inj hl.2 hm.2 (keyedG.inj (keyG_is l hl) (by rw [h]; exact keyG_is m hm))

/-! ### Sets of groups -/
/-- Block b is a map from groups to bools that holds true of the groups in us alone; n: how often it was written at most. -/
def SetG (w : World) (b n : Nat) (us : List (List Int)) : Prop :=
  ∃ (D : DataW Unit), w.ownsMap Tryd.prog 50 (plainElem Tryd.prog 4) b n D ∧ IsMap D ∧ ∀ x : List Int, GrB x → D.atKey (keyG x) (.lit (.bool false)) = .lit (.bool (decide (x ∈ us)))
section
variable {w w' : World} {b n : Nat} {us : List (List Int)}
theorem SetG.lt (h : SetG w b n us) : b < w.heap.size := by
  obtain ⟨D, ⟨es, c, hb, _⟩, _⟩ := h
  exact (Array.getElem?_eq_some_iff.1 hb).1
theorem SetG.keep {S : Nat → Prop} (h : SetG w b n us) (k : Kp S w w') (hb : ¬ S b) : SetG w' b n us := by
  have hl := h.lt
  obtain ⟨D, ⟨es, c, hh, r⟩, r2⟩ := h
  exact ⟨D, ⟨es, c, (k.block b hl hb).trans hh, r⟩, r2⟩
theorem SetG.and (h : SetG w b n us) (k : Kp NoB w w') : SetG w' b n us := h.keep k (fun q => q)
theorem SetG.grown {row : Option Nat} (h : SetG w b n us) (hg : w.grownBy w' row) (hb : some b ≠ row) : SetG w' b n us := by
  have hl := h.lt
  obtain ⟨D, ⟨es, c, hh, r⟩, r2⟩ := h
  exact ⟨D, ⟨es, c, (hg.block b hl hb).trans hh, r⟩, r2⟩
theorem SetG.not_cells {t : TypeId} {cs : Array Value} {m : Nat} (h : SetG w b n us) (hb : Bk w m t cs) : m ≠ b := by
  obtain ⟨D, ⟨es, c, hh, r⟩, r2⟩ := h
  intro e
  subst e
  unfold Bk at hb
  rw [hb] at hh
  cases hh
theorem SetG.off {base k size : Nat} {e : TypeId} {v : Value} {xs : List Value} (h : SetG w b n us) (ho : w.ownsRow base e size v k xs) : v.ownBlock ≠ some b := by
  obtain ⟨D, ⟨es, c, hh, r⟩, r2⟩ := h
  rcases ho.2 with ⟨rfl, _⟩ | ⟨g, cap, cur, rfl, _, h2, _⟩
  · simp [Value.ownBlock]
  · intro q
    injection q with q
    subst q
    rw [hh] at h2
    cases h2
theorem SetG.made (w : World) : SetG (w.alloc (.map #[] 0)) w.heap.size 0 [] := ⟨.map [], World.ownsMap_made w _ _ _, isMap_empty, fun x _ => by simp; rfl⟩
set_option maxRecDepth 100000 in
theorem SetG.step (h : SetG w b n us) (hn : n < 1000000) {x : List Int} (hx : GrB x) :
    ∃ w', (Instr.mapUpdate 55 (.map (some b)) (grpV x) (.bool true)).run Tryd.prog w = .ok () w' ∧ SetG w' b (n + 1) (us ++ [x]) ∧ w.grownBy w' (some b) := by
  obtain ⟨D, hown, hD, hf⟩ := h
  obtain ⟨w', hrun, r1, r2⟩ := hown.update keyedG Tryd.underlying55 (by unfold maxLen; omega) (keyG_is x hx) (plainElem_bool Tryd.underlying4 true)
  refine ⟨w', hrun, ⟨_, r1, hD.put _ _, fun y hy => ?_⟩, r2⟩
  by_cases hyx : y = x
  · subst hyx
    rw [atKey_put_same hD (keyedG.key (keyG_is y hy))]
    simp
  · rw [atKey_put_other (fun e => hyx (keyG_inj hy hx e)), hf y hy]
    simp [hyx]
theorem SetG.eqv {us' : List (List Int)} (h : SetG w b n us) (he : ∀ x, x ∈ us ↔ x ∈ us') : SetG w b n us' := by
  obtain ⟨D, h1, h2, h3⟩ := h
  exact ⟨D, h1, h2, fun x hx => by rw [h3 x hx, decide_eq_decide.2 (he x)]⟩
set_option maxRecDepth 100000 in
theorem SetG.look (h : SetG w b n us) {x : List Int} (hx : GrB x) : (Instr.lookup 55 (.map (some b)) (grpV x) false).run Tryd.prog w = .ok (.bool (decide (x ∈ us))) w := by
  obtain ⟨D, hown, hD, hf⟩ := h
  have hz : (zeroValue 4).run Tryd.prog w = .ok (.bool false) w := by
    obtain ⟨i, hi, h0⟩ : ∃ i, Tryd.prog.info? 4 = some i ∧ i.zero = some (.bool false) := by
      have : (Tryd.prog.info? 4).map (fun i => i.zero) = some (some (.bool false)) := by kernel_rfl
      cases hq : Tryd.prog.info? 4 with
      | none => simp [hq] at this
      | some i => exact ⟨i, rfl, by simpa [hq] using this⟩
    simp [zeroValue, typeInfo, hi, h0]
  obtain ⟨v, ps, hrun, hv⟩ := hown.lookup keyedG Tryd.underlying55 hz (plainElem_bool Tryd.underlying4 false) (keyG_is x hx)
  rw [hf x hx] at hv
  rw [hrun]
  unfold plainElem at hv
  simp only [Tryd.underlying4] at hv
  split at hv
  all_goals first
    | (injection hv with hv; injection hv with hv _; injection hv with hv; injection hv with hv; rw [hv])
    | (simp at hv)
    | skip
end

section
variable {F : Fence} {n : Nat} {w : World}
/-- 'm[x]' at a set of groups. -/
theorem wpListIn_look {ops : Array Oper} {rest : List Oper} {o : Oper} {a : Act} {Q : Exit → Act → World → Prop} {b m : Nat} {us : List (List Int)} (hg : o.guard = none) (mm x : Operand) (hop : o.op = Op.lookup 55 mm x false)
    (h : SetG w b m us) (y : List Int) (hy : GrB y) (hm : a.eval mm = .map (some b)) (rs : Array Value) (hrs : gcs y = rs) (hx : a.eval x = .agg rs) (v : Bool) (hv : decide (y ∈ us) = v)
    (hQ : wpListIn F n Tryd.prog ops Q rest (a.put o.dst (.bool v)) w) : wpListIn F n Tryd.prog ops Q (o :: rest) a w := by
  refine wpListIn_plain hg fun K' hK' => ?_
  subst hrs hv
  have hrun := h.look hy
  rw [grpV_eq] at hrun
  unfold Oper.wpIn
  refine ⟨by simp [Oper.about, hop], ?_⟩
  rw [Oper.semAt_plain F _ _ (by rw [hop]; intro c hc'; cases hc')]
  simp [execOp, hop, hm, hx, hrun, Result.andThen]
  exact hK' _ _ hQ
/-- 'm[x] = true' at a set of groups. -/
theorem wpListIn_upd {ops : Array Oper} {rest : List Oper} {o : Oper} {a : Act} {Q : Exit → Act → World → Prop} {b m : Nat} {us : List (List Int)} (hg : o.guard = none) (mm x : Operand) (v : Operand) (hop : o.op = Op.mapUpdate 55 mm x v)
    (h : SetG w b m us) (hmn : m < 1000000) (y : List Int) (hy : GrB y) (hm : a.eval mm = .map (some b)) (rs : Array Value) (hrs : gcs y = rs) (hx : a.eval x = .agg rs) (hv : a.eval v = .bool true)
    (hQ : ∀ w', SetG w' b (m + 1) (us ++ [y]) → w.grownBy w' (some b) → wpListIn F n Tryd.prog ops Q rest (a.put o.dst undef) w') : wpListIn F n Tryd.prog ops Q (o :: rest) a w := by
  refine wpListIn_plain hg fun K' hK' => ?_
  subst hrs
  obtain ⟨w', hrun, r1, r2⟩ := h.step hmn hy
  rw [grpV_eq] at hrun
  unfold Oper.wpIn
  refine ⟨by simp [Oper.about, hop], ?_⟩
  rw [Oper.semAt_plain F _ _ (by rw [hop]; intro c hc'; cases hc')]
  simp [execOp, hop, hm, hx, hv, hrun, Result.andThen]
  exact hK' _ _ (hQ w' r1 r2)
end

end Go.Proofs.YtkhonebedoemoaaDoor
