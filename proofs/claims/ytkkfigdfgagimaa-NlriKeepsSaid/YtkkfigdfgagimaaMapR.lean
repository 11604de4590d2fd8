/- Maps from routes to bools that the call made, told as sets: laws for the walk. No condition. -/
import Derived.Test.YtkkfigdfgagimaaUniA
import Derived.DeepKeys5
import Derived.Maps.Own
import Derived.Maps.OwnOps
import Derived.Maps.OwnSet
import Derived.Maps.Views
namespace Go.Proofs.Ytkkfigdfgagimaa
open Go.RowKit Go.Maps
set_option linter.unusedVariables false

theorem mapM_ex {α β : Type} (f : α → Option β) : ∀ l : List α, (∀ a ∈ l, ∃ y, f a = some y) → ∃ ys, l.mapM f = some ys
  | [], _ => ⟨[], rfl⟩
  | a :: l, h => by
    obtain ⟨y, hy⟩ := h a (by simp)
    obtain ⟨ys, hys⟩ := mapM_ex f l (fun b hb => h b (by simp [hb]))
    exact ⟨y :: ys, by simp [List.mapM_cons, hy, hys]⟩
theorem lits_int {P : Program} {t : TypeId} {q : IntKind} (hu : P.underlying t = some (.int q)) {n : Int} (hw : (Lit.int q n).wf = true) (d : Nat) : P.keyLits (d + 1) t [.int q n] = some [.int q n] := by
  simp [Program.keyLits, hu, hw]
theorem wf_u8 (n : Int) (h0 : 0 ≤ n) (h1 : n < 256) : (Lit.int .u8 n).wf = true := by
  simp only [Lit.wf, show IntKind.u8.min = 0 from rfl, show IntKind.u8.max = 255 from rfl, Bool.and_eq_true, decide_eq_true_eq]
  omega
theorem wf_u32 (n : Int) (h0 : 0 ≤ n) (h1 : n ≤ 4294967295) : (Lit.int .u32 n).wf = true := by
  simp only [Lit.wf, show IntKind.u32.min = 0 from rfl, show IntKind.u32.max = 4294967295 from rfl, Bool.and_eq_true, decide_eq_true_eq]
  omega
theorem wf_i64 (n : Int) (h0 : -9223372036854775808 ≤ n) (h1 : n ≤ 9223372036854775807) : (Lit.int .i64 n).wf = true := by
  simp only [Lit.wf, show IntKind.i64.min = -9223372036854775808 from rfl, show IntKind.i64.max = 9223372036854775807 from rfl, Bool.and_eq_true, decide_eq_true_eq]
  omega
theorem lits_ad (d : Nat) (a : List Int) (hl : a.length = 16) (hb : IsB a) : ∃ ls, Try.prog.keyLits (d + 2) 27 (bs a) = some ls := by
  have e1 : Try.prog.cellsOf 5 = 1 := by kernel_rfl
  have e16 : Try.prog.cellsOf 27 = 16 := by kernel_rfl
  obtain ⟨ys, hys⟩ := mapM_ex (fun i => Try.prog.keyLits (d + 1) 5 (((bs a).drop (i * Try.prog.cellsOf 5)).take (Try.prog.cellsOf 5))) (List.range 16) (fun i hi => by
    have hi' : i < 16 := List.mem_range.1 hi
    have hx : i < a.length := by omega
    have hB := hb _ (List.getElem_mem hx)
    refine ⟨[.int .u8 a[i]], ?_⟩
    rw [e1, Nat.mul_one, ← bs_drop, ← bs_take, List.drop_eq_getElem_cons hx]
    exact lits_int Try.underlying5 (wf_u8 _ (by omega) (by omega)) d)
  refine ⟨ys.flatten, ?_⟩
  rw [Program.keyLits.eq_def]
  simp only [Try.underlying27]
  rw [if_pos (by rw [bs_length, hl, e16]), hys]
  rfl
theorem lits_pre (d : Nat) (p : PreI) (h : p.B) : ∃ ls, Try.prog.keyLits (d + 3) 29 (preC p) = some ls := by
  obtain ⟨⟨h1, h2⟩, ⟨h3, h4⟩, h5, h6⟩ := h
  obtain ⟨la, hla⟩ := lits_ad d p.addr h5 h6
  have e18 : Try.prog.cellsOf 29 = 18 := by kernel_rfl
  have e16 : Try.prog.cellsOf 27 = 16 := by kernel_rfl
  have e1 : Try.prog.cellsOf 3 = 1 := by kernel_rfl
  have q1 := lits_int (P := Try.prog) Try.underlying3 (wf_i64 p.fam h1 h2) (d + 1)
  have q2 := lits_int (P := Try.prog) Try.underlying3 (wf_i64 p.len h3 h4) (d + 1)
  refine ⟨[.int .i64 p.fam] ++ ([.int .i64 p.len] ++ la), ?_⟩
  rw [Program.keyLits.eq_def]
  simp only [Try.underlying29]
  rw [if_pos (by rw [preC_length h5, e18]; exact ⟨rfl, by kernel_rfl⟩)]
  have t16 : (bs p.addr).take 16 = bs p.addr := List.take_of_length_le (by rw [bs_length]; omega)
  simp [List.mapM_cons, preC, e1, e16, q1, q2, hla, t16]
theorem lits_rt (d : Nat) (x : RtI) (h : x.B) : ∃ ls, Try.prog.keyLits (d + 4) 31 (rtC x) = some ls := by
  obtain ⟨⟨h1, h2⟩, h3⟩ := h
  obtain ⟨la, hla⟩ := lits_pre d x.pre h3
  have e19 : Try.prog.cellsOf 31 = 19 := by kernel_rfl
  have e18 : Try.prog.cellsOf 29 = 18 := by kernel_rfl
  have e1 : Try.prog.cellsOf 26 = 1 := by kernel_rfl
  have q1 := lits_int (P := Try.prog) Try.underlying26 (wf_u32 x.path h1 h2) (d + 2)
  refine ⟨[.int .u32 x.path] ++ la, ?_⟩
  rw [Program.keyLits.eq_def]
  simp only [Try.underlying31]
  rw [if_pos (by rw [rtC_length h3.2.2.1, e19]; exact ⟨rfl, by kernel_rfl⟩)]
  have t18 : (preC x.pre).take 18 = preC x.pre := List.take_of_length_le (by rw [preC_length h3.2.2.1]; omega)
  simp [List.mapM_cons, rtC, e1, e18, q1, hla, t18]
theorem key_some (x : RtI) (h : x.B) : ∃ l, keyOf Try.prog 31 x.val = some l := by
  have hT : Try.prog.types.size + 1 = Try.prog.types.size - 3 + 4 := by kernel_rfl
  obtain ⟨ls, hls⟩ := lits_rt (Try.prog.types.size - 3) x h
  have hk : Try.prog.keyType 31 = true := by kernel_rfl
  have e19 : Try.prog.cellsOf 31 = 19 := by kernel_rfl
  refine ⟨.string (keyBytes ls), ?_⟩
  unfold keyOf RtI.val
  simp only [Try.underlying31]
  rw [if_pos (by simp [hk, Value.formed, Try.underlying31, e19, rtC_length h.2.2.2.1]), hT]
  simp only [Value.cells, hls]
  rfl
noncomputable def keyR (x : RtI) : Lit := (keyOf Try.prog 31 x.val).getD (.bool false)
theorem keyR_is (x : RtI) (h : x.B) : keyOf Try.prog 31 x.val = some (keyR x) := by
  obtain ⟨l, hl⟩ := key_some x h
  rw [keyR, hl]
  rfl
theorem keyedR : Keyed Try.prog 31 := Keyed.of_law (deep_law_gate (by kernel_rfl) (of_decide_eq_true (by kernel_rfl)) (of_decide_eq_true (by kernel_rfl)) (by kernel_rfl) (by kernel_rfl))
theorem bs_inj : ∀ {a b : List Int}, bs a = bs b → a = b
  | [], [], _ => rfl
  | [], y :: ys, h => by simp [bs] at h
  | x :: xs, [], h => by simp [bs] at h
  | x :: xs, y :: ys, h => by
    simp only [bs, List.map_cons, List.cons.injEq] at h
    obtain ⟨h1, h2⟩ := h
    injection h1 with _ h1
    rw [h1, bs_inj h2]
theorem val_inj {x y : RtI} (h : x.val = y.val) : x = y := by
  unfold RtI.val at h
  injection h with h
  have h := congrArg Array.toList h
  simp only [rtC, preC, List.cons.injEq] at h
  obtain ⟨h1, h2, h3, h4⟩ := h
  injection h1 with _ h1
  injection h2 with _ h2
  injection h3 with _ h3
  have h5 := bs_inj h4
  clear h h4
  rcases x with ⟨p, f, l, a⟩
  rcases y with ⟨p', f', l', a'⟩
  simp only at h1 h2 h3 h5
  subst h1 h2 h3 h5
  rfl
theorem keyR_inj {x y : RtI} (hx : x.B) (hy : y.B) (h : keyR x = keyR y) : x = y := val_inj (keyedR.inj (keyR_is x hx) (by rw [h]; exact keyR_is y hy))

/-! ### Sets of routes -/
/-- Block b is a map from route to bool that holds true of the routes in us alone; n: how often it was written at most. -/
def SetR (w : World) (b n : Nat) (us : List RtI) : Prop :=
  ∃ (D : DataW Unit), w.ownsMap Try.prog 31 (plainElem Try.prog 4) b n D ∧ IsMap D ∧ ∀ x : RtI, x.B → D.atKey (keyR x) (.lit (.bool false)) = .lit (.bool (decide (x ∈ us)))
section
variable {w w' : World} {b n : Nat} {us : List RtI}
theorem SetR.lt (h : SetR w b n us) : b < w.heap.size := by
  obtain ⟨D, ⟨es, c, hb, _⟩, _⟩ := h
  exact (Array.getElem?_eq_some_iff.1 hb).1
theorem SetR.keep {S : Nat → Prop} (h : SetR w b n us) (k : Kp S w w') (hb : ¬ S b) : SetR w' b n us := by
  have hl := h.lt
  obtain ⟨D, ⟨es, c, hh, r⟩, r2⟩ := h
  exact ⟨D, ⟨es, c, (k.block b hl hb).trans hh, r⟩, r2⟩
theorem SetR.and (h : SetR w b n us) (k : Kp NoB w w') : SetR w' b n us := h.keep k (fun q => q)
theorem SetR.made (w : World) : SetR (w.alloc (.map #[] 0)) w.heap.size 0 [] := ⟨.map [], World.ownsMap_made w _ _ _, isMap_empty, fun x _ => by simp; rfl⟩
set_option maxRecDepth 100000 in
theorem SetR.step (h : SetR w b n us) (hn : n < 1000000) {x : RtI} (hx : x.B) :
    ∃ w', (Instr.mapUpdate 80 (.map (some b)) x.val (.bool true)).run Try.prog w = .ok () w' ∧ SetR w' b (n + 1) (us ++ [x]) ∧ w.grownBy w' (some b) := by
  obtain ⟨D, hown, hD, hf⟩ := h
  obtain ⟨w', hrun, r1, r2⟩ := hown.update keyedR Try.underlying80 (by unfold maxLen; omega) (keyR_is x hx) (plainElem_bool Try.underlying4 true)
  refine ⟨w', hrun, ⟨_, r1, hD.put _ _, fun y hy => ?_⟩, r2⟩
  by_cases hyx : y = x
  · subst hyx
    rw [atKey_put_same hD (keyedR.key (keyR_is y hy))]
    simp
  · rw [atKey_put_other (fun e => hyx (keyR_inj hy hx e)), hf y hy]
    simp [hyx]
set_option maxRecDepth 100000 in
theorem SetR.look (h : SetR w b n us) {x : RtI} (hx : x.B) : (Instr.lookup 80 (.map (some b)) x.val false).run Try.prog w = .ok (.bool (decide (x ∈ us))) w := by
  obtain ⟨D, hown, hD, hf⟩ := h
  have hz : (zeroValue 4).run Try.prog w = .ok (.bool false) w := by
    obtain ⟨i, hi, h0⟩ : ∃ i, Try.prog.info? 4 = some i ∧ i.zero = some (.bool false) := by
      have : (Try.prog.info? 4).map (fun i => i.zero) = some (some (.bool false)) := by kernel_rfl
      cases hq : Try.prog.info? 4 with
      | none => simp [hq] at this
      | some i => exact ⟨i, rfl, by simpa [hq] using this⟩
    simp [zeroValue, typeInfo, hi, h0]
  obtain ⟨v, ps, hrun, hv⟩ := hown.lookup keyedR Try.underlying80 hz (plainElem_bool Try.underlying4 false) (keyR_is x hx)
  rw [hf x hx] at hv
  rw [hrun]
  unfold plainElem at hv
  simp only [Try.underlying4] at hv
  split at hv
  all_goals first
    | (injection hv with hv; injection hv with hv _; injection hv with hv; injection hv with hv; rw [hv])
    | (simp at hv)
    | skip
end
end Go.Proofs.Ytkkfigdfgagimaa
