/- Splitting routes among lists: the plain side, and lists of rows of routes that a call builds. No condition. -/
import Derived.Test.YtkkfigdfgagimaaNlCat
import Derived.Test.YtkkfigdfgagimaaRow2
namespace Go.Proofs.Ytkkfigdfgagimaa
open Go.RowKit
set_option linter.unusedVariables false

/-! ### The plain side -/
structure SpS where
  out : List (List RtI)
  now : List RtI
  n : Nat
def spStep (most : Int) (add : Bool) (s : SpS) (x : RtI) : Option SpS :=
  if most < ((formR add x).length : Int) then none
  else if s.now ≠ [] ∧ most < (s.n : Int) + ((formR add x).length : Int) then some ⟨s.out ++ [s.now], [x], (formR add x).length⟩
  else some ⟨s.out, s.now ++ [x], s.n + (formR add x).length⟩
def spRun (most : Int) (add : Bool) : List RtI → SpS → Option SpS
  | [], s => some s
  | x :: xs, s => (spStep most add s x).bind (spRun most add xs)
def sp0 : SpS := ⟨[], [], 0⟩
def spGroups (s : SpS) : List (List RtI) := if s.now = [] then s.out else s.out ++ [s.now]
def splitO (most fam : Int) (add : Bool) (xs : List RtI) : Option (List (List RtI)) := if validL fam add xs = true then (spRun most add xs sp0).map spGroups else none

theorem spRun_append (most : Int) (add : Bool) : ∀ (xs ys : List RtI) (s : SpS), spRun most add (xs ++ ys) s = (spRun most add xs s).bind (spRun most add ys)
  | [], ys, s => by simp [spRun]
  | x :: xs, ys, s => by
    rw [List.cons_append, spRun, spRun]
    cases spStep most add s x with
    | none => rfl
    | some t => exact spRun_append most add xs ys t
theorem spRun_no {most : Int} {add : Bool} {xs : List RtI} {j : Nat} {s : SpS} {x : RtI} (h : spRun most add (xs.take j) sp0 = some s) (hx : xs[j]? = some x) (hs : spStep most add s x = none) : spRun most add xs sp0 = none := by
  obtain ⟨hj, e⟩ := List.getElem?_eq_some_iff.1 hx
  have : xs = xs.take j ++ (x :: xs.drop (j + 1)) := by rw [← e, ← List.drop_eq_getElem_cons hj, List.take_append_drop]
  rw [this, spRun_append, h]
  simp [spRun, hs]
theorem spRun_yes {most : Int} {add : Bool} {xs : List RtI} {j : Nat} {s t : SpS} {x : RtI} (h : spRun most add (xs.take j) sp0 = some s) (hx : xs[j]? = some x) (hs : spStep most add s x = some t) : spRun most add (xs.take (j + 1)) sp0 = some t := by
  rw [take_snocR xs j x hx, spRun_append, h]
  simp [spRun, hs]

/-- What holds of every state. -/
structure SpI (most : Int) (add : Bool) (xs : List RtI) (s : SpS) : Prop where
  start : s.now = [] → s.out = [] ∧ s.n = 0
  size : s.n = (formN add s.now).length
  fits : s.now ≠ [] → (s.n : Int) ≤ most
  each : ∀ g ∈ s.out, g ≠ [] ∧ ((formN add g).length : Int) ≤ most
  all : s.out.flatten ++ s.now = xs
  few : s.out.length + s.now.length ≤ xs.length
theorem SpI.zero (most : Int) (add : Bool) : SpI most add [] sp0 := ⟨fun _ => ⟨rfl, rfl⟩, rfl, fun h => absurd rfl h, fun g hg => by simp [sp0] at hg, rfl, by simp [sp0]⟩
theorem SpI.step {most : Int} {add : Bool} {xs : List RtI} {s t : SpS} {x : RtI} (h : SpI most add xs s) (hs : spStep most add s x = some t) : SpI most add (xs ++ [x]) t := by
  obtain ⟨h1, h2, h3, h4, h5, h6⟩ := h
  unfold spStep at hs
  split at hs
  · cases hs
  · split at hs
    · rename_i hm hc
      injection hs with hs
      subst hs
      refine ⟨fun h => (List.cons_ne_nil _ _ h).elim, by simp [formN], fun _ => by simp only; omega, fun g hg => ?_, by simp [← h5], ?_⟩
      · simp only [List.mem_append, List.mem_singleton] at hg
        rcases hg with hg | rfl
        · exact h4 g hg
        · exact ⟨hc.1, by rw [← h2]; exact h3 hc.1⟩
      · have := List.length_pos_iff.2 hc.1
        simp only [List.length_append, List.length_cons, List.length_nil]
        omega
    · rename_i hm hc
      injection hs with hs
      subst hs
      refine ⟨fun h => by simp at h, by simp [formN, h2], fun _ => ?_, h4, by simp [← h5], ?_⟩
      · simp only
        by_cases hn : s.now = []
        · have := (h1 hn).2
          omega
        · have : ¬ most < (s.n : Int) + ((formR add x).length : Int) := fun q => hc ⟨hn, q⟩
          omega
      · simp only [List.length_append, List.length_cons, List.length_nil]
        omega
theorem spI_of {most : Int} {add : Bool} {xs : List RtI} : ∀ {j : Nat} {s : SpS}, j ≤ xs.length → spRun most add (xs.take j) sp0 = some s → SpI most add (xs.take j) s
  | 0, s, _, h => by
    simp [spRun] at h
    subst h
    simpa using SpI.zero most add
  | j + 1, s, hj, h => by
    have hx := List.getElem?_eq_getElem (show j < xs.length by omega)
    rw [take_snocR xs j _ hx] at h ⊢
    rw [spRun_append] at h
    cases hq : spRun most add (xs.take j) sp0 with
    | none => simp [hq] at h
    | some t =>
      rw [hq] at h
      simp only [Option.bind_some, spRun] at h
      have hI := spI_of (by omega) hq
      cases hst : spStep most add t xs[j] with
      | none => simp [hst] at h
      | some u =>
        simp [hst] at h
        subst h
        exact hI.step hst
theorem SpI.groups {most : Int} {add : Bool} {xs : List RtI} {s : SpS} (h : SpI most add xs s) : (∀ g ∈ spGroups s, g ≠ [] ∧ ((formN add g).length : Int) ≤ most) ∧ (spGroups s).flatten = xs ∧ (spGroups s).length ≤ xs.length := by
  obtain ⟨h1, h2, h3, h4, h5, h6⟩ := h
  unfold spGroups
  by_cases hn : s.now = []
  · rw [if_pos hn]
    refine ⟨h4, ?_, by omega⟩
    rw [← h5, hn, List.append_nil]
  · rw [if_neg hn]
    refine ⟨fun g hg => ?_, by simp [← h5], ?_⟩
    · simp only [List.mem_append, List.mem_singleton] at hg
      rcases hg with hg | rfl
      · exact h4 g hg
      · exact ⟨hn, by rw [← h2]; exact h3 hn⟩
    · have := List.length_pos_iff.2 hn
      simp only [List.length_append, List.length_cons, List.length_nil]
      omega
theorem splitO_some {most fam : Int} {add : Bool} {xs : List RtI} {gs : List (List RtI)} (h : splitO most fam add xs = some gs) : validL fam add xs = true ∧ (∀ g ∈ gs, g ≠ [] ∧ ((formN add g).length : Int) ≤ most) ∧ gs.flatten = xs ∧ gs.length ≤ xs.length := by
  unfold splitO at h
  split at h
  · rename_i hv
    cases hq : spRun most add xs sp0 with
    | none => simp [hq] at h
    | some s =>
      simp [hq] at h
      subst h
      have := spI_of (j := xs.length) (Nat.le_refl _) (by rw [List.take_length]; exact hq)
      rw [List.take_length] at this
      exact ⟨hv, this.groups⟩
  · cases h

/-! ### Lists of rows of routes of the call's own -/
def GL (wr : World) (base lim : Nat) (gs : List (List RtI)) (cs : List Value) : Prop := cs.length = gs.length ∧ ∀ (k : Nat) (g : List RtI), gs[k]? = some g → ∃ A c, cs[k]? = some (.slice A g.length c) ∧ wr.ownsRow base 31 19 (.slice A g.length c) g.length (flatE rtC g) ∧ ∀ b, (Value.slice A g.length c).ownBlock = some b → b < lim
theorem GL.nil (wr : World) (base lim : Nat) : GL wr base lim [] [] := ⟨rfl, fun k g h => by simp at h⟩
theorem GL.keep {wr w2 : World} {base lim : Nat} {S : Nat → Prop} {gs : List (List RtI)} {cs : List Value} (h : GL wr base lim gs cs) (k : Kp S wr w2)
    (hs : ∀ v n xs, wr.ownsRow base 31 19 v n xs → (∀ b, v.ownBlock = some b → b < lim) → ∀ b, v.ownBlock = some b → ¬ S b) : GL w2 base lim gs cs :=
  ⟨h.1, fun i g hi => by obtain ⟨A, c, h1, h2, h3⟩ := h.2 i g hi; exact ⟨A, c, h1, k.own h2 (hs _ _ _ h2 h3), h3⟩⟩
theorem GL.and {wr w2 : World} {base lim : Nat} {gs : List (List RtI)} {cs : List Value} (h : GL wr base lim gs cs) (k : Kp NoB wr w2) : GL w2 base lim gs cs := h.keep k (fun _ _ _ _ _ _ _ q => q)
theorem GL.up {wr : World} {base lim lim' : Nat} {gs : List (List RtI)} {cs : List Value} (h : GL wr base lim gs cs) (hl : lim ≤ lim') : GL wr base lim' gs cs :=
  ⟨h.1, fun i g hi => by obtain ⟨A, c, h1, h2, h3⟩ := h.2 i g hi; exact ⟨A, c, h1, h2, fun b hb => Nat.lt_of_lt_of_le (h3 b hb) hl⟩⟩
theorem GL.snoc {wr : World} {base lim : Nat} {gs : List (List RtI)} {cs : List Value} (h : GL wr base lim gs cs) {g : List RtI} {A : Option Addr} {c n : Nat} (hn : n = g.length) (ho : wr.ownsRow base 31 19 (.slice A n c) n (flatE rtC g)) (hl : ∀ b, (Value.slice A n c).ownBlock = some b → b < lim) :
    GL wr base lim (gs ++ [g]) (cs ++ [.slice A n c]) := by
  subst hn
  refine ⟨by simp [h.1], fun k zs hk => ?_⟩
  rcases Nat.lt_trichotomy k gs.length with hj | hj | hj
  · rw [List.getElem?_append_left hj] at hk
    obtain ⟨A', c', h1, h2⟩ := h.2 k zs hk
    exact ⟨A', c', by rw [List.getElem?_append_left (by rw [h.1]; omega)]; exact h1, h2⟩
  · subst hj
    simp at hk
    subst hk
    exact ⟨A, c, by rw [List.getElem?_append_right (by rw [h.1]; omega), h.1]; simp, ho, hl⟩
  · rw [List.getElem?_eq_none (by simp; omega)] at hk
    simp at hk
theorem GL.sl {wr : World} {base lim : Nat} {gs : List (List RtI)} {cs : List Value} (h : GL wr base lim gs cs) {A : Option Addr} (ha : Arr wr A cs) (hB : ∀ g ∈ gs, ∀ x ∈ g, x.B) : Sl RtE 1 wr A gs := fun hn => by
  obtain ⟨ad, e, hc⟩ := ha (by rintro rfl; have := h.1; simp at this; exact hn (List.eq_nil_of_length_eq_zero this.symm))
  refine ⟨ad, e, fun j g hj => ?_⟩
  obtain ⟨B, c, h1, h2, _⟩ := h.2 j g hj
  obtain ⟨B', c', e1, q1, q2, q3⟩ := own_form h2
  injection e1 with e1 _ e2
  subst e1 e2
  refine ⟨[.slice B g.length c], rfl, ⟨B, c, rfl, q1, q2, rtL_of_own h2 (hB g (List.mem_of_getElem? hj))⟩, fun i v hv => ?_⟩
  obtain rfl : i = 0 := by have := (List.getElem?_eq_some_iff.1 hv).1; simp at this; omega
  simp at hv
  subst hv
  rw [Nat.mul_one, Nat.add_zero]
  exact hc j _ h1
theorem GL.one {wr : World} {base lim : Nat} {gs : List (List RtI)} {cs : List Value} (h : GL wr base lim gs cs) : ∀ u ∈ cs, u.oneCell' = true := fun u hu => by
  obtain ⟨i, hi, e⟩ := List.getElem_of_mem hu
  obtain ⟨A, c, h1, _⟩ := h.2 i _ (List.getElem?_eq_getElem (by rw [← h.1]; exact hi))
  rw [List.getElem?_eq_getElem hi, e] at h1
  injection h1 with h1
  subst h1
  rfl

theorem infoRtS : (Try.prog.info? 22).map (fun i => (i.zero, i.size, i.bytes)) = some (some (.slice none 0 0), 1, 24) := by kernel_rfl

/-! ### append onto a row whose base is told -/
section
variable {P : Program} {w : World}
theorem wpList_appb {ops : Array Oper} {rest : List Oper} {o : Oper} {a : Act} {Q : Exit → Act → World → Prop} (base : Nat) (hbase : base ≤ w.heap.size) (hgd : o.guard = none) (s x : Operand) (t : TypeId)
    (ho : o.op = .call { callee := .builtin .append, args := #[s, x], argTypes := #[t, t] })
    (e : TypeId) (i : TypeInfo) (z : Value) (size bytes : Nat) (ht : P.underlying t = some (.slice e)) (hi : P.info? e = some i) (hz : i.zero = some z)
    (hsize : i.size = size) (hby : i.bytes = bytes) (hzs : z.cells.size = size) (hsz : 0 < size)
    (v : Value) (n : Nat) (xs : List Value) (hs : a.eval s = v) (hown : w.ownsRow base e size v n xs)
    (A : Option Addr) (m c : Nat) (news : List Value) (hx : a.eval x = .slice A m c) (hl : news.length = m * size) (ha : Arr w A news) (h1 : ∀ u ∈ news, u.oneCell' = true)
    (hbytes : (n + m) * bytes ≤ 140737488355328) (hby0 : 0 < bytes) (N : Nat) (hN : N = n + m)
    (h : ∀ A' c' w', w'.ownsRow base e size (.slice A' N c') N (xs ++ news) → w.grownBy w' v.ownBlock → ((Value.slice A' N c').ownBlock = v.ownBlock ∨ (Value.slice A' N c').ownBlock = some w.heap.size) →
      wpList P ops Q rest (a.put o.dst (.slice A' N c')) w') : wpList P ops Q (o :: rest) a w := by
  subst hN
  refine wpList_plain hgd fun K hK => ?_
  have h63 : n + m ≤ maxLen := by
    have := Nat.le_mul_of_pos_right (n + m) hby0
    unfold maxLen
    omega
  obtain ⟨v', w', hr, h2, h3, h4⟩ := run_app (P := P) (w := w) base t o.type e i z size bytes ht hi hz hsize hby hzs hsz v n xs hown A m c news hl ha h1 h63 hbytes hbase
  obtain ⟨A', c', rfl, _, _, _⟩ := own_form h2
  unfold Oper.wp execOp
  simp only [ho, resolve, invoke, builtin, Sem.run_bind, Sem.run_pure, Result.andThen_ok, List.map_toArray, List.map_cons, List.map_nil, hs, hx, hr]
  exact hK _ _ (h A' c' w' h2 h3 h4)
theorem wp_appb {o : Oper} {a : Act} {K : Act → World → Prop} {Q : Exit → Act → World → Prop} (base : Nat) (hbase : base ≤ w.heap.size) (s x : Operand) (t : TypeId)
    (ho : o.op = .call { callee := .builtin .append, args := #[s, x], argTypes := #[t, t] })
    (e : TypeId) (i : TypeInfo) (z : Value) (size bytes : Nat) (ht : P.underlying t = some (.slice e)) (hi : P.info? e = some i) (hz : i.zero = some z)
    (hsize : i.size = size) (hby : i.bytes = bytes) (hzs : z.cells.size = size) (hsz : 0 < size)
    (v : Value) (n : Nat) (xs : List Value) (hs : a.eval s = v) (hown : w.ownsRow base e size v n xs)
    (A : Option Addr) (m c : Nat) (news : List Value) (hx : a.eval x = .slice A m c) (hl : news.length = m * size) (ha : Arr w A news) (h1 : ∀ u ∈ news, u.oneCell' = true)
    (hbytes : (n + m) * bytes ≤ 140737488355328) (hby0 : 0 < bytes) (N : Nat) (hN : N = n + m)
    (h : ∀ A' c' w', w'.ownsRow base e size (.slice A' N c') N (xs ++ news) → w.grownBy w' v.ownBlock → ((Value.slice A' N c').ownBlock = v.ownBlock ∨ (Value.slice A' N c').ownBlock = some w.heap.size) →
      K (a.put o.dst (.slice A' N c')) w') : o.wp P a w K Q := by
  subst hN
  have h63 : n + m ≤ maxLen := by
    have := Nat.le_mul_of_pos_right (n + m) hby0
    unfold maxLen
    omega
  obtain ⟨v', w', hr, h2, h3, h4⟩ := run_app (P := P) (w := w) base t o.type e i z size bytes ht hi hz hsize hby hzs hsz v n xs hown A m c news hl ha h1 h63 hbytes hbase
  obtain ⟨A', c', rfl, _, _, _⟩ := own_form h2
  unfold Oper.wp execOp
  simp only [ho, resolve, invoke, builtin, Sem.run_bind, Sem.run_pure, Result.andThen_ok, List.map_toArray, List.map_cons, List.map_nil, hs, hx, hr]
  exact h A' c' w' h2 h3 h4
/-- A row built, in a region that draws its order. -/
theorem wp_build_row {o : Oper} {a : Act} {K : Act → World → Prop} {Q : Exit → Act → World → Prop} (t : TypeId) (x : Operand) (ho : o.op = .buildSlice t 1 #[(0, x)])
    (cs : List Value) (hx : a.eval x = .agg cs.toArray) (e : TypeId) (i : TypeInfo) (z : Value) (sz : Nat) (ht : P.underlying t = some (.slice e)) (hi : P.info? e = some i) (hz : i.zero = some z) (hs : i.size = sz)
    (hzs : z.cells.size = sz) (h0 : 0 < sz) (hc : cs.length = sz) (hn : sz ≤ 16777216) (g : Nat) (hg : w.heap.size = g)
    (h : K (a.put o.dst (.slice (some ⟨g, 0, none⟩) 1 1)) (w.alloc (.cells cs.toArray e))) : o.wp P a w K Q := by
  subst hg
  have hr := run_buildSlice_rows (P := P) w t e i z sz [cs] ht hi hz hs hzs h0 (by simpa using hc) (by simpa using hn) (by simp)
  unfold Oper.wp execOp
  simp only [ho]
  have he : (#[(0, x)].map (fun (p : Nat × Operand) => (p.1, a.eval p.2))) = (([cs].zipIdx.map (fun x => (x.2, Value.agg x.1.toArray))).toArray) := by simp [hx]
  simp only [List.flatten_cons, List.flatten_nil, List.append_nil, List.length_cons, List.length_nil, Nat.zero_add] at hr
  rw [he]
  simp only [Sem.run_bind, hr, Result.andThen_ok, Sem.run_pure]
  exact h
end

/-- What Split leaves. -/
def SplitAny (o : Option (List (List RtI))) (w : World) (e : Ending) (w' : World) : Prop := match o with
  | some gs => ∃ A c cs, e = .returned (.tuple #[.slice A gs.length c, .bool true]) ∧ w'.ownsRow w.heap.size 22 1 (.slice A gs.length c) gs.length cs ∧ GL w' w.heap.size w'.heap.size gs cs ∧ Kp NoB w w'
  | none => e = .returned (.tuple #[.slice none 0 0, .bool false]) ∧ Kp NoB w w'

end Go.Proofs.Ytkkfigdfgagimaa
