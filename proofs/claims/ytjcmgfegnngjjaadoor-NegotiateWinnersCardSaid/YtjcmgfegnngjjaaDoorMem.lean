/- What the later texts of this seat say of memory: 'Kp S w w'' (only the blocks of S, and what is new, may have turned), 'Arr w A vs' (the cells from address A on), 'Bk w b t cs' (a block known whole), and the small laws on them. No condition. -/
import Derived.WalkKit
import Derived.Deep.Draws
import Derived.Deep.AppendLies
import Derived.Maps.AppendAt
import Derived.Lib.Hide
namespace Go.Proofs.YtjcmgfegnngjjaaDoor
open Go.RowKit

/-- Only blocks of S, and new ones, may have turned. -/
structure Kp (S : Nat → Prop) (w w' : World) : Prop where
  os : w'.os = w.os
  tape : w'.tape = w.tape
  output : w'.output = w.output
  size : w.heap.size ≤ w'.heap.size
  block : ∀ k, k < w.heap.size → ¬ S k → w'.heap[k]? = w.heap[k]?

/-- No block at all. -/
def NoB : Nat → Prop := fun _ => False
/-- Block b alone. -/
def OnB (b : Nat) : Nat → Prop := fun k => k = b

section
variable {S S' : Nat → Prop} {w w' w1 w2 : World}

theorem Kp.refl (S : Nat → Prop) (w : World) : Kp S w w := ⟨rfl, rfl, rfl, Nat.le_refl _, fun _ _ _ => rfl⟩

theorem Kp.trans (h : Kp S w w1) (k : Kp S' w1 w2) (hs : ∀ b, b < w.heap.size → S' b → S b) : Kp S w w2 :=
  ⟨k.os.trans h.os, k.tape.trans h.tape, k.output.trans h.output, Nat.le_trans h.size k.size, fun b hb hn =>
    (k.block b (Nat.lt_of_lt_of_le hb h.size) (fun hq => hn (hs b hb hq))).trans (h.block b hb hn)⟩

/-- Behind it, only new blocks. -/
theorem Kp.and (h : Kp S w w1) (k : Kp NoB w1 w2) : Kp S w w2 := h.trans k (fun _ _ h => h.elim)
/-- Behind it, more of the same. -/
theorem Kp.same (h : Kp S w w1) (k : Kp S w1 w2) : Kp S w w2 := h.trans k (fun _ _ h => h)
/-- Behind it, a block that is new turns. -/
theorem Kp.new {b : Nat} (h : Kp S w w1) (k : Kp (OnB b) w1 w2) (hb : w.heap.size ≤ b) : Kp S w w2 := h.trans k (fun c hc he => by unfold OnB at he; omega)

theorem Kp.mono (h : Kp S w w') (hs : ∀ b, b < w.heap.size → S b → S' b) : Kp S' w w' :=
  ⟨h.os, h.tape, h.output, h.size, fun b hb hn => h.block b hb (fun hq => hn (hs b hb hq))⟩

theorem Kp.wide (h : Kp NoB w w') (S : Nat → Prop) : Kp S w w' := h.mono (fun _ _ h => h.elim)

theorem Kp.below (h : Kp NoB w w') : Below w.heap.size w w' := ⟨h.os, h.tape, h.output, h.size, fun b hb => h.block b hb (fun q => q)⟩

theorem Kp.of_below (h : Below w.heap.size w w') : Kp NoB w w' := ⟨h.os, h.tape, h.output, h.size, fun b hb _ => h.block b hb⟩

theorem Kp.of_grown {row : Option Nat} (h : w.grownBy w' row) : Kp (fun b => some b = row) w w' := ⟨h.os, h.tape, h.output, h.size, fun b hb hn => h.block b hb hn⟩

theorem Kp.grown {row : Option Nat} (h : Kp S w w1) (hg : w1.grownBy w2 row) (hr : ∀ b, row = some b → w.heap.size ≤ b ∨ S b) : Kp S w w2 :=
  h.trans (Kp.of_grown hg) (fun b hb he => by
    rcases hr b he.symm with h1 | h1
    · omega
    · exact h1)

theorem Kp.alloc (h : Kp S w w1) (o : Obj) : Kp S w (w1.alloc o) :=
  h.and (Kp.of_below ((Below.refl _ _).alloc (Nat.le_refl _) o))

theorem Kp.drewN (h : Kp S w w1) (n : Nat) : Kp S w (w1.drewN n) := ⟨h.os, h.tape, h.output, h.size, h.block⟩
theorem Kp.drew (h : Kp S w w1) : Kp S w w1.drew := ⟨h.os, h.tape, h.output, h.size, h.block⟩

theorem Kp.setCell (h : Kp S w w1) {p : Addr} (hp : p.block < w.heap.size → S p.block) (u : Value) : Kp S w (w1.setCell p u) :=
  ⟨h.os, h.tape, h.output, by simpa [World.setCell] using h.size, fun b hb hn =>
    (Below.heap_setCell w1 p u b (fun e => hn (by rw [e]; exact hp (by omega)))).trans (h.block b hb hn)⟩

theorem Kp.cell (h : Kp S w w') {p : Addr} {v : Value} (hc : w.cell? p = some v) (hp : ¬ S p.block) : w'.cell? p = some v :=
  (World.cell?_of_block (h.block p.block (World.block_lt_of_cell? w p hc) hp)).trans hc

theorem Kp.frozen (h : Kp S w w') {p : Addr} (hb : p.block < w.heap.size) (hp : ¬ S p.block) : w'.frozen? p = w.frozen? p :=
  World.frozen?_of_block (h.block p.block hb hp)
end

/-- It returns v, and only new blocks have been made. -/
def Stay (v : Value) (w : World) (e : Ending) (w' : World) : Prop := e = .returned v ∧ Kp NoB w w'

/-! ### A block known whole -/

/-- Block b holds just the cells cs, of element type t, none frozen. -/
def Bk (w : World) (b : Nat) (t : TypeId) (cs : Array Value) : Prop := w.heap[b]? = some (.cells cs t (0, 0))

section
variable {S : Nat → Prop} {w w' : World} {b : Nat} {t : TypeId} {cs : Array Value}
theorem Bk.lt (h : Bk w b t cs) : b < w.heap.size := (Array.getElem?_eq_some_iff.1 h).1
theorem Bk.cell (h : Bk w b t cs) (i : Nat) : w.cell? ⟨b, i, none⟩ = cs[i]? := cell_of_row w b i cs t (0, 0) h
theorem Bk.frozen (h : Bk w b t cs) (i : Nat) : w.frozen? ⟨b, i, none⟩ = false := by unfold Bk at h; simp [World.frozen?, h]
theorem Bk.fresh (w : World) (t : TypeId) (cs : Array Value) : Bk (w.alloc (.cells cs t)) w.heap.size t cs := heap_alloc_new w _
theorem Bk.keep (h : Bk w b t cs) (k : Kp S w w') (hs : ¬ S b) : Bk w' b t cs := (k.block b h.lt hs).trans h
theorem Bk.and (h : Bk w b t cs) (k : Kp NoB w w') : Bk w' b t cs := h.keep k (fun q => q)
theorem Bk.alloc (h : Bk w b t cs) (o : Obj) : Bk (w.alloc o) b t cs := (Below.heap_alloc w o b h.lt).trans h
theorem Bk.drewN (h : Bk w b t cs) (n : Nat) : Bk (w.drewN n) b t cs := h
theorem Bk.set (h : Bk w b t cs) (i : Nat) (u : Value) : Bk (w.setCell ⟨b, i, none⟩ u) b t (cs.setIfInBounds i u) := by
  unfold Bk at h ⊢
  simp [World.setCell, Array.getElem?_modify, h]
theorem Bk.far (h : Bk w b t cs) {p : Addr} (hp : b ≠ p.block) (u : Value) : Bk (w.setCell p u) b t cs := (Below.heap_setCell w p u b hp).trans h
end

/-- All that a walk asks of a block of two cells. -/
theorem Bk.two {w : World} {b : Nat} {t : TypeId} {u v : Value} (h : Bk w b t #[u, v]) : w.cell? ⟨b, 0, none⟩ = some u ∧ w.cell? ⟨b, 1, none⟩ = some v ∧ w.frozen? ⟨b, 0, none⟩ = false ∧ w.frozen? ⟨b, 1, none⟩ = false ∧ b < w.heap.size :=
  ⟨h.cell 0, h.cell 1, h.frozen 0, h.frozen 1, h.lt⟩
theorem Bk.one {w : World} {b : Nat} {t : TypeId} {u : Value} (h : Bk w b t #[u]) : w.cell? ⟨b, 0, none⟩ = some u ∧ w.frozen? ⟨b, 0, none⟩ = false ∧ b < w.heap.size :=
  ⟨h.cell 0, h.frozen 0, h.lt⟩
theorem Bk.three {w : World} {b : Nat} {t : TypeId} {u v x : Value} (h : Bk w b t #[u, v, x]) : w.cell? ⟨b, 0, none⟩ = some u ∧ w.cell? ⟨b, 1, none⟩ = some v ∧ w.cell? ⟨b, 2, none⟩ = some x ∧ w.frozen? ⟨b, 0, none⟩ = false ∧ w.frozen? ⟨b, 1, none⟩ = false ∧ w.frozen? ⟨b, 2, none⟩ = false ∧ b < w.heap.size :=
  ⟨h.cell 0, h.cell 1, h.cell 2, h.frozen 0, h.frozen 1, h.frozen 2, h.lt⟩
/-- The second of the blocks that were made, and the third. -/
theorem Bk.second (w : World) (o : Obj) (t : TypeId) (cs : Array Value) : Bk ((w.alloc o).alloc (.cells cs t)) (w.heap.size + 1) t cs := by
  have := Bk.fresh (w.alloc o) t cs
  rwa [World.size_alloc] at this
theorem Bk.third (w : World) (o o' : Obj) (t : TypeId) (cs : Array Value) : Bk (((w.alloc o).alloc o').alloc (.cells cs t)) (w.heap.size + 1 + 1) t cs := by
  have := Bk.second (w.alloc o) o' t cs
  rwa [World.size_alloc] at this

/-! ### The cells from an address on -/

/-- From A on lie the cells vs (where vs is empty, of A nothing is said). -/
def Arr (w : World) (A : Option Addr) (vs : List Value) : Prop := vs ≠ [] → ∃ ad, A = some ad ∧ ∀ j u, vs[j]? = some u → w.cell? (ad.add j) = some u

theorem block_add (a : Addr) (n : Nat) : (a.add n).block = a.block := by unfold Addr.add; split <;> rfl
theorem add_add (a : Addr) (i j : Nat) : (a.add i).add j = a.add (i + j) := by
  unfold Addr.add
  by_cases hi : i = 0 <;> by_cases hj : j = 0 <;> simp [hi, hj, Nat.add_assoc]
/-- As the walk spells a field's address. -/
theorem add_field (a : Addr) (m i : Nat) (h : 0 < i) : a.add (m + i) = ⟨(a.add m).block, (a.add m).off + i, none⟩ := by
  unfold Addr.add
  rw [if_neg (by omega)]
  by_cases hm : m = 0 <;> simp [hm, Nat.add_assoc]
theorem add_zero (a : Addr) : a.add 0 = a := rfl
theorem add_none (b o j : Nat) : (⟨b, o, none⟩ : Addr).add j = ⟨b, o + j, none⟩ := by
  unfold Addr.add
  split
  · subst_vars; rfl
  · rfl

/-- The block of an address; d where it is nil. -/
def blkOr (A : Option Addr) (d : Nat) : Nat := match A with | some a => a.block | none => d

section
variable {S : Nat → Prop} {w w' : World} {A : Option Addr} {vs us : List Value}
theorem Arr.nil (w : World) (A : Option Addr) : Arr w A [] := fun h => absurd rfl h
theorem Arr.keep (h : Arr w A vs) (k : Kp S w w') (hs : ∀ ad, A = some ad → ¬ S ad.block) : Arr w' A vs := fun hn => by
  obtain ⟨ad, e, hc⟩ := h hn
  exact ⟨ad, e, fun j u hu => k.cell (hc j u hu) (by rw [block_add]; exact hs ad e)⟩
theorem Arr.and (h : Arr w A vs) (k : Kp NoB w w') : Arr w' A vs := h.keep k (fun _ _ q => q)
theorem Arr.alloc (h : Arr w A vs) (o : Obj) : Arr (w.alloc o) A vs := h.and ((Kp.refl _ _).alloc o)
theorem Arr.drewN (h : Arr w A vs) (n : Nat) : Arr (w.drewN n) A vs := h
theorem Arr.at (h : Arr w A vs) {j : Nat} {u : Value} (hu : vs[j]? = some u) : ∃ ad, A = some ad ∧ w.cell? (ad.add j) = some u := by
  obtain ⟨ad, e, hc⟩ := h (by intro e; rw [e] at hu; simp at hu)
  exact ⟨ad, e, hc j u hu⟩
theorem Arr.lt (h : Arr w A vs) (hn : vs ≠ []) : ∀ ad, A = some ad → ad.block < w.heap.size := by
  intro ad e
  obtain ⟨ad', e', hc⟩ := h hn
  rw [e] at e'
  cases e'
  cases vs with
  | nil => exact absurd rfl hn
  | cons v vs =>
    have := World.block_lt_of_cell? w _ (hc 0 v rfl)
    rwa [block_add] at this
theorem Arr.take (h : Arr w A vs) (n : Nat) : Arr w A (vs.take n) := fun hn => by
  obtain ⟨ad, e, hc⟩ := h (by rintro rfl; exact hn (by simp))
  refine ⟨ad, e, fun j u hu => hc j u ?_⟩
  rw [List.getElem?_take] at hu
  split at hu
  · exact hu
  · cases hu
/-- The address of what is left behind n cells. -/
def cutA (A : Option Addr) (n c : Nat) : Option Addr := if c = n then A else A.map (·.add n)
theorem Arr.drop (h : Arr w A vs) {n c : Nat} (hc : vs.length ≤ c) : Arr w (cutA A n c) (vs.drop n) := fun hn => by
  obtain ⟨ad, e, hcell⟩ := h (by rintro rfl; exact hn (by simp))
  have hl : n < vs.length := by
    rcases Nat.lt_or_ge n vs.length with h1 | h1
    · exact h1
    · exact absurd (List.drop_eq_nil_of_le h1) hn
  unfold cutA
  rw [if_neg (by omega), e]
  exact ⟨ad.add n, rfl, fun j u hu => by rw [add_add]; exact hcell _ u (by rwa [List.getElem?_drop] at hu)⟩
theorem cutA_block (A : Option Addr) (n c : Nat) (ad : Addr) (h : cutA A n c = some ad) : ∃ a, A = some a ∧ ad.block = a.block := by
  unfold cutA at h
  split at h
  · exact ⟨ad, h, rfl⟩
  · cases A with
    | none => cases h
    | some a => simp only [Option.map_some, Option.some.injEq] at h; exact ⟨a, rfl, by rw [← h, block_add]⟩
/-- One cell in a block that was just made. -/
theorem Arr.one (w : World) (t : TypeId) (v : Value) : Arr (w.alloc (.cells #[v] t)) (some ⟨w.heap.size, 0, none⟩) [v] := fun _ =>
  ⟨_, rfl, fun j u hu => by
    have hj : j = 0 := by have := (List.getElem?_eq_some_iff.1 hu).1; simp at this; omega
    subst hj
    simp at hu
    subst hu
    rw [add_none]
    simp⟩
/-- A literal. -/
theorem Arr.lit (w : World) (t : TypeId) (vs : List Value) : Arr (w.alloc (.cells vs.toArray t)) (some ⟨w.heap.size, 0, none⟩) vs := fun _ =>
  ⟨_, rfl, fun j u hu => by rw [add_none, Nat.zero_add]; simpa using hu⟩
theorem Arr.of_bk {b : Nat} {t : TypeId} {cs : Array Value} (h : Bk w b t cs) (n : Nat) : Arr w (some ⟨b, 0, none⟩) (cs.toList.take n) := fun _ =>
  ⟨_, rfl, fun j u hu => by
    rw [add_none, Nat.zero_add, h.cell]
    rw [List.getElem?_take] at hu
    split at hu
    · simpa using hu
    · cases hu⟩
/-- A row of the call's own. -/
theorem Arr.of_own {base c : Nat} {e : TypeId} {size n : Nat} (h : w.ownsRow base e size (.slice A n c) n vs) : Arr w A vs := fun hn => by
  rcases h.2 with ⟨_, e0⟩ | ⟨g, cap, cur, hv, _⟩
  · exact absurd (List.eq_nil_of_length_eq_zero (by rw [h.1, e0]; simp)) hn
  · have hA : A = some ⟨g, 0, none⟩ := by injection hv
    subst hA
    exact ⟨_, rfl, h.cells (g := g) rfl⟩
end

/-! ### Bytes -/

/-- Bytes, as cells. -/
def bs (xs : List Int) : List Value := xs.map (Value.int .u8)
theorem bs_length (xs : List Int) : (bs xs).length = xs.length := by simp [bs]
theorem bs_take (xs : List Int) (n : Nat) : bs (xs.take n) = (bs xs).take n := by simp [bs, List.map_take]
theorem bs_drop (xs : List Int) (n : Nat) : bs (xs.drop n) = (bs xs).drop n := by simp [bs, List.map_drop]
theorem bs_append (xs ys : List Int) : bs (xs ++ ys) = bs xs ++ bs ys := by simp [bs]
theorem bs_one (xs : List Int) : ∀ u ∈ bs xs, u.oneCell' = true := by
  intro u hu
  simp only [bs, List.mem_map] at hu
  obtain ⟨x, _, rfl⟩ := hu
  rfl
theorem bs_get (xs : List Int) (j : Nat) (h : j < xs.length) : (bs xs)[j]? = some (.int .u8 (xs.getD j 0)) := by
  simp [bs, h]

/-- The slice value v is the bytes xs: there is room for no more than is told. -/
def By (w : World) (v : Value) (xs : List Int) : Prop := ∃ A c, v = .slice A xs.length c ∧ xs.length ≤ c ∧ c ≤ maxLen ∧ Arr w A (bs xs)

/-! ### append onto a row of the call's own, from whatever source -/
section
variable {P : Program} {w : World}

theorem run_app (base : Nat) (t ty e : TypeId) (i : TypeInfo) (z : Value) (size bytes : Nat) (ht : P.underlying t = some (.slice e)) (hi : P.info? e = some i) (hz : i.zero = some z)
    (hsize : i.size = size) (hby : i.bytes = bytes) (hzs : z.cells.size = size) (hsz : 0 < size)
    (v : Value) (n : Nat) (xs : List Value) (hown : w.ownsRow base e size v n xs)
    (A : Option Addr) (m c : Nat) (news : List Value) (hl : news.length = m * size) (ha : Arr w A news) (h1 : ∀ u ∈ news, u.oneCell' = true)
    (h63 : n + m ≤ maxLen) (hbytes : (n + m) * bytes ≤ 140737488355328) (hbase : base ≤ w.heap.size) :
    ∃ v' w', (Builtin.append_ #[t, t] ty #[v, .slice A m c]).run P w = .ok v' w' ∧ w'.ownsRow base e size v' (n + m) (xs ++ news) ∧ w.grownBy w' v.ownBlock ∧
      (v'.ownBlock = v.ownBlock ∨ v'.ownBlock = some w.heap.size) := by
  by_cases hn : news = []
  · subst hn
    have hm : m = 0 := by
      rcases Nat.eq_zero_or_pos m with h0 | h0
      · exact h0
      · have := Nat.mul_pos h0 hsz
        simp at hl
        omega
    subst hm
    refine ⟨v, w, ?_, by simpa using hown, ⟨rfl, rfl, rfl, Nat.le_refl _, fun _ _ _ => rfl⟩, .inl rfl⟩
    rcases hown.2 with ⟨rfl, rfl⟩ | ⟨g, cap, cur, rfl, _, _, hnc, _⟩
    · cases A <;> simp [Builtin.append_, run_underlying ht, sizeOf, typeInfo, hi, Builtin.lenOf, Builtin.firstCells, loadCells, loadCellsFrom]
    · cases A <;> simp [Builtin.append_, run_underlying ht, sizeOf, typeInfo, hi, Builtin.lenOf, Builtin.firstCells, hnc, storeCells, loadCells, loadCellsFrom]
  · obtain ⟨ad, rfl, hc⟩ := ha hn
    obtain ⟨v', w', hrun, h2, h3, _, h5⟩ := run_append_own_at (P := P) w base t ty e i z size bytes ht hi hz hsize hby hzs hsz v n xs hown ad m c news hl hc h1 h63 hbytes hbase
    exact ⟨v', w', hrun, h2, h3, h5⟩

theorem own_form {base n : Nat} {e : TypeId} {size : Nat} {v : Value} {xs : List Value} (h : w.ownsRow base e size v n xs) : ∃ A c, v = .slice A n c ∧ n ≤ c ∧ c ≤ maxLen ∧ Arr w A xs := by
  have h' := h
  rcases h.2 with ⟨rfl, rfl⟩ | ⟨g, cap, cur, rfl, _, _, h1, h2, _⟩
  · exact ⟨none, 0, rfl, Nat.le_refl _, by simp [maxLen], Arr.of_own h'⟩
  · exact ⟨_, cap, rfl, h1, h2, Arr.of_own h'⟩

theorem own_base {base n : Nat} {e : TypeId} {size : Nat} {v : Value} {xs : List Value} (h : w.ownsRow base e size v n xs) : ∀ b, v.ownBlock = some b → base ≤ b := fun b hb => (h.lt b hb).1

/-- append, met in the walk: w0: the world in which the call began. -/
theorem wpList_app {ops : Array Oper} {rest : List Oper} {o : Oper} {a : Act} {Q : Exit → Act → World → Prop} {S : Nat → Prop} {w0 : World} (hk : Kp S w0 w) (hgd : o.guard = none) (s x : Operand) (t : TypeId)
    (ho : o.op = .call { callee := .builtin .append, args := #[s, x], argTypes := #[t, t] })
    (e : TypeId) (i : TypeInfo) (z : Value) (size bytes : Nat) (ht : P.underlying t = some (.slice e)) (hi : P.info? e = some i) (hz : i.zero = some z)
    (hsize : i.size = size) (hby : i.bytes = bytes) (hzs : z.cells.size = size) (hsz : 0 < size)
    (v : Value) (n : Nat) (xs : List Value) (hs : a.eval s = v) (hown : w.ownsRow w0.heap.size e size v n xs)
    (A : Option Addr) (m c : Nat) (news : List Value) (hx : a.eval x = .slice A m c) (hl : news.length = m * size) (ha : Arr w A news) (h1 : ∀ u ∈ news, u.oneCell' = true)
    (hbytes : (n + m) * bytes ≤ 140737488355328) (hby0 : 0 < bytes) (N : Nat) (hN : N = n + m)
    (h : ∀ A' c' w', w'.ownsRow w0.heap.size e size (.slice A' N c') N (xs ++ news) → Kp S w0 w' → w.grownBy w' v.ownBlock → ((Value.slice A' N c').ownBlock = v.ownBlock ∨ (Value.slice A' N c').ownBlock = some w.heap.size) →
      wpList P ops Q rest (a.put o.dst (.slice A' N c')) w') : wpList P ops Q (o :: rest) a w := by
  subst hN
  refine wpList_plain hgd fun K hK => ?_
  have h63 : n + m ≤ maxLen := by
    have := Nat.le_mul_of_pos_right (n + m) hby0
    unfold maxLen
    omega
  obtain ⟨v', w', hr, h2, h3, h4⟩ := run_app (P := P) (w := w) w0.heap.size t o.type e i z size bytes ht hi hz hsize hby hzs hsz v n xs hown A m c news hl ha h1 h63 hbytes hk.size
  obtain ⟨A', c', rfl, _, _, _⟩ := own_form h2
  unfold Oper.wp execOp
  simp only [ho, resolve, invoke, builtin, Sem.run_bind, Sem.run_pure, Result.andThen_ok, List.map_toArray, List.map_cons, List.map_nil, hs, hx, hr]
  exact hK _ _ (h A' c' w' h2 (hk.grown h3 (fun b hb => .inl (own_base hown b hb))) h3 h4)
end

/-- A row that was made at once: a literal. -/
theorem own_lit (w : World) (base : Nat) (e : TypeId) (vs : List Value) (hb : base ≤ w.heap.size) (hm : vs.length ≤ maxLen) :
    (w.alloc (.cells vs.toArray e)).ownsRow base e 1 (.slice (some ⟨w.heap.size, 0, none⟩) vs.length vs.length) vs.length vs :=
  ⟨by simp, .inr ⟨_, _, vs.toArray, rfl, hb, heap_alloc_new w _, Nat.le_refl _, hm, by simp, by simp⟩⟩

/-- A row of the call's own that is not empty: where it lies. -/
theorem own_at {w : World} {base n c : Nat} {e : TypeId} {A : Option Addr} {xs : List Value} (h : w.ownsRow base e 1 (.slice A n c) n xs) (hn : 0 < n) :
    ∃ g, A = some ⟨g, 0, none⟩ ∧ base ≤ g ∧ g < w.heap.size ∧ (∀ j u, xs[j]? = some u → w.cell? ⟨g, j, none⟩ = some u) ∧ ∀ j, w.frozen? ⟨g, j, none⟩ = false := by
  have h' := h
  rcases h.2 with ⟨_, h0⟩ | ⟨g, cap, cur, hv, hg, hh, _⟩
  · omega
  · have hA : A = some ⟨g, 0, none⟩ := by injection hv
    subst hA
    refine ⟨g, rfl, hg, (Array.getElem?_eq_some_iff.1 hh).1, fun j u hu => ?_, fun j => by simp [World.frozen?, hh]⟩
    have := h'.cells (g := g) rfl j u hu
    rwa [add_none, Nat.zero_add] at this

/-- A store into it. -/
theorem own_set {w : World} {base n c g : Nat} {e : TypeId} {xs : List Value} (h : w.ownsRow base e 1 (.slice (some ⟨g, 0, none⟩) n c) n xs) (j : Nat) (u : Value) :
    (w.setCell ⟨g, j, none⟩ u).ownsRow base e 1 (.slice (some ⟨g, 0, none⟩) n c) n (xs.set j u) := by
  obtain ⟨h1, h2⟩ := h
  refine ⟨by simpa using h1, ?_⟩
  rcases h2 with ⟨he, _⟩ | ⟨g', cap, cur, hv, hg, hh, h3, h4, h5, h6⟩
  · cases he
  · have hA : g' = g := by injection hv with hv; injection hv with hv; injection hv with hv _ _; exact hv.symm
    subst hA
    refine .inr ⟨g', cap, cur.setIfInBounds j u, hv, hg, ?_, h3, h4, by simpa using h5, ?_⟩
    · simp [World.setCell, Array.getElem?_modify, hh]
    · rw [Array.toList_setIfInBounds, List.take_set, h6]

theorem Kp.own {S : Nat → Prop} {w w' : World} {base n : Nat} {e : TypeId} {size : Nat} {v : Value} {xs : List Value} (k : Kp S w w') (h : w.ownsRow base e size v n xs) (hs : ∀ b, v.ownBlock = some b → ¬ S b) : w'.ownsRow base e size v n xs := by
  obtain ⟨h1, h2⟩ := h
  refine ⟨h1, ?_⟩
  rcases h2 with h2 | ⟨g, cap, cur, rfl, hg, hh, r⟩
  · exact .inl h2
  · exact .inr ⟨g, cap, cur, rfl, hg, (k.block g (Array.getElem?_eq_some_iff.1 hh).1 (hs g rfl)).trans hh, r⟩

/-! ### Slices whose elements have several cells -/

/-- From A on lie the elements xs, sz cells each, which read as E says. -/
def Sl {α : Type} (E : World → α → List Value → Prop) (sz : Nat) (w : World) (A : Option Addr) (xs : List α) : Prop :=
  xs ≠ [] → ∃ ad, A = some ad ∧ ∀ j x, xs[j]? = some x → ∃ cs, cs.length = sz ∧ E w x cs ∧ ∀ i u, cs[i]? = some u → w.cell? (ad.add (j * sz + i)) = some u

section
variable {α : Type} {E : World → α → List Value → Prop} {sz : Nat} {w w' : World} {A : Option Addr} {xs : List α} {S : Nat → Prop}
theorem Sl.nil (E : World → α → List Value → Prop) (sz : Nat) (w : World) (A : Option Addr) : Sl E sz w A [] := fun h => absurd rfl h
theorem Sl.at (h : Sl E sz w A xs) {j : Nat} {x : α} (hx : xs[j]? = some x) : ∃ ad cs, A = some ad ∧ cs.length = sz ∧ E w x cs ∧ ∀ i u, cs[i]? = some u → w.cell? (ad.add (j * sz + i)) = some u := by
  obtain ⟨ad, e, hc⟩ := h (by intro e; rw [e] at hx; simp at hx)
  obtain ⟨cs, h1, h2, h3⟩ := hc j x hx
  exact ⟨ad, cs, e, h1, h2, h3⟩
theorem Sl.keep (h : Sl E sz w A xs) (k : Kp S w w') (hs : ∀ ad, A = some ad → ¬ S ad.block) (hE : ∀ x cs, E w x cs → E w' x cs) : Sl E sz w' A xs := fun hn => by
  obtain ⟨ad, e, hc⟩ := h hn
  refine ⟨ad, e, fun j x hx => ?_⟩
  obtain ⟨cs, h1, h2, h3⟩ := hc j x hx
  exact ⟨cs, h1, hE x cs h2, fun i u hu => k.cell (h3 i u hu) (by rw [block_add]; exact hs ad e)⟩
theorem Sl.and (h : Sl E sz w A xs) (k : Kp NoB w w') (hE : ∀ x cs, E w x cs → E w' x cs) : Sl E sz w' A xs := h.keep k (fun _ _ q => q) hE
end

/-- Elements that are told by their cells alone. -/
def Flat {α : Type} (enc : α → List Value) : World → α → List Value → Prop := fun _ x cs => cs = enc x
theorem Flat.and {α : Type} {enc : α → List Value} {sz : Nat} {w w' : World} {A : Option Addr} {xs : List α} (h : Sl (Flat enc) sz w A xs) (k : Kp NoB w w') : Sl (Flat enc) sz w' A xs := h.and k (fun _ _ e => e)

end Go.Proofs.YtjcmgfegnngjjaaDoor
