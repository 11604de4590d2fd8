/- open.Parse: its contract by walking the Go text. Printed by tools/pare.py. -/
import Derived.Test.YtilfheociidloaaDoorParD
namespace Go.Proofs.YtilfheociidloaaDoor
open Go.RowKit
set_option linter.unusedVariables false
set_option linter.unusedSimpArgs false

/-- A step is taken where no verdict stands. -/
def nx (f : PSt → PSt) (st : PSt) : PSt := if st.bad.isSome = true then st else f st
theorem nx_none {f : PSt → PSt} {st : PSt} (h : st.bad = none) : nx f st = f st := if_neg (by rw [h]; decide)
theorem nx_some {f : PSt → PSt} {st : PSt} {v : Int × Int × List Int} (h : st.bad = some v) : nx f st = st := if_pos (by rw [h]; rfl)
def stBegin (b : List Int) : PSt := ⟨⟨0, 0, 0, []⟩, b, 0, if b.length < 10 then some (0, b.length, []) else none⟩
noncomputable def stepF : Nat → PSt → PSt
  | 0 => stStart
  | 1 => stSys
  | 2 => stHold
  | 3 => stId
  | 4 => stLen
  | 5 => stParams
  | _ => stNamed
/-- The state after k steps. -/
noncomputable def stAt (b : List Int) : Nat → PSt
  | 0 => stBegin b
  | k + 1 => nx (stepF k) (stAt b k)

/-- Where no verdict stands, the fields in front have been read. -/
def Shape (b : List Int) (k : Nat) (st : PSt) : Prop := st.bad = none → 10 ≤ b.length ∧ st.ys = b.drop k ∧ st.t = k ∧ st.o.caps = []
theorem shape0 (b : List Int) : Shape b 0 (stBegin b) := fun h => by
  unfold stBegin at h
  simp only at h
  split at h
  · cases h
  · exact ⟨by omega, rfl, rfl, rfl⟩
theorem Shape.step {b : List Int} {k j : Nat} {st : PSt} {f : PSt → PSt} (h : Shape b k st) (hf : (f st).bad = none → st.bad = none) (h1 : (f st).ys = st.ys.drop j) (h2 : (f st).t = st.t + j) (h3 : (f st).o.caps = st.o.caps) : Shape b (k + j) (nx f st) := fun hb => by
  cases hs : st.bad with
  | some v => rw [nx_some hs, hs] at hb; cases hb
  | none =>
    rw [nx_none hs] at hb ⊢
    obtain ⟨g1, g2, g3, g4⟩ := h hs
    refine ⟨g1, ?_, ?_, ?_⟩
    · rw [h1, g2, List.drop_drop]
    · rw [h2, g3]
    · rw [h3, g4]
theorem ite_none {c : Prop} [Decidable c] {x : Option (Int × Int × List Int)} {v : Int × Int × List Int} (h : (if c then some v else x) = none) : x = none := by
  split at h
  · cases h
  · exact h
theorem ite_none' {c : Prop} [Decidable c] {x : Option (Int × Int × List Int)} {v : Int × Int × List Int} (h : (if c then x else some v) = none) : x = none := by
  split at h
  · exact h
  · cases h
theorem shape1 (b : List Int) : Shape b 1 (stAt b 1) := (shape0 b).step (j := 1) (f := stStart) ite_none' rfl rfl rfl
theorem shape2 (b : List Int) : Shape b 3 (stAt b 2) := (shape1 b).step (j := 2) (f := stSys) ite_none rfl rfl rfl
theorem shape3 (b : List Int) : Shape b 5 (stAt b 3) := (shape2 b).step (j := 2) (f := stHold) ite_none' rfl rfl rfl
theorem shape4 (b : List Int) : Shape b 9 (stAt b 4) := (shape3 b).step (j := 4) (f := stId) ite_none rfl rfl rfl
theorem shape5 (b : List Int) : Shape b 10 (stAt b 5) := (shape4 b).step (j := 1) (f := stLen) ite_none' rfl rfl rfl
theorem iterP_bound : ∀ (f : Nat) (st : PSt), st.o.caps.length ≤ st.t → (iterP f st).o.caps.length ≤ (iterP f st).t ∧ (iterP f st).t + (iterP f st).ys.length ≤ st.t + st.ys.length := by
  intro f
  induction f with
  | zero => exact fun st h => ⟨h, Nat.le_refl _⟩
  | succ f ih =>
    intro st h
    by_cases hc : st.ys = [] ∨ st.bad.isSome = true
    · rw [iterP_end _ _ hc]
      exact ⟨h, Nat.le_refl _⟩
    · have hy : st.ys ≠ [] := fun h => hc (.inl h)
      obtain ⟨l1, l2, l3⟩ := param_less st hy
      have e : iterP (f + 1) st = iterP f (stParam st) := if_neg hc
      rw [e]
      obtain ⟨i1, i2⟩ := ih (stParam st) (l2 h)
      exact ⟨i1, by omega⟩
theorem caps6 (b : List Int) (hb : b.length ≤ 100000) (h : (stAt b 6).bad = none) : (stAt b 6).o.caps.length ≤ 100000 := by
  show (nx stParams (stAt b 5)).o.caps.length ≤ 100000
  have h' : (nx stParams (stAt b 5)).bad = none := h
  cases hs : (stAt b 5).bad with
  | some v => rw [nx_some hs, hs] at h'; cases h'
  | none =>
    rw [nx_none hs]
    obtain ⟨g1, g2, g3, g4⟩ := shape5 b hs
    have := iterP_bound (stAt b 5).ys.length (stAt b 5) (by rw [g4]; exact Nat.zero_le _)
    rw [g2, g3, List.length_drop] at this
    unfold stParams
    rw [g2, List.length_drop]
    omega

def VerdI.val (v : VerdI) (A : Option Addr) (c : Nat) : Value := .agg #[.int .i64 v.kind, .int .i64 v.code, .int .i64 v.sub, .slice A v.data.length c, .int .i64 v.at_]
/-- What Parse leaves: the OPEN and the verdict. -/
def Parsed (w : World) (o : OpenI) (v : VerdI) (e : Ending) (w' : World) : Prop :=
  ∃ A c cs dA dc, e = .returned (.tuple #[o.val A c, v.val dA dc]) ∧ CapL w' o.caps cs ∧ Arr w' A cs ∧ Arr w' dA (bs v.data) ∧ Kp NoB w w'
def parsedO (st : PSt) : OpenI := if st.bad.isSome = true then ⟨0, 0, 0, []⟩ else st.o

/-- The two results' cells have been stored: the rest lies as it lay. -/
theorem parsed_of {w wB wr w' : World} {q r p : Nat} {st : PSt} {A : Option Addr} {c : Nat} {cs : List Value} {dA : Option Addr} {dc : Nat}
    (g1 : Kp NoB w wB ∧ w.heap.size ≤ r ∧ r < p ∧ q < p ∧ wB.heap.size = p + 1) (g2 : Kp (fun b => b = p ∨ b = r) wB wr) (hr : w.heap.size + 1 < r)
    (hrow : wr.ownsRow (p + 1) 77 2 (.slice A st.o.caps.length c) st.o.caps.length cs) (hcap : CapOL (p + 1) wr st.o.caps cs)
    (hdat : wr.ownsRow (p + 1) 5 1 (.slice dA (vOf st.bad).data.length dc) (vOf st.bad).data.length (bs (vOf st.bad).data))
    (k : Kp (fun b => b = w.heap.size ∨ b = w.heap.size + 1) wr w') :
    CapL w' st.o.caps cs ∧ Arr w' A cs ∧ Arr w' dA (bs (vOf st.bad).data) ∧ Kp NoB w w' := by
  have hlr := g1.2.2.1
  refine ⟨(hcap.keep k (fun u n ys hu b hb hq => ?_)).to, Arr.of_own (k.own hrow (fun b hb hq => ?_)), Arr.of_own (k.own hdat (fun b hb hq => ?_)), ?_⟩
  · have := own_base hu b hb; rcases hq with h | h <;> omega
  · have := own_base hrow b hb; rcases hq with h | h <;> omega
  · have := own_base hdat b hb; rcases hq with h | h <;> omega
  · refine ((g1.1.trans (g2.mono (fun b hb hq => hq)) (fun b hb hq => ?_)).trans (k.mono (fun b hb hq => hq)) (fun b hb hq => ?_))
    · rcases hq with h | h <;> omega
    · rcases hq with h | h <;> omega
theorem Kp.on2 {S : Nat → Prop} {w w1 : World} {b i : Nat} (h : Kp S w w1) (hb : S b) (u : Value) : Kp S w (w1.setCell ⟨b, i, none⟩ u) := h.setCell (p := ⟨b, i, none⟩) (fun _ => hb) u

theorem Bk.five {w : World} {b : Nat} {t : TypeId} {a0 a1 a2 a3 a4 : Value} (h : Bk w b t #[a0, a1, a2, a3, a4]) :
    (w.cell? ⟨b, 0, none⟩ = some a0 ∧ w.cell? ⟨b, 1, none⟩ = some a1 ∧ w.cell? ⟨b, 2, none⟩ = some a2 ∧ w.cell? ⟨b, 3, none⟩ = some a3 ∧ w.cell? ⟨b, 4, none⟩ = some a4) ∧
    (w.frozen? ⟨b, 0, none⟩ = false ∧ w.frozen? ⟨b, 1, none⟩ = false ∧ w.frozen? ⟨b, 2, none⟩ = false ∧ w.frozen? ⟨b, 3, none⟩ = false ∧ w.frozen? ⟨b, 4, none⟩ = false) ∧ b < w.heap.size :=
  ⟨⟨h.cell 0, h.cell 1, h.cell 2, h.cell 3, h.cell 4⟩, ⟨h.frozen 0, h.frozen 1, h.frozen 2, h.frozen 3, h.frozen 4⟩, h.lt⟩

theorem run_steps (p : Nat) (w : World) :
    (Instr.index 73 (.agg #[.func (.func 35) #[.pointer (some ⟨p, 0, none⟩)] #[], .func (.func 36) #[.pointer (some ⟨p, 0, none⟩)] #[], .func (.func 37) #[.pointer (some ⟨p, 0, none⟩)] #[], .func (.func 38) #[.pointer (some ⟨p, 0, none⟩)] #[], .func (.func 39) #[.pointer (some ⟨p, 0, none⟩)] #[], .func (.func 40) #[.pointer (some ⟨p, 0, none⟩)] #[], .func (.func 41) #[.pointer (some ⟨p, 0, none⟩)] #[]]) (.int .i64 0)).run Tryd.prog w = .ok (.func (.func 35) #[.pointer (some ⟨p, 0, none⟩)] #[]) w ∧
    (Instr.index 73 (.agg #[.func (.func 35) #[.pointer (some ⟨p, 0, none⟩)] #[], .func (.func 36) #[.pointer (some ⟨p, 0, none⟩)] #[], .func (.func 37) #[.pointer (some ⟨p, 0, none⟩)] #[], .func (.func 38) #[.pointer (some ⟨p, 0, none⟩)] #[], .func (.func 39) #[.pointer (some ⟨p, 0, none⟩)] #[], .func (.func 40) #[.pointer (some ⟨p, 0, none⟩)] #[], .func (.func 41) #[.pointer (some ⟨p, 0, none⟩)] #[]]) (.int .i64 1)).run Tryd.prog w = .ok (.func (.func 36) #[.pointer (some ⟨p, 0, none⟩)] #[]) w ∧
    (Instr.index 73 (.agg #[.func (.func 35) #[.pointer (some ⟨p, 0, none⟩)] #[], .func (.func 36) #[.pointer (some ⟨p, 0, none⟩)] #[], .func (.func 37) #[.pointer (some ⟨p, 0, none⟩)] #[], .func (.func 38) #[.pointer (some ⟨p, 0, none⟩)] #[], .func (.func 39) #[.pointer (some ⟨p, 0, none⟩)] #[], .func (.func 40) #[.pointer (some ⟨p, 0, none⟩)] #[], .func (.func 41) #[.pointer (some ⟨p, 0, none⟩)] #[]]) (.int .i64 2)).run Tryd.prog w = .ok (.func (.func 37) #[.pointer (some ⟨p, 0, none⟩)] #[]) w ∧
    (Instr.index 73 (.agg #[.func (.func 35) #[.pointer (some ⟨p, 0, none⟩)] #[], .func (.func 36) #[.pointer (some ⟨p, 0, none⟩)] #[], .func (.func 37) #[.pointer (some ⟨p, 0, none⟩)] #[], .func (.func 38) #[.pointer (some ⟨p, 0, none⟩)] #[], .func (.func 39) #[.pointer (some ⟨p, 0, none⟩)] #[], .func (.func 40) #[.pointer (some ⟨p, 0, none⟩)] #[], .func (.func 41) #[.pointer (some ⟨p, 0, none⟩)] #[]]) (.int .i64 3)).run Tryd.prog w = .ok (.func (.func 38) #[.pointer (some ⟨p, 0, none⟩)] #[]) w ∧
    (Instr.index 73 (.agg #[.func (.func 35) #[.pointer (some ⟨p, 0, none⟩)] #[], .func (.func 36) #[.pointer (some ⟨p, 0, none⟩)] #[], .func (.func 37) #[.pointer (some ⟨p, 0, none⟩)] #[], .func (.func 38) #[.pointer (some ⟨p, 0, none⟩)] #[], .func (.func 39) #[.pointer (some ⟨p, 0, none⟩)] #[], .func (.func 40) #[.pointer (some ⟨p, 0, none⟩)] #[], .func (.func 41) #[.pointer (some ⟨p, 0, none⟩)] #[]]) (.int .i64 4)).run Tryd.prog w = .ok (.func (.func 39) #[.pointer (some ⟨p, 0, none⟩)] #[]) w ∧
    (Instr.index 73 (.agg #[.func (.func 35) #[.pointer (some ⟨p, 0, none⟩)] #[], .func (.func 36) #[.pointer (some ⟨p, 0, none⟩)] #[], .func (.func 37) #[.pointer (some ⟨p, 0, none⟩)] #[], .func (.func 38) #[.pointer (some ⟨p, 0, none⟩)] #[], .func (.func 39) #[.pointer (some ⟨p, 0, none⟩)] #[], .func (.func 40) #[.pointer (some ⟨p, 0, none⟩)] #[], .func (.func 41) #[.pointer (some ⟨p, 0, none⟩)] #[]]) (.int .i64 5)).run Tryd.prog w = .ok (.func (.func 40) #[.pointer (some ⟨p, 0, none⟩)] #[]) w ∧
    (Instr.index 73 (.agg #[.func (.func 35) #[.pointer (some ⟨p, 0, none⟩)] #[], .func (.func 36) #[.pointer (some ⟨p, 0, none⟩)] #[], .func (.func 37) #[.pointer (some ⟨p, 0, none⟩)] #[], .func (.func 38) #[.pointer (some ⟨p, 0, none⟩)] #[], .func (.func 39) #[.pointer (some ⟨p, 0, none⟩)] #[], .func (.func 40) #[.pointer (some ⟨p, 0, none⟩)] #[], .func (.func 41) #[.pointer (some ⟨p, 0, none⟩)] #[]]) (.int .i64 6)).run Tryd.prog w = .ok (.func (.func 41) #[.pointer (some ⟨p, 0, none⟩)] #[]) w := by
  refine ⟨?_, ?_, ?_, ?_, ?_, ?_, ?_⟩ <;> kernel_rfl

set_option maxRecDepth 100000 in
set_option maxHeartbeats 16000000 in
theorem parse_any (A0 : Option Addr) (c0 : Nat) (b : List Int) (w : World) (ha : Arr w A0 (bs b)) (hb : IsB b) (hn : b.length ≤ 100000) :
    Calls Tryd.prog 13 #[.slice A0 b.length c0] w (Parsed w (parsedO (stAt b 7)) (vOf (stAt b 7).bad)) := by
  have HN := Lib.hid (fun w' (k : Kp NoB w w') => new_any A0 c0 b w' (by omega) (ha.and k) hb)
  obtain ⟨fin, hfin⟩ : ∃ st, stAt b 7 = st := ⟨_, rfl⟩
  rw [hfin]
  have HFI := Lib.hid hfin
  clear ha hb hfin
  obtain ⟨n, hnn⟩ : ∃ n, b.length = n := ⟨_, rfl⟩
  rw [hnn] at HN hn ⊢
  have HNN := Lib.hid hnn
  clear hnn
  have hk0 := Lib.hid (((Kp.refl NoB w).alloc (.cells #[.int .u32 0, .int .i64 0, .int .u32 0, .slice none 0 0] 33)).alloc (.cells #[.int .i64 0, .int .i64 0, .int .i64 0, .slice none 0 0, .int .i64 0] 41))
  have hr1 := Lib.hid ((Bk.fresh w 33 #[.int .u32 0, .int .i64 0, .int .u32 0, .slice none 0 0]).alloc (.cells #[.int .i64 0, .int .i64 0, .int .i64 0, .slice none 0 0, .int .i64 0] 41))
  have hr2 := Lib.hid (Bk.second w (.cells #[.int .u32 0, .int .i64 0, .int .u32 0, .slice none 0 0] 33) 41 #[.int .i64 0, .int .i64 0, .int .i64 0, .slice none 0 0, .int .i64 0])
  go_enter Tryd.func13, Tryd.ntmps13
  go_wp2_with fail
  refine (HN.out _ hk0.out).mono ?_
  rintro e w1 ⟨q0, r, rfl, hrlo, -, -, hR0, hK1⟩
  obtain ⟨q, hqlt, hR1⟩ := hR0.old
  have hrlt := hR1.lt
  have hsz2 : ((w.alloc (.cells #[.int .u32 0, .int .i64 0, .int .u32 0, .slice none 0 0] 33)).alloc (.cells #[.int .i64 0, .int .i64 0, .int .i64 0, .slice none 0 0, .int .i64 0] 41)).heap.size = w.heap.size + 1 + 1 := by simp
  rw [hsz2] at hrlo
  obtain ⟨P0, hP0⟩ : ∃ o, Obj.cells #[.pointer (some ⟨r, 0, none⟩), .int .u32 0, .int .i64 0, .int .u32 0, .slice none 0 0, .int .i64 0, .int .i64 0, .int .i64 0, .slice none 0 0, .int .i64 0] 71 = o := ⟨_, rfl⟩
  have hwB : (w1.alloc P0).heap.size = w1.heap.size + 1 := by simp
  have hPS0 : PS w (w1.alloc P0) q r w1.heap.size ⟨⟨0, 0, 0, []⟩, b, 0, none⟩ (w1.alloc P0) := by
    refine ⟨⟨(hk0.out.and hK1).alloc _, by omega, hrlt, hqlt, hwB⟩, Kp.refl _ _, hR1.and ((Kp.refl _ _).alloc _), none, 0, [], none, 0, ?_, World.ownsRow_nil _ _ _ _, CapOL.nil _ _, World.ownsRow_nil _ _ _ _⟩
    rw [← hP0]
    exact Bk.fresh w1 _ _
  have HR1 := Lib.hid ((hr1.out.and hK1).alloc P0)
  have HR2 := Lib.hid ((hr2.out.and hK1).alloc P0)
  have HRLO := Lib.hid hrlo
  have hplt : w.heap.size + 1 < w1.heap.size := by omega
  have HPLT := Lib.hid hplt
  have HRP := Lib.hid hrlt
  clear hR0 hR1 hK1 hqlt hrlt hsz2 hrlo hwB hplt
  -- the results' cells, in every later world of the parser
  have HRES : Hid (∀ st wr, PS w (w1.alloc P0) q r w1.heap.size st wr → Bk wr w.heap.size 33 #[.int .u32 0, .int .i64 0, .int .u32 0, .slice none 0 0] ∧ Bk wr (w.heap.size + 1) 41 #[.int .i64 0, .int .i64 0, .int .i64 0, .slice none 0 0, .int .i64 0]) := Lib.hid (fun st wr h => ⟨HR1.out.keep h.2.1 (fun hq => by have h1 := HRLO.out; have h2 := HPLT.out; rcases hq with h | h <;> omega), HR2.out.keep h.2.1 (fun hq => by have h1 := HRLO.out; have h2 := HPLT.out; rcases hq with h | h <;> omega)⟩)
  obtain ⟨p, hp⟩ : ∃ p, w1.heap.size = p := ⟨_, rfl⟩
  have hPB : Bk (w1.alloc P0) p 71 #[.pointer (some ⟨r, 0, none⟩), .int .u32 0, .int .i64 0, .int .u32 0, .slice none 0 0, .int .i64 0, .int .i64 0, .int .i64 0, .slice none 0 0, .int .i64 0] := by
    rw [← hP0, ← hp]; exact Bk.fresh w1 _ _
  -- the loop's invariant at its start
  have HST0 : Hid (∀ (c : n < 10) w2, PS w (w1.alloc P0) q r p ⟨⟨0, 0, 0, []⟩, b, 0, some (0, n, [])⟩ w2 → PS w (w1.alloc P0) q r p (stAt b 0) w2) := Lib.hid (fun c w2 h => by
    show PS _ _ _ _ _ (stBegin b) _
    unfold stBegin
    rw [HNN.out, if_pos c]
    exact h)
  have HST1 : Hid (∀ (c : ¬ n < 10), PS w (w1.alloc P0) q r p (stAt b 0) (w1.alloc P0)) := Lib.hid (fun c => by
    show PS _ _ _ _ _ (stBegin b) _
    unfold stBegin
    rw [HNN.out, if_neg c, ← hp]
    exact hPS0)
  rw [hp] at hPS0 HRES HPLT HRP
  have HFL := Lib.hid (fun (c : n < 10) => fail_ps hPS0 0 n [] none 0 (World.ownsRow_nil _ _ _ _) 0 rfl)
  have HP0 := Lib.hid hP0
  have HPB := Lib.hid hPB
  have HPP := Lib.hid hp
  obtain ⟨⟨z0, z1, z2, z3, z4, z5, z6, z7, z8, z9⟩, -, hplt'⟩ := hPB.ten
  clear hPS0 hPB
  have HSTEP : Hid (∀ (k : Nat) (wr : World) (st : PSt), stAt b k = st → PS w (w1.alloc P0) q r p st wr → st.bad = none → k < 7 →
      (k = 0 → Calls Tryd.prog 35 #[.pointer (some ⟨p, 0, none⟩)] wr (Step w (w1.alloc P0) q r p (stAt b 1))) ∧
      (k = 1 → Calls Tryd.prog 36 #[.pointer (some ⟨p, 0, none⟩)] wr (Step w (w1.alloc P0) q r p (stAt b 2))) ∧
      (k = 2 → Calls Tryd.prog 37 #[.pointer (some ⟨p, 0, none⟩)] wr (Step w (w1.alloc P0) q r p (stAt b 3))) ∧
      (k = 3 → Calls Tryd.prog 38 #[.pointer (some ⟨p, 0, none⟩)] wr (Step w (w1.alloc P0) q r p (stAt b 4))) ∧
      (k = 4 → Calls Tryd.prog 39 #[.pointer (some ⟨p, 0, none⟩)] wr (Step w (w1.alloc P0) q r p (stAt b 5))) ∧
      (k = 5 → Calls Tryd.prog 40 #[.pointer (some ⟨p, 0, none⟩)] wr (Step w (w1.alloc P0) q r p (stAt b 6))) ∧
      (k = 6 → Calls Tryd.prog 41 #[.pointer (some ⟨p, 0, none⟩)] wr (Step w (w1.alloc P0) q r p (stAt b 7)))) := Lib.hid (fun k wr st hst hP hbad hk => by
    have hnl := HNN.out
    refine ⟨fun h => ?_, fun h => ?_, fun h => ?_, fun h => ?_, fun h => ?_, fun h => ?_, fun h => ?_⟩
    · subst h
      subst hst
      obtain ⟨s1, s2, s3, s4⟩ := shape0 b hbad
      rw [show stAt b 1 = stStart (stAt b 0) from nx_none hbad]
      exact start_ps hP (by have : (stAt b 0).ys = b.drop 0 := s2; rw [this, List.length_drop]; omega)
    · subst h
      subst hst
      obtain ⟨s1, s2, s3, s4⟩ := shape1 b hbad
      rw [show stAt b 2 = stSys (stAt b 1) from nx_none hbad]
      exact system_ps hP (by rw [s2, List.length_drop]; omega)
    · subst h
      subst hst
      obtain ⟨s1, s2, s3, s4⟩ := shape2 b hbad
      rw [show stAt b 3 = stHold (stAt b 2) from nx_none hbad]
      exact hold_ps hP (by rw [s2, List.length_drop]; omega)
    · subst h
      subst hst
      obtain ⟨s1, s2, s3, s4⟩ := shape3 b hbad
      rw [show stAt b 4 = stId (stAt b 3) from nx_none hbad]
      exact id_ps hP (by rw [s2, List.length_drop]; omega)
    · subst h
      subst hst
      obtain ⟨s1, s2, s3, s4⟩ := shape4 b hbad
      rw [show stAt b 5 = stLen (stAt b 4) from nx_none hbad]
      exact length_ps hP (by rw [s2, List.length_drop]; omega)
    · subst h
      subst hst
      obtain ⟨s1, s2, s3, s4⟩ := shape5 b hbad
      rw [show stAt b 6 = stParams (stAt b 5) from nx_none hbad]
      exact params_ps hP (by rw [s4]; exact Nat.zero_le _) (by rw [s2, s3, List.length_drop]; omega)
    · subst h
      subst hst
      rw [show stAt b 7 = stNamed (stAt b 6) from nx_none hbad]
      exact named_ps hP (by have := caps6 b (by omega) hbad; omega))
  have HBAD : Hid (∀ (k : Nat) (st : PSt) v, k ≤ 7 → stAt b k = st → st.bad = some v → fin = st) := Lib.hid (fun k st v hk hst hbad => by
    rw [← HFI.out]
    have go : ∀ f st', st' = st → nx f st' = st := fun f st' e => by rw [e]; exact nx_some hbad
    rcases (show k = 0 ∨ k = 1 ∨ k = 2 ∨ k = 3 ∨ k = 4 ∨ k = 5 ∨ k = 6 ∨ k = 7 by omega) with h | h | h | h | h | h | h | h <;> subst h
    · exact go _ _ (go _ _ (go _ _ (go _ _ (go _ _ (go _ _ (go _ _ hst))))))
    · exact go _ _ (go _ _ (go _ _ (go _ _ (go _ _ (go _ _ hst)))))
    · exact go _ _ (go _ _ (go _ _ (go _ _ (go _ _ hst))))
    · exact go _ _ (go _ _ (go _ _ (go _ _ hst)))
    · exact go _ _ (go _ _ (go _ _ hst))
    · exact go _ _ (go _ _ hst)
    · exact go _ _ hst
    · exact hst)
  have HCUR := Lib.hid (fun wr st (h : PS w (w1.alloc P0) q r p st wr) => h.x5)
  by_cases hc : n < 10
  · go_wp2_with fail
    refine (HFL.out hc).mono ?_
    rintro e w2 ⟨⟨v, rfl⟩, h2⟩
    have hA := Lib.hid (HST0.out hc _ h2)
    clear h2 z0 z1 z2 z3 z4 z5 z6 z7 z8 z9 hplt'
    go_wp2_with fail
    go_loopw [33] (fun i wr => ∃ k : Nat, k ≤ 7 ∧ i = .int .i64 k ∧ Hid (PS w (w1.alloc P0) q r p (stAt b k) wr)) (fun i _ => 7 - (intOf i).toNat)
    case atStart => exact ⟨0, Nat.zero_le _, rfl, hA⟩
    case round =>
      obtain ⟨k, hk, rfl, HP⟩ := hrel
      obtain ⟨st, hst⟩ : ∃ st, stAt b k = st := ⟨_, rfl⟩
      rw [hst] at HP
      have HSTT := Lib.hid hst
      clear hst
      obtain ⟨y1, y2⟩ := HRES.out _ _ HP.out
      obtain ⟨u1, u2, u3, u4, v1, v2, v3, v4, ul⟩ := y1.four
      obtain ⟨⟨m1, m2, m3, m4, m5⟩, ⟨n1, n2, n3, n4, n5⟩, nl⟩ := y2.five
      obtain ⟨g1, g2, g3, A, c, cs, dA, dc, hB, hrow, hcap, hdat⟩ := HP.out
      obtain ⟨⟨x0, x1, x2, x3, x4, x5, x6, x7, x8, x9⟩, -, xl⟩ := Bk.ten hB
      have HFO := Lib.hid (fun w' k => parsed_of (w' := w') g1 g2 (by have := HRLO.out; omega) hrow hcap hdat k)
      have hn1 : ¬ w.heap.size = p := by have := HPLT.out; omega
      have hn2 : ¬ w.heap.size + 1 = p := by have := HPLT.out; omega
      have hn3 : ¬ p = w.heap.size := by have := HPLT.out; omega
      have hn4 : ¬ p = w.heap.size + 1 := by have := HPLT.out; omega
      clear y1 y2 g1 g2 g3 hB hrow hcap hdat
      match hbad : st.bad with
      | some vv =>
        obtain ⟨s, a, d⟩ := vv
        have hfin := HBAD.out k st (s, a, d) hk HSTT.out hbad
        simp only [hbad, vOf] at x5 x6 x7 x8 x9 HFO
        have HR : Hid (∀ e w', Kp (fun b => b = w.heap.size ∨ b = w.heap.size + 1) wr w' → e = .returned (.tuple #[.agg #[.int .u32 0, .int .i64 0, .int .u32 0, .slice none 0 0], .agg #[.int .i64 4, .int .i64 2, .int .i64 s, .slice dA d.length dc, .int .i64 a]]) → Parsed w (parsedO fin) (vOf fin.bad) e w') := Lib.hid (fun e w' kk he => by
          rw [hfin]
          unfold parsedO
          rw [hbad]
          obtain ⟨q1, q2, q3, q4⟩ := HFO.out w' kk
          exact ⟨none, 0, [], dA, dc, he, CapL.nil _, Arr.nil _ _, q3, q4⟩)
        clear hfin hbad HFO
        rcases (show k = 0 ∨ k = 1 ∨ k = 2 ∨ k = 3 ∨ k = 4 ∨ k = 5 ∨ k = 6 ∨ k = 7 by omega) with h | h | h | h | h | h | h | h
        all_goals
          subst h
          have ix0 := fun W => (run_steps p W).1
          have ix1 := fun W => (run_steps p W).2.1
          have ix2 := fun W => (run_steps p W).2.2.1
          have ix3 := fun W => (run_steps p W).2.2.2.1
          have ix4 := fun W => (run_steps p W).2.2.2.2.1
          have ix5 := fun W => (run_steps p W).2.2.2.2.2.1
          have ix6 := fun W => (run_steps p W).2.2.2.2.2.2
          go_wp2_with fail
          go_region_held3 (fun w' => w'.cell? ⟨p, 5, none⟩ = some (.int .i64 4) ∧ w'.cell? ⟨p, 6, none⟩ = some (.int .i64 2) ∧ w'.cell? ⟨p, 7, none⟩ = some (.int .i64 s) ∧ w'.cell? ⟨p, 8, none⟩ = some (.slice dA d.length dc) ∧ w'.cell? ⟨p, 9, none⟩ = some (.int .i64 a)) (go_keep) (fail)
          go_wp2_with fail
          refine bodyPost_ret (v := .tuple #[.agg #[.int .u32 0, .int .i64 0, .int .u32 0, .slice none 0 0], .agg #[.int .i64 4, .int .i64 2, .int .i64 s, .slice dA d.length dc, .int .i64 a]]) (by simp [results, Tryd.results13, go_sem, *]) rfl (HR.out _ _ (by repeat (first | with_reducible exact Kp.refl _ _ | with_reducible refine Kp.on2 ?_ (Or.inl rfl) _ | with_reducible refine Kp.on2 ?_ (Or.inr rfl) _ | with_reducible refine Kp.drew ?_)) rfl)
      | none =>
        have hst := HSTEP.out k wr st HSTT.out HP.out hbad
        simp only [hbad, vOf] at x5 x6 x7 x8 x9 HFO
        have HR : Hid (k = 7 → ∀ e w', Kp (fun b => b = w.heap.size ∨ b = w.heap.size + 1) wr w' → e = .returned (.tuple #[.agg #[.int .u32 st.o.sys, .int .i64 st.o.hold, .int .u32 st.o.id, .slice A st.o.caps.length c], .agg #[.int .i64 0, .int .i64 0, .int .i64 0, .slice dA 0 dc, .int .i64 0]]) → Parsed w (parsedO fin) (vOf fin.bad) e w') := Lib.hid (fun hk7 e w' kk he => by
          have hfin : fin = st := by rw [← HFI.out, ← HSTT.out, hk7]
          rw [hfin]
          unfold parsedO
          rw [hbad]
          obtain ⟨q1, q2, q3, q4⟩ := HFO.out w' kk
          exact ⟨A, c, cs, dA, dc, he, q1, q2, q3, q4⟩)
        have HST := Lib.hid hst
        clear hst hbad HFO
        by_cases hk7 : k = 7
        · subst hk7
          obtain ⟨fs, hfs⟩ : ∃ v, st.o.sys = v := ⟨_, rfl⟩
          obtain ⟨fh, hfh⟩ : ∃ v, st.o.hold = v := ⟨_, rfl⟩
          obtain ⟨fi, hfi⟩ : ∃ v, st.o.id = v := ⟨_, rfl⟩
          obtain ⟨fl, hfl⟩ : ∃ v, st.o.caps.length = v := ⟨_, rfl⟩
          rw [hfs] at x1 HR
          rw [hfh] at x2 HR
          rw [hfi] at x3 HR
          rw [hfl] at x4 HR
          clear hfs hfh hfi hfl
          go_wp2_with fail
          go_region_held3 (fun w' => w'.cell? ⟨p, 1, none⟩ = some (.int .u32 fs) ∧ w'.cell? ⟨p, 2, none⟩ = some (.int .i64 fh) ∧ w'.cell? ⟨p, 3, none⟩ = some (.int .u32 fi) ∧ w'.cell? ⟨p, 4, none⟩ = some (.slice A fl c) ∧ w'.cell? ⟨p, 5, none⟩ = some (.int .i64 0) ∧ w'.cell? ⟨p, 6, none⟩ = some (.int .i64 0) ∧ w'.cell? ⟨p, 7, none⟩ = some (.int .i64 0) ∧ w'.cell? ⟨p, 8, none⟩ = some (.slice dA 0 dc) ∧ w'.cell? ⟨p, 9, none⟩ = some (.int .i64 0)) (go_keep) (fail)
          go_wp2_with fail
          refine bodyPost_ret (v := .tuple #[.agg #[.int .u32 fs, .int .i64 fh, .int .u32 fi, .slice A fl c], .agg #[.int .i64 0, .int .i64 0, .int .i64 0, .slice dA 0 dc, .int .i64 0]]) (by simp [results, Tryd.results13, go_sem, *]) rfl (HR.out (by first | exact rfl | exact trivial) _ _ (by repeat (first | with_reducible exact Kp.refl _ _ | with_reducible refine Kp.on2 ?_ (Or.inl rfl) _ | with_reducible refine Kp.on2 ?_ (Or.inr rfl) _ | with_reducible refine Kp.drew ?_)) rfl)
        · have hk6 : k < 7 := by omega
          obtain ⟨t0, t1, t2, t3, t4, t5, t6⟩ := HST.out hk6
          have T0 := Lib.hid t0
          have T1 := Lib.hid t1
          have T2 := Lib.hid t2
          have T3 := Lib.hid t3
          have T4 := Lib.hid t4
          have T5 := Lib.hid t5
          have T6 := Lib.hid t6
          clear t0 t1 t2 t3 t4 t5 t6 HR HST
          rcases (show k = 0 ∨ k = 1 ∨ k = 2 ∨ k = 3 ∨ k = 4 ∨ k = 5 ∨ k = 6 by omega) with h | h | h | h | h | h | h
          all_goals
            subst h
            have ix0 := fun W => (run_steps p W).1
            have ix1 := fun W => (run_steps p W).2.1
            have ix2 := fun W => (run_steps p W).2.2.1
            have ix3 := fun W => (run_steps p W).2.2.2.1
            have ix4 := fun W => (run_steps p W).2.2.2.2.1
            have ix5 := fun W => (run_steps p W).2.2.2.2.2.1
            have ix6 := fun W => (run_steps p W).2.2.2.2.2.2
            go_wp2_with fail
            first
              | refine (T0.out (by first | exact rfl | exact trivial)).mono ?_
              | refine (T1.out (by first | exact rfl | exact trivial)).mono ?_
              | refine (T2.out (by first | exact rfl | exact trivial)).mono ?_
              | refine (T3.out (by first | exact rfl | exact trivial)).mono ?_
              | refine (T4.out (by first | exact rfl | exact trivial)).mono ?_
              | refine (T5.out (by first | exact rfl | exact trivial)).mono ?_
              | refine (T6.out (by first | exact rfl | exact trivial)).mono ?_
            rintro e w4 ⟨⟨v, rfl⟩, h4⟩
            replace h4 := Lib.hid h4
            go_wp2_with fail
            go_roundw
            case rel => exact ⟨_, by decide, rfl, h4⟩
            case measure => simp [intOf]
  · have hA := Lib.hid (HST1.out hc)
    go_wp2_with fail
    go_loopw [33] (fun i wr => ∃ k : Nat, k ≤ 7 ∧ i = .int .i64 k ∧ Hid (PS w (w1.alloc P0) q r p (stAt b k) wr)) (fun i _ => 7 - (intOf i).toNat)
    case atStart => exact ⟨0, Nat.zero_le _, rfl, hA⟩
    case round =>
      obtain ⟨k, hk, rfl, HP⟩ := hrel
      obtain ⟨st, hst⟩ : ∃ st, stAt b k = st := ⟨_, rfl⟩
      rw [hst] at HP
      have HSTT := Lib.hid hst
      clear hst
      obtain ⟨y1, y2⟩ := HRES.out _ _ HP.out
      obtain ⟨u1, u2, u3, u4, v1, v2, v3, v4, ul⟩ := y1.four
      obtain ⟨⟨m1, m2, m3, m4, m5⟩, ⟨n1, n2, n3, n4, n5⟩, nl⟩ := y2.five
      obtain ⟨g1, g2, g3, A, c, cs, dA, dc, hB, hrow, hcap, hdat⟩ := HP.out
      obtain ⟨⟨x0, x1, x2, x3, x4, x5, x6, x7, x8, x9⟩, -, xl⟩ := Bk.ten hB
      have HFO := Lib.hid (fun w' k => parsed_of (w' := w') g1 g2 (by have := HRLO.out; omega) hrow hcap hdat k)
      have hn1 : ¬ w.heap.size = p := by have := HPLT.out; omega
      have hn2 : ¬ w.heap.size + 1 = p := by have := HPLT.out; omega
      have hn3 : ¬ p = w.heap.size := by have := HPLT.out; omega
      have hn4 : ¬ p = w.heap.size + 1 := by have := HPLT.out; omega
      clear y1 y2 g1 g2 g3 hB hrow hcap hdat
      match hbad : st.bad with
      | some vv =>
        obtain ⟨s, a, d⟩ := vv
        have hfin := HBAD.out k st (s, a, d) hk HSTT.out hbad
        simp only [hbad, vOf] at x5 x6 x7 x8 x9 HFO
        have HR : Hid (∀ e w', Kp (fun b => b = w.heap.size ∨ b = w.heap.size + 1) wr w' → e = .returned (.tuple #[.agg #[.int .u32 0, .int .i64 0, .int .u32 0, .slice none 0 0], .agg #[.int .i64 4, .int .i64 2, .int .i64 s, .slice dA d.length dc, .int .i64 a]]) → Parsed w (parsedO fin) (vOf fin.bad) e w') := Lib.hid (fun e w' kk he => by
          rw [hfin]
          unfold parsedO
          rw [hbad]
          obtain ⟨q1, q2, q3, q4⟩ := HFO.out w' kk
          exact ⟨none, 0, [], dA, dc, he, CapL.nil _, Arr.nil _ _, q3, q4⟩)
        clear hfin hbad HFO
        rcases (show k = 0 ∨ k = 1 ∨ k = 2 ∨ k = 3 ∨ k = 4 ∨ k = 5 ∨ k = 6 ∨ k = 7 by omega) with h | h | h | h | h | h | h | h
        all_goals
          subst h
          have ix0 := fun W => (run_steps p W).1
          have ix1 := fun W => (run_steps p W).2.1
          have ix2 := fun W => (run_steps p W).2.2.1
          have ix3 := fun W => (run_steps p W).2.2.2.1
          have ix4 := fun W => (run_steps p W).2.2.2.2.1
          have ix5 := fun W => (run_steps p W).2.2.2.2.2.1
          have ix6 := fun W => (run_steps p W).2.2.2.2.2.2
          go_wp2_with fail
          go_region_held3 (fun w' => w'.cell? ⟨p, 5, none⟩ = some (.int .i64 4) ∧ w'.cell? ⟨p, 6, none⟩ = some (.int .i64 2) ∧ w'.cell? ⟨p, 7, none⟩ = some (.int .i64 s) ∧ w'.cell? ⟨p, 8, none⟩ = some (.slice dA d.length dc) ∧ w'.cell? ⟨p, 9, none⟩ = some (.int .i64 a)) (go_keep) (fail)
          go_wp2_with fail
          refine bodyPost_ret (v := .tuple #[.agg #[.int .u32 0, .int .i64 0, .int .u32 0, .slice none 0 0], .agg #[.int .i64 4, .int .i64 2, .int .i64 s, .slice dA d.length dc, .int .i64 a]]) (by simp [results, Tryd.results13, go_sem, *]) rfl (HR.out _ _ (by repeat (first | with_reducible exact Kp.refl _ _ | with_reducible refine Kp.on2 ?_ (Or.inl rfl) _ | with_reducible refine Kp.on2 ?_ (Or.inr rfl) _ | with_reducible refine Kp.drew ?_)) rfl)
      | none =>
        have hst := HSTEP.out k wr st HSTT.out HP.out hbad
        simp only [hbad, vOf] at x5 x6 x7 x8 x9 HFO
        have HR : Hid (k = 7 → ∀ e w', Kp (fun b => b = w.heap.size ∨ b = w.heap.size + 1) wr w' → e = .returned (.tuple #[.agg #[.int .u32 st.o.sys, .int .i64 st.o.hold, .int .u32 st.o.id, .slice A st.o.caps.length c], .agg #[.int .i64 0, .int .i64 0, .int .i64 0, .slice dA 0 dc, .int .i64 0]]) → Parsed w (parsedO fin) (vOf fin.bad) e w') := Lib.hid (fun hk7 e w' kk he => by
          have hfin : fin = st := by rw [← HFI.out, ← HSTT.out, hk7]
          rw [hfin]
          unfold parsedO
          rw [hbad]
          obtain ⟨q1, q2, q3, q4⟩ := HFO.out w' kk
          exact ⟨A, c, cs, dA, dc, he, q1, q2, q3, q4⟩)
        have HST := Lib.hid hst
        clear hst hbad HFO
        by_cases hk7 : k = 7
        · subst hk7
          obtain ⟨fs, hfs⟩ : ∃ v, st.o.sys = v := ⟨_, rfl⟩
          obtain ⟨fh, hfh⟩ : ∃ v, st.o.hold = v := ⟨_, rfl⟩
          obtain ⟨fi, hfi⟩ : ∃ v, st.o.id = v := ⟨_, rfl⟩
          obtain ⟨fl, hfl⟩ : ∃ v, st.o.caps.length = v := ⟨_, rfl⟩
          rw [hfs] at x1 HR
          rw [hfh] at x2 HR
          rw [hfi] at x3 HR
          rw [hfl] at x4 HR
          clear hfs hfh hfi hfl
          go_wp2_with fail
          go_region_held3 (fun w' => w'.cell? ⟨p, 1, none⟩ = some (.int .u32 fs) ∧ w'.cell? ⟨p, 2, none⟩ = some (.int .i64 fh) ∧ w'.cell? ⟨p, 3, none⟩ = some (.int .u32 fi) ∧ w'.cell? ⟨p, 4, none⟩ = some (.slice A fl c) ∧ w'.cell? ⟨p, 5, none⟩ = some (.int .i64 0) ∧ w'.cell? ⟨p, 6, none⟩ = some (.int .i64 0) ∧ w'.cell? ⟨p, 7, none⟩ = some (.int .i64 0) ∧ w'.cell? ⟨p, 8, none⟩ = some (.slice dA 0 dc) ∧ w'.cell? ⟨p, 9, none⟩ = some (.int .i64 0)) (go_keep) (fail)
          go_wp2_with fail
          refine bodyPost_ret (v := .tuple #[.agg #[.int .u32 fs, .int .i64 fh, .int .u32 fi, .slice A fl c], .agg #[.int .i64 0, .int .i64 0, .int .i64 0, .slice dA 0 dc, .int .i64 0]]) (by simp [results, Tryd.results13, go_sem, *]) rfl (HR.out (by first | exact rfl | exact trivial) _ _ (by repeat (first | with_reducible exact Kp.refl _ _ | with_reducible refine Kp.on2 ?_ (Or.inl rfl) _ | with_reducible refine Kp.on2 ?_ (Or.inr rfl) _ | with_reducible refine Kp.drew ?_)) rfl)
        · have hk6 : k < 7 := by omega
          obtain ⟨t0, t1, t2, t3, t4, t5, t6⟩ := HST.out hk6
          have T0 := Lib.hid t0
          have T1 := Lib.hid t1
          have T2 := Lib.hid t2
          have T3 := Lib.hid t3
          have T4 := Lib.hid t4
          have T5 := Lib.hid t5
          have T6 := Lib.hid t6
          clear t0 t1 t2 t3 t4 t5 t6 HR HST
          rcases (show k = 0 ∨ k = 1 ∨ k = 2 ∨ k = 3 ∨ k = 4 ∨ k = 5 ∨ k = 6 by omega) with h | h | h | h | h | h | h
          all_goals
            subst h
            have ix0 := fun W => (run_steps p W).1
            have ix1 := fun W => (run_steps p W).2.1
            have ix2 := fun W => (run_steps p W).2.2.1
            have ix3 := fun W => (run_steps p W).2.2.2.1
            have ix4 := fun W => (run_steps p W).2.2.2.2.1
            have ix5 := fun W => (run_steps p W).2.2.2.2.2.1
            have ix6 := fun W => (run_steps p W).2.2.2.2.2.2
            go_wp2_with fail
            first
              | refine (T0.out (by first | exact rfl | exact trivial)).mono ?_
              | refine (T1.out (by first | exact rfl | exact trivial)).mono ?_
              | refine (T2.out (by first | exact rfl | exact trivial)).mono ?_
              | refine (T3.out (by first | exact rfl | exact trivial)).mono ?_
              | refine (T4.out (by first | exact rfl | exact trivial)).mono ?_
              | refine (T5.out (by first | exact rfl | exact trivial)).mono ?_
              | refine (T6.out (by first | exact rfl | exact trivial)).mono ?_
            rintro e w4 ⟨⟨v, rfl⟩, h4⟩
            replace h4 := Lib.hid h4
            go_wp2_with fail
            go_roundw
            case rel => exact ⟨_, by decide, rfl, h4⟩
            case measure => simp [intOf]

end Go.Proofs.YtilfheociidloaaDoor
