/- The parser of package open: its state in memory; 'fail', and the steps that read numbers: contracts by walking the Go text.  The parser's steps start, system, hold, id, length: contracts by walking the Go text. Printed by tools/parb.py. -/
import Derived.Test.YtilfheociidloaaDoorOpC
import Derived.Test.YtilfheociidloaaDoorAtO
namespace Go.Proofs.YtilfheociidloaaDoor
open Go.RowKit
set_option linter.unusedVariables false
set_option linter.unusedSimpArgs false

/-- A verdict. -/
structure VerdI where
  kind : Int
  code : Int
  sub : Int
  data : List Int
  at_ : Int
deriving DecidableEq
/-- The verdict of a parser: none, or one with a sub, an offset and data. -/
def vOf : Option (Int × Int × List Int) → VerdI
  | none => ⟨0, 0, 0, [], 0⟩
  | some (s, a, d) => ⟨4, 2, s, d, a⟩
/-- The parser's state. -/
structure PSt where
  o : OpenI
  ys : List Int
  t : Nat
  bad : Option (Int × Int × List Int)

def pcells (r : Nat) (st : PSt) (A : Option Addr) (c : Nat) (dA : Option Addr) (dc : Nat) : Array Value :=
  #[.pointer (some ⟨r, 0, none⟩), .int .u32 st.o.sys, .int .i64 st.o.hold, .int .u32 st.o.id, .slice A st.o.caps.length c,
    .int .i64 (vOf st.bad).kind, .int .i64 (vOf st.bad).code, .int .i64 (vOf st.bad).sub, .slice dA (vOf st.bad).data.length dc, .int .i64 (vOf st.bad).at_]

/-- The parser in block p, its reader in block r, the reader's bytes in block q. -/
def PS (w0 wB : World) (q r p : Nat) (st : PSt) (w : World) : Prop :=
  (Kp NoB w0 wB ∧ w0.heap.size ≤ r ∧ r < p ∧ q < p ∧ wB.heap.size = p + 1) ∧ Kp (fun b => b = p ∨ b = r) wB w ∧ Rd w q r st.ys st.t ∧
  ∃ A c cs dA dc, Bk w p 71 (pcells r st A c dA dc) ∧ w.ownsRow (p + 1) 77 2 (.slice A st.o.caps.length c) st.o.caps.length cs ∧ CapOL (p + 1) w st.o.caps cs ∧
    w.ownsRow (p + 1) 5 1 (.slice dA (vOf st.bad).data.length dc) (vOf st.bad).data.length (bs (vOf st.bad).data)

section
variable {w0 wB w w1 : World} {q r p : Nat} {st : PSt}
theorem PS.rd (h : PS w0 wB q r p st w) : Rd w q r st.ys st.t := h.2.2.1
theorem PS.and (h : PS w0 wB q r p st w) (k : Kp NoB w w1) : PS w0 wB q r p st w1 := by
  obtain ⟨h1, h2, h3, A, c, cs, dA, dc, h4, h5, h6, h7⟩ := h
  exact ⟨h1, h2.and k, h3.and k, A, c, cs, dA, dc, h4.and k, k.own h5 (fun _ _ q => q), h6.and k, k.own h7 (fun _ _ q => q)⟩
/-- The reader has moved on. -/
theorem PS.move (h : PS w0 wB q r p st w) {ys : List Int} {t : Nat} (hR : Rd w1 q r ys t) (k : Kp (OnB r) w w1) : PS w0 wB q r p ⟨st.o, ys, t, st.bad⟩ w1 := by
  obtain ⟨h1, h2, h3, A, c, cs, dA, dc, h4, h5, h6, h7⟩ := h
  have hlt := h1.2.2.1
  refine ⟨h1, h2.same (k.mono (fun b hb hq => .inr hq)), hR, A, c, cs, dA, dc, h4.keep k (fun hq => by unfold OnB at hq; omega), k.own h5 (fun b hb hq => ?_), h6.keep k (fun u n ys hu b hb hq => ?_), k.own h7 (fun b hb hq => ?_)⟩
  · have := own_base h5 b hb; unfold OnB at hq; omega
  · have := own_base hu b hb; unfold OnB at hq; omega
  · have := own_base h7 b hb; unfold OnB at hq; omega
/-- A field of the OPEN was stored. -/
theorem PS.store (h : PS w0 wB q r p st w) (i : Nat) (u : Value) (o : OpenI) (hc : o.caps = st.o.caps) (hs : ∀ A c dA dc, (pcells r st A c dA dc).setIfInBounds i u = pcells r ⟨o, st.ys, st.t, st.bad⟩ A c dA dc) :
    PS w0 wB q r p ⟨o, st.ys, st.t, st.bad⟩ (w.setCell ⟨p, i, none⟩ u) := by
  obtain ⟨h1, h2, h3, A, c, cs, dA, dc, h4, h5, h6, h7⟩ := h
  have hlt := h1.2.2.1
  have hlq := h1.2.2.2.1
  have k : Kp (OnB p) w (w.setCell ⟨p, i, none⟩ u) := (Kp.refl (OnB p) w).set_on u
  have hb := h4.set i u
  rw [hs] at hb
  refine ⟨h1, h2.same (k.mono (fun b hb hq => .inl hq)), h3.keep k (fun hq => by unfold OnB at hq; omega) (fun _ hq => by unfold OnB at hq; omega), A, c, cs, dA, dc, hb, ?_, ?_, k.own h7 (fun b hb hq => ?_)⟩
  · rw [hc]; exact k.own h5 (fun b hb hq => by have := own_base h5 b hb; unfold OnB at hq; omega)
  · rw [hc]; exact h6.keep k (fun u n ys hu b hb hq => by have := own_base hu b hb; unfold OnB at hq; omega)
  · have := own_base h7 b hb; unfold OnB at hq; omega
/-- A verdict was stored. -/
theorem PS.fail (h : PS w0 wB q r p st w) (s a : Int) (d : List Int) (dA : Option Addr) (dc : Nat) (hd : w.ownsRow (p + 1) 5 1 (.slice dA d.length dc) d.length (bs d))
    (k : Kp (OnB p) w w1) (hB : ∀ A c eA ec, Bk w p 71 (pcells r st A c eA ec) → Bk w1 p 71 (pcells r ⟨st.o, st.ys, st.t, some (s, a, d)⟩ A c dA dc)) : PS w0 wB q r p ⟨st.o, st.ys, st.t, some (s, a, d)⟩ w1 := by
  obtain ⟨h1, h2, h3, A, c, cs, eA, ec, h4, h5, h6, h7⟩ := h
  have hlt := h1.2.2.1
  have hlq := h1.2.2.2.1
  refine ⟨h1, h2.same (k.mono (fun b hb hq => .inl hq)), h3.keep k (fun hq => by unfold OnB at hq; omega) (fun _ hq => by unfold OnB at hq; omega), A, c, cs, dA, dc, hB _ _ _ _ h4, k.own h5 (fun b hb hq => ?_), h6.keep k (fun u n ys hu b hb hq => ?_), k.own hd (fun b hb hq => ?_)⟩
  · have := own_base h5 b hb; unfold OnB at hq; omega
  · have := own_base hu b hb; unfold OnB at hq; omega
  · have := own_base hd b hb; unfold OnB at hq; omega
end

/-- All that a walk asks of a block of ten cells. -/
theorem Bk.ten {w : World} {b : Nat} {t : TypeId} {a0 a1 a2 a3 a4 a5 a6 a7 a8 a9 : Value} (h : Bk w b t #[a0, a1, a2, a3, a4, a5, a6, a7, a8, a9]) :
    (w.cell? ⟨b, 0, none⟩ = some a0 ∧ w.cell? ⟨b, 1, none⟩ = some a1 ∧ w.cell? ⟨b, 2, none⟩ = some a2 ∧ w.cell? ⟨b, 3, none⟩ = some a3 ∧ w.cell? ⟨b, 4, none⟩ = some a4 ∧ w.cell? ⟨b, 5, none⟩ = some a5 ∧ w.cell? ⟨b, 6, none⟩ = some a6 ∧ w.cell? ⟨b, 7, none⟩ = some a7 ∧ w.cell? ⟨b, 8, none⟩ = some a8 ∧ w.cell? ⟨b, 9, none⟩ = some a9) ∧
    (w.frozen? ⟨b, 0, none⟩ = false ∧ w.frozen? ⟨b, 1, none⟩ = false ∧ w.frozen? ⟨b, 2, none⟩ = false ∧ w.frozen? ⟨b, 3, none⟩ = false ∧ w.frozen? ⟨b, 4, none⟩ = false ∧ w.frozen? ⟨b, 5, none⟩ = false ∧ w.frozen? ⟨b, 6, none⟩ = false ∧ w.frozen? ⟨b, 7, none⟩ = false ∧ w.frozen? ⟨b, 8, none⟩ = false ∧ w.frozen? ⟨b, 9, none⟩ = false) ∧ b < w.heap.size :=
  ⟨⟨h.cell 0, h.cell 1, h.cell 2, h.cell 3, h.cell 4, h.cell 5, h.cell 6, h.cell 7, h.cell 8, h.cell 9⟩, ⟨h.frozen 0, h.frozen 1, h.frozen 2, h.frozen 3, h.frozen 4, h.frozen 5, h.frozen 6, h.frozen 7, h.frozen 8, h.frozen 9⟩, h.lt⟩

theorem failc_any (p : Nat) (s a : Int) (dA : Option Addr) (dn dc : Nat) (a0 a1 a2 a3 a4 a5 a6 a7 a8 a9 : Value) (w : World) (h : Bk w p 71 #[a0, a1, a2, a3, a4, a5, a6, a7, a8, a9]) :
    Calls Tryd.prog 34 #[.pointer (some ⟨p, 0, none⟩), .int .i64 s, .int .i64 a, .slice dA dn dc] w fun e w' => (∃ v, e = .returned v) ∧ w' = ((((w.setCell ⟨p, 5, none⟩ (.int .i64 4)).setCell ⟨p, 6, none⟩ (.int .i64 2)).setCell ⟨p, 7, none⟩ (.int .i64 s)).setCell ⟨p, 8, none⟩ (.slice dA dn dc)).setCell ⟨p, 9, none⟩ (.int .i64 a) := by
  obtain ⟨⟨x0, x1, x2, x3, x4, x5, x6, x7, x8, x9⟩, ⟨f0, f1, f2, f3, f4, f5, f6, f7, f8, f9⟩, hlt⟩ := h.ten
  clear h
  go_enter Tryd.func34, Tryd.ntmps34
  go_wp2
  go_end0
  exact ⟨⟨_, rfl⟩, rfl⟩

/-- fail, over the parser's state. -/
theorem fail_ps {w0 wB w : World} {q r p : Nat} {st : PSt} (h : PS w0 wB q r p st w) (s a : Int) (d : List Int) (dA : Option Addr) (dc : Nat) (hd : w.ownsRow (p + 1) 5 1 (.slice dA d.length dc) d.length (bs d)) (n : Nat) (hn : d.length = n) :
    Calls Tryd.prog 34 #[.pointer (some ⟨p, 0, none⟩), .int .i64 s, .int .i64 a, .slice dA n dc] w fun e w' => (∃ v, e = .returned v) ∧ PS w0 wB q r p ⟨st.o, st.ys, st.t, some (s, a, d)⟩ w' := by
  subst hn
  obtain ⟨h1, h2, h3, A, c, cs, eA, ec, h4, h5, h6, h7⟩ := h
  refine (failc_any p s a dA d.length dc _ _ _ _ _ _ _ _ _ _ w h4).mono fun e w' ⟨he, hw⟩ => ⟨he, ?_⟩
  subst hw
  refine PS.fail ⟨h1, h2, h3, A, c, cs, eA, ec, h4, h5, h6, h7⟩ s a d dA dc hd (((((Kp.refl (OnB p) w).set_on _).set_on _).set_on _).set_on _ |>.set_on _) (fun A c eA ec hb => ?_)
  exact ((((hb.set 5 _).set 6 _).set 7 _).set 8 _).set 9 _

end Go.Proofs.YtilfheociidloaaDoor

namespace Go.Proofs.YtilfheociidloaaDoor
open Go.RowKit
set_option linter.unusedVariables false
set_option linter.unusedSimpArgs false

def stStart (st : PSt) : PSt := ⟨st.o, st.ys.drop 1, st.t + 1, if big (st.ys.take 1) = 4 then st.bad else some (1, 0, [0, 4])⟩
def stSys (st : PSt) : PSt := ⟨{ st.o with sys := big (st.ys.take 2) }, st.ys.drop 2, st.t + 2, if big (st.ys.take 2) = 0 then some (2, 1, []) else st.bad⟩
def stHold (st : PSt) : PSt := ⟨{ st.o with hold := big (st.ys.take 2) }, st.ys.drop 2, st.t + 2, if timedB (big (st.ys.take 2)) then st.bad else some (6, 3, [])⟩
def stId (st : PSt) : PSt := ⟨{ st.o with id := big (st.ys.take 4) }, st.ys.drop 4, st.t + 4, if big (st.ys.take 4) = 0 then some (3, 5, []) else st.bad⟩
def stLen (st : PSt) : PSt := ⟨st.o, st.ys.drop 1, st.t + 1, if big (st.ys.take 1) = ((st.ys.drop 1).length : Int) then st.bad else some (0, 9, [])⟩

/-- What a step leaves. -/
def Step (w0 wB : World) (q r p : Nat) (st : PSt) (e : Ending) (w' : World) : Prop := (∃ v, e = .returned v) ∧ PS w0 wB q r p st w'

theorem big1_lt (ys : List Int) (k : Nat) (h : IsB ys) (hk : k ≤ 4) : 0 ≤ big (ys.take k) ∧ big (ys.take k) < 4294967296 := by
  have h1 := big_bound (ys.take k) (h.take k)
  refine ⟨h1.1, Int.lt_of_lt_of_le h1.2 ?_⟩
  have h2 : (ys.take k).length ≤ 4 := by rw [List.length_take]; omega
  have e : ((256 ^ (ys.take k).length : Nat) : Int) = (256 : Int) ^ (ys.take k).length := by simp
  have p : 256 ^ (ys.take k).length ≤ 256 ^ 4 := Nat.pow_le_pow_right (by decide) h2
  rw [← e]
  exact Int.ofNat_le.2 p

set_option maxRecDepth 100000 in
set_option maxHeartbeats 4000000 in
theorem start_ps {w0 wB w : World} {q r p : Nat} {st : PSt} (h : PS w0 wB q r p st w) (hl : 1 ≤ st.ys.length) :
    Calls Tryd.prog 35 #[.pointer (some ⟨p, 0, none⟩)] w (Step w0 wB q r p (stStart st)) := by
  have hbl := h.rd.bd
  have HN := Lib.hid (number_yes w q r st.ys st.t 1 h.rd (by decide) (by decide) hl)
  have hbd := big1_lt st.ys 1 h.rd.isB (by decide)
  have HM := Lib.hid (fun w1 (hR : Rd w1 q r (st.ys.drop 1) (st.t + 1)) hK => h.move hR hK)
  have x0 : w.cell? ⟨p, 0, none⟩ = some (.pointer (some ⟨r, 0, none⟩)) := by obtain ⟨_, _, _, A, c, cs, dA, dc, hB, _⟩ := h; exact hB.cell 0
  unfold stStart
  unfold NumYes at HN
  clear h
  obtain ⟨n, hn⟩ : ∃ n, big (st.ys.take 1) = n := ⟨_, rfl⟩
  rw [hn] at HN hbd ⊢
  clear hn hl
  by_cases hc : n = 4
  · rw [if_pos hc]
    subst hc
    go_enter Tryd.func35, Tryd.ntmps35
    go_wp2_with fail
    refine HN.out.mono ?_
    rintro e w1 ⟨rfl, hR, hK⟩
    have h1 := Lib.hid (HM.out _ hR hK)
    clear hR hK
    go_wp2_with fail
    go_end0
    exact ⟨⟨_, rfl⟩, h1.out⟩
  · rw [if_neg hc]
    have hne : (n != 4) = true := by simp [hc]
    clear hc
    go_enter Tryd.func35, Tryd.ntmps35
    go_wp2_with fail
    refine HN.out.mono ?_
    rintro e w1 ⟨rfl, hR, hK⟩
    have h1 := HM.out _ hR hK
    have hlt : p < w1.heap.size := by obtain ⟨_, _, _, A, c, cs, dA, dc, hB, _⟩ := h1; exact hB.lt
    have hd := own_lit w1 (p + 1) 5 (bs [0, 4]) (by omega) (by decide)
    have h2 := Lib.hid (fail_ps (h1.and ((Kp.refl NoB _).alloc (.cells (bs [0, 4]).toArray 5))) 1 0 [0, 4] (some ⟨w1.heap.size, 0, none⟩) 2 hd 2 rfl)
    clear hR hK hlt hd h1
    go_wp2_with fail
    refine h2.out.mono ?_
    rintro e w2 ⟨⟨v, rfl⟩, h3⟩
    replace h3 := Lib.hid h3
    go_wp2_with fail
    go_end0
    exact ⟨⟨_, rfl⟩, h3.out⟩

set_option maxRecDepth 100000 in
set_option maxHeartbeats 4000000 in
theorem system_ps {w0 wB w : World} {q r p : Nat} {st : PSt} (h : PS w0 wB q r p st w) (hl : 2 ≤ st.ys.length) :
    Calls Tryd.prog 36 #[.pointer (some ⟨p, 0, none⟩)] w (Step w0 wB q r p (stSys st)) := by
  have hbl := h.rd.bd
  have HN := Lib.hid (number_yes w q r st.ys st.t 2 h.rd (by decide) (by decide) hl)
  have hbd := big1_lt st.ys 2 h.rd.isB (by decide)
  have HM := Lib.hid (fun w1 (hR : Rd w1 q r (st.ys.drop 2) (st.t + 2)) hK => h.move hR hK)
  have x0 : w.cell? ⟨p, 0, none⟩ = some (.pointer (some ⟨r, 0, none⟩)) := by obtain ⟨_, _, _, A, c, cs, dA, dc, hB, _⟩ := h; exact hB.cell 0
  unfold stSys
  unfold NumYes at HN
  clear h
  obtain ⟨n, hn⟩ : ∃ n, big (st.ys.take 2) = n := ⟨_, rfl⟩
  rw [hn] at HN hbd ⊢
  clear hn hl
  by_cases hc : n = 0
  · rw [if_pos hc]
    have hne : (n == 0) = true := by simp [hc]
    clear hc
    go_enter Tryd.func36, Tryd.ntmps36
    go_wp2_with fail
    refine HN.out.mono ?_
    rintro e w1 ⟨rfl, hR, hK⟩
    have h1 := HM.out _ hR hK
    obtain ⟨y0, yi, fi, hlt⟩ : w1.cell? ⟨p, 0, none⟩ = some (.pointer (some ⟨r, 0, none⟩)) ∧ w1.cell? ⟨p, 1, none⟩ = some (.int .u32 st.o.sys) ∧ w1.frozen? ⟨p, 1, none⟩ = false ∧ p < w1.heap.size := by obtain ⟨_, _, _, A, c, cs, dA, dc, hB, _⟩ := h1; exact ⟨hB.cell 0, hB.cell 1, hB.frozen 1, hB.lt⟩
    have h2 := h1.store 1 (.int .u32 n) { st.o with sys := n } rfl (fun _ _ _ _ => rfl)
    have h3 := Lib.hid (fail_ps h2 2 1 [] none 0 (World.ownsRow_nil _ _ _ _) 0 rfl)
    clear hR hK h1 h2
    go_wp2_with fail
    refine h3.out.mono ?_
    rintro e w2 ⟨⟨v, rfl⟩, h4⟩
    replace h4 := Lib.hid h4
    go_wp2_with fail
    go_end0
    exact ⟨⟨_, rfl⟩, h4.out⟩
  · rw [if_neg hc]
    have hne : (n == 0) = false := by simp [hc]
    clear hc
    go_enter Tryd.func36, Tryd.ntmps36
    go_wp2_with fail
    refine HN.out.mono ?_
    rintro e w1 ⟨rfl, hR, hK⟩
    have h1 := HM.out _ hR hK
    obtain ⟨y0, yi, fi, hlt⟩ : w1.cell? ⟨p, 0, none⟩ = some (.pointer (some ⟨r, 0, none⟩)) ∧ w1.cell? ⟨p, 1, none⟩ = some (.int .u32 st.o.sys) ∧ w1.frozen? ⟨p, 1, none⟩ = false ∧ p < w1.heap.size := by obtain ⟨_, _, _, A, c, cs, dA, dc, hB, _⟩ := h1; exact ⟨hB.cell 0, hB.cell 1, hB.frozen 1, hB.lt⟩
    have h2 := h1.store 1 (.int .u32 n) { st.o with sys := n } rfl (fun _ _ _ _ => rfl)
    replace h2 := Lib.hid h2
    clear hR hK h1
    go_wp2_with fail
    go_end0
    exact ⟨⟨_, rfl⟩, h2.out⟩

set_option maxRecDepth 100000 in
set_option maxHeartbeats 4000000 in
theorem id_ps {w0 wB w : World} {q r p : Nat} {st : PSt} (h : PS w0 wB q r p st w) (hl : 4 ≤ st.ys.length) :
    Calls Tryd.prog 38 #[.pointer (some ⟨p, 0, none⟩)] w (Step w0 wB q r p (stId st)) := by
  have hbl := h.rd.bd
  have HN := Lib.hid (number_yes w q r st.ys st.t 4 h.rd (by decide) (by decide) hl)
  have hbd := big1_lt st.ys 4 h.rd.isB (by decide)
  have HM := Lib.hid (fun w1 (hR : Rd w1 q r (st.ys.drop 4) (st.t + 4)) hK => h.move hR hK)
  have x0 : w.cell? ⟨p, 0, none⟩ = some (.pointer (some ⟨r, 0, none⟩)) := by obtain ⟨_, _, _, A, c, cs, dA, dc, hB, _⟩ := h; exact hB.cell 0
  unfold stId
  unfold NumYes at HN
  clear h
  obtain ⟨n, hn⟩ : ∃ n, big (st.ys.take 4) = n := ⟨_, rfl⟩
  rw [hn] at HN hbd ⊢
  clear hn hl
  by_cases hc : n = 0
  · rw [if_pos hc]
    have hne : (n == 0) = true := by simp [hc]
    clear hc
    go_enter Tryd.func38, Tryd.ntmps38
    go_wp2_with fail
    refine HN.out.mono ?_
    rintro e w1 ⟨rfl, hR, hK⟩
    have h1 := HM.out _ hR hK
    obtain ⟨y0, yi, fi, hlt⟩ : w1.cell? ⟨p, 0, none⟩ = some (.pointer (some ⟨r, 0, none⟩)) ∧ w1.cell? ⟨p, 3, none⟩ = some (.int .u32 st.o.id) ∧ w1.frozen? ⟨p, 3, none⟩ = false ∧ p < w1.heap.size := by obtain ⟨_, _, _, A, c, cs, dA, dc, hB, _⟩ := h1; exact ⟨hB.cell 0, hB.cell 3, hB.frozen 3, hB.lt⟩
    have h2 := h1.store 3 (.int .u32 n) { st.o with id := n } rfl (fun _ _ _ _ => rfl)
    have h3 := Lib.hid (fail_ps h2 3 5 [] none 0 (World.ownsRow_nil _ _ _ _) 0 rfl)
    clear hR hK h1 h2
    go_wp2_with fail
    refine h3.out.mono ?_
    rintro e w2 ⟨⟨v, rfl⟩, h4⟩
    replace h4 := Lib.hid h4
    go_wp2_with fail
    go_end0
    exact ⟨⟨_, rfl⟩, h4.out⟩
  · rw [if_neg hc]
    have hne : (n == 0) = false := by simp [hc]
    clear hc
    go_enter Tryd.func38, Tryd.ntmps38
    go_wp2_with fail
    refine HN.out.mono ?_
    rintro e w1 ⟨rfl, hR, hK⟩
    have h1 := HM.out _ hR hK
    obtain ⟨y0, yi, fi, hlt⟩ : w1.cell? ⟨p, 0, none⟩ = some (.pointer (some ⟨r, 0, none⟩)) ∧ w1.cell? ⟨p, 3, none⟩ = some (.int .u32 st.o.id) ∧ w1.frozen? ⟨p, 3, none⟩ = false ∧ p < w1.heap.size := by obtain ⟨_, _, _, A, c, cs, dA, dc, hB, _⟩ := h1; exact ⟨hB.cell 0, hB.cell 3, hB.frozen 3, hB.lt⟩
    have h2 := h1.store 3 (.int .u32 n) { st.o with id := n } rfl (fun _ _ _ _ => rfl)
    replace h2 := Lib.hid h2
    clear hR hK h1
    go_wp2_with fail
    go_end0
    exact ⟨⟨_, rfl⟩, h2.out⟩

set_option maxRecDepth 100000 in
set_option maxHeartbeats 4000000 in
theorem hold_ps {w0 wB w : World} {q r p : Nat} {st : PSt} (h : PS w0 wB q r p st w) (hl : 2 ≤ st.ys.length) :
    Calls Tryd.prog 37 #[.pointer (some ⟨p, 0, none⟩)] w (Step w0 wB q r p (stHold st)) := by
  have hbl := h.rd.bd
  have HN := Lib.hid (number_yes w q r st.ys st.t 2 h.rd (by decide) (by decide) hl)
  have hbd := big1_lt st.ys 2 h.rd.isB (by decide)
  have HM := Lib.hid (fun w1 (hR : Rd w1 q r (st.ys.drop 2) (st.t + 2)) hK => h.move hR hK)
  have x0 : w.cell? ⟨p, 0, none⟩ = some (.pointer (some ⟨r, 0, none⟩)) := by obtain ⟨_, _, _, A, c, cs, dA, dc, hB, _⟩ := h; exact hB.cell 0
  unfold stHold
  unfold NumYes at HN
  clear h
  obtain ⟨n, hn⟩ : ∃ n, big (st.ys.take 2) = n := ⟨_, rfl⟩
  rw [hn] at HN hbd ⊢
  clear hn hl
  have HT := Lib.hid (fun w => timed_any n w)
  have e1 : IntKind.i64.wrap n = n := IntWalk.i64_in _ (by omega)
  obtain ⟨b, hb⟩ : ∃ b, timedB n = b := ⟨_, rfl⟩
  rw [hb] at HT ⊢
  clear hb
  cases b
  · rw [if_neg (by decide)]
    go_enter Tryd.func37, Tryd.ntmps37
    go_wp2_with fail
    refine HN.out.mono ?_
    rintro e w1 ⟨rfl, hR, hK⟩
    have h1 := HM.out _ hR hK
    obtain ⟨y0, yi, fi, hlt⟩ : w1.cell? ⟨p, 0, none⟩ = some (.pointer (some ⟨r, 0, none⟩)) ∧ w1.cell? ⟨p, 2, none⟩ = some (.int .i64 st.o.hold) ∧ w1.frozen? ⟨p, 2, none⟩ = false ∧ p < w1.heap.size := by obtain ⟨_, _, _, A, c, cs, dA, dc, hB, _⟩ := h1; exact ⟨hB.cell 0, hB.cell 2, hB.frozen 2, hB.lt⟩
    have h2 := h1.store 2 (.int .i64 n) { st.o with hold := n } rfl (fun _ _ _ _ => rfl)
    have h3 := Lib.hid (fail_ps h2 6 3 [] none 0 (World.ownsRow_nil _ _ _ _) 0 rfl)
    clear hR hK h1 h2
    go_wp2_with (go_at_call 26; refine (HT.out _).mono ?_; rintro e w3 ⟨rfl, rfl⟩)
    refine h3.out.mono ?_
    rintro e w2 ⟨⟨v, rfl⟩, h4⟩
    replace h4 := Lib.hid h4
    go_wp2_with fail
    go_end0
    exact ⟨⟨_, rfl⟩, h4.out⟩
  · rw [if_pos rfl]
    go_enter Tryd.func37, Tryd.ntmps37
    go_wp2_with fail
    refine HN.out.mono ?_
    rintro e w1 ⟨rfl, hR, hK⟩
    have h1 := HM.out _ hR hK
    obtain ⟨y0, yi, fi, hlt⟩ : w1.cell? ⟨p, 0, none⟩ = some (.pointer (some ⟨r, 0, none⟩)) ∧ w1.cell? ⟨p, 2, none⟩ = some (.int .i64 st.o.hold) ∧ w1.frozen? ⟨p, 2, none⟩ = false ∧ p < w1.heap.size := by obtain ⟨_, _, _, A, c, cs, dA, dc, hB, _⟩ := h1; exact ⟨hB.cell 0, hB.cell 2, hB.frozen 2, hB.lt⟩
    have h2 := h1.store 2 (.int .i64 n) { st.o with hold := n } rfl (fun _ _ _ _ => rfl)
    replace h2 := Lib.hid h2
    clear hR hK h1
    go_wp2_with (go_at_call 26; refine (HT.out _).mono ?_; rintro e w3 ⟨rfl, rfl⟩)
    go_end0
    exact ⟨⟨_, rfl⟩, h2.out⟩

set_option maxRecDepth 100000 in
set_option maxHeartbeats 4000000 in
theorem length_ps {w0 wB w : World} {q r p : Nat} {st : PSt} (h : PS w0 wB q r p st w) (hl : 1 ≤ st.ys.length) :
    Calls Tryd.prog 39 #[.pointer (some ⟨p, 0, none⟩)] w (Step w0 wB q r p (stLen st)) := by
  have hbl := h.rd.bd
  have HN := Lib.hid (number_yes w q r st.ys st.t 1 h.rd (by decide) (by decide) hl)
  have hbd := big1_lt st.ys 1 h.rd.isB (by decide)
  have HM := Lib.hid (fun w1 (hR : Rd w1 q r (st.ys.drop 1) (st.t + 1)) hK => h.move hR hK)
  have x0 : w.cell? ⟨p, 0, none⟩ = some (.pointer (some ⟨r, 0, none⟩)) := by obtain ⟨_, _, _, A, c, cs, dA, dc, hB, _⟩ := h; exact hB.cell 0
  unfold stLen
  unfold NumYes at HN
  clear h
  obtain ⟨n, hn⟩ : ∃ n, big (st.ys.take 1) = n := ⟨_, rfl⟩
  rw [hn] at HN hbd ⊢
  clear hn hl
  have e1 : IntKind.i64.wrap n = n := IntWalk.i64_in _ (by omega)
  obtain ⟨L, hL⟩ : ∃ L : Int, ((st.ys.drop 1).length : Int) = L := ⟨_, rfl⟩
  have HLf := Lib.hid (fun w1 (hR : Rd w1 q r (st.ys.drop 1) (st.t + 1)) => left_len w1 q r _ _ hR L hL)
  rw [hL]
  clear hL
  by_cases hc : n = L
  · rw [if_pos hc]
    subst hc
    go_enter Tryd.func39, Tryd.ntmps39
    go_wp2_with fail
    refine HN.out.mono ?_
    rintro e w1 ⟨rfl, hR, hK⟩
    have h1 := HM.out _ hR hK
    have y0 : w1.cell? ⟨p, 0, none⟩ = some (.pointer (some ⟨r, 0, none⟩)) := by obtain ⟨_, _, _, A, c, cs, dA, dc, hB, _⟩ := h1; exact hB.cell 0
    have hR' := Lib.hid hR
    replace h1 := Lib.hid h1
    clear hR hK
    go_wp2_with (go_at_call 60; refine (HLf.out _ hR'.out).mono ?_; rintro e w3 ⟨rfl, rfl⟩)
    go_end0
    exact ⟨⟨_, rfl⟩, h1.out⟩
  · rw [if_neg hc]
    have hne : (n != L) = true := by simp [hc]
    clear hc
    go_enter Tryd.func39, Tryd.ntmps39
    go_wp2_with fail
    refine HN.out.mono ?_
    rintro e w1 ⟨rfl, hR, hK⟩
    have h1 := HM.out _ hR hK
    have y0 : w1.cell? ⟨p, 0, none⟩ = some (.pointer (some ⟨r, 0, none⟩)) := by obtain ⟨_, _, _, A, c, cs, dA, dc, hB, _⟩ := h1; exact hB.cell 0
    have hR' := Lib.hid hR
    have h3 := Lib.hid (fail_ps h1 0 9 [] none 0 (World.ownsRow_nil _ _ _ _) 0 rfl)
    clear hR hK h1
    go_wp2_with (go_at_call 60; refine (HLf.out _ hR'.out).mono ?_; rintro e w3 ⟨rfl, rfl⟩)
    refine h3.out.mono ?_
    rintro e w2 ⟨⟨v, rfl⟩, h4⟩
    replace h4 := Lib.hid h4
    go_wp2_with fail
    go_end0
    exact ⟨⟨_, rfl⟩, h4.out⟩

end Go.Proofs.YtilfheociidloaaDoor
