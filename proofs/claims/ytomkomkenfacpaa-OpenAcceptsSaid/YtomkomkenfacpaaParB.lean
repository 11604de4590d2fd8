/- The parser's steps start, system, hold, id, length: contracts by walking the Go text. Printed by tools/parb.py. -/
import Derived.Test.YtomkomkenfacpaaParA
namespace Go.Proofs.Ytomkomkenfacpaa
open Go.RowKit
set_option linter.unusedVariables false
set_option linter.unusedSimpArgs false

def stStart (st : PSt) : PSt := ⟨st.o, st.ys.drop 1, st.t + 1, if big (st.ys.take 1) = 4 then st.bad else some (1, 0, [0, 4])⟩
def stSys (st : PSt) : PSt := ⟨{ st.o with sys := big (st.ys.take 2) }, st.ys.drop 2, st.t + 2, if big (st.ys.take 2) = 0 then some (2, 1, []) else st.bad⟩
def stHold (st : PSt) : PSt := ⟨{ st.o with hold := big (st.ys.take 2) }, st.ys.drop 2, st.t + 2, if timedB (big (st.ys.take 2)) then st.bad else some (6, 3, [])⟩
def stId (st : PSt) : PSt := ⟨{ st.o with id := big (st.ys.take 4) }, st.ys.drop 4, st.t + 4, if big (st.ys.take 4) = 0 then some (3, 5, []) else st.bad⟩
def stLen (st : PSt) : PSt := ⟨st.o, st.ys.drop 1, st.t + 1, if big (st.ys.take 1) = ((st.ys.drop 1).length : Int) then st.bad else some (0, 9, [])⟩

/-- What a step leaves. -/
def Step (w0 wB : World) (q r p : Nat) (st : PSt) (e : Ending) (w' : World) : Prop := (∃ v, e = .returned v) ∧ PS w0 wB q r p st w'

theorem big1_lt (ys : List Int) (k : Nat) (h : IsB ys) (hk : k ≤ 4) : 0 ≤ big (ys.take k) ∧ big (ys.take k) < 4294967296 := by
  have h1 := big_bound (ys.take k) (h.take k)
  refine ⟨h1.1, Int.lt_of_lt_of_le h1.2 ?_⟩
  have h2 : (ys.take k).length ≤ 4 := by rw [List.length_take]; omega
  have e : ((256 ^ (ys.take k).length : Nat) : Int) = (256 : Int) ^ (ys.take k).length := by simp
  have p : 256 ^ (ys.take k).length ≤ 256 ^ 4 := Nat.pow_le_pow_right (by decide) h2
  rw [← e]
  exact Int.ofNat_le.2 p

set_option maxRecDepth 100000 in
set_option maxHeartbeats 4000000 in
theorem start_ps {w0 wB w : World} {q r p : Nat} {st : PSt} (h : PS w0 wB q r p st w) (hl : 1 ≤ st.ys.length) :
    Calls Try.prog 26 #[.pointer (some ⟨p, 0, none⟩)] w (Step w0 wB q r p (stStart st)) := by
  have hbl := h.rd.bd
  have HN := Lib.hid (number_yes w q r st.ys st.t 1 h.rd (by decide) (by decide) hl)
  have hbd := big1_lt st.ys 1 h.rd.isB (by decide)
  have HM := Lib.hid (fun w1 (hR : Rd w1 q r (st.ys.drop 1) (st.t + 1)) hK => h.move hR hK)
  have x0 : w.cell? ⟨p, 0, none⟩ = some (.pointer (some ⟨r, 0, none⟩)) := by obtain ⟨_, _, _, A, c, cs, dA, dc, hB, _⟩ := h; exact hB.cell 0
  unfold stStart
  unfold NumYes at HN
  clear h
  obtain ⟨n, hn⟩ : ∃ n, big (st.ys.take 1) = n := ⟨_, rfl⟩
  rw [hn] at HN hbd ⊢
  clear hn hl
  by_cases hc : n = 4
  · rw [if_pos hc]
    subst hc
    go_enter Try.func26, Try.ntmps26
    go_wp2_with fail
    refine HN.out.mono ?_
    rintro e w1 ⟨rfl, hR, hK⟩
    have h1 := Lib.hid (HM.out _ hR hK)
    clear hR hK
    go_wp2_with fail
    go_end0
    exact ⟨⟨_, rfl⟩, h1.out⟩
  · rw [if_neg hc]
    have hne : (n != 4) = true := by simp [hc]
    clear hc
    go_enter Try.func26, Try.ntmps26
    go_wp2_with fail
    refine HN.out.mono ?_
    rintro e w1 ⟨rfl, hR, hK⟩
    have h1 := HM.out _ hR hK
    have hlt : p < w1.heap.size := by obtain ⟨_, _, _, A, c, cs, dA, dc, hB, _⟩ := h1; exact hB.lt
    have hd := own_lit w1 (p + 1) 5 (bs [0, 4]) (by omega) (by decide)
    have h2 := Lib.hid (fail_ps (h1.and ((Kp.refl NoB _).alloc (.cells (bs [0, 4]).toArray 5))) 1 0 [0, 4] (some ⟨w1.heap.size, 0, none⟩) 2 hd 2 rfl)
    clear hR hK hlt hd h1
    go_wp2_with fail
    refine h2.out.mono ?_
    rintro e w2 ⟨⟨v, rfl⟩, h3⟩
    replace h3 := Lib.hid h3
    go_wp2_with fail
    go_end0
    exact ⟨⟨_, rfl⟩, h3.out⟩

set_option maxRecDepth 100000 in
set_option maxHeartbeats 4000000 in
theorem system_ps {w0 wB w : World} {q r p : Nat} {st : PSt} (h : PS w0 wB q r p st w) (hl : 2 ≤ st.ys.length) :
    Calls Try.prog 27 #[.pointer (some ⟨p, 0, none⟩)] w (Step w0 wB q r p (stSys st)) := by
  have hbl := h.rd.bd
  have HN := Lib.hid (number_yes w q r st.ys st.t 2 h.rd (by decide) (by decide) hl)
  have hbd := big1_lt st.ys 2 h.rd.isB (by decide)
  have HM := Lib.hid (fun w1 (hR : Rd w1 q r (st.ys.drop 2) (st.t + 2)) hK => h.move hR hK)
  have x0 : w.cell? ⟨p, 0, none⟩ = some (.pointer (some ⟨r, 0, none⟩)) := by obtain ⟨_, _, _, A, c, cs, dA, dc, hB, _⟩ := h; exact hB.cell 0
  unfold stSys
  unfold NumYes at HN
  clear h
  obtain ⟨n, hn⟩ : ∃ n, big (st.ys.take 2) = n := ⟨_, rfl⟩
  rw [hn] at HN hbd ⊢
  clear hn hl
  by_cases hc : n = 0
  · rw [if_pos hc]
    have hne : (n == 0) = true := by simp [hc]
    clear hc
    go_enter Try.func27, Try.ntmps27
    go_wp2_with fail
    refine HN.out.mono ?_
    rintro e w1 ⟨rfl, hR, hK⟩
    have h1 := HM.out _ hR hK
    obtain ⟨y0, yi, fi, hlt⟩ : w1.cell? ⟨p, 0, none⟩ = some (.pointer (some ⟨r, 0, none⟩)) ∧ w1.cell? ⟨p, 1, none⟩ = some (.int .u32 st.o.sys) ∧ w1.frozen? ⟨p, 1, none⟩ = false ∧ p < w1.heap.size := by obtain ⟨_, _, _, A, c, cs, dA, dc, hB, _⟩ := h1; exact ⟨hB.cell 0, hB.cell 1, hB.frozen 1, hB.lt⟩
    have h2 := h1.store 1 (.int .u32 n) { st.o with sys := n } rfl (fun _ _ _ _ => rfl)
    have h3 := Lib.hid (fail_ps h2 2 1 [] none 0 (World.ownsRow_nil _ _ _ _) 0 rfl)
    clear hR hK h1 h2
    go_wp2_with fail
    refine h3.out.mono ?_
    rintro e w2 ⟨⟨v, rfl⟩, h4⟩
    replace h4 := Lib.hid h4
    go_wp2_with fail
    go_end0
    exact ⟨⟨_, rfl⟩, h4.out⟩
  · rw [if_neg hc]
    have hne : (n == 0) = false := by simp [hc]
    clear hc
    go_enter Try.func27, Try.ntmps27
    go_wp2_with fail
    refine HN.out.mono ?_
    rintro e w1 ⟨rfl, hR, hK⟩
    have h1 := HM.out _ hR hK
    obtain ⟨y0, yi, fi, hlt⟩ : w1.cell? ⟨p, 0, none⟩ = some (.pointer (some ⟨r, 0, none⟩)) ∧ w1.cell? ⟨p, 1, none⟩ = some (.int .u32 st.o.sys) ∧ w1.frozen? ⟨p, 1, none⟩ = false ∧ p < w1.heap.size := by obtain ⟨_, _, _, A, c, cs, dA, dc, hB, _⟩ := h1; exact ⟨hB.cell 0, hB.cell 1, hB.frozen 1, hB.lt⟩
    have h2 := h1.store 1 (.int .u32 n) { st.o with sys := n } rfl (fun _ _ _ _ => rfl)
    replace h2 := Lib.hid h2
    clear hR hK h1
    go_wp2_with fail
    go_end0
    exact ⟨⟨_, rfl⟩, h2.out⟩

set_option maxRecDepth 100000 in
set_option maxHeartbeats 4000000 in
theorem id_ps {w0 wB w : World} {q r p : Nat} {st : PSt} (h : PS w0 wB q r p st w) (hl : 4 ≤ st.ys.length) :
    Calls Try.prog 29 #[.pointer (some ⟨p, 0, none⟩)] w (Step w0 wB q r p (stId st)) := by
  have hbl := h.rd.bd
  have HN := Lib.hid (number_yes w q r st.ys st.t 4 h.rd (by decide) (by decide) hl)
  have hbd := big1_lt st.ys 4 h.rd.isB (by decide)
  have HM := Lib.hid (fun w1 (hR : Rd w1 q r (st.ys.drop 4) (st.t + 4)) hK => h.move hR hK)
  have x0 : w.cell? ⟨p, 0, none⟩ = some (.pointer (some ⟨r, 0, none⟩)) := by obtain ⟨_, _, _, A, c, cs, dA, dc, hB, _⟩ := h; exact hB.cell 0
  unfold stId
  unfold NumYes at HN
  clear h
  obtain ⟨n, hn⟩ : ∃ n, big (st.ys.take 4) = n := ⟨_, rfl⟩
  rw [hn] at HN hbd ⊢
  clear hn hl
  by_cases hc : n = 0
  · rw [if_pos hc]
    have hne : (n == 0) = true := by simp [hc]
    clear hc
    go_enter Try.func29, Try.ntmps29
    go_wp2_with fail
    refine HN.out.mono ?_
    rintro e w1 ⟨rfl, hR, hK⟩
    have h1 := HM.out _ hR hK
    obtain ⟨y0, yi, fi, hlt⟩ : w1.cell? ⟨p, 0, none⟩ = some (.pointer (some ⟨r, 0, none⟩)) ∧ w1.cell? ⟨p, 3, none⟩ = some (.int .u32 st.o.id) ∧ w1.frozen? ⟨p, 3, none⟩ = false ∧ p < w1.heap.size := by obtain ⟨_, _, _, A, c, cs, dA, dc, hB, _⟩ := h1; exact ⟨hB.cell 0, hB.cell 3, hB.frozen 3, hB.lt⟩
    have h2 := h1.store 3 (.int .u32 n) { st.o with id := n } rfl (fun _ _ _ _ => rfl)
    have h3 := Lib.hid (fail_ps h2 3 5 [] none 0 (World.ownsRow_nil _ _ _ _) 0 rfl)
    clear hR hK h1 h2
    go_wp2_with fail
    refine h3.out.mono ?_
    rintro e w2 ⟨⟨v, rfl⟩, h4⟩
    replace h4 := Lib.hid h4
    go_wp2_with fail
    go_end0
    exact ⟨⟨_, rfl⟩, h4.out⟩
  · rw [if_neg hc]
    have hne : (n == 0) = false := by simp [hc]
    clear hc
    go_enter Try.func29, Try.ntmps29
    go_wp2_with fail
    refine HN.out.mono ?_
    rintro e w1 ⟨rfl, hR, hK⟩
    have h1 := HM.out _ hR hK
    obtain ⟨y0, yi, fi, hlt⟩ : w1.cell? ⟨p, 0, none⟩ = some (.pointer (some ⟨r, 0, none⟩)) ∧ w1.cell? ⟨p, 3, none⟩ = some (.int .u32 st.o.id) ∧ w1.frozen? ⟨p, 3, none⟩ = false ∧ p < w1.heap.size := by obtain ⟨_, _, _, A, c, cs, dA, dc, hB, _⟩ := h1; exact ⟨hB.cell 0, hB.cell 3, hB.frozen 3, hB.lt⟩
    have h2 := h1.store 3 (.int .u32 n) { st.o with id := n } rfl (fun _ _ _ _ => rfl)
    replace h2 := Lib.hid h2
    clear hR hK h1
    go_wp2_with fail
    go_end0
    exact ⟨⟨_, rfl⟩, h2.out⟩

set_option maxRecDepth 100000 in
set_option maxHeartbeats 4000000 in
theorem hold_ps {w0 wB w : World} {q r p : Nat} {st : PSt} (h : PS w0 wB q r p st w) (hl : 2 ≤ st.ys.length) :
    Calls Try.prog 28 #[.pointer (some ⟨p, 0, none⟩)] w (Step w0 wB q r p (stHold st)) := by
  have hbl := h.rd.bd
  have HN := Lib.hid (number_yes w q r st.ys st.t 2 h.rd (by decide) (by decide) hl)
  have hbd := big1_lt st.ys 2 h.rd.isB (by decide)
  have HM := Lib.hid (fun w1 (hR : Rd w1 q r (st.ys.drop 2) (st.t + 2)) hK => h.move hR hK)
  have x0 : w.cell? ⟨p, 0, none⟩ = some (.pointer (some ⟨r, 0, none⟩)) := by obtain ⟨_, _, _, A, c, cs, dA, dc, hB, _⟩ := h; exact hB.cell 0
  unfold stHold
  unfold NumYes at HN
  clear h
  obtain ⟨n, hn⟩ : ∃ n, big (st.ys.take 2) = n := ⟨_, rfl⟩
  rw [hn] at HN hbd ⊢
  clear hn hl
  have HT := Lib.hid (fun w => timed_any n w)
  have e1 : IntKind.i64.wrap n = n := IntWalk.i64_in _ (by omega)
  obtain ⟨b, hb⟩ : ∃ b, timedB n = b := ⟨_, rfl⟩
  rw [hb] at HT ⊢
  clear hb
  cases b
  · rw [if_neg (by decide)]
    go_enter Try.func28, Try.ntmps28
    go_wp2_with fail
    refine HN.out.mono ?_
    rintro e w1 ⟨rfl, hR, hK⟩
    have h1 := HM.out _ hR hK
    obtain ⟨y0, yi, fi, hlt⟩ : w1.cell? ⟨p, 0, none⟩ = some (.pointer (some ⟨r, 0, none⟩)) ∧ w1.cell? ⟨p, 2, none⟩ = some (.int .i64 st.o.hold) ∧ w1.frozen? ⟨p, 2, none⟩ = false ∧ p < w1.heap.size := by obtain ⟨_, _, _, A, c, cs, dA, dc, hB, _⟩ := h1; exact ⟨hB.cell 0, hB.cell 2, hB.frozen 2, hB.lt⟩
    have h2 := h1.store 2 (.int .i64 n) { st.o with hold := n } rfl (fun _ _ _ _ => rfl)
    have h3 := Lib.hid (fail_ps h2 6 3 [] none 0 (World.ownsRow_nil _ _ _ _) 0 rfl)
    clear hR hK h1 h2
    go_wp2_with (go_at_call 44; refine (HT.out _).mono ?_; rintro e w3 ⟨rfl, rfl⟩)
    refine h3.out.mono ?_
    rintro e w2 ⟨⟨v, rfl⟩, h4⟩
    replace h4 := Lib.hid h4
    go_wp2_with fail
    go_end0
    exact ⟨⟨_, rfl⟩, h4.out⟩
  · rw [if_pos rfl]
    go_enter Try.func28, Try.ntmps28
    go_wp2_with fail
    refine HN.out.mono ?_
    rintro e w1 ⟨rfl, hR, hK⟩
    have h1 := HM.out _ hR hK
    obtain ⟨y0, yi, fi, hlt⟩ : w1.cell? ⟨p, 0, none⟩ = some (.pointer (some ⟨r, 0, none⟩)) ∧ w1.cell? ⟨p, 2, none⟩ = some (.int .i64 st.o.hold) ∧ w1.frozen? ⟨p, 2, none⟩ = false ∧ p < w1.heap.size := by obtain ⟨_, _, _, A, c, cs, dA, dc, hB, _⟩ := h1; exact ⟨hB.cell 0, hB.cell 2, hB.frozen 2, hB.lt⟩
    have h2 := h1.store 2 (.int .i64 n) { st.o with hold := n } rfl (fun _ _ _ _ => rfl)
    replace h2 := Lib.hid h2
    clear hR hK h1
    go_wp2_with (go_at_call 44; refine (HT.out _).mono ?_; rintro e w3 ⟨rfl, rfl⟩)
    go_end0
    exact ⟨⟨_, rfl⟩, h2.out⟩

set_option maxRecDepth 100000 in
set_option maxHeartbeats 4000000 in
theorem length_ps {w0 wB w : World} {q r p : Nat} {st : PSt} (h : PS w0 wB q r p st w) (hl : 1 ≤ st.ys.length) :
    Calls Try.prog 30 #[.pointer (some ⟨p, 0, none⟩)] w (Step w0 wB q r p (stLen st)) := by
  have hbl := h.rd.bd
  have HN := Lib.hid (number_yes w q r st.ys st.t 1 h.rd (by decide) (by decide) hl)
  have hbd := big1_lt st.ys 1 h.rd.isB (by decide)
  have HM := Lib.hid (fun w1 (hR : Rd w1 q r (st.ys.drop 1) (st.t + 1)) hK => h.move hR hK)
  have x0 : w.cell? ⟨p, 0, none⟩ = some (.pointer (some ⟨r, 0, none⟩)) := by obtain ⟨_, _, _, A, c, cs, dA, dc, hB, _⟩ := h; exact hB.cell 0
  unfold stLen
  unfold NumYes at HN
  clear h
  obtain ⟨n, hn⟩ : ∃ n, big (st.ys.take 1) = n := ⟨_, rfl⟩
  rw [hn] at HN hbd ⊢
  clear hn hl
  have e1 : IntKind.i64.wrap n = n := IntWalk.i64_in _ (by omega)
  obtain ⟨L, hL⟩ : ∃ L : Int, ((st.ys.drop 1).length : Int) = L := ⟨_, rfl⟩
  have HLf := Lib.hid (fun w1 (hR : Rd w1 q r (st.ys.drop 1) (st.t + 1)) => left_len w1 q r _ _ hR L hL)
  rw [hL]
  clear hL
  by_cases hc : n = L
  · rw [if_pos hc]
    subst hc
    go_enter Try.func30, Try.ntmps30
    go_wp2_with fail
    refine HN.out.mono ?_
    rintro e w1 ⟨rfl, hR, hK⟩
    have h1 := HM.out _ hR hK
    have y0 : w1.cell? ⟨p, 0, none⟩ = some (.pointer (some ⟨r, 0, none⟩)) := by obtain ⟨_, _, _, A, c, cs, dA, dc, hB, _⟩ := h1; exact hB.cell 0
    have hR' := Lib.hid hR
    replace h1 := Lib.hid h1
    clear hR hK
    go_wp2_with (go_at_call 49; refine (HLf.out _ hR'.out).mono ?_; rintro e w3 ⟨rfl, rfl⟩)
    go_end0
    exact ⟨⟨_, rfl⟩, h1.out⟩
  · rw [if_neg hc]
    have hne : (n != L) = true := by simp [hc]
    clear hc
    go_enter Try.func30, Try.ntmps30
    go_wp2_with fail
    refine HN.out.mono ?_
    rintro e w1 ⟨rfl, hR, hK⟩
    have h1 := HM.out _ hR hK
    have y0 : w1.cell? ⟨p, 0, none⟩ = some (.pointer (some ⟨r, 0, none⟩)) := by obtain ⟨_, _, _, A, c, cs, dA, dc, hB, _⟩ := h1; exact hB.cell 0
    have hR' := Lib.hid hR
    have h3 := Lib.hid (fail_ps h1 0 9 [] none 0 (World.ownsRow_nil _ _ _ _) 0 rfl)
    clear hR hK h1
    go_wp2_with (go_at_call 49; refine (HLf.out _ hR'.out).mono ?_; rintro e w3 ⟨rfl, rfl⟩)
    refine h3.out.mono ?_
    rintro e w2 ⟨⟨v, rfl⟩, h4⟩
    replace h4 := Lib.hid h4
    go_wp2_with fail
    go_end0
    exact ⟨⟨_, rfl⟩, h4.out⟩

end Go.Proofs.Ytomkomkenfacpaa
