/- capability.Bytes: its contract by walking the Go text. -/
import Derived.Test.YtilfheociidloaaDoorCapC
import Derived.IntWalk
namespace Go.Proofs.YtilfheociidloaaDoor
open Go.RowKit
set_option linter.unusedVariables false
set_option linter.unusedSimpArgs false

/-- The parts of the form, and the form. -/
def partsC (xs : List CapI) : List (List Int) := xs.flatMap (fun x => [[x.code, (x.data.length : Int)], x.data])
def formC (xs : List CapI) : List Int := xs.flatMap (fun x => x.code :: (x.data.length : Int) :: x.data)
theorem partsC_len (xs : List CapI) : (partsC xs).length = 2 * xs.length := by
  induction xs with
  | nil => rfl
  | cons x xs ih => simp only [partsC, List.flatMap_cons, List.length_append, List.length_cons, List.length_nil] at ih ⊢; omega
theorem cat_parts (xs : List CapI) : catL (partsC xs) = formC xs := by
  induction xs with
  | nil => rfl
  | cons x xs ih => simp only [catL, partsC, formC, List.flatMap_cons, List.flatten_append] at ih ⊢; rw [ih]; simp
theorem take_snocC (xs : List CapI) (j : Nat) (x : CapI) (h : xs[j]? = some x) : xs.take (j + 1) = xs.take j ++ [x] := by
  obtain ⟨h1, h2⟩ := List.getElem?_eq_some_iff.1 h
  rw [List.take_succ_eq_append_getElem h1, h2]
theorem parts_snoc (xs : List CapI) (j : Nat) (x : CapI) (h : xs[j]? = some x) : partsC (xs.take (j + 1)) = partsC (xs.take j) ++ [[x.code, (x.data.length : Int)], x.data] := by
  rw [take_snocC xs j x h]
  simp [partsC, List.flatMap_append]
theorem form_snoc (xs : List CapI) (j : Nat) (x : CapI) (h : xs[j]? = some x) : formC (xs.take (j + 1)) = formC (xs.take j) ++ x.code :: (x.data.length : Int) :: x.data := by
  rw [take_snocC xs j x h]
  simp [formC]

/-- A part: bytes that lay there when the call began, or a block of bytes of its own. -/
def PartB (w wr : World) (ys : List Int) (u : Value) : Prop := ∃ A c, u = .slice A ys.length c ∧ ys.length ≤ c ∧ c ≤ maxLen ∧ IsB ys ∧ (Arr w A (bs ys) ∨ ∃ b cs, A = some ⟨b, 0, none⟩ ∧ Bk wr b 5 cs ∧ cs.toList = bs ys)
theorem PartB.byE {w wr : World} {ys : List Int} {u : Value} (h : PartB w wr ys u) (k : Kp NoB w wr) : ByE wr ys [u] := by
  obtain ⟨A, c, rfl, h1, h2, h3, h4⟩ := h
  refine ⟨A, c, rfl, h1, h2, ?_, h3⟩
  rcases h4 with h4 | ⟨b, cs, rfl, h5, h6⟩
  · exact h4.and k
  · have := Arr.of_bk h5 cs.toList.length
    rwa [List.take_length, h6] at this
theorem PartB.keep {w wr w2 : World} {S : Nat → Prop} {ys : List Int} {u : Value} (h : PartB w wr ys u) (k : Kp S wr w2) (hs : ∀ b cs, Bk wr b 5 cs → ¬ S b) : PartB w w2 ys u := by
  obtain ⟨A, c, rfl, h1, h2, h3, h4⟩ := h
  refine ⟨A, c, rfl, h1, h2, h3, h4.imp id (fun ⟨b, cs, e, h5, h6⟩ => ⟨b, cs, e, h5.keep k (hs b cs h5), h6⟩)⟩
/-- Cells that are byte strings, one each. -/
def PartL (w wr : World) (xss : List (List Int)) (cs : List Value) : Prop := cs.length = xss.length ∧ ∀ (k : Nat) (ys : List Int), xss[k]? = some ys → ∃ u, cs[k]? = some u ∧ PartB w wr ys u
theorem PartL.nil (w wr : World) : PartL w wr [] [] := ⟨rfl, fun k ys h => by simp at h⟩
theorem PartL.keep {w wr w2 : World} {S : Nat → Prop} {xss : List (List Int)} {cs : List Value} (h : PartL w wr xss cs) (k : Kp S wr w2) (hs : ∀ b cs, Bk wr b 5 cs → ¬ S b) : PartL w w2 xss cs :=
  ⟨h.1, fun i ys hi => by obtain ⟨u, h1, h2⟩ := h.2 i ys hi; exact ⟨u, h1, h2.keep k hs⟩⟩
theorem PartL.snoc {w wr : World} {xss : List (List Int)} {cs : List Value} (h : PartL w wr xss cs) {ys : List Int} {u : Value} (hu : PartB w wr ys u) : PartL w wr (xss ++ [ys]) (cs ++ [u]) := by
  refine ⟨by simp [h.1], fun k zs hk => ?_⟩
  rcases Nat.lt_trichotomy k xss.length with hj | hj | hj
  · rw [List.getElem?_append_left hj] at hk
    obtain ⟨u', h1, h2⟩ := h.2 k zs hk
    exact ⟨u', by rw [List.getElem?_append_left (by rw [h.1]; omega)]; exact h1, h2⟩
  · subst hj
    simp at hk
    subst hk
    exact ⟨u, by rw [List.getElem?_append_right (by rw [h.1]; omega), h.1]; simp, hu⟩
  · rw [List.getElem?_eq_none (by simp; omega)] at hk
    simp at hk
theorem PartL.sl {w wr : World} {xss : List (List Int)} {cs : List Value} (h : PartL w wr xss cs) (k : Kp NoB w wr) {A : Option Addr} (ha : Arr wr A cs) : Sl ByE 1 wr A xss := fun hn => by
  obtain ⟨ad, e, hc⟩ := ha (by rintro rfl; have := h.1; simp at this; exact hn (List.eq_nil_of_length_eq_zero this.symm))
  refine ⟨ad, e, fun j ys hj => ?_⟩
  obtain ⟨u, h1, h2⟩ := h.2 j ys hj
  refine ⟨[u], rfl, h2.byE k, fun i v hv => ?_⟩
  obtain rfl : i = 0 := by have := (List.getElem?_eq_some_iff.1 hv).1; simp at this; omega
  simp at hv
  subst hv
  rw [Nat.mul_one, Nat.add_zero]
  exact hc j _ h1
/-- A row's block is no block of another element type. -/
theorem own_ne {w : World} {base n size b : Nat} {e t : TypeId} {v : Value} {xs : List Value} {cs : Array Value} (h : w.ownsRow base e size v n xs) (hB : Bk w b t cs) (ht : t ≠ e) : ¬ some b = v.ownBlock := by
  rcases h.2 with ⟨rfl, _⟩ | ⟨g, cap, cur, rfl, hg, hh, _⟩
  · intro h; cases h
  · intro h
    have : b = g := by injection h
    subst this
    unfold Bk at hB
    rw [hh] at hB
    injection hB with hB
    injection hB with _ hB _
    exact ht hB.symm

theorem infoByS : (Tryd.prog.info? 28).map (fun i => (i.zero, i.size, i.bytes)) = some (some (.slice none 0 0), 1, 24) := by kernel_rfl

/-- What Bytes leaves where it succeeds. -/
def Formed (w : World) (xs : List Int) (e : Ending) (w' : World) : Prop := ∃ A c, e = .returned (.tuple #[.slice A xs.length c, .bool true]) ∧ w'.ownsRow w.heap.size 5 1 (.slice A xs.length c) xs.length (bs xs) ∧ Kp NoB w w'
theorem formed_of {w w' w1 : World} {xs : List Int} {A : Option Addr} {c : Nat} (h : w'.ownsRow w1.heap.size 5 1 (.slice A xs.length c) xs.length (bs xs)) (k1 : Kp NoB w w1) (k : Kp NoB w1 w') (e : Ending) (he : e = .returned (.tuple #[.slice A xs.length c, .bool true])) : Formed w xs e w' :=
  ⟨A, c, he, ⟨h.1, h.2.imp id (fun ⟨g, cap, cur, hv, hg, hr⟩ => ⟨g, cap, cur, hv, Nat.le_trans k1.size hg, hr⟩)⟩, k1.and k⟩

set_option maxHeartbeats 2000000 in
theorem bytes_no (A : Option Addr) (c : Nat) (xs : List CapI) (cs : List Value) (w : World) (hx : CapL w xs cs) (ha : Arr w A cs) (hn : xs.length ≤ 1000000) (hv : validB xs = false) :
    Calls Tryd.prog 18 #[.slice A xs.length c] w (Stay (.tuple #[.slice none 0 0, .bool false]) w) := by
  have H := Lib.hid (valid_any A c xs cs w hx ha hn)
  rw [hv] at H
  clear hx ha hv
  obtain ⟨n, hnn⟩ : ∃ n, xs.length = n := ⟨_, rfl⟩
  rw [hnn] at hn H ⊢
  clear hnn
  go_enter Tryd.func18, Tryd.ntmps18
  go_wp2_with (go_at_call 45; refine H.out.mono ?_; rintro e w1 ⟨rfl, hK⟩)
  go_ret2
  exact ⟨rfl, hK⟩

set_option maxHeartbeats 4000000 in
theorem bytes_yes (A : Option Addr) (c : Nat) (xs : List CapI) (cs : List Value) (w : World) (hx : CapL w xs cs) (ha : Arr w A cs) (hn : xs.length ≤ 1000000) (hv : validB xs = true) (hlen : (formC xs).length ≤ 140737488355328) :
    Calls Tryd.prog 18 #[.slice A xs.length c] w (Formed w (formC xs)) := by
  have H := Lib.hid (valid_any A c xs cs w hx ha hn)
  rw [hv] at H
  obtain ⟨i0, hi, hz0, hz1, hz2⟩ := info_parts infoByS
  have HC := Lib.hid (fun j (hj : j < xs.length) => cap_cells hx ha hj)
  have HV : Hid (∀ x ∈ xs, okC x = true) := Lib.hid (by simpa [validB] using hv)
  have HL := Lib.hid hlen
  clear hx ha hv hlen
  obtain ⟨n, hnn⟩ : ∃ n, xs.length = n := ⟨_, rfl⟩
  have HN := Lib.hid hnn
  rw [hnn] at hn H HC ⊢
  clear hnn
  obtain ⟨F, hF⟩ : ∃ F, formC xs = F := ⟨_, rfl⟩
  have HF := Lib.hid hF
  rw [hF] at HL ⊢
  clear hF
  go_enter Tryd.func18, Tryd.ntmps18
  go_wp2_with (go_at_call 45; refine H.out.mono ?_; rintro e w1 ⟨rfl, hK1⟩)
  go_loopw [4, 12] (fun v i wr => ∃ (j : Nat) (A' : Option Addr) (c' : Nat) (ps : List Value), j ≤ n ∧ i = .int .i64 j ∧ v = .slice A' (2 * j) c' ∧ Hid (wr.ownsRow w.heap.size 28 1 (.slice A' (2 * j) c') (2 * j) ps ∧ PartL w wr (partsC (xs.take j)) ps) ∧ Kp NoB w wr) (fun _ i _ => n - (intOf i).toNat)
  case atStart => exact ⟨0, none, 0, [], Nat.zero_le _, rfl, rfl, Lib.hid ⟨World.ownsRow_nil _ _ _ _, PartL.nil _ _⟩, hK1⟩
  case round =>
    obtain ⟨j, A', c', ps, hj, rfl, rfl, HO, hK⟩ := hrel
    by_cases hlt : j < n
    · obtain ⟨x, ad, A2, c2, hx, rfl, q1, q2, hc, hm, hA2, hb2, hr, -, -⟩ := HC.out j hlt
      replace q1 := hK.cell q1 (fun q => q)
      replace q2 := hK.cell q2 (fun q => q)
      have hok := HV.out x (List.mem_of_getElem? hx)
      simp only [okC, decide_eq_true_eq] at hok
      have hP := Lib.hid (parts_snoc xs j x hx)
      have hA2r := Lib.hid hA2
      clear hA2
      obtain ⟨m, hmm⟩ : ∃ m, x.data.length = m := ⟨_, rfl⟩
      obtain ⟨d, hd⟩ : ∃ d, x.data = d := ⟨_, rfl⟩
      obtain ⟨k, hkk⟩ : ∃ k, x.code = k := ⟨_, rfl⟩
      rw [hmm] at q2 hP hok hc
      rw [hkk] at q1 hP hok
      rw [hd] at hP hA2r hb2 hmm
      have HX := Lib.hid (And.intro hb2 (And.intro hmm (And.intro hc hm)))
      obtain ⟨hk0, hk1, hm1⟩ := hok
      clear hx hkk hd hc hm hb2 hmm hr
      have e1 := IntWalk.u8_in k ⟨hk0, hk1⟩
      have e2 := IntWalk.u8_in m (by omega)
      obtain ⟨y1, y2, y3, y4, y5⟩ := (Bk.fresh wr 77 #[.int .i64 k, .slice A2 m c2]).two
      have hL1 := Bk.second wr (.cells #[.int .i64 k, .slice A2 m c2] 77) 5 #[.int .u8 k, .int .u8 m]
      have HL1 := Lib.hid hL1
      clear hL1
      go_wp2_with (at_builtin; refine wpList_app (((hK.alloc _).alloc _).alloc _) rfl (.tmp 16) (.tmp 27) 57 rfl 28 i0 (.slice none 0 0) 1 24 Tryd.underlying57 hi hz0 hz1 hz2 rfl (by decide) _ (2 * j) ps rfl (((HO.out.1.alloc _).alloc _).alloc _) _ 2 2 [.slice (some ⟨wr.heap.size + 1, 0, none⟩) 2 2, .slice A2 m c2] rfl rfl (Arr.of_bk (Bk.third wr _ _ 28 #[.slice (some ⟨wr.heap.size + 1, 0, none⟩) 2 2, .slice A2 m c2]) 2) (by simp [Value.oneCell']) (by omega) (by decide) (2 * (j + 1)) (by omega) ?_; intro A3 c3 w3 hown3 hK3 hG _)
      go_roundw
      case rel =>
        refine ⟨j + 1, A3, c3, _, by omega, by go_num, rfl, Lib.hid ⟨hown3, ?_⟩, hK3⟩
        have hKa : Kp NoB wr ((wr.alloc (.cells #[.int .i64 k, .slice A2 m c2] 77)).alloc (.cells #[.int .u8 k, .int .u8 m] 5)) := ((Kp.refl _ _).alloc _).alloc _
        have hG' := Kp.of_grown hG
        obtain ⟨hX1, hX2, hX3, hX4⟩ := HX.out
        have hS : ∀ b cs, Bk (((wr.alloc (.cells #[.int .i64 k, .slice A2 m c2] 77)).alloc (.cells #[.int .u8 k, .int .u8 m] 5)).alloc (.cells #[.slice (some ⟨wr.heap.size + 1, 0, none⟩) 2 2, .slice A2 m c2] 28)) b 5 cs → ¬ some b = (Value.slice A' (2 * j) c').ownBlock := fun b cs hB => own_ne (((HO.out.1.alloc _).alloc _).alloc _) hB (by decide)
        have hp : ∀ ys u, PartB w ((wr.alloc (.cells #[.int .i64 k, .slice A2 m c2] 77)).alloc (.cells #[.int .u8 k, .int .u8 m] 5)) ys u → PartB w w3 ys u := fun ys u h => (h.keep ((Kp.refl NoB _).alloc _) (fun _ _ _ q => q)).keep hG' hS
        rw [hP.out]
        have hps := ((HO.out.2.keep hKa (fun _ _ _ q => q)).keep ((Kp.refl NoB _).alloc _) (fun _ _ _ q => q)).keep hG' hS
        have h2 := (hps.snoc (hp [k, (m : Int)] (.slice (some ⟨wr.heap.size + 1, 0, none⟩) 2 2) ⟨_, 2, rfl, Nat.le_refl _, by decide, by intro z hz; simp at hz; omega, .inr ⟨_, _, rfl, HL1.out, rfl⟩⟩)).snoc (hp d (.slice A2 m c2) ⟨A2, c2, by rw [hX2], by omega, hX4, hX1, .inl hA2r.out⟩)
        simpa using h2
      case measure => simp [intOf]; omega
    · have hj : j = n := by omega
      subst hj
      obtain ⟨hown, hps⟩ := HO.out
      have hxt : xs.take j = xs := List.take_of_length_le (by rw [HN.out]; omega)
      rw [hxt] at hps
      have hcat := cat_any A' c' (partsC xs) wr (hps.sl hK (Arr.of_own hown)) (by rw [partsC_len, HN.out]; omega) (by rw [cat_parts, HF.out]; exact HL.out)
      rw [cat_parts, HF.out, partsC_len, HN.out] at hcat
      have HCAT := Lib.hid hcat
      clear hcat hxt hps hown
      go_wp2_with (go_at_call 19; refine HCAT.out.mono ?_; rintro e w2 ⟨A2, c2, rfl, hown2, hK2⟩)
      go_ret2
      exact formed_of hown2 hK hK2 _ rfl

end Go.Proofs.YtilfheociidloaaDoor
