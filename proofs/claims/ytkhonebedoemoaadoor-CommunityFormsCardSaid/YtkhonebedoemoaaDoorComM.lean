/- Package community: the text of a group. No condition but the table of powers of ten. -/
import Derived.Test.YtkhonebedoemoaaDoorComL
import Derived.Test.YtkhonebedoemoaaDoorApp
import Derived.Test.YtkhonebedoemoaaDoorFu10
import Derived.Test.YtkhonebedoemoaaDoorStrTab
namespace Go.Proofs.YtkhonebedoemoaaDoor
open Go.RowKit
set_option linter.unusedVariables false
set_option linter.unusedSimpArgs false

theorem infoStr : (Tryd.prog.info? 9).map (fun i => (i.zero, i.size, i.bytes)) = some (some (.string ⟨#[]⟩), 1, 16) := by kernel_rfl
theorem strV_data (l : List UInt8) : (ba l).data.toList = l := rfl
theorem map_data (ls : List (List UInt8)) : (ls.map ba).map (fun b => b.data.toList) = ls := by
  rw [List.map_map]
  exact List.map_id _
theorem join_any (base c : Nat) (A : Option Addr) (ls : List (List UInt8)) (sep : UInt8) (w : World) (h : w.ownsRow base 9 1 (.slice A ls.length c) ls.length (ls.map strV)) (hN : ls.length ≤ 200000) (hlen : (Lib.join ls [sep]).length ≤ 100000000) :
    Calls Tryd.prog 39 #[.slice A ls.length c, .string ⟨#[sep]⟩] w (Stay (.string (ba (Lib.join ls [sep]))) w) := by
  by_cases h0 : 0 < ls.length
  · obtain ⟨g, rfl, _, hlt, hc, _⟩ := own_at h h0
    obtain ⟨A', c', he, hle, _, _⟩ := own_form h
    injection he with e1 _ e3
    subst e3
    have := Tryd.strings_Join g 0 c (ls.map ba) ⟨#[sep]⟩ w (fun j x hx => by
      rw [Nat.zero_add]
      refine hc j _ ?_
      rw [List.getElem?_map] at hx ⊢
      cases hl : ls[j]? with
      | none => rw [hl] at hx; cases hx
      | some l => rw [hl] at hx; cases hx; rfl) hlt (by rw [List.length_map]; omega) (by rw [List.length_map]; exact hle) (by rw [map_data]; exact Nat.le_trans hlen (by decide))
    rw [map_data, List.length_map] at this
    exact this.mono fun e w' ⟨h1, h2⟩ => ⟨h1, Kp.of_below h2⟩
  · have hl : ls = [] := List.length_eq_zero_iff.1 (by omega)
    subst hl
    exact (Tryd.strings_Join_none A c ⟨#[sep]⟩ w).mono fun e w' ⟨h1, h2⟩ => ⟨h1, by rw [h2]; exact Kp.refl _ _⟩

theorem joinTail_len (s : UInt8) (m : Nat) : ∀ r : List (List UInt8), (∀ x ∈ r, x.length ≤ m) → (Lib.joinTail [s] r).length ≤ r.length * (m + 1)
  | [], _ => by simp [Lib.joinTail]
  | x :: r, h => by
    have ih := joinTail_len s m r (fun y hy => h y (by simp [hy]))
    have hx := h x (by simp)
    have e : Lib.joinTail [s] (x :: r) = s :: (x ++ Lib.joinTail [s] r) := by simp [Lib.joinTail]
    rw [e, List.length_cons, List.length_append, List.length_cons, Nat.add_mul, Nat.one_mul]
    omega
theorem join_len (s : UInt8) (m : Nat) (ls : List (List UInt8)) (h : ∀ x ∈ ls, x.length ≤ m) : (Lib.join ls [s]).length ≤ ls.length * (m + 1) := by
  cases ls with
  | nil => simp [Lib.join_nil]
  | cons x r =>
    rw [Lib.join_cons, List.length_append, List.length_cons, Nat.add_mul, Nat.one_mul]
    have h1 := joinTail_len s m r (fun y hy => h y (by simp [hy]))
    have h2 := h x (by simp)
    omega
/-- A row of the call's own and a block of another type. -/
theorem own_off {w : World} {base n size b : Nat} {e t : TypeId} {v : Value} {xs : List Value} {cs : Array Value} (h : w.ownsRow base e size v n xs) (hb : Bk w b t cs) (hne : t ≠ e) : v.ownBlock ≠ some b := by
  rcases h.2 with ⟨rfl, _⟩ | ⟨g, cap, cur, rfl, _, hh, _⟩
  · simp [Value.ownBlock]
  · intro q
    injection q with q
    subst q
    unfold Bk at hb
    rw [hb] at hh
    injection hh with hh
    injection hh with _ hh
    exact hne hh

/-- A number's digits. -/
def decL (n : Int) : List UInt8 := Lib.decDigits n.toNat
/-- The text of a group. -/
def gtextC (k : Int) (l : List Int) : List UInt8 :=
  if k = 10 then addrL (l.getD 0 0) else if k = 8 then Lib.join [decL (l.getD 0 0 / 65536), decL (l.getD 0 0 % 65536)] [58] else Lib.join (l.map decL) [58]

set_option maxRecDepth 100000 in
set_option maxHeartbeats 3200000 in
theorem gtext_10 (l : List Int) (hu : IsU l) (hl0 : 0 < l.length) (hl3 : l.length ≤ 3) (w : World) (ht : Tb w) : Calls Tryd.prog 38 #[grpV l, .int .i64 10] w (Stay (.string (ba (gtextC 10 l))) w) := by
  have hp : 0 ≤ l.getD 0 0 ∧ l.getD 0 0 < 4294967296 := by
    match l, hl0 with
    | x :: xs, _ => exact hu x (by simp)
  have HA := Lib.hid (fun W (k : Kp NoB w W) => address_any (l.getD 0 0) hp.1 hp.2 W (ht.and k))
  have e0 : (l.take 3).getD 0 0 = l.getD 0 0 := by rw [List.take_of_length_le hl3]
  have hg : gtextC 10 l = addrL (l.getD 0 0) := rfl
  rw [hg, grpV_eq]
  obtain ⟨g0, g1, g2, gk, hg, e, -⟩ := gcs_ex l
  rw [e0] at e
  rw [hg]
  obtain ⟨T, hT⟩ : ∃ t, ba (addrL (l.getD 0 0)) = t := ⟨_, rfl⟩
  rw [hT, ← e] at HA
  rw [hT]
  clear ht hg e e0 hp hT hu hl0 hl3
  go_enter Tryd.func38, Tryd.ntmps38
  go_wp2_with (go_at_call 49; (refine Calls.mono (HA.out _ ((Kp.refl NoB w).alloc _)) ?_); rintro e w1 ⟨rfl, hK⟩; have hk1 := Lib.hid (((Kp.refl NoB w).alloc _).and hK); clear hK)
  go_ret
  exact ⟨rfl, hk1.out⟩

theorem wrap_u64 (x : Int) (h0 : 0 ≤ x) (h1 : x < 4294967296) : IntKind.u64.wrap x = x := by
  simp [IntKind.wrap, IntKind.bits, IntKind.signed]
  omega
theorem hsl3 (b k : Nat) (h : k ≤ 3) (W : World) : (Instr.sliceAt 48 (.pointer (some ⟨b, 0, none⟩)) none (some (.int .i64 (k : Int))) none).run Tryd.prog W = .ok (.slice (some ⟨b, 0, none⟩) k 3) W := by
  have hal : Tryd.prog.arrayLen 48 = 3 := by kernel_rfl
  rw [run_sliceAt_array_h W 48 ⟨b, 0, none⟩ (by simp [Program.arrayLen, Program.elem, Tryd.underlying48]) .i64 (k : Int) (by omega) (by rw [hal]; omega)]
  go_simp

set_option maxRecDepth 100000 in
set_option maxHeartbeats 3200000 in
theorem gtext_n (k : Int) (h8 : k ≠ 8) (h10 : k ≠ 10) (l : List Int) (hu : IsU l) (hl3 : l.length ≤ 3) (w : World) (ht : Tb w) : Calls Tryd.prog 38 #[grpV l, .int .i64 k] w (Stay (.string (ba (gtextC k l))) w) := by
  obtain ⟨i0, hi, hz0, hz1, hz2⟩ := info_parts infoStr
  have HF := Lib.hid (fun (j : Nat) (x : Int) (hx : l[j]? = some x) W (kk : Kp NoB w W) => (show Calls Tryd.prog 50 #[.int .u64 x, .int .i64 10] W (Stay (.string (ba (decL x))) W) by
    have hb := hu x (List.mem_of_getElem? hx)
    have := fu10_any x.toNat (by omega) W (ht.and kk)
    rw [show ((x.toNat : Nat) : Int) = x by omega] at this
    exact this))
  have hg : gtextC k l = Lib.join (l.map decL) [58] := by unfold gtextC; rw [if_neg h10, if_neg h8]
  have HJ := Lib.hid (fun W A c h => join_any w.heap.size c A (l.map decL) 58 W h (by rw [List.length_map]; omega) (by
    have := join_len 58 20 (l.map decL) (fun y hy => by
      obtain ⟨x, hx, rfl⟩ := List.mem_map.1 hy
      have := hu x hx
      exact dec_short x.toNat (by omega))
    rw [List.length_map] at this
    omega))
  rw [hg, grpV_eq]
  obtain ⟨g0, g1, g2, gk, hg, e0, e1, e2, ek⟩ := gcs_ex l
  rw [List.take_of_length_le hl3] at e0 e1 e2
  rw [hg]
  have hk3 : gk ≤ 3 := by omega
  have hkl : gk = l.length := by omega
  have HC := Lib.hid (fun (W : World) (b : Bk W w.heap.size 50 #[.int .u32 g0, .int .u32 g1, .int .u32 g2, .int .i64 gk]) (j : Nat) (hj : j < gk) => (show ∃ x, l[j]? = some x ∧ W.cell? ⟨w.heap.size, j, none⟩ = some (.int .u32 x) by
    have hjl : j < l.length := by omega
    refine ⟨l[j], List.getElem?_eq_getElem hjl, ?_⟩
    rw [b.cell j]
    have hj3 : j = 0 ∨ j = 1 ∨ j = 2 := by omega
    rcases hj3 with rfl | rfl | rfl
    · rw [e0]; simp [List.getD, List.getElem?_eq_getElem hjl]
    · rw [e1]; simp [List.getD, List.getElem?_eq_getElem hjl]
    · rw [e2]; simp [List.getD, List.getElem?_eq_getElem hjl]))
  obtain ⟨R, hR⟩ : ∃ R, ba (Lib.join (l.map decL) [58]) = R := ⟨_, rfl⟩
  rw [hR] at HJ ⊢
  rw [List.length_map] at HJ
  have HKL := Lib.hid hkl
  rw [← hkl] at HJ
  have HU := Lib.hid hu
  clear hg e0 e1 e2 ek hR hkl ht hu
  have hsl := hsl3 w.heap.size gk hk3
  have HB := Lib.hid (Bk.fresh w 50 #[.int .u32 g0, .int .u32 g1, .int .u32 g2, .int .i64 gk])
  have hd10 : (k == 10) = false := by simp [h10]
  have hd8 : (k == 8) = false := by simp [h8]
  clear h8 h10
  go_enter Tryd.func38, Tryd.ntmps38
  go_wp2
  go_loopw [5, 32] (fun v i wr => ∃ (j : Nat) (A' : Option Addr) (c' : Nat), j ≤ gk ∧ i = .int .i64 j ∧ v = .slice A' j c' ∧ Hid (wr.ownsRow w.heap.size 9 1 (.slice A' j c') j ((l.take j).map fun x => strV (decL x))) ∧ Hid (Kp NoB w wr) ∧ Hid (Bk wr w.heap.size 50 #[.int .u32 g0, .int .u32 g1, .int .u32 g2, .int .i64 gk])) (fun _ i _ => gk - (intOf i).toNat)
  case atStart => exact ⟨0, none, 0, Nat.zero_le _, rfl, rfl, Lib.hid (World.ownsRow_nil _ _ _ _), Lib.hid ((Kp.refl NoB w).alloc _), HB⟩
  case round =>
    obtain ⟨j, A', c', hj, rfl, rfl, ho, hk, hb⟩ := hrel
    by_cases hlt : j < gk
    · obtain ⟨x, hx, hc⟩ := HC.out _ hb.out j hlt
      have HX := Lib.hid hx
      have hxb := HU.out x (List.mem_of_getElem? hx)
      have hw : IntKind.u64.wrap x = x := wrap_u64 x hxb.1 hxb.2
      clear hxb
      have hlt' := hb.out.lt
      clear hx
      go_wp2_with (first
        | (go_at_call 50; (refine Calls.mono (HF.out j x HX.out _ hk.out) ?_); rintro e w1 ⟨rfl, hK⟩; have hk1 := Lib.hid (hk.out.and hK); have ho1 := Lib.hid (hK.own ho.out (fun _ _ q => q)); have hb1 := Lib.hid (hb.out.and hK); clear hK)
        | (at_builtin; refine wpList_app (w0 := w) (S := NoB) (hk1.out.alloc _) rfl (.tmp 36) (.tmp 40) 61 rfl 9 i0 (.string ⟨#[]⟩) 1 16 Tryd.underlying61 hi hz0 hz1 hz2 rfl (by decide) _ _ _ rfl (((Kp.refl NoB _).alloc _).own ho1.out (fun _ _ q => q)) _ 1 1 [.string (ba (decL x))] rfl rfl (Arr.lit _ _ _) (by simp [Value.oneCell']) (by omega) (by decide) (j + 1) rfl ?_; intro A3 c3 w3 hown3 hk3' hgr3 _; have hk3 := Lib.hid hk3'; have ho3 := Lib.hid hown3; have hb3 := Lib.hid (show Bk w3 w.heap.size 50 #[.int .u32 g0, .int .u32 g1, .int .u32 g2, .int .i64 gk] from (hgr3.block _ ((hb1.out.alloc (.cells #[.string (ba (decL x))] 9)).lt) (fun q => own_off (((Kp.refl NoB w1).alloc (.cells #[.string (ba (decL x))] 9)).own ho1.out (fun _ _ q => q)) (hb1.out.alloc _) (by decide) q.symm)).trans (hb1.out.alloc _)); clear hown3 hk3' hgr3))
      go_roundw
      case rel =>
        refine ⟨j + 1, A3, c3, by omega, by go_num, rfl, Lib.hid ?_, hk3, hb3⟩
        rw [List.take_add_one, HX.out, List.map_append]
        exact ho3.out
      case measure => simp [intOf]; omega
    · have hjg : j = gk := by omega
      subst hjg
      go_wp2_with (go_at_call 39; (refine Calls.mono (HJ.out _ A' c' (by have := ho.out; rw [List.take_of_length_le (by rw [HKL.out]; exact Nat.le_refl _)] at this; rw [List.map_map]; exact this)) ?_); rintro e w4 ⟨rfl, hK⟩; have hk4 := Lib.hid (hk.out.and hK); clear hK)
      go_ret
      exact ⟨rfl, hk4.out⟩

theorem u32_and65535 (x : Int) (h0 : 0 ≤ x) (h1 : x < 4294967296) : bits .and .u32 x 65535 = x % 65536 := bits_mask .u32 32 (by decide) wraps_u32 16 (by decide) x h0 (by omega)

set_option maxRecDepth 100000 in
set_option maxHeartbeats 3200000 in
theorem gtext_8 (m : List Int) (hm : IsU m) (hm0 : 0 < m.length) (hm3 : m.length ≤ 3) (w : World) (ht : Tb w) : Calls Tryd.prog 38 #[grpV m, .int .i64 8] w (Stay (.string (ba (gtextC 8 m))) w) := by
  have hp : 0 ≤ m.getD 0 0 ∧ m.getD 0 0 < 4294967296 := by
    match m, hm0 with
    | x :: xs, _ => exact hm x (by simp)
  obtain ⟨l, hl⟩ : ∃ l, [m.getD 0 0 / 65536, m.getD 0 0 % 65536] = l := ⟨_, rfl⟩
  have hu : IsU l := by
    rw [← hl]
    intro x hx
    simp only [List.mem_cons, List.not_mem_nil, or_false] at hx
    rcases hx with rfl | rfl <;> omega
  have hl3 : l.length ≤ 3 := by rw [← hl]; simp
  obtain ⟨i0, hi, hz0, hz1, hz2⟩ := info_parts infoStr
  have HF := Lib.hid (fun (j : Nat) (x : Int) (hx : l[j]? = some x) W (kk : Kp NoB w W) => (show Calls Tryd.prog 50 #[.int .u64 x, .int .i64 10] W (Stay (.string (ba (decL x))) W) by
    have hb := hu x (List.mem_of_getElem? hx)
    have := fu10_any x.toNat (by omega) W (ht.and kk)
    rw [show ((x.toNat : Nat) : Int) = x by omega] at this
    exact this))
  have hg : gtextC 8 m = Lib.join (l.map decL) [58] := by rw [← hl]; rfl
  have HJ := Lib.hid (fun W A c h => join_any w.heap.size c A (l.map decL) 58 W h (by rw [List.length_map]; omega) (by
    have := join_len 58 20 (l.map decL) (fun y hy => by
      obtain ⟨x, hx, rfl⟩ := List.mem_map.1 hy
      have := hu x hx
      exact dec_short x.toNat (by omega))
    rw [List.length_map] at this
    omega))
  rw [hg, grpV_eq]
  obtain ⟨n0, n1, n2, nk, hgn, en, -⟩ := gcs_ex m
  rw [List.take_of_length_le hm3] at en
  rw [hgn]
  rw [← en] at hl hp
  have hkl : (2 : Nat) = l.length := by rw [← hl]; rfl
  have HC := Lib.hid (fun (W : World) (b : Bk W w.heap.size 50 #[.int .u32 (n0 / 65536), .int .u32 (n0 % 65536), .int .u32 0, .int .i64 2]) (j : Nat) (hj : j < 2) => (show ∃ x, l[j]? = some x ∧ W.cell? ⟨w.heap.size, j, none⟩ = some (.int .u32 x) by
    rw [b.cell j, ← hl]
    have hj3 : j = 0 ∨ j = 1 := by omega
    rcases hj3 with rfl | rfl
    · exact ⟨_, rfl, rfl⟩
    · exact ⟨_, rfl, rfl⟩))
  obtain ⟨R, hR⟩ : ∃ R, ba (Lib.join (l.map decL) [58]) = R := ⟨_, rfl⟩
  rw [hR] at HJ ⊢
  rw [List.length_map] at HJ
  have HKL := Lib.hid hkl
  rw [← hkl] at HJ
  have HU := Lib.hid hu
  have HP := Lib.hid hp
  clear hg en hl hR hkl ht hu hl3 hm hm0 hm3 hgn
  have hsl : ∀ W, (Instr.sliceAt 48 (.pointer (some ⟨w.heap.size, 0, none⟩)) none (some (.int .i64 2)) none).run Tryd.prog W = .ok (.slice (some ⟨w.heap.size, 0, none⟩) 2 3) W := hsl3 w.heap.size 2 (by decide)
  have HB := Lib.hid (Bk.fresh w 50 #[.int .u32 (n0 / 65536), .int .u32 (n0 % 65536), .int .u32 0, .int .i64 2])
  have hand : bits .and .u32 n0 65535 = n0 % 65536 := u32_and65535 n0 hp.1 hp.2
  clear hp
  go_enter Tryd.func38, Tryd.ntmps38
  go_wp2
  go_loopw [5, 32] (fun v i wr => ∃ (j : Nat) (A' : Option Addr) (c' : Nat), j ≤ 2 ∧ i = .int .i64 j ∧ v = .slice A' j c' ∧ Hid (wr.ownsRow w.heap.size 9 1 (.slice A' j c') j ((l.take j).map fun x => strV (decL x))) ∧ Hid (Kp NoB w wr) ∧ Hid (Bk wr w.heap.size 50 #[.int .u32 (n0 / 65536), .int .u32 (n0 % 65536), .int .u32 0, .int .i64 2])) (fun _ i _ => 2 - (intOf i).toNat)
  case atStart => exact ⟨0, none, 0, Nat.zero_le _, rfl, rfl, Lib.hid (World.ownsRow_nil _ _ _ _), Lib.hid ((Kp.refl NoB w).alloc _), HB⟩
  case round =>
    obtain ⟨j, A', c', hj, rfl, rfl, ho, hk, hb⟩ := hrel
    by_cases hlt : j < 2
    · obtain ⟨x, hx, hc⟩ := HC.out _ hb.out j hlt
      have HX := Lib.hid hx
      have hxb := HU.out x (List.mem_of_getElem? hx)
      have hw : IntKind.u64.wrap x = x := wrap_u64 x hxb.1 hxb.2
      clear hxb
      have hlt' := hb.out.lt
      clear hx
      go_wp2_with (first
        | (go_at_call 50; (refine Calls.mono (HF.out j x HX.out _ hk.out) ?_); rintro e w1 ⟨rfl, hK⟩; have hk1 := Lib.hid (hk.out.and hK); have ho1 := Lib.hid (hK.own ho.out (fun _ _ q => q)); have hb1 := Lib.hid (hb.out.and hK); clear hK)
        | (at_builtin; refine wpList_app (w0 := w) (S := NoB) (hk1.out.alloc _) rfl (.tmp 36) (.tmp 40) 61 rfl 9 i0 (.string ⟨#[]⟩) 1 16 Tryd.underlying61 hi hz0 hz1 hz2 rfl (by decide) _ _ _ rfl (((Kp.refl NoB _).alloc _).own ho1.out (fun _ _ q => q)) _ 1 1 [.string (ba (decL x))] rfl rfl (Arr.lit _ _ _) (by simp [Value.oneCell']) (by omega) (by decide) (j + 1) rfl ?_; intro A3 c3 w3 hown3 hk3' hgr3 _; have hk3 := Lib.hid hk3'; have ho3 := Lib.hid hown3; have hb3 := Lib.hid (show Bk w3 w.heap.size 50 #[.int .u32 (n0 / 65536), .int .u32 (n0 % 65536), .int .u32 0, .int .i64 2] from (hgr3.block _ ((hb1.out.alloc (.cells #[.string (ba (decL x))] 9)).lt) (fun q => own_off (((Kp.refl NoB w1).alloc (.cells #[.string (ba (decL x))] 9)).own ho1.out (fun _ _ q => q)) (hb1.out.alloc _) (by decide) q.symm)).trans (hb1.out.alloc _)); clear hown3 hk3' hgr3))
      go_roundw
      case rel =>
        refine ⟨j + 1, A3, c3, by omega, by go_num, rfl, Lib.hid ?_, hk3, hb3⟩
        rw [List.take_add_one, HX.out, List.map_append]
        exact ho3.out
      case measure => simp [intOf]; omega
    · have hjg : j = 2 := by omega
      subst hjg
      go_wp2_with (go_at_call 39; (refine Calls.mono (HJ.out _ A' c' (by have := ho.out; rw [List.take_of_length_le (by rw [HKL.out]; exact Nat.le_refl _)] at this; rw [List.map_map]; exact this)) ?_); rintro e w4 ⟨rfl, hK⟩; have hk4 := Lib.hid (hk.out.and hK); clear hK)
      go_ret
      exact ⟨rfl, hk4.out⟩

theorem gtext_any (k : Int) (l : List Int) (hu : IsU l) (hk : 0 < grp k) (hl : l.length = grp k) (w : World) (ht : Tb w) : Calls Tryd.prog 38 #[grpV l, .int .i64 k] w (Stay (.string (ba (gtextC k l))) w) := by
  have h3 : l.length ≤ 3 := by rw [hl]; unfold grp; (repeat' split) <;> omega
  have h0 : 0 < l.length := by omega
  by_cases h10 : k = 10
  · subst h10
    exact gtext_10 l hu h0 h3 w ht
  · by_cases h8 : k = 8
    · subst h8
      exact gtext_8 l hu h0 h3 w ht
    · exact gtext_n k h8 h10 l hu h3 w ht
theorem gtext_short (k : Int) (l : List Int) (hu : IsU l) (hl : l.length ≤ 3) : (gtextC k l).length ≤ 200 := by
  have hd : ∀ x : Int, 0 ≤ x → x < 4294967296 → (decL x).length ≤ 20 := fun x h0 h1 => dec_short x.toNat (by omega)
  have hp : 0 ≤ l.getD 0 0 ∧ l.getD 0 0 < 4294967296 := by
    match l with
    | [] => simp
    | x :: xs => exact hu x (by simp)
  unfold gtextC
  split
  · exact addr_short _
  · split
    · have := join_len 58 20 [decL (l.getD 0 0 / 65536), decL (l.getD 0 0 % 65536)] (fun y hy => by
        simp only [List.mem_cons, List.not_mem_nil, or_false] at hy
        rcases hy with rfl | rfl <;> exact hd _ (by omega) (by omega))
      simp only [List.length_cons, List.length_nil] at this
      omega
    · have := join_len 58 20 (l.map decL) (fun y hy => by
        obtain ⟨x, hx, rfl⟩ := List.mem_map.1 hy
        exact hd x (hu x hx).1 (hu x hx).2)
      rw [List.length_map] at this
      omega

end Go.Proofs.YtkhonebedoemoaaDoor
