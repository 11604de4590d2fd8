/- Package finding: the tables of names, strings.Join of rows of the call's own; Text of the kinds without a code. No condition but the listed tables' content. -/
import Derived.Test.YtknaogpkakdcoaaDoorFinA
import Derived.Test.YtknaogpkakdcoaaDoorStrTab
import Derived.Test.YtknaogpkakdcoaaDoorTab
import Derived.Test.YtknaogpkakdcoaaDoorVer
import Derived.Test.YtknaogpkakdcoaaDoorApp
import Derived.Test.YtknaogpkakdcoaaDoorRows
import Derived.Stop.LaidErr
import Derived.MakeChecks
namespace Go.Proofs.YtknaogpkakdcoaaDoor
open Go.RowKit
set_option linter.unusedVariables false
set_option linter.unusedSimpArgs false

/-! ### the tables -/
def namesF : List (List UInt8) := [[97, 99, 99, 101, 112, 116], [100, 105, 115, 99, 97, 114, 100], [119, 105, 116, 104, 100, 114, 97, 119], [114, 101, 115, 101, 116], [110, 111, 116, 105, 102, 121]]
def famF : List (List UInt8) := [[], [105, 112, 118, 52], [105, 112, 118, 54]]
def NmF (w : World) : Prop := ∀ (j : Nat) l, namesF[j]? = some l → w.cell? ⟨0, j, none⟩ = some (.string (ba l))
def FmF (w : World) : Prop := ∀ (j : Nat) l, famF[j]? = some l → w.cell? ⟨1, j, none⟩ = some (.string (ba l))
theorem NmF.and {w w' : World} (h : NmF w) (k : Kp NoB w w') : NmF w' := fun j l hl => k.cell (p := ⟨0, j, none⟩) (h j l hl) (fun q => q)
theorem FmF.and {w w' : World} (h : FmF w) (k : Kp NoB w w') : FmF w' := fun j l hl => k.cell (p := ⟨1, j, none⟩) (h j l hl) (fun q => q)
theorem names_of {W : World} {r : List (String × DataW Unit)} (h : laidMet Tryd.prog (("peerage/finding.names", Rows.laid_peerage_finding_names) :: r) W) : NmF W := by
  obtain ⟨ps, ⟨g', t', cs, fuel, p, q, hg', ht', hvar, hd, _, _⟩, _⟩ := h
  have hg : Tryd.prog.globalNamed "peerage/finding.names" = some 0 := by kernel_rfl
  obtain rfl := Option.some.inj (hg.symm.trans hg')
  obtain rfl := Option.some.inj ((show (Tryd.prog.globals[0]?).map (·.type) = some 46 by kernel_rfl).symm.trans ht')
  rw [show (Rows.laid_peerage_finding_names : DataW Unit) = .agg (namesF.map fun b => .lit (.string b)) by kernel_rfl] at hd
  have hs := cells_of_strs Tryd.underlying46 Tryd.underlying9 (by kernel_rfl) (by kernel_rfl) hd
  intro j l hl
  rw [World.var?_cell hg hvar j, ← Array.getElem?_toList, hs, List.getElem?_map, hl]
  rfl
theorem fams_of {W : World} {r : List (String × DataW Unit)} (h : laidMet Tryd.prog (("peerage/finding.families", Rows.laid_peerage_finding_families) :: r) W) : FmF W := by
  obtain ⟨ps, ⟨g', t', cs, fuel, p, q, hg', ht', hvar, hd, _, _⟩, _⟩ := h
  have hg : Tryd.prog.globalNamed "peerage/finding.families" = some 1 := by kernel_rfl
  obtain rfl := Option.some.inj (hg.symm.trans hg')
  obtain rfl := Option.some.inj ((show (Tryd.prog.globals[1]?).map (·.type) = some 48 by kernel_rfl).symm.trans ht')
  rw [show (Rows.laid_peerage_finding_families : DataW Unit) = .agg (famF.map fun b => .lit (.string b)) by kernel_rfl] at hd
  have hs := cells_of_strs Tryd.underlying48 Tryd.underlying9 (by kernel_rfl) (by kernel_rfl) hd
  intro j l hl
  rw [World.var?_cell hg hvar j, ← Array.getElem?_toList, hs, List.getElem?_map, hl]
  rfl

/-- What the rows' condition gives. -/
structure Ld (w : World) : Prop where
  tb : Tb w
  nm : NmF w
  fm : FmF w
theorem Ld.and {w w' : World} (h : Ld w) (k : Kp NoB w w') : Ld w' := ⟨h.tb.and k, h.nm.and k, h.fm.and k⟩
theorem ld_of {W : World} (h : laidMetH Tryd.prog Rows.findingTextsRow.laid W) : Ld W := by
  rw [MakeChecks.laidMetH_plain _ _ _ (by kernel_rfl)] at h
  exact ⟨tb_of (laidMet.tail (laidMet.tail h)) (by kernel_rfl), names_of (laidMet.tail (laidMet.tail (laidMet.tail h))), fams_of (laidMet.tail (laidMet.tail (laidMet.tail (laidMet.tail h))))⟩

/-! ### rows of strings -/
theorem infoStr : (Tryd.prog.info? 9).map (fun i => (i.zero, i.size, i.bytes)) = some (some (.string ⟨#[]⟩), 1, 16) := by kernel_rfl
theorem strV_data (l : List UInt8) : (ba l).data.toList = l := rfl
theorem map_data (ls : List (List UInt8)) : (ls.map ba).map (fun b => b.data.toList) = ls := by
  rw [List.map_map]
  exact List.map_id _
theorem join_any (base g c : Nat) (ls : List (List UInt8)) (w : World) (h : w.ownsRow base 9 1 (.slice (some ⟨g, 0, none⟩) ls.length c) ls.length (ls.map strV)) (h0 : 0 < ls.length) (hN : ls.length ≤ 100) (hlen : (Lib.join ls [32]).length ≤ 100000000) :
    Calls Tryd.prog 31 #[.slice (some ⟨g, 0, none⟩) ls.length c, .string ⟨#[32]⟩] w (Stay (.string (ba (Lib.join ls [32]))) w) := by
  obtain ⟨g', e, _, hlt, hc, _⟩ := own_at h h0
  cases e
  obtain ⟨A', c', he, hle, _, _⟩ := own_form h
  injection he with e1 _ e3
  subst e3
  have := Tryd.strings_Join g 0 c (ls.map ba) ⟨#[32]⟩ w (fun j x hx => by
    rw [Nat.zero_add]
    refine hc j _ ?_
    rw [List.getElem?_map] at hx ⊢
    cases hl : ls[j]? with
    | none => rw [hl] at hx; cases hx
    | some l => rw [hl] at hx; cases hx; rfl) hlt (by rw [List.length_map]; omega) (by rw [List.length_map]; exact hle) (by rw [map_data]; exact Nat.le_trans hlen (by decide))
  rw [map_data, List.length_map] at this
  exact this.mono fun e w' ⟨h1, h2⟩ => ⟨h1, Kp.of_below h2⟩

theorem Bk.five {w : World} {b : Nat} {t : TypeId} {u v x y z : Value} (h : Bk w b t #[u, v, x, y, z]) : w.cell? ⟨b, 0, none⟩ = some u ∧ w.cell? ⟨b, 1, none⟩ = some v ∧ w.cell? ⟨b, 2, none⟩ = some x ∧ w.cell? ⟨b, 3, none⟩ = some y ∧ w.cell? ⟨b, 4, none⟩ = some z :=
  ⟨h.cell 0, h.cell 1, h.cell 2, h.cell 3, h.cell 4⟩
theorem dec_len (n : Int) (h0 : 0 ≤ n) (h1 : n ≤ 9223372036854775807) : (Lib.decDigits n.toNat).length ≤ 20 := dec_short n.toNat (by omega)
theorem itoa_stay (n : Int) (h0 : 0 ≤ n) (h1 : n ≤ 9223372036854775807) (w : World) (ht : Tb w) : Calls Tryd.prog 29 #[.int .i64 n] w (Stay (.string (ba (Lib.decDigits n.toNat))) w) := by
  have h := itoa_any n (by omega) h1 w ht
  rw [itoa_dec n h0] at h
  exact h

theorem ftext_bad (k c s : Int) (A : Option Addr) (n m : Nat) (a : Int) (w : World) (hp : properV k c s n a = false) : Calls Tryd.prog 11 #[.agg #[.int .i64 k, .int .i64 c, .int .i64 s, .slice A n m, .int .i64 a]] w (Stay (.string ⟨#[]⟩) w) := by
  have HP := Lib.hid (fun W => fproper_any k c s A n m a W)
  rw [hp] at HP
  clear hp
  go_enter Tryd.func11, Tryd.ntmps11
  go_wp2_with (go_at_call 9; refine Calls.mono (HP.out _) ?_; rintro e w1 ⟨rfl, hK⟩; have hk1 := Lib.hid (((Kp.refl NoB w).alloc _).and hK); clear hK)
  go_ret
  exact ⟨rfl, hk1.out⟩

set_option maxRecDepth 100000 in
set_option maxHeartbeats 1600000 in
theorem ftext_0 (A : Option Addr) (m : Nat) (w : World) (ld : Ld w) : Calls Tryd.prog 11 #[.agg #[.int .i64 0, .int .i64 0, .int .i64 0, .slice A 0 m, .int .i64 0]] w (Stay (.string (ba [97, 99, 99, 101, 112, 116])) w) := by
  have HP := Lib.hid (fun W => fproper_any 0 0 0 A 0 m 0 W)
  rw [show properV 0 0 0 0 0 = true from rfl] at HP
  have HN := Lib.hid ld.nm
  clear ld
  go_enter Tryd.func11, Tryd.ntmps11
  go_wp2_with (go_at_call 9; refine Calls.mono (HP.out _) ?_; rintro e w1 ⟨rfl, hK⟩; have hk1 := Lib.hid (((Kp.refl NoB w).alloc _).and hK); have hv1 := Lib.hid ((Bk.fresh w 24 _).and hK); obtain ⟨x0, x1, x2, x3, x4⟩ := hv1.out.five; have n0 := (HN.out.and hk1.out) 0 _ rfl; have hlt : w.heap.size < w1.heap.size := hv1.out.lt; have hne := Nat.ne_of_lt hlt; clear hK)
  go_ret
  exact ⟨rfl, hk1.out.alloc _⟩

set_option maxRecDepth 100000 in
set_option maxHeartbeats 1600000 in
theorem ftext_12 (k : Int) (hk : k = 1 ∨ k = 2) (A : Option Addr) (m : Nat) (a : Int) (h0 : 0 ≤ a) (h1 : a ≤ 9223372036854775807) (w : World) (ld : Ld w) : Calls Tryd.prog 11 #[.agg #[.int .i64 k, .int .i64 0, .int .i64 0, .slice A 0 m, .int .i64 a]] w (Stay (.string (ba (Lib.join [namesF.getD k.toNat [], [97, 116], Lib.decDigits a.toNat] [32]))) w) := by
  obtain ⟨i0, hi, hz0, hz1, hz2⟩ := info_parts infoStr
  have HP := Lib.hid (fun W => fproper_any k 0 0 A 0 m a W)
  rw [show properV k 0 0 0 a = true by simp only [properV, decide_eq_true_eq]; rcases hk with rfl | rfl <;> simp [h0]] at HP
  have HN := Lib.hid ld.nm
  have HI := Lib.hid (fun W (k : Kp NoB w W) => itoa_stay a h0 h1 W (ld.tb.and k))
  have hd := dec_len a h0 h1
  obtain ⟨D, hD⟩ : ∃ d, Lib.decDigits a.toNat = d := ⟨_, rfl⟩
  rw [hD] at HI hd ⊢
  clear ld hD
  obtain ⟨N, hN1, hN2, hN3, hN4⟩ : ∃ N, namesF[k.toNat]? = some N ∧ namesF.getD k.toNat [] = N ∧ N.length ≤ 8 ∧ (k = 1 → namesF[1]? = some N) ∧ (k = 2 → namesF[2]? = some N) := by
    rcases hk with rfl | rfl
    · exact ⟨_, rfl, rfl, by decide, (fun _ => rfl), (fun h => absurd h (by decide))⟩
    · exact ⟨_, rfl, rfl, by decide, (fun h => absurd h (by decide)), (fun _ => rfl)⟩
  rw [hN2]
  have HJ := Lib.hid (fun W base g c h => join_any base g c [N, [97, 116], D] W h (by simp) (by simp) (by simp [Lib.join_cons, Lib.joinTail]; omega))
  obtain ⟨R, hR⟩ : ∃ r, Lib.join [N, [97, 116], D] [32] = r := ⟨_, rfl⟩
  rw [hR] at HJ ⊢
  clear hR hN1 hN2 hN3 hd
  have HT := Lib.hid hN4
  clear hN4
  have HO := Lib.hid (fun W (h : w.heap.size ≤ W.heap.size) => (show (W.alloc (.cells #[.string (ba N)] 9)).ownsRow w.heap.size 9 1 (.slice (some ⟨W.heap.size, 0, none⟩) 1 1) 1 [.string (ba N)] from own_lit W w.heap.size 9 [.string (ba N)] h (by simp [maxLen])))
  rcases hk with rfl | rfl
  all_goals
    go_enter Tryd.func11, Tryd.ntmps11
    go_wp2_with (first
      | (go_at_call 9; refine Calls.mono (HP.out _) ?_; rintro e w1 ⟨rfl, hK⟩; have hk1 := Lib.hid (((Kp.refl NoB w).alloc _).and hK); have hv1 := Lib.hid ((Bk.fresh w 24 _).and hK); obtain ⟨x0, x1, x2, x3, x4⟩ := hv1.out.five; (first | (have n1 := (HN.out.and hk1.out) 1 _ (HT.out.1 rfl)) | (have n1 := (HN.out.and hk1.out) 2 _ (HT.out.2 rfl))); have hlt : w.heap.size < w1.heap.size := hv1.out.lt; have hne := Nat.ne_of_lt hlt; clear hK)
      | (go_at_call 29; (refine Calls.mono (HI.out _ (hk1.out.alloc _)) ?_); rintro e w2 ⟨rfl, hK⟩; have hk2 := Lib.hid ((hk1.out.alloc _).and hK); have ho2 := Lib.hid (hK.own (HO.out w1 hk1.out.size) (fun _ _ q => q)); clear hK)
      | (at_builtin; refine wpList_app (w0 := w) (S := NoB) (hk2.out.alloc _) rfl (.tmp 49) (.tmp 53) 47 rfl 9 i0 (.string ⟨#[]⟩) 1 16 Tryd.underlying47 hi hz0 hz1 hz2 rfl (by decide) _ _ _ rfl (ho2.out.alloc _) _ 2 2 [.string ⟨#[97, 116]⟩, .string (ba D)] rfl rfl (Arr.lit _ _ _) (by simp [Value.oneCell']) (by decide) (by decide) 3 rfl ?_; intro A3 c3 w3 hown3 hk3' _ _; obtain ⟨g, rfl, -⟩ := own_at hown3 (by decide); have HJ3 := Lib.hid (HJ.out w3 w.heap.size g c3 hown3); have hk3 := Lib.hid hk3'; clear hown3 hk3')
      | (go_at_call 31; (refine Calls.mono HJ3.out ?_); rintro e w4 ⟨rfl, hK⟩; have hk4 := Lib.hid (hk3.out.and hK); clear hK))
    go_ret
    exact ⟨rfl, hk4.out⟩

end Go.Proofs.YtknaogpkakdcoaaDoor
