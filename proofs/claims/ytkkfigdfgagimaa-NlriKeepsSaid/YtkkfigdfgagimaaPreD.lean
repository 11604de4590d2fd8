/- Package prefix: Bytes: its contract by walking the Go text. -/
import Derived.Test.YtkkfigdfgagimaaPreC
import Derived.IntWalk
namespace Go.Proofs.Ytkkfigdfgagimaa
open Go.RowKit
set_option linter.unusedVariables false
set_option linter.unusedSimpArgs false

theorem Bk.drew {w : World} {b : Nat} {t : TypeId} {cs : Array Value} (h : Bk w b t cs) : Bk w.drew b t cs := h
/-- Two byte strings, joined. -/
theorem cat_two (W : World) (g : Nat) (A B : Option Addr) (n m ca cb : Nat) (xs ys : List Int) (h : Bk W g 42 #[.slice A n ca, .slice B m cb]) (hn : xs.length = n) (hm : ys.length = m) (h1 : n ≤ ca ∧ ca ≤ maxLen) (h2 : m ≤ cb ∧ cb ≤ maxLen)
    (hA : Arr W A (bs xs)) (hB : Arr W B (bs ys)) (hx : IsB xs) (hy : IsB ys) (hl : n + m ≤ 1000000) :
    Calls Try.prog 45 #[.slice (some ⟨g, 0, none⟩) 2 2] W (Joined W (xs ++ ys)) := by
  subst hn hm
  have hs : Sl ByE 1 W (some ⟨g, 0, none⟩) [xs, ys] := fun _ => ⟨_, rfl, fun j x hx' => by
    have hj : j < 2 := by have := (List.getElem?_eq_some_iff.1 hx').1; simpa using this
    have hc := h.cell j
    match j, hj with
    | 0, _ =>
      simp at hx'; subst hx'
      exact ⟨[_], rfl, ⟨A, ca, rfl, h1.1, h1.2, hA, hx⟩, fun i u hu => by
        have hi : i = 0 := by have := (List.getElem?_eq_some_iff.1 hu).1; simp at this; omega
        subst hi; simp at hu; subst hu; exact hc⟩
    | 1, _ =>
      simp at hx'; subst hx'
      exact ⟨[_], rfl, ⟨B, cb, rfl, h2.1, h2.2, hB, hy⟩, fun i u hu => by
        have hi : i = 0 := by have := (List.getElem?_eq_some_iff.1 hu).1; simp at this; omega
        subst hi; simp at hu; subst hu; rw [add_none]; exact hc⟩⟩
  have := cat_any (some ⟨g, 0, none⟩) 2 [xs, ys] W hs (by simp) (by simp [catL]; omega)
  have e : catL [xs, ys] = xs ++ ys := by simp [catL]
  rwa [e] at this

/-- The form of a prefix. -/
def needN (len : Int) : Nat := ((len + 7) / 8).toNat
def formP (p : PreI) : List Int := p.len :: p.addr.take (needN p.len)
theorem needN_le {len : Int} (h0 : 0 ≤ len) (h1 : len ≤ 128) : needN len ≤ 16 := by unfold needN; omega
theorem needN_eq {len : Int} (h0 : 0 ≤ len) : (len + 7) / 8 = (needN len : Int) := by unfold needN; omega

/-- What Bytes leaves where it succeeds. -/
def FormedP (w : World) (xs : List Int) (e : Ending) (w' : World) : Prop := ∃ A c, e = .returned (.tuple #[.slice A xs.length c, .bool true]) ∧ w'.ownsRow w.heap.size 5 1 (.slice A xs.length c) xs.length (bs xs) ∧ Kp NoB w w'
theorem own_down {w : World} {base base' n : Nat} {e : TypeId} {size : Nat} {v : Value} {xs : List Value} (h : w.ownsRow base e size v n xs) (hb : base' ≤ base) : w.ownsRow base' e size v n xs := by
  obtain ⟨h1, h2⟩ := h
  refine ⟨h1, ?_⟩
  rcases h2 with h2 | ⟨g, cap, cur, hv, hg, r⟩
  · exact .inl h2
  · exact .inr ⟨g, cap, cur, hv, Nat.le_trans hb hg, r⟩

set_option maxRecDepth 100000 in
set_option maxHeartbeats 4000000 in
theorem pbytes_good (p : PreI) (w : World) (hB : p.B) (hv : validP p = true) : Calls Try.prog 48 #[p.val] w (FormedP w (formP p)) := by
  have hr : rangedB p.fam p.len = true := by unfold validP at hv; simp at hv; exact hv.1
  obtain ⟨l0, l1⟩ := ranged_bd hr
  have HV := Lib.hid (fun w => valid_any p w hB)
  rw [hv] at HV
  obtain ⟨hfam, hlen, ha, hab⟩ := hB
  have HN := Lib.hid (fun w => need_any p.len w l0 (by omega))
  have hn16 := needN_le l0 l1
  rw [needN_eq l0] at HN
  unfold formP
  obtain ⟨fam, len, a⟩ := p
  simp only at *
  obtain ⟨n, hn⟩ : ∃ n, needN len = n := ⟨_, rfl⟩
  rw [hn] at HN hn16 ⊢
  have hwl : IntKind.u8.wrap len = len := IntWalk.u8_in _ (by omega)
  obtain ⟨x1, x2, x3⟩ := (Bk.fresh w 29 (preC ⟨fam, len, a⟩).toArray).pre
  have HCAT : ∀ (W : World) (g : Nat), (Bk W (g + 1) 42 #[.slice (some ⟨g, 0, none⟩) 1 1, .slice (some ⟨w.heap.size, 2, none⟩) n 16] ∧ Bk W g 5 #[.int .u8 len] ∧ Bk W w.heap.size 29 (preC ⟨fam, len, a⟩).toArray) →
      Calls Try.prog 45 #[.slice (some ⟨g + 1, 0, none⟩) 2 2] W (Joined W (len :: a.take n)) := fun W g ⟨h1, h2, h3⟩ =>
    cat_two W _ _ _ 1 n 1 16 [len] (a.take n) h1 rfl (by simp; omega) ⟨Nat.le_refl _, by decide⟩ ⟨hn16, by decide⟩ (Arr.of_bk h2 1)
      (fun _ => ⟨_, rfl, fun j u hu => by
        have h := h3.pre.2.2 j u
        rw [add_none]
        refine h ?_
        rw [bs_take, List.getElem?_take] at hu
        split at hu
        · exact hu
        · cases hu⟩) (by intro x hx; simp at hx; omega) (hab.take n) (by omega)
  have HC := Lib.hid HCAT
  have hn0 : (0 : Int) ≤ (n : Int) := by omega
  have hn1 : (n : Int) ≤ 16 := by omega
  unfold PreI.val at HV ⊢
  have H16 : (bs a).length = 16 := by rw [bs_length, ha]
  have H18 : (preC ⟨fam, len, a⟩).length = 18 := preC_length ha
  have HB0 := Lib.hid (Bk.fresh w 29 (preC ⟨fam, len, a⟩).toArray)
  have HI := Lib.hid (show (Try.prog.info? 29).map (·.size) = some (preC ⟨fam, len, a⟩).toArray.size by rw [List.size_toArray, H18]; exact (size_of infoPre).2)
  clear HCAT hv hr hn hfam hab H18
  obtain ⟨L, hL⟩ : ∃ L, len :: a.take n = L := ⟨_, rfl⟩
  rw [hL] at HC ⊢
  clear hL
  obtain ⟨cs, hcs⟩ : ∃ cs, (preC ⟨fam, len, a⟩).toArray = cs := ⟨_, rfl⟩
  have HPR := Lib.hid (fun (W : World) (h : Bk W w.heap.size 29 (preC ⟨fam, len, a⟩).toArray) => h.pre)
  rw [hcs] at HV HC HB0 HI HPR x1 x2 x3 ⊢
  clear hcs
  go_enter Try.func48, Try.ntmps48
  go_wp2_with (first
    | (refine wpList_load_row rfl 29 (.tmp 1) rfl w.heap.size rfl 29 _ (0, 0) _ HB0.out Try.underlying29 rfl HI.out ?_)
    | (go_at_call 43; (with_reducible refine (HV.out _).mono ?_); rintro e w1 ⟨rfl, hK1⟩; have HB1 := Lib.hid (HB0.out.and hK1); replace hK1 := Lib.hid hK1; obtain ⟨z1, z2, z3⟩ := HPR.out _ HB1.out))
  clear x1 x2 x3 z1 z3 HI HV H16 HB0
  go_region_held3 (fun w' => w'.cell? ⟨w.heap.size, 1, none⟩ = some (.int .i64 len)) (go_keep)
    (first
      | (go_at_call 56; (with_reducible refine (HN.out _).mono ?_); rintro e w2 ⟨rfl, rfl⟩)
      | (go_at_call 45; refine (HC.out _ w1.heap.size ⟨(Bk.second w1 _ _ _).drew, ((Bk.fresh w1 _ _).alloc _).drew, ((HB1.out.alloc _).alloc _).drew⟩).mono ?_; rintro e w2 ⟨A2, c2, rfl, hown2, hK2⟩; obtain ⟨-, z4, -⟩ := HPR.out _ ((((HB1.out.alloc _).alloc _).drew).and hK2)))
  all_goals
    go_wp2_with fail
    go_ret2
    exact ⟨A2, c2, rfl, own_down hown2 (by have := hK1.out.size; simp at this ⊢; omega), ((((((Kp.refl _ _).alloc _).and hK1.out).alloc _).alloc _).drew).and hK2⟩

end Go.Proofs.Ytkkfigdfgagimaa
