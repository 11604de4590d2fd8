/- Package nlri: form: its contract by walking the Go text. -/
import Derived.Test.YtkkfigdfgagimaaPreD
import Derived.Test.YtkkfigdfgagimaaPutO
namespace Go.Proofs.Ytkkfigdfgagimaa
open Go.RowKit
set_option linter.unusedVariables false
set_option linter.unusedSimpArgs false

/-- The form of a route. -/
def formR (add : Bool) (x : RtI) : List Int := if add then putL 4 x.path ++ formP x.pre else formP x.pre
theorem formP_isB {p : PreI} (hB : p.B) (hv : validP p = true) : IsB (formP p) := by
  have hr : rangedB p.fam p.len = true := by unfold validP at hv; simp at hv; exact hv.1
  obtain ⟨l0, l1⟩ := ranged_bd hr
  intro x hx
  unfold formP at hx
  rcases List.mem_cons.1 hx with rfl | hx
  · omega
  · exact (hB.2.2.2.take _) x hx
theorem formP_len {p : PreI} (hv : validP p = true) : (formP p).length ≤ 17 := by
  have hr : rangedB p.fam p.len = true := by unfold validP at hv; simp at hv; exact hv.1
  obtain ⟨l0, l1⟩ := ranged_bd hr
  have := needN_le l0 l1
  unfold formP
  simp
  omega
theorem formR_len {add : Bool} {x : RtI} (hv : validP x.pre = true) : (formR add x).length ≤ 21 := by
  have := formP_len hv
  unfold formR
  cases add
  · simp; omega
  · simp [putL_length]; omega
theorem formR_isB {add : Bool} {x : RtI} (hB : x.B) (hv : validP x.pre = true) : IsB (formR add x) := by
  have := formP_isB hB.2 hv
  unfold formR
  cases add
  · simpa using this
  · simpa using (putL_isB 4 _).append this

/-- What a form leaves: a row of its own. -/
def FormedR (w : World) (xs : List Int) (e : Ending) (w' : World) : Prop := ∃ A c, e = .returned (.slice A xs.length c) ∧ w'.ownsRow w.heap.size 5 1 (.slice A xs.length c) xs.length (bs xs) ∧ Kp NoB w w'

/-- The cells of a route that was boxed. -/
theorem Bk.rt {w : World} {b : Nat} {t : TypeId} {x : RtI} (h : Bk w b t (rtC x).toArray) : w.cell? ⟨b, 0, none⟩ = some (.int .u32 x.path) ∧ w.rangeAt b 1 (preC x.pre) :=
  ⟨h.cell 0, fun j v hv => by
    rw [h.cell (1 + j), ← hv]
    rw [show 1 + j = j + 1 by omega]
    simp [rtC]⟩

/-- Two rows of the call's own, joined. -/
theorem cat_own (W : World) (g : Nat) (A B : Option Addr) (n m ca cb : Nat) (xs ys : List Int) (W1 W2 : World) (b1 b2 : Nat) (h : Bk W g 42 #[.slice A n ca, .slice B m cb])
    (h2 : W2.ownsRow b2 5 1 (.slice A n ca) n (bs xs)) (h1 : W1.ownsRow b1 5 1 (.slice B m cb) m (bs ys)) (k1 : Kp NoB W1 W2) (k2 : Kp NoB W2 W)
    (hn : xs.length = n) (hm : ys.length = m) (hx : IsB xs) (hy : IsB ys) (hl : n + m ≤ 1000000) (zs : List Int) (hz : xs ++ ys = zs) :
    Calls Try.prog 45 #[.slice (some ⟨g, 0, none⟩) 2 2] W (Joined W zs) := by
  subst hz
  obtain ⟨A', c', e1, q1, q2, q3⟩ := own_form h2
  injection e1 with e1 _ e2
  subst e1 e2
  obtain ⟨B', d', e1, r1, r2, r3⟩ := own_form h1
  injection e1 with e1 _ e2
  subst e1 e2
  exact cat_two W g _ _ n m _ _ xs ys h hn hm ⟨q1, q2⟩ ⟨r1, r2⟩ (q3.and k2) ((r3.and k1).and k2) hx hy hl

set_option maxRecDepth 100000 in
set_option maxHeartbeats 4000000 in
theorem form_any (add : Bool) (x : RtI) (w : World) (hB : x.B) (hv : validP x.pre = true) : Calls Try.prog 31 #[.bool add, x.val] w (FormedR w (formR add x)) := by
  have HBY := Lib.hid (fun w => pbytes_good x.pre w hB.2 hv)
  have hl17 := formP_len hv
  have hib := formP_isB hB.2 hv
  obtain ⟨⟨hp0, hp1⟩, -, -, ha, -⟩ := hB
  unfold formR
  unfold PreI.val at HBY
  unfold RtI.val
  have HRT := Lib.hid (fun (W : World) (b : Nat) (h : Bk W b 31 (rtC x).toArray) => h.rt)
  have hi : (Try.prog.info? 29).map (·.size) = some (preC x.pre).length := by rw [preC_length ha]; exact (size_of infoPre).2
  have HI := Lib.hid hi
  obtain ⟨L, hL⟩ : ∃ L, formP x.pre = L := ⟨_, rfl⟩
  rw [hL] at HBY hl17 hib ⊢
  obtain ⟨cs, hcs⟩ : ∃ cs, preC x.pre = cs := ⟨_, rfl⟩
  rw [hcs] at HBY HRT HI
  obtain ⟨rs, hrs⟩ : ∃ rs, (rtC x).toArray = rs := ⟨_, rfl⟩
  rw [hrs] at HRT ⊢
  obtain ⟨path, hpath⟩ : ∃ path, x.path = path := ⟨_, rfl⟩
  rw [hpath] at HRT hp0 hp1 ⊢
  clear hL hcs hrs hpath hi hv ha
  have HB0 := Lib.hid (Bk.fresh w 31 rs)
  obtain ⟨x1, x2⟩ := HRT.out _ _ HB0.out
  have HX := Lib.hid x2
  clear x2
  cases add
  · simp only [Bool.false_eq_true, if_false]
    go_enter Try.func31, Try.ntmps31
    go_wp2_with (first
      | (refine wpList_load_mid rfl 29 (.tmp 10) rfl w.heap.size 1 rfl cs _ HX.out Try.underlying29 rfl HI.out ?_)
      | (go_at_call 48; (with_reducible refine (HBY.out _).mono ?_); rintro e w1 ⟨A1, c1, rfl, hown1, hK1⟩))
    go_ret
    exact ⟨A1, c1, rfl, own_down hown1 (by simp), ((Kp.refl _ _).alloc _).and hK1⟩
  · simp only [if_true]
    have HP := Lib.hid (fun w => put_yes4 path w hp0 (by omega))
    have hl : 4 + L.length ≤ 1000000 := by omega
    obtain ⟨M, hM⟩ : ∃ M, putL 4 path ++ L = M := ⟨_, rfl⟩
    have HM := Lib.hid hM
    rw [hM]
    clear hM
    go_enter Try.func31, Try.ntmps31
    go_wp2_with (first
      | (refine wpList_load_mid rfl 29 (.tmp 10) rfl w.heap.size 1 rfl cs _ HX.out Try.underlying29 rfl HI.out ?_)
      | (go_at_call 48; (with_reducible refine (HBY.out _).mono ?_); rintro e w1 ⟨A1, c1, rfl, hown1, hK1⟩; obtain ⟨z1, -⟩ := HRT.out _ _ (HB0.out.and hK1); replace hK1 := Lib.hid hK1; replace hown1 := Lib.hid hown1)
      | (go_at_call 49; (with_reducible refine (HP.out _).mono ?_); rintro e w2 ⟨A2, c2, rfl, hown2, hK2⟩; replace hK2 := Lib.hid hK2; replace hown2 := Lib.hid hown2)
      | (go_at_call 45; (refine (cat_own _ w2.heap.size A2 A1 4 L.length c2 c1 (putL 4 path) L _ _ _ _ (Bk.fresh w2 _ _) hown2.out hown1.out hK2.out ((Kp.refl _ _).alloc _) (putL_length _ _) rfl (putL_isB _ _) hib hl M HM.out).mono ?_); rintro e w3 ⟨A3, c3, rfl, hown3, hK3⟩))
    go_ret
    exact ⟨A3, c3, rfl, own_down hown3 (by have h1 := hK1.out.size; have h2 := hK2.out.size; simp at h1 ⊢; omega), (((((Kp.refl _ _).alloc _).and hK1.out).and hK2.out).alloc _).and hK3⟩

end Go.Proofs.Ytkkfigdfgagimaa
