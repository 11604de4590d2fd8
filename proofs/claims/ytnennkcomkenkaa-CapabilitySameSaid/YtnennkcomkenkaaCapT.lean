/- The walk of the law CapabilitySame: it returns true and makes only new blocks, for all capabilities. -/
import Derived.Test.YtnennkcomkenkaaCapJ
import Derived.Test.YtnennkcomkenkaaCapS
namespace Go.Proofs.Ytnennkcomkenkaa
open Go.RowKit
set_option linter.unusedVariables false
set_option linter.unusedSimpArgs false

/-- Bytes, whatever they are. -/
def Byts (zs : List Value) : Prop := ∀ z ∈ zs, ∃ x, z = .int .u8 x
/-- A capability whose bytes, whatever they are, lie in a row of the call's own. -/
def CapM (base : Nat) (w : World) (a b : Value) : Prop := ∃ k A c m zs, a = .int .i64 k ∧ b = .slice A m c ∧ m ≤ c ∧ c ≤ maxLen ∧ w.ownsRow base 5 1 (.slice A m c) m zs ∧ Byts zs
def CapML (base : Nat) (w : World) (n : Nat) (cs : List Value) : Prop := ∀ j, j < n → ∃ a b, cs[2 * j]? = some a ∧ cs[2 * j + 1]? = some b ∧ CapM base w a b
theorem caps_len (xs : List CapI) : xs.length ≤ (formC xs).length := by
  induction xs with
  | nil => exact Nat.zero_le _
  | cons x xs ih => simp only [formC, List.flatMap_cons, List.length_append, List.length_cons] at ih ⊢; omega
theorem CapOL.ml {base : Nat} {w : World} {xs : List CapI} {cs : List Value} (h : CapOL base w xs cs) : CapML base w xs.length cs := fun j hj => by
  obtain ⟨a, b, h1, h2, h3, _, A, c, h4, h5, _⟩ := h.2 j _ (List.getElem?_eq_getElem hj)
  obtain ⟨A', c', e, h6, h7, _⟩ := own_form h5
  injection e with e1 _ e3
  subst e1 e3
  exact ⟨a, b, h1, h2, _, A, c, _, _, h3, h4, h6, h7, h5, fun z hz => by
    simp only [bs, List.mem_map] at hz
    obtain ⟨x, _, rfl⟩ := hz
    exact ⟨x, rfl⟩⟩
theorem CapM.and {base : Nat} {w w' : World} {a b : Value} (h : CapM base w a b) (k : Kp NoB w w') : CapM base w' a b := by
  obtain ⟨k', A, c, m, zs, h1, h2, h3, h4, h5, h6⟩ := h
  exact ⟨k', A, c, m, zs, h1, h2, h3, h4, k.own h5 (fun _ _ q => q), h6⟩
theorem CapML.and {base n : Nat} {w w' : World} {cs : List Value} (h : CapML base w n cs) (k : Kp NoB w w') : CapML base w' n cs := fun j hj => by
  obtain ⟨a, b, h1, h2, h3⟩ := h j hj
  exact ⟨a, b, h1, h2, h3.and k⟩
/-- A byte is stored somewhere. -/
theorem own_set_any {w : World} {base m : Nat} {A : Option Addr} {c : Nat} {zs : List Value} (h : w.ownsRow base 5 1 (.slice A m c) m zs) (hz : Byts zs) (g j : Nat) (y : Int) :
    ∃ zs', (w.setCell ⟨g, j, none⟩ (.int .u8 y)).ownsRow base 5 1 (.slice A m c) m zs' ∧ Byts zs' := by
  by_cases hg : A = some ⟨g, 0, none⟩
  · subst hg
    exact ⟨_, own_set h j _, fun z' hz' => by
      rcases List.mem_or_eq_of_mem_set hz' with h | h
      · exact hz _ h
      · exact ⟨_, h⟩⟩
  · refine ⟨zs, ((Kp.refl (OnB g) w).setCell (p := ⟨g, j, none⟩) (fun _ => rfl) (.int .u8 y)).own h (fun b hb hq => hg ?_), hz⟩
    rcases h.2 with ⟨he, _⟩ | ⟨g', cap, cur, hv, _⟩
    · injection he with he
      subst he
      cases hb
    · injection hv with hv
      subst hv
      have h1 : g' = b := by injection hb
      have h2 : b = g := hq
      rw [h1, h2]
theorem CapML.set {base n : Nat} {w : World} {cs : List Value} (h : CapML base w n cs) (g j : Nat) (y : Int) : CapML base (w.setCell ⟨g, j, none⟩ (.int .u8 y)) n cs := fun i hi => by
  obtain ⟨a, b, h1, h2, k', A, c, m, zs, h3, h4, h5, h6, h7, h8⟩ := h i hi
  obtain ⟨zs', h9, h10⟩ := own_set_any h7 h8 g j y
  exact ⟨a, b, h1, h2, k', A, c, m, zs', h3, h4, h5, h6, h9, h10⟩

set_option maxRecDepth 100000 in
set_option maxHeartbeats 8000000 in
theorem same_core (A B : Option Addr) (c d : Nat) (xs ys zs : List CapI) (ok : Bool) (cs ds : List Value) (w : World) (hx : CapL w xs cs) (ha : Arr w A cs) (hy : CapL w ys ds) (hb : Arr w B ds) (hfx : fewB xs = true) (hfy : fewB ys = true)
    (hv : validB zs = true) (hzb : IsB (formC zs)) (hzl : (formC zs).length ≤ 100000)
    (HB : ∀ w', Kp NoB w w' → Calls Try.prog 10 #[.slice A xs.length c] w' fun e w'' => ∃ A2 c2, e = .returned (.tuple #[.slice A2 (formC zs).length c2, .bool ok]) ∧ Arr w'' A2 (bs (formC zs)) ∧ Kp NoB w' w'') :
    Calls Try.prog 5 #[.slice A xs.length c, .slice B ys.length d] w (Stay (.bool true) w) := by
  obtain ⟨hnx, _⟩ := few_len hfx
  obtain ⟨hny, _⟩ := few_len hfy
  have hnz := caps_len zs
  have H1 := Lib.hid (fun w' (k : Kp NoB w w') => rfew_any A c xs cs w' (hx.and k) (ha.and k) (Nat.le_trans hnx (by decide)))
  rw [hfx] at H1
  have H1b := Lib.hid (fun w' (k : Kp NoB w w') => rfew_any B d ys ds w' (hy.and k) (hb.and k) (Nat.le_trans hny (by decide)))
  rw [hfy] at H1b
  have H2 := Lib.hid HB
  have H3 := Lib.hid (fun w' A' c' (h : Arr w' A' (bs (formC zs))) => clone_any A' c' (formC zs) w' (by omega) h)
  have H4 := Lib.hid (fun w' A' c' (h : Arr w' A' (bs (formC zs))) => read_yes A' c' (formC zs) zs w' hzl h hzb hv rfl)
  have HA := Lib.hid alive_any
  have H5 := Lib.hid (fun w' (k : Kp NoB w w') => given_any A c xs cs w' (hx.and k) (ha.and k) (by omega))
  have H5b := Lib.hid (fun w' (k : Kp NoB w w') => given_any B d ys ds w' (hy.and k) (hb.and k) (by omega))
  have H6 := Lib.hid (fun w' A' B' c' d' (k : Kp NoB w w') (h : Arr w' A' cs) (h' : Arr w' B' ds) => same_any A' B' c' d' xs ys cs ds w' (hx.and k) h (hy.and k) h' (by omega) (by omega))
  have H7 := Lib.hid (fun w' (k : Kp NoB w w') => rsame16_any A B c d xs ys cs ds w' (hx.and k) (ha.and k) (hy.and k) (hb.and k) (by omega) (by omega))
  have H8 := Lib.hid (fun w' A' B' c' d' (k : Kp NoB w w') (h : Arr w' A' cs) (h' : Arr w' B' cs) => same_any A' B' c' d' xs xs cs cs w' (hx.and k) h (hx.and k) h' (by omega) (by omega))
  simp only [decide_true] at H8
  have H9 := Lib.hid (fun w' A' B' c' d' (h : Arr w' A' (bs (formC zs))) (h' : Arr w' B' (bs (formC zs))) => equal_stay A' B' c' d' (formC zs) (formC zs) w' h h' (by omega))
  simp only [decide_true] at H9
  obtain ⟨b, hbb⟩ : ∃ b, decide (xs = ys) = b := ⟨_, rfl⟩
  rw [hbb] at H6 H7
  obtain ⟨n, hn⟩ : ∃ n, xs.length = n := ⟨_, rfl⟩
  obtain ⟨m, hm⟩ : ∃ n, ys.length = n := ⟨_, rfl⟩
  obtain ⟨l, hl⟩ : ∃ n, zs.length = n := ⟨_, rfl⟩
  unfold ReadYes at H4
  unfold Cloned at H3
  have hML : Hid (∀ (base : Nat) (w' : World) (es : List Value), CapOL base w' zs es → CapML base w' l es) := Lib.hid (fun base w' es h => by rw [← hl]; exact h.ml)
  simp only [hn, hm, hl] at H1 H1b H2 H4 H5 H5b H6 H7 H8 hnz ⊢
  obtain ⟨F, hF⟩ : ∃ F, formC zs = F := ⟨_, rfl⟩
  rw [hF] at H2 H3 H4 H9 hnz hzl
  obtain ⟨fl, hfl⟩ : ∃ f, F.length = f := ⟨_, rfl⟩
  simp only [hfl] at H2 H3 H4 H9 hnz hzl
  clear hfl hF hn hm hl hbb hx ha hy hb hfx hfy hv hzb HB hnx hny
  go_enter Try.func5, Try.ntmps5
  go_wp2_with fail
  refine (H1.out _ (Kp.refl _ _)).mono ?_
  rintro e w1 ⟨rfl, rfl⟩
  go_wp2_with fail
  refine (H1b.out _ (Kp.refl _ _)).mono ?_
  rintro e w1 ⟨rfl, rfl⟩
  go_wp2_with fail
  refine (H2.out _ (Kp.refl _ _)).mono ?_
  rintro e w1 ⟨A1, c1, rfl, harr1, hK1⟩
  replace harr1 := Lib.hid harr1
  go_wp2_with fail
  refine (H3.out _ _ _ harr1.out).mono ?_
  rintro e w2 ⟨A2, c2, rfl, hown2, hK2⟩
  replace hown2 := Lib.hid hown2
  have k2 := hK1.and hK2
  go_wp2_with fail
  refine (H4.out _ _ _ (Arr.of_own hown2.out)).mono ?_
  rintro e w3 ⟨A3, c3, es, rfl, hown3, hcap3, hK3⟩
  have k3 := k2.and hK3
  replace hown3 := Lib.hid hown3
  replace hcap3 := Lib.hid (hML.out _ _ _ hcap3)
  go_wp2_with fail
  go_loopw [36] (fun i wr => ∃ j : Nat, j ≤ l ∧ i = .int .i64 j ∧ Hid (Kp NoB w2 wr ∧ wr.ownsRow w2.heap.size 42 2 (.slice A3 l c3) l es ∧ CapML w2.heap.size wr l es)) (fun i _ => l - (intOf i).toNat)
  case atStart => exact ⟨0, Nat.zero_le _, rfl, Lib.hid ⟨hK3, hown3.out, hcap3.out⟩⟩
  case round =>
    obtain ⟨j, hj, rfl, HO⟩ := hrel
    obtain ⟨wo, rfl⟩ : ∃ wo, wo = wr := ⟨_, rfl⟩
    by_cases hlt : j < l
    · obtain ⟨a, b', h1, h2, k, A4, c4, m4, zs4, rfl, rfl, hmc, hcm, hown4, hz4⟩ := HO.out.2.2 j hlt
      obtain ⟨ad, rfl, q1⟩ := (Arr.of_own HO.out.2.1).at h1
      obtain ⟨ad', e2, q2⟩ := (Arr.of_own HO.out.2.1).at h2
      obtain rfl : ad = ad' := by injection e2
      rw [show 2 * j = j * 2 by omega] at q1
      rw [show 2 * j + 1 = j * 2 + 1 by omega, add_field ad (j * 2) 1 (by decide)] at q2
      obtain ⟨y1, y2, y3, y4, y5⟩ := (Bk.fresh wo 42 #[.int .i64 k, .slice A4 m4 c4]).two
      have hm63 : m4 ≤ 9223372036854775807 := by
        unfold maxLen at hcm
        omega
      have hown4 := Lib.hid hown4
      have hz4 := Lib.hid hz4
      clear h1 h2 e2
      go_wp2_with fail
      go_loopw [43] (fun i wr2 => ∃ i2 : Nat, i2 ≤ m4 ∧ i = .int .i64 i2 ∧ Hid (Bk wr2 wo.heap.size 42 #[.int .i64 k, .slice A4 m4 c4] ∧ Kp NoB w2 wr2 ∧ wr2.ownsRow w2.heap.size 42 2 (.slice (some ad) l c3) l es ∧ CapML w2.heap.size wr2 l es ∧ ∃ zs4, wr2.ownsRow w2.heap.size 5 1 (.slice A4 m4 c4) m4 zs4 ∧ Byts zs4)) (fun i _ => m4 - (intOf i).toNat)
      case atStart => exact ⟨0, Nat.zero_le _, rfl, Lib.hid ⟨Bk.fresh _ _ _, HO.out.1.alloc _, HO.out.2.1.alloc _, HO.out.2.2.and ((Kp.refl _ _).alloc _), zs4, hown4.out.alloc _, hz4.out⟩⟩
      case round =>
        clear y1 y2 y3 y4 y5
        obtain ⟨i2, hi2, rfl, HI⟩ := hrel
        by_cases hlt2 : i2 < m4
        · obtain ⟨hB, hK, hro, hml, zs5, hr5, hz5⟩ := HI.out
          obtain ⟨y1, y2, y3, y4, y5⟩ := hB.two
          obtain ⟨g, rfl, hg, hgs, hcell, hfz⟩ := own_at hr5 (by omega)
          obtain ⟨z, hzj⟩ : ∃ z, zs5[i2]? = some z := ⟨_, List.getElem?_eq_getElem (by rw [hr5.1]; omega)⟩
          obtain ⟨x, rfl⟩ := hz5 z (List.mem_of_getElem? hzj)
          have q3 := hcell i2 _ hzj
          have q4 := hfz i2
          have hne : ¬ OnB g wo.heap.size := fun hq => by
            have hq' : wo.heap.size = g := hq
            rw [hq'] at hB
            exact own_bk hr5 hB (by decide) rfl
          have HS : Hid (∀ y, (Bk (wr.setCell ⟨g, i2, none⟩ (.int .u8 y)) wo.heap.size 42 #[.int .i64 k, .slice (some ⟨g, 0, none⟩) m4 c4] ∧ Kp NoB w2 (wr.setCell ⟨g, i2, none⟩ (.int .u8 y)) ∧ (wr.setCell ⟨g, i2, none⟩ (.int .u8 y)).ownsRow w2.heap.size 42 2 (.slice (some ad) l c3) l es ∧ CapML w2.heap.size (wr.setCell ⟨g, i2, none⟩ (.int .u8 y)) l es ∧ ∃ zs4, (wr.setCell ⟨g, i2, none⟩ (.int .u8 y)).ownsRow w2.heap.size 5 1 (.slice (some ⟨g, 0, none⟩) m4 c4) m4 zs4 ∧ Byts zs4)) := Lib.hid (fun y => by
            have hk : Kp (OnB g) wr (wr.setCell ⟨g, i2, none⟩ (.int .u8 y)) := (Kp.refl (OnB g) wr).setCell (p := ⟨g, i2, none⟩) (fun _ => rfl) _
            exact ⟨hB.keep hk hne, hK.setCell (p := ⟨g, i2, none⟩) (fun hq => by have hq' : g < w2.heap.size := hq; omega) _, hk.own hro (fun b hb hq => by
              have hq' : b = g := hq
              subst hq'
              exact own_two hr5 hro (by decide) b rfl hb.symm), hml.set g i2 y, own_set_any hr5 hz5 g i2 y⟩)
          clear hB hK hro hml hr5 hz5 hcell hfz hzj hne HI
          go_wp2
          go_roundw
          case rel => exact ⟨i2 + 1, by omega, by go_num, Lib.hid (HS.out _)⟩
          case measure => simp [intOf]; omega
        · go_wp2
          go_roundw
          case rel => exact ⟨j + 1, by omega, by go_num, Lib.hid ⟨HI.out.2.1, HI.out.2.2.1, HI.out.2.2.2.1⟩⟩
          case measure => simp [intOf]; omega
    · have k4 := Lib.hid (k2.and HO.out.1)
      have hr4 := Lib.hid ((Arr.of_own hown2.out).and HO.out.1)
      have ha4 := Lib.hid ((harr1.out.and hK2).and HO.out.1)
      clear HO hown3 hcap3
      go_wp2_with fail
      refine (HA.out _).mono ?_
      rintro e w5 ⟨rfl, hK5⟩
      have k5 := k4.out.and hK5
      go_wp2_with fail
      refine (H5.out _ k5).mono ?_
      rintro e w6 ⟨A6, c6, rfl, hown6, hK6⟩
      replace hown6 := Lib.hid hown6
      have k6 := k5.and hK6
      go_wp2_with fail
      refine (H5b.out _ k6).mono ?_
      rintro e w7 ⟨A7, c7, rfl, hown7, hK7⟩
      replace hown7 := Lib.hid hown7
      have k7 := k6.and hK7
      go_wp2_with fail
      refine (H6.out _ _ _ _ _ k7 ((Arr.of_own hown6.out).and hK7) (Arr.of_own hown7.out)).mono ?_
      rintro e w8 ⟨rfl, hK8⟩
      have k8 := k7.and hK8
      go_wp2_with fail
      refine (H7.out _ k8).mono ?_
      rintro e w9 ⟨rfl, hK9⟩
      have k9 := k8.and hK9
      go_wp2_with fail
      refine (H5.out _ k9).mono ?_
      rintro e w10 ⟨A10, c10, rfl, hown10, hK10⟩
      replace hown10 := Lib.hid hown10
      have k10 := k9.and hK10
      go_wp2_with fail
      refine (H5.out _ k10).mono ?_
      rintro e w11 ⟨A11, c11, rfl, hown11, hK11⟩
      replace hown11 := Lib.hid hown11
      have k11 := k10.and hK11
      go_wp2_with fail
      refine (H8.out _ _ _ _ _ k11 ((Arr.of_own hown10.out).and hK11) (Arr.of_own hown11.out)).mono ?_
      rintro e w12 ⟨rfl, hK12⟩
      have k12 := k11.and hK12
      cases ok
      · go_wp2_with fail
        go_ret
        exact ⟨rfl, k12⟩
      · go_wp2_with fail
        refine (H9.out _ _ _ _ _ ((((((((hr4.out.and hK5).and hK6).and hK7).and hK8).and hK9).and hK10).and hK11).and hK12) ((((((((ha4.out.and hK5).and hK6).and hK7).and hK8).and hK9).and hK10).and hK11).and hK12)).mono ?_
        rintro e w13 ⟨rfl, hK13⟩
        go_wp2_with fail
        go_ret
        exact ⟨rfl, k12.and hK13⟩

theorem same_row (A : Option Addr) (n c : Nat) (xs : List CapI) (B : Option Addr) (m d : Nat) (ys : List CapI) (w : World) (h : InCaps w A n c xs) (h' : InCaps w B m d ys) :
    Calls Try.prog 5 #[.slice A n c, .slice B m d] w (Stay (.bool true) w) := by
  obtain ⟨rfl, hn, hc, cs, hx, ha⟩ := h
  obtain ⟨rfl, hm, hd, ds, hy, hb⟩ := h'
  by_cases hfx : fewB xs = true
  · by_cases hfy : fewB ys = true
    · obtain ⟨hnx, hfl⟩ := few_len hfx
      by_cases hv : validB xs = true
      · exact same_core A B c d xs ys xs true cs ds w hx ha hy hb hfx hfy hv (form_isB hv hx.isB) hfl (fun w' k => (rbytes_yes A c xs cs w' (hx.and k) (ha.and k) (by omega) hv (by omega)).mono fun e w'' ⟨A2, c2, h1, h2, h3⟩ => ⟨A2, c2, h1, Arr.of_own h2, h3⟩)
      · exact same_core A B c d xs ys [] false cs ds w hx ha hy hb hfx hfy rfl IsB.nil (by decide) (fun w' k => (rbytes_no A c xs cs w' (hx.and k) (ha.and k) (by omega) (by simpa using hv)).mono fun e w'' ⟨h1, h2⟩ => ⟨none, 0, h1, Arr.nil _ _, h2⟩)
    · have H1 := Lib.hid (rfew_any A c xs cs w hx ha (Nat.le_trans hn hc))
      rw [hfx] at H1
      have H2 := Lib.hid (rfew_any B d ys ds w hy hb (Nat.le_trans hm hd))
      rw [show fewB ys = false by simpa using hfy] at H2
      have HA := Lib.hid alive_any
      obtain ⟨n, hnn⟩ : ∃ n, xs.length = n := ⟨_, rfl⟩
      obtain ⟨m, hmm⟩ : ∃ n, ys.length = n := ⟨_, rfl⟩
      rw [hnn] at H1 ⊢
      rw [hmm] at H2 ⊢
      clear hnn hmm hx ha hy hb hfx hfy hn hc hm hd
      go_enter Try.func5, Try.ntmps5
      go_wp2_with fail
      refine H1.out.mono ?_
      rintro e w1 ⟨rfl, rfl⟩
      go_wp2_with fail
      refine H2.out.mono ?_
      rintro e w1 ⟨rfl, rfl⟩
      go_wp2_with fail
      refine (HA.out _).mono ?_
      rintro e w8 ⟨rfl, hK8⟩
      go_wp2_with fail
      go_ret
      exact ⟨rfl, hK8⟩
  · have H1 := Lib.hid (rfew_any A c xs cs w hx ha (Nat.le_trans hn hc))
    rw [show fewB xs = false by simpa using hfx] at H1
    have HA := Lib.hid alive_any
    obtain ⟨n, hnn⟩ : ∃ n, xs.length = n := ⟨_, rfl⟩
    obtain ⟨m, hmm⟩ : ∃ n, ys.length = n := ⟨_, rfl⟩
    rw [hnn] at H1 ⊢
    rw [hmm]
    clear hnn hmm hx ha hy hb hfx hn hc hm hd
    go_enter Try.func5, Try.ntmps5
    go_wp2_with fail
    refine H1.out.mono ?_
    rintro e w1 ⟨rfl, rfl⟩
    go_wp2_with fail
    refine (HA.out _).mono ?_
    rintro e w8 ⟨rfl, hK8⟩
    go_wp2_with fail
    go_ret
    exact ⟨rfl, hK8⟩

end Go.Proofs.Ytnennkcomkenkaa
