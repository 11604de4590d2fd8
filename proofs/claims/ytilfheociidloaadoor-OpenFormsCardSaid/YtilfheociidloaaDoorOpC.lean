/- OPENs compared, given; the chapter's example: contracts by walking the Go text. -/
import Derived.Test.YtilfheociidloaaDoorOpB
import Derived.Test.YtilfheociidloaaDoorCapH
import Derived.Deep.RegionHeld3
namespace Go.Proofs.YtilfheociidloaaDoor
open Go.RowKit
set_option linter.unusedVariables false
set_option linter.unusedSimpArgs false

theorem Kp.set_on {w w1 : World} {b i : Nat} (h : Kp (OnB b) w w1) (u : Value) : Kp (OnB b) w (w1.setCell ⟨b, i, none⟩ u) := h.setCell (p := ⟨b, i, none⟩) (fun _ => rfl) u

set_option maxHeartbeats 1000000 in
theorem alive_any (w : World) : Calls Tryd.prog 5 #[] w (Stay (.bool true) w) := by
  have HB := Lib.hid (obytes_yes ⟨1, 0, 1, []⟩ none 0 [] w ⟨by decide, by decide, by decide⟩ (CapL.nil _) (Arr.nil _ _) (by decide) (by decide))
  have hL : openL ⟨1, 0, 1, []⟩ = [4, 0, 1, 0, 0, 0, 0, 0, 1, 0] := by decide
  rw [hL] at HB
  unfold OpenI.val Formed at HB
  simp only [List.length_nil, List.length_cons, Nat.zero_add, Nat.reduceAdd] at HB
  have HE := Lib.hid (fun w A B c d ha hb => equal_stay A B c d [4, 0, 1, 0, 0, 0, 0, 0, 1, 0] [4, 0, 1, 0, 0, 0, 0, 0, 1, 0] w ha hb (by decide))
  simp only [decide_true, List.length_nil, List.length_cons, Nat.zero_add, Nat.reduceAdd] at HE
  clear hL
  go_enter Tryd.func5, Tryd.ntmps5
  go_wp2_with fail
  refine HB.out.mono ?_
  rintro e w1 ⟨A1, c1, rfl, hown, hK⟩
  replace hown := Lib.hid hown
  go_wp2_with fail
  refine (HE.out _ _ _ _ _ ((Arr.of_own hown.out).alloc _) (Arr.of_bk (Bk.fresh w1 5 (bs [4, 0, 1, 0, 0, 0, 0, 0, 1, 0]).toArray) 10)).mono ?_
  rintro e w2 ⟨rfl, hK2⟩
  go_wp2_with fail
  go_ret
  exact ⟨rfl, (hK.alloc _).and hK2⟩

/-- What the law's Given leaves. -/
def GivenO (T : TypeId) (o : OpenI) (cs : List Value) (w : World) (e : Ending) (w' : World) : Prop :=
  ∃ A c, e = .returned (o.val A c) ∧ w'.ownsRow w.heap.size T 2 (.slice A o.caps.length c) o.caps.length cs ∧ Kp NoB w w'

set_option maxRecDepth 100000 in
set_option maxHeartbeats 4000000 in
theorem ogiven_any (o : OpenI) (A : Option Addr) (c : Nat) (cs : List Value) (w : World) (hx : CapL w o.caps cs) (ha : Arr w A cs) (hl : o.caps.length ≤ 1000000) :
    Calls Tryd.prog 7 #[o.val A c] w (GivenO 77 o cs w) := by
  obtain ⟨s, h, i, caps⟩ := o
  unfold OpenI.val
  simp only at hx hl ⊢
  have HG := Lib.hid (fun w' (k : Kp NoB w w') => given_any A c caps cs w' (hx.and k) (ha.and k) hl)
  have HF : Hid (∀ (A' : Option Addr) (c' : Nat) (e : Ending) (w1 w' : World), w1.ownsRow w.heap.size 77 2 (.slice A' caps.length c') caps.length cs → Kp (OnB (w.heap.size + 1)) w1 w' → Kp NoB w w1 → e = .returned (.agg #[.int .u32 s, .int .i64 h, .int .u32 i, .slice A' caps.length c']) → w.heap.size + 1 < w1.heap.size → (¬ some (w.heap.size + 1) = (Value.slice A' caps.length c').ownBlock) → GivenO 77 ⟨s, h, i, caps⟩ cs w e w') := Lib.hid (fun A' c' e w1 w' hown k1 k2 he hlt hne => ⟨A', c', he, k1.own hown (fun b hb hq => hne (by rw [hb, show b = w.heap.size + 1 from hq])), k2.new k1 (by omega)⟩)
  obtain ⟨n, hn⟩ : ∃ n, caps.length = n := ⟨_, rfl⟩
  simp only [hn] at HG HF ⊢
  clear hx ha hl hn
  have hb0 := Lib.hid ((Bk.fresh w 25 #[.int .u32 s, .int .i64 h, .int .u32 i, .slice A n c]).alloc (.cells #[.int .u32 0, .int .i64 0, .int .u32 0, .slice none 0 0] 33))
  have hb1 := Lib.hid (Bk.second w (.cells #[.int .u32 s, .int .i64 h, .int .u32 i, .slice A n c] 25) 33 #[.int .u32 0, .int .i64 0, .int .u32 0, .slice none 0 0])
  have hk0 := Lib.hid (((Kp.refl NoB w).alloc (.cells #[.int .u32 s, .int .i64 h, .int .u32 i, .slice A n c] 25)).alloc (.cells #[.int .u32 0, .int .i64 0, .int .u32 0, .slice none 0 0] 33))
  obtain ⟨x1, x2, x3, x4, x5, x6, x7, x8, x9⟩ := hb0.out.four
  obtain ⟨y1, y2, y3, y4, y5, y6, y7, y8, y9⟩ := hb1.out.four
  go_enter Tryd.func7, Tryd.ntmps7
  go_wp2_with fail
  go_region_held3 (fun w' => w'.cell? ⟨w.heap.size, 0, none⟩ = some (.int .u32 s) ∧ w'.cell? ⟨w.heap.size, 1, none⟩ = some (.int .i64 h) ∧ w'.cell? ⟨w.heap.size, 2, none⟩ = some (.int .u32 i) ∧ w'.cell? ⟨w.heap.size, 3, none⟩ = some (.slice A n c)) (go_keep)
    (first
      | (go_at_call 20; refine (HG.out _ (hk0.out.drew)).mono ?_; rintro e w1 ⟨A1, c1, rfl, hown1, hK1⟩; obtain ⟨z1, z2, z3, z4, z5, z6, z7, z8, z9⟩ := ((hb0.out.drewN 1).and hK1).four; obtain ⟨u1, u2, u3, u4, u5, u6, u7, u8, u9⟩ := ((hb1.out.drewN 1).and hK1).four; replace hown1 := Lib.hid hown1; replace hK1 := Lib.hid hK1))
  go_wp2_with fail
  have hsz : (((w.alloc (.cells #[.int .u32 s, .int .i64 h, .int .u32 i, .slice A n c] 25)).alloc (.cells #[.int .u32 0, .int .i64 0, .int .u32 0, .slice none 0 0] 33)).drew).heap.size = w.heap.size + 1 + 1 := by
    show ((w.alloc _).alloc _).heap.size = _
    simp
  have hs1 := hK1.out.size
  have ho := hown1.out
  rw [hsz] at hs1 ho
  refine bodyPost_ret (v := .agg #[.int .u32 s, .int .i64 h, .int .u32 i, .slice A1 n c1]) (by simp [results, Tryd.results7, go_sem, *]) rfl ?_
  exact HF.out A1 c1 _ w1 _ (own_le ho (by omega)) ((((Kp.refl (OnB (w.heap.size + 1)) w1).set_on _).set_on _).set_on _ |>.set_on _) ((hk0.out.drew).and hK1.out) rfl (by omega) (own_ge ho (by omega))

def eqO (a b : OpenI) : Bool := decide (a.sys = b.sys) && decide (a.hold = b.hold) && decide (a.id = b.id) && decide (a.caps = b.caps)
theorem eqO_eq (a b : OpenI) : eqO a b = decide (a = b) := by
  obtain ⟨s, h, i, c⟩ := a
  obtain ⟨s', h', i', c'⟩ := b
  unfold eqO
  rw [Bool.eq_iff_iff]
  simp [and_assoc]

set_option maxRecDepth 100000 in
set_option maxHeartbeats 4000000 in
theorem rsame17_any (a b : OpenI) (A B : Option Addr) (c d : Nat) (cs ds : List Value) (w : World) (hx : CapL w a.caps cs) (ha : Arr w A cs) (hy : CapL w b.caps ds) (hb : Arr w B ds) (hn : a.caps.length ≤ 1000000) (hm : b.caps.length ≤ 1000000) :
    Calls Tryd.prog 15 #[a.val A c, b.val B d] w (Stay (.bool (eqO a b)) w) := by
  have HS := Lib.hid (fun w' (k : Kp NoB w w') => rsame16_any A B c d a.caps b.caps cs ds w' (hx.and k) (ha.and k) (hy.and k) (hb.and k) hn hm)
  obtain ⟨s, h, i, xs⟩ := a
  obtain ⟨s', h', i', ys⟩ := b
  unfold OpenI.val eqO
  simp only at HS hx hy hn hm ⊢
  obtain ⟨n, hnn⟩ : ∃ n, xs.length = n := ⟨_, rfl⟩
  obtain ⟨m, hmm⟩ : ∃ n, ys.length = n := ⟨_, rfl⟩
  obtain ⟨q, hq⟩ : ∃ q, decide (xs = ys) = q := ⟨_, rfl⟩
  simp only [hnn, hmm, hq] at HS ⊢
  clear hx ha hy hb hn hm hnn hmm hq
  have hk0 := Lib.hid (((Kp.refl NoB w).alloc (.cells #[.int .u32 s, .int .i64 h, .int .u32 i, .slice A n c] 25)).alloc (.cells #[.int .u32 s', .int .i64 h', .int .u32 i', .slice B m d] 25))
  obtain ⟨x1, x2, x3, x4, x5, x6, x7, x8, x9⟩ := ((Bk.fresh w 25 #[.int .u32 s, .int .i64 h, .int .u32 i, .slice A n c]).alloc (.cells #[.int .u32 s', .int .i64 h', .int .u32 i', .slice B m d] 25)).four
  obtain ⟨y1, y2, y3, y4, y5, y6, y7, y8, y9⟩ := (Bk.second w (.cells #[.int .u32 s, .int .i64 h, .int .u32 i, .slice A n c] 25) 25 #[.int .u32 s', .int .i64 h', .int .u32 i', .slice B m d]).four
  by_cases h1 : s = s'
  · have e1 : (s == s') = true := by rw [h1]; simp
    have f1 : decide (s = s') = true := decide_eq_true h1
    by_cases h2 : h = h'
    · have e2 : (h == h') = true := by rw [h2]; simp
      have f2 : decide (h = h') = true := decide_eq_true h2
      by_cases h3 : i = i'
      · have e3 : (i == i') = true := by rw [h3]; simp
        have f3 : decide (i = i') = true := decide_eq_true h3
        rw [f1, f2, f3]
        simp only [Bool.true_and]
        clear h1 h2 h3
        go_enter Tryd.func15, Tryd.ntmps15
        go_wp2_with fail
        refine (HS.out _ hk0.out).mono ?_
        rintro e w1 ⟨rfl, hK1⟩
        go_wp2_with fail
        go_ret
        exact ⟨rfl, hk0.out.and hK1⟩
      · have e3 : (i == i') = false := by simp [h3]
        have f3 : decide (i = i') = false := decide_eq_false h3
        rw [f1, f2, f3]
        simp only [Bool.true_and, Bool.false_and]
        clear h1 h2 h3
        go_enter Tryd.func15, Tryd.ntmps15
        go_wp2_with fail
        go_ret
        exact ⟨rfl, hk0.out⟩
    · have e2 : (h == h') = false := by simp [h2]
      have f2 : decide (h = h') = false := decide_eq_false h2
      rw [f1, f2]
      simp only [Bool.true_and, Bool.false_and]
      clear h1 h2
      go_enter Tryd.func15, Tryd.ntmps15
      go_wp2_with fail
      go_ret
      exact ⟨rfl, hk0.out⟩
  · have e1 : (s == s') = false := by simp [h1]
    have f1 : decide (s = s') = false := decide_eq_false h1
    rw [f1]
    simp only [Bool.false_and]
    clear h1
    go_enter Tryd.func15, Tryd.ntmps15
    go_wp2_with fail
    go_ret
    exact ⟨rfl, hk0.out⟩

end Go.Proofs.YtilfheociidloaaDoor
