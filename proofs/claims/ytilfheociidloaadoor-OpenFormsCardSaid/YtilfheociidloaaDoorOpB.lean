/- open.Bytes: its contracts by walking the Go text. Printed by tools/opb.py. -/
import Derived.Test.YtilfheociidloaaDoorOpA
namespace Go.Proofs.YtilfheociidloaaDoor
open Go.RowKit
set_option linter.unusedVariables false
set_option linter.unusedSimpArgs false

/-- The form of an OPEN. -/
def asL (s : Int) : List Int := if s ≤ 65535 then putL 2 s else putL 2 23456
def paramL (F : List Int) : List Int := if F = [] then [] else 2 :: (F.length : Int) :: F
def openL (o : OpenI) : List Int := 4 :: (asL o.sys ++ (putL 2 o.hold ++ (putL 4 o.id ++ (((paramL (formC o.caps)).length : Int) :: paramL (formC o.caps)))))

theorem ByE.part {w : World} {ys : List Int} {u : Value} (h : ByE w ys [u]) : PartB w w ys u := by
  obtain ⟨A, c, h1, h2, h3, h4, h5⟩ := h
  injection h1 with h1
  exact ⟨A, c, h1, h2, h3, h5, .inl h4⟩
theorem byE_own {w : World} {base n c : Nat} {A : Option Addr} {ys : List Int} (h : w.ownsRow base 5 1 (.slice A n c) n (bs ys)) (hn : ys.length = n) (hb : IsB ys) : ByE w ys [.slice A n c] := by
  obtain ⟨A', c', e, h1, h2, h3⟩ := own_form h
  injection e with e1 _ e3
  subst e1 e3 hn
  exact ⟨A, c, rfl, h1, h2, h3, hb⟩
theorem byE_lit (w : World) (b : Nat) (ys : List Int) (h : Bk w b 5 (bs ys).toArray) (hm : ys.length ≤ 1000) (hb : IsB ys) (n : Nat) (hn : ys.length = n) : ByE w ys [.slice (some ⟨b, 0, none⟩) n n] := by
  subst hn
  refine ⟨_, _, rfl, Nat.le_refl _, by unfold maxLen; omega, ?_, hb⟩
  have := Arr.of_bk h (bs ys).length
  simpa using this
/-- A slice of byte strings in a block. -/
theorem sl_of {w : World} {b : Nat} {T : TypeId} {us : List Value} {xss : List (List Int)} (h : PartL w w xss us) (hB : Bk w b T us.toArray) : Sl ByE 1 w (some ⟨b, 0, none⟩) xss := by
  refine h.sl (Kp.refl _ _) ?_
  have := Arr.of_bk hB us.length
  simpa using this
theorem Formed.ret {w w1 w' : World} {xs : List Int} {A : Option Addr} {c n : Nat} (hn : xs.length = n) (h : w'.ownsRow w1.heap.size 5 1 (.slice A n c) n (bs xs)) (k1 : Kp NoB w w1) (k : Kp NoB w1 w') (e : Ending) (he : e = .returned (.tuple #[.slice A n c, .bool true])) : Formed w xs e w' := by
  subst hn
  exact formed_of h k1 k e he

theorem param_isB {F : List Int} (h : IsB F) (hl : F.length ≤ 253) : IsB (paramL F) := by
  unfold paramL
  split
  · exact IsB.nil
  · intro z hz
    simp only [List.mem_cons] at hz
    rcases hz with rfl | rfl | hz
    · omega
    · omega
    · exact h z hz
theorem param_len (F : List Int) (hl : F.length ≤ 253) : (paramL F).length ≤ 255 := by
  unfold paramL
  split
  · exact Nat.zero_le _
  · simp only [List.length_cons]; omega

set_option maxRecDepth 100000 in
set_option maxHeartbeats 8000000 in
theorem obytes_no (o : OpenI) (A : Option Addr) (c : Nat) (cs : List Value) (w : World) (hb : o.B) (hx : CapL w o.caps cs) (ha : Arr w A cs) (hl : o.caps.length ≤ 1000000) (hf : (formC o.caps).length ≤ 100000) (hv : validO o = false) :
    Calls Tryd.prog 6 #[o.val A c] w (Stay (.tuple #[.slice none 0 0, .bool false]) w) := by
  have hk0 := (Kp.refl NoB w).alloc (.cells #[.int .u32 o.sys, .int .i64 o.hold, .int .u32 o.id, .slice A o.caps.length c] 33)
  have HV := Lib.hid (ovalid_any o A c cs _ hb (hx.and hk0) (ha.and hk0) hl hf)
  rw [hv] at HV
  obtain ⟨x1, x2, x3, x4, x5, x6, x7, x8, x9⟩ := (Bk.fresh w 33 #[.int .u32 o.sys, .int .i64 o.hold, .int .u32 o.id, .slice A o.caps.length c]).four
  have hk0 := Lib.hid hk0
  obtain ⟨s, h, i, caps⟩ := o
  unfold OpenI.val at HV ⊢
  simp only at HV x1 x2 x3 x4 hk0 ⊢
  obtain ⟨n, hn⟩ : ∃ n, caps.length = n := ⟨_, rfl⟩
  simp only [hn] at HV x1 x2 x3 x4 x5 x6 x7 x8 x9 hk0 ⊢
  clear hx ha hb hl hf hv hn
  go_enter Tryd.func6, Tryd.ntmps6
  go_wp2_with fail
  refine HV.out.mono ?_
  rintro e w1 ⟨rfl, hK1⟩
  go_wp2_with fail
  go_ret2
  exact ⟨rfl, hk0.out.and hK1⟩

set_option maxRecDepth 100000 in
set_option maxHeartbeats 8000000 in
theorem obytes_se (o : OpenI) (A : Option Addr) (c : Nat) (cs : List Value) (w : World) (hb : o.B) (hx : CapL w o.caps cs) (ha : Arr w A cs) (hl : o.caps.length ≤ 1000000) (hv : validO o = true) (hs : o.sys ≤ 65535) (he : formC o.caps = []) :
    Calls Tryd.prog 6 #[o.val A c] w (Formed w (openL o)) := by
  have hk0 := (Kp.refl NoB w).alloc (.cells #[.int .u32 o.sys, .int .i64 o.hold, .int .u32 o.id, .slice A o.caps.length c] 33)
  have hB0 := Lib.hid (Bk.fresh w 33 #[.int .u32 o.sys, .int .i64 o.hold, .int .u32 o.id, .slice A o.caps.length c])
  have hv' := hv
  simp only [validO, Bool.and_eq_true, decide_eq_true_eq] at hv'
  obtain ⟨⟨⟨⟨⟨v1, v2⟩, v3⟩, v4⟩, v5⟩, v6⟩ := hv'
  have hfb : IsB (formC o.caps) := form_isB v1 hx.isB
  have HV := Lib.hid (ovalid_any o A c cs _ hb (hx.and hk0) (ha.and hk0) hl (by omega))
  rw [hv] at HV
  have HC := Lib.hid (fun w' (k : Kp NoB w w') => bytes_yes A c o.caps cs w' (hx.and k) (ha.and k) hl v1 (by omega))
  have hk0 := Lib.hid hk0
  obtain ⟨⟨s0, s1⟩, ⟨h0, h1⟩, ⟨i0, i1⟩⟩ := hb
  simp only [timedB, decide_eq_true_eq] at v5
  have hpb := param_isB hfb v2
  have hpl := param_len _ v2
  obtain ⟨s, h, i, caps⟩ := o
  unfold OpenI.val at HV ⊢
  unfold openL
  simp only at HV HC hB0 hk0 s0 s1 h0 h1 i0 i1 v1 v2 v3 v4 v5 v6 hs he hl hfb hpb hpl ⊢
  clear hx ha hv v1 v6
  obtain ⟨n, hn⟩ : ∃ n, caps.length = n := ⟨_, rfl⟩
  simp only [hn] at HV HC hB0 hk0 ⊢
  obtain ⟨F, hF⟩ : ∃ F, formC caps = F := ⟨_, rfl⟩
  rw [hF] at HC he v2 hfb hpb hpl ⊢
  clear hn hF hl
  unfold Formed at HC
  have hasL : asL s = putL 2 s := if_pos hs
  rw [hasL]
  have HPh := Lib.hid (fun w => put_yes2 h w (by omega) (by omega))
  have HPi := Lib.hid (fun w => put_yes4 i w (by omega) (by omega))
  have HPa := Lib.hid (fun w => put_yes2 s w (by omega) (by omega))
  subst he
  have hP0 : paramL [] = [] := rfl
  rw [hP0] at hpb hpl ⊢
  clear hfb v2
  have u3 : IntKind.u32.wrap h = h := IntWalk.u32_in _ (by omega)
  have a2 : (putL 2 s).length = 2 := putL_length _ _
  have HA2 := Lib.hid (And.intro (putL_isB 2 s) (putL_length 2 s))
  have HH2 := Lib.hid (And.intro (putL_isB 2 h) (putL_length 2 h))
  have HI4 := Lib.hid (And.intro (putL_isB 4 i) (putL_length 4 i))
  have HCat6 := Lib.hid (fun w' A' c' (hh : Sl ByE 1 w' A' [[4], putL 2 s, putL 2 h, putL 4 i, [(0 : Int)], []]) => cat_any A' c' [[4], putL 2 s, putL 2 h, putL 4 i, [(0 : Int)], []] w' hh (by simp) (by have h1 := HA2.out.2; have h2 := HH2.out.2; have h3 := HI4.out.2; simp only [catL, List.flatten_cons, List.flatten_nil, List.length_append, List.length_cons, List.length_nil]; omega))
  have hcat6 : catL [[4], putL 2 s, putL 2 h, putL 4 i, [(0 : Int)], []] = 4 :: (putL 2 s ++ (putL 2 h ++ (putL 4 i ++ ((0 : Int) :: [])))) := by simp [catL]
  rw [hcat6] at HCat6
  unfold Joined at HCat6
  show Calls _ _ _ _ (Formed w (4 :: (putL 2 s ++ (putL 2 h ++ (putL 4 i ++ ((0 : Int) :: []))))))
  obtain ⟨L, hL⟩ : ∃ L, 4 :: (putL 2 s ++ (putL 2 h ++ (putL 4 i ++ ((0 : Int) :: [])))) = L := ⟨_, rfl⟩
  rw [hL] at HCat6 ⊢
  obtain ⟨ll, hll⟩ : ∃ n, L.length = n := ⟨_, rfl⟩
  have HLL := Lib.hid hll
  simp only [hll] at HCat6
  clear hL hll hcat6 a2 hasL
  have h65 : 0 ≤ h ∧ h ≤ 65535 := by omega
  clear h0 h1 s0 s1 i0 i1 v3 v4 v5 hs
  obtain ⟨x1, x2, x3, x4, x5, x6, x7, x8, x9⟩ := hB0.out.four
  go_enter Tryd.func6, Tryd.ntmps6
  go_wp2_with fail
  refine HV.out.mono ?_
  rintro e w1 ⟨rfl, hK1⟩
  have k1 := hk0.out.and hK1
  have b1 := Lib.hid (hB0.out.and hK1)
  obtain ⟨y1, y2, y3, y4, y5, y6, y7, y8, y9⟩ := b1.out.four
  clear x1 x2 x3 x4 x5 x6 x7 x8 x9
  go_wp2_with fail
  refine (HPa.out _).mono ?_
  rintro e w2 ⟨A2, c2, rfl, hown2, hK2⟩
  replace hown2 := Lib.hid hown2
  have k2 := k1.and hK2
  have b2 := Lib.hid (b1.out.and hK2)
  clear y1 y2 y3 y4 y5 y6 y7 y8 y9
  obtain ⟨y1, y2, y3, y4, y5, y6, y7, y8, y9⟩ := b2.out.four
  go_wp2_with fail
  refine (HPh.out _).mono ?_
  rintro e w3 ⟨A3, c3, rfl, hown3, hK3⟩
  replace hown3 := Lib.hid hown3
  have k3 := k2.and hK3
  have b3 := Lib.hid (b2.out.and hK3)
  clear y1 y2 y3 y4 y5 y6 y7 y8 y9
  obtain ⟨y1, y2, y3, y4, y5, y6, y7, y8, y9⟩ := b3.out.four
  go_wp2_with fail
  refine (HPi.out _).mono ?_
  rintro e w4 ⟨A4, c4, rfl, hown4, hK4⟩
  replace hown4 := Lib.hid hown4
  have k4 := k3.and hK4
  have b4 := Lib.hid (b3.out.and hK4)
  clear y1 y2 y3 y4 y5 y6 y7 y8 y9
  obtain ⟨y1, y2, y3, y4, y5, y6, y7, y8, y9⟩ := b4.out.four
  go_wp2_with fail
  refine (HC.out _ k4).mono ?_
  rintro e w5 ⟨A5, c5, rfl, hown5, hK5⟩
  replace hown5 := Lib.hid hown5
  have k5 := k4.and hK5
  have b5 := Lib.hid (b4.out.and hK5)
  clear y1 y2 y3 y4 y5 y6 y7 y8 y9
  obtain ⟨y1, y2, y3, y4, y5, y6, y7, y8, y9⟩ := b5.out.four
  go_wp2_with fail
  have kz : Kp NoB w5 (((w5.alloc (.cells #[.int .u8 4] 5)).alloc (.cells #[.int .u8 0] 5)).alloc (.cells #[.slice (some ⟨w5.heap.size, 0, none⟩) 1 1, .slice A2 2 c2, .slice A3 2 c3, .slice A4 4 c4, .slice (some ⟨w5.heap.size + 1, 0, none⟩) 1 1, .slice none 0 0] 28)) := (((Kp.refl _ _).alloc _).alloc _).alloc _
  have z1 := ByE.and kz _ _ (ByE.and hK5 _ _ (ByE.and hK4 _ _ (ByE.and hK3 _ _ (byE_own hown2.out HA2.out.2 HA2.out.1))))
  have z2 := ByE.and kz _ _ (ByE.and hK5 _ _ (ByE.and hK4 _ _ (byE_own hown3.out HH2.out.2 HH2.out.1)))
  have z3 := ByE.and kz _ _ (ByE.and hK5 _ _ (byE_own hown4.out HI4.out.2 HI4.out.1))
  have z4 : ByE (((w5.alloc (.cells #[.int .u8 4] 5)).alloc (.cells #[.int .u8 0] 5)).alloc (.cells #[.slice (some ⟨w5.heap.size, 0, none⟩) 1 1, .slice A2 2 c2, .slice A3 2 c3, .slice A4 4 c4, .slice (some ⟨w5.heap.size + 1, 0, none⟩) 1 1, .slice none 0 0] 28)) [] [.slice none 0 0] := ⟨none, 0, rfl, Nat.le_refl _, by decide, Arr.nil _ _, IsB.nil⟩
  have z5 := byE_lit (((w5.alloc (.cells #[.int .u8 4] 5)).alloc (.cells #[.int .u8 0] 5)).alloc (.cells #[.slice (some ⟨w5.heap.size, 0, none⟩) 1 1, .slice A2 2 c2, .slice A3 2 c3, .slice A4 4 c4, .slice (some ⟨w5.heap.size + 1, 0, none⟩) 1 1, .slice none 0 0] 28)) w5.heap.size [4] (((Bk.fresh w5 5 (bs [4]).toArray).alloc _).alloc _) (by decide) (by intro z hz; simp at hz; omega) 1 rfl
  have z6 := byE_lit (((w5.alloc (.cells #[.int .u8 4] 5)).alloc (.cells #[.int .u8 0] 5)).alloc (.cells #[.slice (some ⟨w5.heap.size, 0, none⟩) 1 1, .slice A2 2 c2, .slice A3 2 c3, .slice A4 4 c4, .slice (some ⟨w5.heap.size + 1, 0, none⟩) 1 1, .slice none 0 0] 28)) (w5.heap.size + 1) [(0 : Int)] ((Bk.second w5 _ 5 (bs [(0 : Int)]).toArray).alloc _) (by simp) (by intro z hz; simp at hz; omega) 1 rfl
  have hp := ((((((PartL.nil (((w5.alloc (.cells #[.int .u8 4] 5)).alloc (.cells #[.int .u8 0] 5)).alloc (.cells #[.slice (some ⟨w5.heap.size, 0, none⟩) 1 1, .slice A2 2 c2, .slice A3 2 c3, .slice A4 4 c4, .slice (some ⟨w5.heap.size + 1, 0, none⟩) 1 1, .slice none 0 0] 28)) (((w5.alloc (.cells #[.int .u8 4] 5)).alloc (.cells #[.int .u8 0] 5)).alloc (.cells #[.slice (some ⟨w5.heap.size, 0, none⟩) 1 1, .slice A2 2 c2, .slice A3 2 c3, .slice A4 4 c4, .slice (some ⟨w5.heap.size + 1, 0, none⟩) 1 1, .slice none 0 0] 28))).snoc z5.part).snoc z1.part).snoc z2.part).snoc z3.part).snoc z6.part).snoc z4.part
  refine (HCat6.out _ (some ⟨w5.heap.size + 1 + 1, 0, none⟩) 6 (sl_of (us := [.slice (some ⟨w5.heap.size, 0, none⟩) 1 1, .slice A2 2 c2, .slice A3 2 c3, .slice A4 4 c4, .slice (some ⟨w5.heap.size + 1, 0, none⟩) 1 1, .slice none 0 0]) (by simpa using hp) (Bk.third w5 _ _ _ _))).mono ?_
  rintro e w6 ⟨A6, c6, rfl, hown6, hK6⟩
  clear hp z1 z2 z3 z4 z5 z6
  go_wp2_with fail
  go_ret2
  exact Formed.ret HLL.out hown6 (k5.and kz) hK6 _ rfl

set_option maxRecDepth 100000 in
set_option maxHeartbeats 8000000 in
theorem obytes_sf (o : OpenI) (A : Option Addr) (c : Nat) (cs : List Value) (w : World) (hb : o.B) (hx : CapL w o.caps cs) (ha : Arr w A cs) (hl : o.caps.length ≤ 1000000) (hv : validO o = true) (hs : o.sys ≤ 65535) (he : formC o.caps ≠ []) :
    Calls Tryd.prog 6 #[o.val A c] w (Formed w (openL o)) := by
  have hk0 := (Kp.refl NoB w).alloc (.cells #[.int .u32 o.sys, .int .i64 o.hold, .int .u32 o.id, .slice A o.caps.length c] 33)
  have hB0 := Lib.hid (Bk.fresh w 33 #[.int .u32 o.sys, .int .i64 o.hold, .int .u32 o.id, .slice A o.caps.length c])
  have hv' := hv
  simp only [validO, Bool.and_eq_true, decide_eq_true_eq] at hv'
  obtain ⟨⟨⟨⟨⟨v1, v2⟩, v3⟩, v4⟩, v5⟩, v6⟩ := hv'
  have hfb : IsB (formC o.caps) := form_isB v1 hx.isB
  have HV := Lib.hid (ovalid_any o A c cs _ hb (hx.and hk0) (ha.and hk0) hl (by omega))
  rw [hv] at HV
  have HC := Lib.hid (fun w' (k : Kp NoB w w') => bytes_yes A c o.caps cs w' (hx.and k) (ha.and k) hl v1 (by omega))
  have hk0 := Lib.hid hk0
  obtain ⟨⟨s0, s1⟩, ⟨h0, h1⟩, ⟨i0, i1⟩⟩ := hb
  simp only [timedB, decide_eq_true_eq] at v5
  have hpb := param_isB hfb v2
  have hpl := param_len _ v2
  obtain ⟨s, h, i, caps⟩ := o
  unfold OpenI.val at HV ⊢
  unfold openL
  simp only at HV HC hB0 hk0 s0 s1 h0 h1 i0 i1 v1 v2 v3 v4 v5 v6 hs he hl hfb hpb hpl ⊢
  clear hx ha hv v1 v6
  obtain ⟨n, hn⟩ : ∃ n, caps.length = n := ⟨_, rfl⟩
  simp only [hn] at HV HC hB0 hk0 ⊢
  obtain ⟨F, hF⟩ : ∃ F, formC caps = F := ⟨_, rfl⟩
  rw [hF] at HC he v2 hfb hpb hpl ⊢
  clear hn hF hl
  unfold Formed at HC
  have hasL : asL s = putL 2 s := if_pos hs
  rw [hasL]
  have HPh := Lib.hid (fun w => put_yes2 h w (by omega) (by omega))
  have HPi := Lib.hid (fun w => put_yes4 i w (by omega) (by omega))
  have HPa := Lib.hid (fun w => put_yes2 s w (by omega) (by omega))
  have hFl : 0 < F.length := List.length_pos_iff.2 he
  have hP0 : paramL F = 2 :: (F.length : Int) :: F := if_neg he
  have HCat := Lib.hid (fun w' A' c' (h : Sl ByE 1 w' A' [[2, (F.length : Int)], F]) => cat_any A' c' [[2, (F.length : Int)], F] w' h (by simp) (by simp [catL]; omega))
  have hcat : catL [[2, (F.length : Int)], F] = paramL F := by rw [hP0]; simp [catL]
  rw [hcat] at HCat
  unfold Joined at HCat
  obtain ⟨P, hP⟩ : ∃ P, paramL F = P := ⟨_, rfl⟩
  rw [hP] at hpb hpl HCat ⊢
  clear hP0 hcat hP
  obtain ⟨pl, hplE⟩ : ∃ n, P.length = n := ⟨_, rfl⟩
  have HPL := Lib.hid hplE
  rw [hplE] at hpl HCat ⊢
  obtain ⟨fl, hfl⟩ : ∃ n, F.length = n := ⟨_, rfl⟩
  have HFL := Lib.hid hfl
  rw [hfl] at v2 HC HCat hFl
  have u1 : IntKind.u8.wrap (fl : Int) = fl := IntWalk.u8_in _ (by omega)
  have u2 : IntKind.u8.wrap (pl : Int) = pl := IntWalk.u8_in _ (by omega)
  have HFB := Lib.hid hfb
  have HPB := Lib.hid hpb
  clear hfb hpb hplE hfl he
  have u3 : IntKind.u32.wrap h = h := IntWalk.u32_in _ (by omega)
  have a2 : (putL 2 s).length = 2 := putL_length _ _
  have HA2 := Lib.hid (And.intro (putL_isB 2 s) (putL_length 2 s))
  have HH2 := Lib.hid (And.intro (putL_isB 2 h) (putL_length 2 h))
  have HI4 := Lib.hid (And.intro (putL_isB 4 i) (putL_length 4 i))
  have HCat6 := Lib.hid (fun w' A' c' (hh : Sl ByE 1 w' A' [[4], putL 2 s, putL 2 h, putL 4 i, [(pl : Int)], P]) => cat_any A' c' [[4], putL 2 s, putL 2 h, putL 4 i, [(pl : Int)], P] w' hh (by simp) (by have h1 := HA2.out.2; have h2 := HH2.out.2; have h3 := HI4.out.2; simp only [catL, List.flatten_cons, List.flatten_nil, List.length_append, List.length_cons, List.length_nil]; rw [HPL.out]; omega))
  have hcat6 : catL [[4], putL 2 s, putL 2 h, putL 4 i, [(pl : Int)], P] = 4 :: (putL 2 s ++ (putL 2 h ++ (putL 4 i ++ ((pl : Int) :: P)))) := by simp [catL]
  rw [hcat6] at HCat6
  unfold Joined at HCat6
  obtain ⟨L, hL⟩ : ∃ L, 4 :: (putL 2 s ++ (putL 2 h ++ (putL 4 i ++ ((pl : Int) :: P)))) = L := ⟨_, rfl⟩
  rw [hL] at HCat6 ⊢
  obtain ⟨ll, hll⟩ : ∃ n, L.length = n := ⟨_, rfl⟩
  have HLL := Lib.hid hll
  simp only [hll] at HCat6
  clear hL hll hcat6 a2 hasL
  have h65 : 0 ≤ h ∧ h ≤ 65535 := by omega
  clear h0 h1 s0 s1 i0 i1 v3 v4 v5 hs
  obtain ⟨x1, x2, x3, x4, x5, x6, x7, x8, x9⟩ := hB0.out.four
  go_enter Tryd.func6, Tryd.ntmps6
  go_wp2_with fail
  refine HV.out.mono ?_
  rintro e w1 ⟨rfl, hK1⟩
  have k1 := hk0.out.and hK1
  have b1 := Lib.hid (hB0.out.and hK1)
  obtain ⟨y1, y2, y3, y4, y5, y6, y7, y8, y9⟩ := b1.out.four
  clear x1 x2 x3 x4 x5 x6 x7 x8 x9
  go_wp2_with fail
  refine (HPa.out _).mono ?_
  rintro e w2 ⟨A2, c2, rfl, hown2, hK2⟩
  replace hown2 := Lib.hid hown2
  have k2 := k1.and hK2
  have b2 := Lib.hid (b1.out.and hK2)
  clear y1 y2 y3 y4 y5 y6 y7 y8 y9
  obtain ⟨y1, y2, y3, y4, y5, y6, y7, y8, y9⟩ := b2.out.four
  go_wp2_with fail
  refine (HPh.out _).mono ?_
  rintro e w3 ⟨A3, c3, rfl, hown3, hK3⟩
  replace hown3 := Lib.hid hown3
  have k3 := k2.and hK3
  have b3 := Lib.hid (b2.out.and hK3)
  clear y1 y2 y3 y4 y5 y6 y7 y8 y9
  obtain ⟨y1, y2, y3, y4, y5, y6, y7, y8, y9⟩ := b3.out.four
  go_wp2_with fail
  refine (HPi.out _).mono ?_
  rintro e w4 ⟨A4, c4, rfl, hown4, hK4⟩
  replace hown4 := Lib.hid hown4
  have k4 := k3.and hK4
  have b4 := Lib.hid (b3.out.and hK4)
  clear y1 y2 y3 y4 y5 y6 y7 y8 y9
  obtain ⟨y1, y2, y3, y4, y5, y6, y7, y8, y9⟩ := b4.out.four
  go_wp2_with fail
  refine (HC.out _ k4).mono ?_
  rintro e w5 ⟨A5, c5, rfl, hown5, hK5⟩
  replace hown5 := Lib.hid hown5
  have k5 := k4.and hK5
  have b5 := Lib.hid (b4.out.and hK5)
  clear y1 y2 y3 y4 y5 y6 y7 y8 y9
  obtain ⟨y1, y2, y3, y4, y5, y6, y7, y8, y9⟩ := b5.out.four
  go_wp2_with fail
  have kq : Kp NoB w5 ((w5.alloc (.cells #[.int .u8 2, .int .u8 fl] 5)).alloc (.cells #[.slice (some ⟨w5.heap.size, 0, none⟩) 2 2, .slice A5 fl c5] 28)) := ((Kp.refl _ _).alloc _).alloc _
  have hp := (((PartL.nil ((w5.alloc (.cells #[.int .u8 2, .int .u8 fl] 5)).alloc (.cells #[.slice (some ⟨w5.heap.size, 0, none⟩) 2 2, .slice A5 fl c5] 28)) ((w5.alloc (.cells #[.int .u8 2, .int .u8 fl] 5)).alloc (.cells #[.slice (some ⟨w5.heap.size, 0, none⟩) 2 2, .slice A5 fl c5] 28))).snoc (byE_lit _ w5.heap.size [2, (fl : Int)] ((Bk.fresh w5 5 (bs [2, (fl : Int)]).toArray).alloc _) (by simp) (by intro z hz; simp at hz; omega) 2 rfl).part).snoc (ByE.part (ByE.and kq _ _ (byE_own hown5.out HFL.out HFB.out))))
  refine (HCat.out _ (some ⟨w5.heap.size + 1, 0, none⟩) 2 (sl_of (us := [.slice (some ⟨w5.heap.size, 0, none⟩) 2 2, .slice A5 fl c5]) (by simpa using hp) (Bk.second w5 _ _ _))).mono ?_
  rintro e w6 ⟨A6, c6, rfl, hown6, hK6'⟩
  replace hown6 := Lib.hid hown6
  have hK6 := kq.and hK6'
  clear hp kq
  have k6 := k5.and hK6
  clear y1 y2 y3 y4 y5 y6 y7 y8 y9
  go_wp2_with fail
  have kz : Kp NoB w6 (((w6.alloc (.cells #[.int .u8 4] 5)).alloc (.cells #[.int .u8 pl] 5)).alloc (.cells #[.slice (some ⟨w6.heap.size, 0, none⟩) 1 1, .slice A2 2 c2, .slice A3 2 c3, .slice A4 4 c4, .slice (some ⟨w6.heap.size + 1, 0, none⟩) 1 1, .slice A6 pl c6] 28)) := (((Kp.refl _ _).alloc _).alloc _).alloc _
  have z1 := ByE.and kz _ _ (ByE.and hK6 _ _ (ByE.and hK5 _ _ (ByE.and hK4 _ _ (ByE.and hK3 _ _ (byE_own hown2.out HA2.out.2 HA2.out.1)))))
  have z2 := ByE.and kz _ _ (ByE.and hK6 _ _ (ByE.and hK5 _ _ (ByE.and hK4 _ _ (byE_own hown3.out HH2.out.2 HH2.out.1))))
  have z3 := ByE.and kz _ _ (ByE.and hK6 _ _ (ByE.and hK5 _ _ (byE_own hown4.out HI4.out.2 HI4.out.1)))
  have z4 := ByE.and kz _ _ (byE_own hown6.out HPL.out HPB.out)
  have z5 := byE_lit (((w6.alloc (.cells #[.int .u8 4] 5)).alloc (.cells #[.int .u8 pl] 5)).alloc (.cells #[.slice (some ⟨w6.heap.size, 0, none⟩) 1 1, .slice A2 2 c2, .slice A3 2 c3, .slice A4 4 c4, .slice (some ⟨w6.heap.size + 1, 0, none⟩) 1 1, .slice A6 pl c6] 28)) w6.heap.size [4] (((Bk.fresh w6 5 (bs [4]).toArray).alloc _).alloc _) (by decide) (by intro z hz; simp at hz; omega) 1 rfl
  have z6 := byE_lit (((w6.alloc (.cells #[.int .u8 4] 5)).alloc (.cells #[.int .u8 pl] 5)).alloc (.cells #[.slice (some ⟨w6.heap.size, 0, none⟩) 1 1, .slice A2 2 c2, .slice A3 2 c3, .slice A4 4 c4, .slice (some ⟨w6.heap.size + 1, 0, none⟩) 1 1, .slice A6 pl c6] 28)) (w6.heap.size + 1) [(pl : Int)] ((Bk.second w6 _ 5 (bs [(pl : Int)]).toArray).alloc _) (by simp) (by intro z hz; simp at hz; omega) 1 rfl
  have hp := ((((((PartL.nil (((w6.alloc (.cells #[.int .u8 4] 5)).alloc (.cells #[.int .u8 pl] 5)).alloc (.cells #[.slice (some ⟨w6.heap.size, 0, none⟩) 1 1, .slice A2 2 c2, .slice A3 2 c3, .slice A4 4 c4, .slice (some ⟨w6.heap.size + 1, 0, none⟩) 1 1, .slice A6 pl c6] 28)) (((w6.alloc (.cells #[.int .u8 4] 5)).alloc (.cells #[.int .u8 pl] 5)).alloc (.cells #[.slice (some ⟨w6.heap.size, 0, none⟩) 1 1, .slice A2 2 c2, .slice A3 2 c3, .slice A4 4 c4, .slice (some ⟨w6.heap.size + 1, 0, none⟩) 1 1, .slice A6 pl c6] 28))).snoc z5.part).snoc z1.part).snoc z2.part).snoc z3.part).snoc z6.part).snoc z4.part
  refine (HCat6.out _ (some ⟨w6.heap.size + 1 + 1, 0, none⟩) 6 (sl_of (us := [.slice (some ⟨w6.heap.size, 0, none⟩) 1 1, .slice A2 2 c2, .slice A3 2 c3, .slice A4 4 c4, .slice (some ⟨w6.heap.size + 1, 0, none⟩) 1 1, .slice A6 pl c6]) (by simpa using hp) (Bk.third w6 _ _ _ _))).mono ?_
  rintro e w7 ⟨A7, c7, rfl, hown7, hK7⟩
  clear hp z1 z2 z3 z4 z5 z6
  go_wp2_with fail
  go_ret2
  exact Formed.ret HLL.out hown7 (k6.and kz) hK7 _ rfl

set_option maxRecDepth 100000 in
set_option maxHeartbeats 8000000 in
theorem obytes_be (o : OpenI) (A : Option Addr) (c : Nat) (cs : List Value) (w : World) (hb : o.B) (hx : CapL w o.caps cs) (ha : Arr w A cs) (hl : o.caps.length ≤ 1000000) (hv : validO o = true) (hs : 65535 < o.sys) (he : formC o.caps = []) :
    Calls Tryd.prog 6 #[o.val A c] w (Formed w (openL o)) := by
  have hk0 := (Kp.refl NoB w).alloc (.cells #[.int .u32 o.sys, .int .i64 o.hold, .int .u32 o.id, .slice A o.caps.length c] 33)
  have hB0 := Lib.hid (Bk.fresh w 33 #[.int .u32 o.sys, .int .i64 o.hold, .int .u32 o.id, .slice A o.caps.length c])
  have hv' := hv
  simp only [validO, Bool.and_eq_true, decide_eq_true_eq] at hv'
  obtain ⟨⟨⟨⟨⟨v1, v2⟩, v3⟩, v4⟩, v5⟩, v6⟩ := hv'
  have hfb : IsB (formC o.caps) := form_isB v1 hx.isB
  have HV := Lib.hid (ovalid_any o A c cs _ hb (hx.and hk0) (ha.and hk0) hl (by omega))
  rw [hv] at HV
  have HC := Lib.hid (fun w' (k : Kp NoB w w') => bytes_yes A c o.caps cs w' (hx.and k) (ha.and k) hl v1 (by omega))
  have hk0 := Lib.hid hk0
  obtain ⟨⟨s0, s1⟩, ⟨h0, h1⟩, ⟨i0, i1⟩⟩ := hb
  simp only [timedB, decide_eq_true_eq] at v5
  have hpb := param_isB hfb v2
  have hpl := param_len _ v2
  obtain ⟨s, h, i, caps⟩ := o
  unfold OpenI.val at HV ⊢
  unfold openL
  simp only at HV HC hB0 hk0 s0 s1 h0 h1 i0 i1 v1 v2 v3 v4 v5 v6 hs he hl hfb hpb hpl ⊢
  clear hx ha hv v1 v6
  obtain ⟨n, hn⟩ : ∃ n, caps.length = n := ⟨_, rfl⟩
  simp only [hn] at HV HC hB0 hk0 ⊢
  obtain ⟨F, hF⟩ : ∃ F, formC caps = F := ⟨_, rfl⟩
  rw [hF] at HC he v2 hfb hpb hpl ⊢
  clear hn hF hl
  unfold Formed at HC
  have hasL : asL s = putL 2 23456 := if_neg (by omega)
  rw [hasL]
  have HPh := Lib.hid (fun w => put_yes2 h w (by omega) (by omega))
  have HPi := Lib.hid (fun w => put_yes4 i w (by omega) (by omega))
  have HPa := Lib.hid (fun w => put_big2 s w (by omega) (by omega))
  have HPt := Lib.hid (fun w => put_yes2 23456 w (by decide) (by decide))
  subst he
  have hP0 : paramL [] = [] := rfl
  rw [hP0] at hpb hpl ⊢
  clear hfb v2
  have u3 : IntKind.u32.wrap h = h := IntWalk.u32_in _ (by omega)
  have a2 : (putL 2 23456).length = 2 := putL_length _ _
  have HA2 := Lib.hid (And.intro (putL_isB 2 23456) (putL_length 2 23456))
  have HH2 := Lib.hid (And.intro (putL_isB 2 h) (putL_length 2 h))
  have HI4 := Lib.hid (And.intro (putL_isB 4 i) (putL_length 4 i))
  have HCat6 := Lib.hid (fun w' A' c' (hh : Sl ByE 1 w' A' [[4], putL 2 23456, putL 2 h, putL 4 i, [(0 : Int)], []]) => cat_any A' c' [[4], putL 2 23456, putL 2 h, putL 4 i, [(0 : Int)], []] w' hh (by simp) (by have h1 := HA2.out.2; have h2 := HH2.out.2; have h3 := HI4.out.2; simp only [catL, List.flatten_cons, List.flatten_nil, List.length_append, List.length_cons, List.length_nil]; omega))
  have hcat6 : catL [[4], putL 2 23456, putL 2 h, putL 4 i, [(0 : Int)], []] = 4 :: (putL 2 23456 ++ (putL 2 h ++ (putL 4 i ++ ((0 : Int) :: [])))) := by simp [catL]
  rw [hcat6] at HCat6
  unfold Joined at HCat6
  show Calls _ _ _ _ (Formed w (4 :: (putL 2 23456 ++ (putL 2 h ++ (putL 4 i ++ ((0 : Int) :: []))))))
  obtain ⟨L, hL⟩ : ∃ L, 4 :: (putL 2 23456 ++ (putL 2 h ++ (putL 4 i ++ ((0 : Int) :: [])))) = L := ⟨_, rfl⟩
  rw [hL] at HCat6 ⊢
  obtain ⟨ll, hll⟩ : ∃ n, L.length = n := ⟨_, rfl⟩
  have HLL := Lib.hid hll
  simp only [hll] at HCat6
  clear hL hll hcat6 a2 hasL
  have h65 : 0 ≤ h ∧ h ≤ 65535 := by omega
  clear h0 h1 s0 s1 i0 i1 v3 v4 v5 hs
  obtain ⟨x1, x2, x3, x4, x5, x6, x7, x8, x9⟩ := hB0.out.four
  go_enter Tryd.func6, Tryd.ntmps6
  go_wp2_with fail
  refine HV.out.mono ?_
  rintro e w1 ⟨rfl, hK1⟩
  have k1 := hk0.out.and hK1
  have b1 := Lib.hid (hB0.out.and hK1)
  obtain ⟨y1, y2, y3, y4, y5, y6, y7, y8, y9⟩ := b1.out.four
  clear x1 x2 x3 x4 x5 x6 x7 x8 x9
  go_wp2_with fail
  refine (HPa.out _).mono ?_
  rintro e w2 ⟨rfl, hK2⟩
  have k2 := k1.and hK2
  have b2 := Lib.hid (b1.out.and hK2)
  clear y1 y2 y3 y4 y5 y6 y7 y8 y9
  obtain ⟨y1, y2, y3, y4, y5, y6, y7, y8, y9⟩ := b2.out.four
  go_wp2_with fail
  refine (HPt.out _).mono ?_
  rintro e w3 ⟨A3, c3, rfl, hown3, hK3⟩
  replace hown3 := Lib.hid hown3
  have k3 := k2.and hK3
  have b3 := Lib.hid (b2.out.and hK3)
  clear y1 y2 y3 y4 y5 y6 y7 y8 y9
  obtain ⟨y1, y2, y3, y4, y5, y6, y7, y8, y9⟩ := b3.out.four
  go_wp2_with fail
  refine (HPh.out _).mono ?_
  rintro e w4 ⟨A4, c4, rfl, hown4, hK4⟩
  replace hown4 := Lib.hid hown4
  have k4 := k3.and hK4
  have b4 := Lib.hid (b3.out.and hK4)
  clear y1 y2 y3 y4 y5 y6 y7 y8 y9
  obtain ⟨y1, y2, y3, y4, y5, y6, y7, y8, y9⟩ := b4.out.four
  go_wp2_with fail
  refine (HPi.out _).mono ?_
  rintro e w5 ⟨A5, c5, rfl, hown5, hK5⟩
  replace hown5 := Lib.hid hown5
  have k5 := k4.and hK5
  have b5 := Lib.hid (b4.out.and hK5)
  clear y1 y2 y3 y4 y5 y6 y7 y8 y9
  obtain ⟨y1, y2, y3, y4, y5, y6, y7, y8, y9⟩ := b5.out.four
  go_wp2_with fail
  refine (HC.out _ k5).mono ?_
  rintro e w6 ⟨A6, c6, rfl, hown6, hK6⟩
  replace hown6 := Lib.hid hown6
  have k6 := k5.and hK6
  have b6 := Lib.hid (b5.out.and hK6)
  clear y1 y2 y3 y4 y5 y6 y7 y8 y9
  obtain ⟨y1, y2, y3, y4, y5, y6, y7, y8, y9⟩ := b6.out.four
  go_wp2_with fail
  have kz : Kp NoB w6 (((w6.alloc (.cells #[.int .u8 4] 5)).alloc (.cells #[.int .u8 0] 5)).alloc (.cells #[.slice (some ⟨w6.heap.size, 0, none⟩) 1 1, .slice A3 2 c3, .slice A4 2 c4, .slice A5 4 c5, .slice (some ⟨w6.heap.size + 1, 0, none⟩) 1 1, .slice none 0 0] 28)) := (((Kp.refl _ _).alloc _).alloc _).alloc _
  have z1 := ByE.and kz _ _ (ByE.and hK6 _ _ (ByE.and hK5 _ _ (ByE.and hK4 _ _ (byE_own hown3.out HA2.out.2 HA2.out.1))))
  have z2 := ByE.and kz _ _ (ByE.and hK6 _ _ (ByE.and hK5 _ _ (byE_own hown4.out HH2.out.2 HH2.out.1)))
  have z3 := ByE.and kz _ _ (ByE.and hK6 _ _ (byE_own hown5.out HI4.out.2 HI4.out.1))
  have z4 : ByE (((w6.alloc (.cells #[.int .u8 4] 5)).alloc (.cells #[.int .u8 0] 5)).alloc (.cells #[.slice (some ⟨w6.heap.size, 0, none⟩) 1 1, .slice A3 2 c3, .slice A4 2 c4, .slice A5 4 c5, .slice (some ⟨w6.heap.size + 1, 0, none⟩) 1 1, .slice none 0 0] 28)) [] [.slice none 0 0] := ⟨none, 0, rfl, Nat.le_refl _, by decide, Arr.nil _ _, IsB.nil⟩
  have z5 := byE_lit (((w6.alloc (.cells #[.int .u8 4] 5)).alloc (.cells #[.int .u8 0] 5)).alloc (.cells #[.slice (some ⟨w6.heap.size, 0, none⟩) 1 1, .slice A3 2 c3, .slice A4 2 c4, .slice A5 4 c5, .slice (some ⟨w6.heap.size + 1, 0, none⟩) 1 1, .slice none 0 0] 28)) w6.heap.size [4] (((Bk.fresh w6 5 (bs [4]).toArray).alloc _).alloc _) (by decide) (by intro z hz; simp at hz; omega) 1 rfl
  have z6 := byE_lit (((w6.alloc (.cells #[.int .u8 4] 5)).alloc (.cells #[.int .u8 0] 5)).alloc (.cells #[.slice (some ⟨w6.heap.size, 0, none⟩) 1 1, .slice A3 2 c3, .slice A4 2 c4, .slice A5 4 c5, .slice (some ⟨w6.heap.size + 1, 0, none⟩) 1 1, .slice none 0 0] 28)) (w6.heap.size + 1) [(0 : Int)] ((Bk.second w6 _ 5 (bs [(0 : Int)]).toArray).alloc _) (by simp) (by intro z hz; simp at hz; omega) 1 rfl
  have hp := ((((((PartL.nil (((w6.alloc (.cells #[.int .u8 4] 5)).alloc (.cells #[.int .u8 0] 5)).alloc (.cells #[.slice (some ⟨w6.heap.size, 0, none⟩) 1 1, .slice A3 2 c3, .slice A4 2 c4, .slice A5 4 c5, .slice (some ⟨w6.heap.size + 1, 0, none⟩) 1 1, .slice none 0 0] 28)) (((w6.alloc (.cells #[.int .u8 4] 5)).alloc (.cells #[.int .u8 0] 5)).alloc (.cells #[.slice (some ⟨w6.heap.size, 0, none⟩) 1 1, .slice A3 2 c3, .slice A4 2 c4, .slice A5 4 c5, .slice (some ⟨w6.heap.size + 1, 0, none⟩) 1 1, .slice none 0 0] 28))).snoc z5.part).snoc z1.part).snoc z2.part).snoc z3.part).snoc z6.part).snoc z4.part
  refine (HCat6.out _ (some ⟨w6.heap.size + 1 + 1, 0, none⟩) 6 (sl_of (us := [.slice (some ⟨w6.heap.size, 0, none⟩) 1 1, .slice A3 2 c3, .slice A4 2 c4, .slice A5 4 c5, .slice (some ⟨w6.heap.size + 1, 0, none⟩) 1 1, .slice none 0 0]) (by simpa using hp) (Bk.third w6 _ _ _ _))).mono ?_
  rintro e w7 ⟨A7, c7, rfl, hown7, hK7⟩
  clear hp z1 z2 z3 z4 z5 z6
  go_wp2_with fail
  go_ret2
  exact Formed.ret HLL.out hown7 (k6.and kz) hK7 _ rfl

set_option maxRecDepth 100000 in
set_option maxHeartbeats 8000000 in
theorem obytes_bf (o : OpenI) (A : Option Addr) (c : Nat) (cs : List Value) (w : World) (hb : o.B) (hx : CapL w o.caps cs) (ha : Arr w A cs) (hl : o.caps.length ≤ 1000000) (hv : validO o = true) (hs : 65535 < o.sys) (he : formC o.caps ≠ []) :
    Calls Tryd.prog 6 #[o.val A c] w (Formed w (openL o)) := by
  have hk0 := (Kp.refl NoB w).alloc (.cells #[.int .u32 o.sys, .int .i64 o.hold, .int .u32 o.id, .slice A o.caps.length c] 33)
  have hB0 := Lib.hid (Bk.fresh w 33 #[.int .u32 o.sys, .int .i64 o.hold, .int .u32 o.id, .slice A o.caps.length c])
  have hv' := hv
  simp only [validO, Bool.and_eq_true, decide_eq_true_eq] at hv'
  obtain ⟨⟨⟨⟨⟨v1, v2⟩, v3⟩, v4⟩, v5⟩, v6⟩ := hv'
  have hfb : IsB (formC o.caps) := form_isB v1 hx.isB
  have HV := Lib.hid (ovalid_any o A c cs _ hb (hx.and hk0) (ha.and hk0) hl (by omega))
  rw [hv] at HV
  have HC := Lib.hid (fun w' (k : Kp NoB w w') => bytes_yes A c o.caps cs w' (hx.and k) (ha.and k) hl v1 (by omega))
  have hk0 := Lib.hid hk0
  obtain ⟨⟨s0, s1⟩, ⟨h0, h1⟩, ⟨i0, i1⟩⟩ := hb
  simp only [timedB, decide_eq_true_eq] at v5
  have hpb := param_isB hfb v2
  have hpl := param_len _ v2
  obtain ⟨s, h, i, caps⟩ := o
  unfold OpenI.val at HV ⊢
  unfold openL
  simp only at HV HC hB0 hk0 s0 s1 h0 h1 i0 i1 v1 v2 v3 v4 v5 v6 hs he hl hfb hpb hpl ⊢
  clear hx ha hv v1 v6
  obtain ⟨n, hn⟩ : ∃ n, caps.length = n := ⟨_, rfl⟩
  simp only [hn] at HV HC hB0 hk0 ⊢
  obtain ⟨F, hF⟩ : ∃ F, formC caps = F := ⟨_, rfl⟩
  rw [hF] at HC he v2 hfb hpb hpl ⊢
  clear hn hF hl
  unfold Formed at HC
  have hasL : asL s = putL 2 23456 := if_neg (by omega)
  rw [hasL]
  have HPh := Lib.hid (fun w => put_yes2 h w (by omega) (by omega))
  have HPi := Lib.hid (fun w => put_yes4 i w (by omega) (by omega))
  have HPa := Lib.hid (fun w => put_big2 s w (by omega) (by omega))
  have HPt := Lib.hid (fun w => put_yes2 23456 w (by decide) (by decide))
  have hFl : 0 < F.length := List.length_pos_iff.2 he
  have hP0 : paramL F = 2 :: (F.length : Int) :: F := if_neg he
  have HCat := Lib.hid (fun w' A' c' (h : Sl ByE 1 w' A' [[2, (F.length : Int)], F]) => cat_any A' c' [[2, (F.length : Int)], F] w' h (by simp) (by simp [catL]; omega))
  have hcat : catL [[2, (F.length : Int)], F] = paramL F := by rw [hP0]; simp [catL]
  rw [hcat] at HCat
  unfold Joined at HCat
  obtain ⟨P, hP⟩ : ∃ P, paramL F = P := ⟨_, rfl⟩
  rw [hP] at hpb hpl HCat ⊢
  clear hP0 hcat hP
  obtain ⟨pl, hplE⟩ : ∃ n, P.length = n := ⟨_, rfl⟩
  have HPL := Lib.hid hplE
  rw [hplE] at hpl HCat ⊢
  obtain ⟨fl, hfl⟩ : ∃ n, F.length = n := ⟨_, rfl⟩
  have HFL := Lib.hid hfl
  rw [hfl] at v2 HC HCat hFl
  have u1 : IntKind.u8.wrap (fl : Int) = fl := IntWalk.u8_in _ (by omega)
  have u2 : IntKind.u8.wrap (pl : Int) = pl := IntWalk.u8_in _ (by omega)
  have HFB := Lib.hid hfb
  have HPB := Lib.hid hpb
  clear hfb hpb hplE hfl he
  have u3 : IntKind.u32.wrap h = h := IntWalk.u32_in _ (by omega)
  have a2 : (putL 2 23456).length = 2 := putL_length _ _
  have HA2 := Lib.hid (And.intro (putL_isB 2 23456) (putL_length 2 23456))
  have HH2 := Lib.hid (And.intro (putL_isB 2 h) (putL_length 2 h))
  have HI4 := Lib.hid (And.intro (putL_isB 4 i) (putL_length 4 i))
  have HCat6 := Lib.hid (fun w' A' c' (hh : Sl ByE 1 w' A' [[4], putL 2 23456, putL 2 h, putL 4 i, [(pl : Int)], P]) => cat_any A' c' [[4], putL 2 23456, putL 2 h, putL 4 i, [(pl : Int)], P] w' hh (by simp) (by have h1 := HA2.out.2; have h2 := HH2.out.2; have h3 := HI4.out.2; simp only [catL, List.flatten_cons, List.flatten_nil, List.length_append, List.length_cons, List.length_nil]; rw [HPL.out]; omega))
  have hcat6 : catL [[4], putL 2 23456, putL 2 h, putL 4 i, [(pl : Int)], P] = 4 :: (putL 2 23456 ++ (putL 2 h ++ (putL 4 i ++ ((pl : Int) :: P)))) := by simp [catL]
  rw [hcat6] at HCat6
  unfold Joined at HCat6
  obtain ⟨L, hL⟩ : ∃ L, 4 :: (putL 2 23456 ++ (putL 2 h ++ (putL 4 i ++ ((pl : Int) :: P)))) = L := ⟨_, rfl⟩
  rw [hL] at HCat6 ⊢
  obtain ⟨ll, hll⟩ : ∃ n, L.length = n := ⟨_, rfl⟩
  have HLL := Lib.hid hll
  simp only [hll] at HCat6
  clear hL hll hcat6 a2 hasL
  have h65 : 0 ≤ h ∧ h ≤ 65535 := by omega
  clear h0 h1 s0 s1 i0 i1 v3 v4 v5 hs
  obtain ⟨x1, x2, x3, x4, x5, x6, x7, x8, x9⟩ := hB0.out.four
  go_enter Tryd.func6, Tryd.ntmps6
  go_wp2_with fail
  refine HV.out.mono ?_
  rintro e w1 ⟨rfl, hK1⟩
  have k1 := hk0.out.and hK1
  have b1 := Lib.hid (hB0.out.and hK1)
  obtain ⟨y1, y2, y3, y4, y5, y6, y7, y8, y9⟩ := b1.out.four
  clear x1 x2 x3 x4 x5 x6 x7 x8 x9
  go_wp2_with fail
  refine (HPa.out _).mono ?_
  rintro e w2 ⟨rfl, hK2⟩
  have k2 := k1.and hK2
  have b2 := Lib.hid (b1.out.and hK2)
  clear y1 y2 y3 y4 y5 y6 y7 y8 y9
  obtain ⟨y1, y2, y3, y4, y5, y6, y7, y8, y9⟩ := b2.out.four
  go_wp2_with fail
  refine (HPt.out _).mono ?_
  rintro e w3 ⟨A3, c3, rfl, hown3, hK3⟩
  replace hown3 := Lib.hid hown3
  have k3 := k2.and hK3
  have b3 := Lib.hid (b2.out.and hK3)
  clear y1 y2 y3 y4 y5 y6 y7 y8 y9
  obtain ⟨y1, y2, y3, y4, y5, y6, y7, y8, y9⟩ := b3.out.four
  go_wp2_with fail
  refine (HPh.out _).mono ?_
  rintro e w4 ⟨A4, c4, rfl, hown4, hK4⟩
  replace hown4 := Lib.hid hown4
  have k4 := k3.and hK4
  have b4 := Lib.hid (b3.out.and hK4)
  clear y1 y2 y3 y4 y5 y6 y7 y8 y9
  obtain ⟨y1, y2, y3, y4, y5, y6, y7, y8, y9⟩ := b4.out.four
  go_wp2_with fail
  refine (HPi.out _).mono ?_
  rintro e w5 ⟨A5, c5, rfl, hown5, hK5⟩
  replace hown5 := Lib.hid hown5
  have k5 := k4.and hK5
  have b5 := Lib.hid (b4.out.and hK5)
  clear y1 y2 y3 y4 y5 y6 y7 y8 y9
  obtain ⟨y1, y2, y3, y4, y5, y6, y7, y8, y9⟩ := b5.out.four
  go_wp2_with fail
  refine (HC.out _ k5).mono ?_
  rintro e w6 ⟨A6, c6, rfl, hown6, hK6⟩
  replace hown6 := Lib.hid hown6
  have k6 := k5.and hK6
  have b6 := Lib.hid (b5.out.and hK6)
  clear y1 y2 y3 y4 y5 y6 y7 y8 y9
  obtain ⟨y1, y2, y3, y4, y5, y6, y7, y8, y9⟩ := b6.out.four
  go_wp2_with fail
  have kq : Kp NoB w6 ((w6.alloc (.cells #[.int .u8 2, .int .u8 fl] 5)).alloc (.cells #[.slice (some ⟨w6.heap.size, 0, none⟩) 2 2, .slice A6 fl c6] 28)) := ((Kp.refl _ _).alloc _).alloc _
  have hp := (((PartL.nil ((w6.alloc (.cells #[.int .u8 2, .int .u8 fl] 5)).alloc (.cells #[.slice (some ⟨w6.heap.size, 0, none⟩) 2 2, .slice A6 fl c6] 28)) ((w6.alloc (.cells #[.int .u8 2, .int .u8 fl] 5)).alloc (.cells #[.slice (some ⟨w6.heap.size, 0, none⟩) 2 2, .slice A6 fl c6] 28))).snoc (byE_lit _ w6.heap.size [2, (fl : Int)] ((Bk.fresh w6 5 (bs [2, (fl : Int)]).toArray).alloc _) (by simp) (by intro z hz; simp at hz; omega) 2 rfl).part).snoc (ByE.part (ByE.and kq _ _ (byE_own hown6.out HFL.out HFB.out))))
  refine (HCat.out _ (some ⟨w6.heap.size + 1, 0, none⟩) 2 (sl_of (us := [.slice (some ⟨w6.heap.size, 0, none⟩) 2 2, .slice A6 fl c6]) (by simpa using hp) (Bk.second w6 _ _ _))).mono ?_
  rintro e w7 ⟨A7, c7, rfl, hown7, hK7'⟩
  replace hown7 := Lib.hid hown7
  have hK7 := kq.and hK7'
  clear hp kq
  have k7 := k6.and hK7
  clear y1 y2 y3 y4 y5 y6 y7 y8 y9
  go_wp2_with fail
  have kz : Kp NoB w7 (((w7.alloc (.cells #[.int .u8 4] 5)).alloc (.cells #[.int .u8 pl] 5)).alloc (.cells #[.slice (some ⟨w7.heap.size, 0, none⟩) 1 1, .slice A3 2 c3, .slice A4 2 c4, .slice A5 4 c5, .slice (some ⟨w7.heap.size + 1, 0, none⟩) 1 1, .slice A7 pl c7] 28)) := (((Kp.refl _ _).alloc _).alloc _).alloc _
  have z1 := ByE.and kz _ _ (ByE.and hK7 _ _ (ByE.and hK6 _ _ (ByE.and hK5 _ _ (ByE.and hK4 _ _ (byE_own hown3.out HA2.out.2 HA2.out.1)))))
  have z2 := ByE.and kz _ _ (ByE.and hK7 _ _ (ByE.and hK6 _ _ (ByE.and hK5 _ _ (byE_own hown4.out HH2.out.2 HH2.out.1))))
  have z3 := ByE.and kz _ _ (ByE.and hK7 _ _ (ByE.and hK6 _ _ (byE_own hown5.out HI4.out.2 HI4.out.1)))
  have z4 := ByE.and kz _ _ (byE_own hown7.out HPL.out HPB.out)
  have z5 := byE_lit (((w7.alloc (.cells #[.int .u8 4] 5)).alloc (.cells #[.int .u8 pl] 5)).alloc (.cells #[.slice (some ⟨w7.heap.size, 0, none⟩) 1 1, .slice A3 2 c3, .slice A4 2 c4, .slice A5 4 c5, .slice (some ⟨w7.heap.size + 1, 0, none⟩) 1 1, .slice A7 pl c7] 28)) w7.heap.size [4] (((Bk.fresh w7 5 (bs [4]).toArray).alloc _).alloc _) (by decide) (by intro z hz; simp at hz; omega) 1 rfl
  have z6 := byE_lit (((w7.alloc (.cells #[.int .u8 4] 5)).alloc (.cells #[.int .u8 pl] 5)).alloc (.cells #[.slice (some ⟨w7.heap.size, 0, none⟩) 1 1, .slice A3 2 c3, .slice A4 2 c4, .slice A5 4 c5, .slice (some ⟨w7.heap.size + 1, 0, none⟩) 1 1, .slice A7 pl c7] 28)) (w7.heap.size + 1) [(pl : Int)] ((Bk.second w7 _ 5 (bs [(pl : Int)]).toArray).alloc _) (by simp) (by intro z hz; simp at hz; omega) 1 rfl
  have hp := ((((((PartL.nil (((w7.alloc (.cells #[.int .u8 4] 5)).alloc (.cells #[.int .u8 pl] 5)).alloc (.cells #[.slice (some ⟨w7.heap.size, 0, none⟩) 1 1, .slice A3 2 c3, .slice A4 2 c4, .slice A5 4 c5, .slice (some ⟨w7.heap.size + 1, 0, none⟩) 1 1, .slice A7 pl c7] 28)) (((w7.alloc (.cells #[.int .u8 4] 5)).alloc (.cells #[.int .u8 pl] 5)).alloc (.cells #[.slice (some ⟨w7.heap.size, 0, none⟩) 1 1, .slice A3 2 c3, .slice A4 2 c4, .slice A5 4 c5, .slice (some ⟨w7.heap.size + 1, 0, none⟩) 1 1, .slice A7 pl c7] 28))).snoc z5.part).snoc z1.part).snoc z2.part).snoc z3.part).snoc z6.part).snoc z4.part
  refine (HCat6.out _ (some ⟨w7.heap.size + 1 + 1, 0, none⟩) 6 (sl_of (us := [.slice (some ⟨w7.heap.size, 0, none⟩) 1 1, .slice A3 2 c3, .slice A4 2 c4, .slice A5 4 c5, .slice (some ⟨w7.heap.size + 1, 0, none⟩) 1 1, .slice A7 pl c7]) (by simpa using hp) (Bk.third w7 _ _ _ _))).mono ?_
  rintro e w8 ⟨A8, c8, rfl, hown8, hK8⟩
  clear hp z1 z2 z3 z4 z5 z6
  go_wp2_with fail
  go_ret2
  exact Formed.ret HLL.out hown8 (k7.and kz) hK8 _ rfl

theorem obytes_yes (o : OpenI) (A : Option Addr) (c : Nat) (cs : List Value) (w : World) (hb : o.B) (hx : CapL w o.caps cs) (ha : Arr w A cs) (hl : o.caps.length ≤ 1000000) (hv : validO o = true) :
    Calls Tryd.prog 6 #[o.val A c] w (Formed w (openL o)) := by
  by_cases hs : o.sys ≤ 65535
  · by_cases he : formC o.caps = []
    · exact obytes_se o A c cs w hb hx ha hl hv hs he
    · exact obytes_sf o A c cs w hb hx ha hl hv hs he
  · by_cases he : formC o.caps = []
    · exact obytes_be o A c cs w hb hx ha hl hv (by omega) he
    · exact obytes_bf o A c cs w hb hx ha hl hv (by omega) he

end Go.Proofs.YtilfheociidloaaDoor
