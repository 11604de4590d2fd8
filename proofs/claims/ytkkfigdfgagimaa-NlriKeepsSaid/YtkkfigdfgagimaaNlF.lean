/- Package nlri: Read's closure: its contracts by walking the Go text. -/
import Derived.Test.YtkkfigdfgagimaaNlE
import Derived.Test.YtkkfigdfgagimaaPreF
namespace Go.Proofs.Ytkkfigdfgagimaa
open Go.RowKit
set_option linter.unusedVariables false
set_option linter.unusedSimpArgs false

theorem pread_some {fam : Int} {ys : List Int} {p : PreI} {k : Nat} (hp : readP fam ys = some (p, k)) (w : World) (q r t : Nat) (h : Rd w q r ys t) :
    Calls Try.prog 36 #[.int .i64 fam, .pointer (some ⟨r, 0, none⟩)] w (PReadYes p (ys.drop k) (t + k) q r w) := by
  cases ys with
  | nil => simp [readP] at hp
  | cons l zs =>
    simp only [readP] at hp
    split at hp
    · rename_i hc
      injection hp with hp
      injection hp with h1 h2
      subst h1 h2
      have := pread_yes fam l zs w q r t h hc.1 hc.2
      rwa [show 1 + needN l = needN l + 1 by omega, List.drop_succ_cons, show t + (needN l + 1) = t + 1 + needN l by omega]
    · cases hp
theorem pread_none {fam : Int} {ys : List Int} (hp : readP fam ys = none) (w : World) (q r t : Nat) (h : Rd w q r ys t) :
    Calls Try.prog 36 #[.int .i64 fam, .pointer (some ⟨r, 0, none⟩)] w (PReadNo r w) := by
  cases ys with
  | nil => exact pread_no0 fam w q r t h
  | cons l zs =>
    simp only [readP] at hp
    split at hp
    · cases hp
    · rename_i hc
      by_cases hg : rangedB fam l = true
      · exact pread_no2 fam l zs w q r t h hg (by
          rcases Nat.lt_or_ge zs.length (needN l) with h1 | h1
          · exact h1
          · exact absurd ⟨hg, h1⟩ hc)
      · exact pread_no1 fam l zs w q r t h (by simpa using hg)

theorem readP_good {fam : Int} {ys : List Int} {p : PreI} {k : Nat} (hp : readP fam ys = some (p, k)) (hB : IsB ys) (hf : -9223372036854775808 ≤ fam ∧ fam ≤ 9223372036854775807) : p.B ∧ p.fam = fam ∧ rangedB fam p.len = true ∧ 1 ≤ k ∧ k ≤ ys.length := by
  cases ys with
  | nil => simp [readP] at hp
  | cons l zs =>
    simp only [readP] at hp
    split at hp
    · rename_i hc
      injection hp with hp
      injection hp with h1 h2
      subst h1 h2
      have hl := hB l (by simp)
      refine ⟨⟨hf, ⟨?_, ?_⟩, mkTo_length _ _ _, maskL_isB (padL_isB (IsB.take (fun x hx => hB x (by simp [hx])) _))⟩, rfl, hc.1, by omega, by simp; omega⟩
      · show _ ≤ l; omega
      · show l ≤ _; omega
    · cases hp

/-- The route in front of some bytes, and how many of them it takes. -/
def readR (fam : Int) (add : Bool) (ys : List Int) : Option (RtI × Nat) :=
  if add then (if ys.length < 4 then none else match readP fam (ys.drop 4) with | some (p, k) => some (⟨big (ys.take 4), p⟩, 4 + k) | none => none)
  else match readP fam ys with | some (p, k) => some (⟨0, p⟩, k) | none => none

def rtF (path : Int) : List Value := .int .u32 path :: preF 0 0
theorem rtF_length (path : Int) : (rtF path).length = 19 := rfl
theorem rtF_one (path : Int) : ∀ u ∈ rtF path, u.oneCell' = true := rtC_one ⟨path, zeroP⟩
theorem splice_rt (path : Int) (p : PreI) (h : p.addr.length = 16) : splice (rtF path) 1 (preC p) = rtC ⟨path, p⟩ := by
  unfold splice rtF rtC
  simp only [List.take_succ_cons, List.take_zero, List.cons_append, List.nil_append]
  rw [preC_length h, List.drop_eq_nil_of_le (by simp [preF_length])]
  simp

def NextYes (x : RtI) (zs : List Int) (t q r : Nat) (w : World) (e : Ending) (w' : World) : Prop := e = .returned (.tuple #[x.val, .bool true]) ∧ Rd w' q r zs t ∧ Kp (OnB r) w w'
def NextNo (r : Nat) (w : World) (e : Ending) (w' : World) : Prop := ∃ cs : List Value, e = .returned (.tuple #[.agg cs.toArray, .bool false]) ∧ cs.length = 19 ∧ (∀ u ∈ cs, u.oneCell' = true) ∧ Kp (OnB r) w w'

set_option maxRecDepth 100000 in
set_option maxHeartbeats 4000000 in
theorem next_plain_some (fam : Int) (ys : List Int) (p : PreI) (k : Nat) (hp : readP fam ys = some (p, k)) (ba bf br q r t : Nat) (w : World) (h : Rd w q r ys t) (ha : Bk w ba 4 #[.bool false]) (hf : Bk w bf 3 #[.int .i64 fam]) (hr : Bk w br 59 #[.pointer (some ⟨r, 0, none⟩)])
    (hB : IsB ys) (hfb : -9223372036854775808 ≤ fam ∧ fam ≤ 9223372036854775807) :
    Calls Try.prog 34 #[.pointer (some ⟨ba, 0, none⟩), .pointer (some ⟨br, 0, none⟩), .pointer (some ⟨bf, 0, none⟩)] w (NextYes ⟨0, p⟩ (ys.drop k) (t + k) q r w) := by
  have hg := readP_good hp hB hfb
  have hq : q < w.heap.size := h.lt_q (by rintro rfl; simp [readP] at hp)
  have hrl := h.lt
  have HZ := Lib.hid (Bk.fresh w 31 (rtF 0).toArray)
  have HP := Lib.hid (pread_some hp (w.alloc (.cells (rtF 0).toArray 31)) q r t (h.and ((Kp.refl _ _).alloc _)))
  have HS := Lib.hid (splice_rt 0 p hg.1.2.2.1)
  have HPO := Lib.hid (all_oneCell_toArray (preC_one p))
  have HXO := Lib.hid (all_oneCell_toArray (rtC_one ⟨0, p⟩))
  have HPL := Lib.hid (preC_length hg.1.2.2.1)
  have HXL := Lib.hid (rtC_length (x := ⟨0, p⟩) hg.1.2.2.1)
  have HI18 := Lib.hid (size_of infoPre).2
  have HI19 := Lib.hid (size_of infoRt).2
  unfold NextYes
  unfold PReadYes PreI.val at HP
  unfold RtI.val
  obtain ⟨cP, hcP⟩ : ∃ cP, preC p = cP := ⟨_, rfl⟩
  rw [hcP] at HP HS HPO HPL
  obtain ⟨cX, hcX⟩ : ∃ cX, rtC ⟨0, p⟩ = cX := ⟨_, rfl⟩
  rw [hcX] at HS HXO HXL ⊢
  obtain ⟨a1, a2, a3⟩ := ha.one
  obtain ⟨f1, f2, f3⟩ := hf.one
  obtain ⟨r1, r2, r3⟩ := hr.one
  clear hcP hcX h hp hg ha hf hr a2 f2 r2
  go_enter Try.func34, Try.ntmps34
  go_wp2_with (first
    | (go_at_call 36; refine HP.out.mono ?_; rintro e w1 ⟨rfl, hR1, hK1⟩; have HZ1 := Lib.hid (show Bk w1 w.heap.size 31 (rtF 0).toArray from HZ.out.keep hK1 (fun e => by unfold OnB at e; omega)); replace hK1 := Lib.hid hK1; replace hR1 := Lib.hid hR1)
    | (refine wpList_store_mid rfl 29 (.tmp 21) (.tmp 19) rfl w.heap.size 1 cP.toArray rfl rfl (there_bk HZ1.out 1 _ (by rw [rtF_length, List.size_toArray, HPL.out]; decide)) (by rw [List.size_toArray, HPL.out]; exact HI18.out) HPO.out ?_; have HB3 := Lib.hid (show Bk (w1.setCells w.heap.size 1 cP) w.heap.size 31 cX.toArray by have := Bk.setCells cP 1 HZ1.out (by rw [rtF_length, HPL.out]; decide); rwa [HS.out] at this))
    | (refine wpList_load_at rfl 31 (.tmp 3) rfl ⟨w.heap.size, 0, none⟩ rfl cX _ (CellsAt.of_bk HB3.out) Try.underlying31 rfl (by rw [HXL.out]; exact HI19.out) ?_)
    | (refine wpList_store_row rfl 31 (.tmp 3) (.tmp 22) rfl w.heap.size cX.toArray rfl rfl 31 cX.toArray HB3.out (by rw [List.size_toArray, HXL.out]; exact HI19.out) rfl HXO.out ?_))
  refine bodyPost_ret (v := .tuple #[.agg cX.toArray, .bool true]) (results_row_tmp (fn := Try.f34) rfl _ _ w.heap.size 31 cX.toArray (0, 0) _ rfl (HB3.out.row _) Try.underlying31 rfl (by rw [List.size_toArray, HXL.out]; exact HI19.out)) rfl ⟨rfl, ?_, ?_⟩
  · exact hR1.out.keep (Kp.row (S := OnB w.heap.size) (Kp.setCells (S := OnB w.heap.size) (fun _ => rfl) cP 1 (Kp.refl _ w1)) (fun _ => rfl) _) (fun e => by unfold OnB at e; omega) (fun hy e => by unfold OnB at e; omega)
  · exact Kp.row (Kp.setCells (fun h => by omega) cP 1 (((Kp.refl _ w).alloc _).same hK1.out)) (fun h => by omega) _

set_option maxRecDepth 100000 in
set_option maxHeartbeats 4000000 in
theorem next_plain_none (fam : Int) (ys : List Int) (hp : readP fam ys = none) (ba bf br q r t : Nat) (w : World) (h : Rd w q r ys t) (ha : Bk w ba 4 #[.bool false]) (hf : Bk w bf 3 #[.int .i64 fam]) (hr : Bk w br 59 #[.pointer (some ⟨r, 0, none⟩)]) :
    Calls Try.prog 34 #[.pointer (some ⟨ba, 0, none⟩), .pointer (some ⟨br, 0, none⟩), .pointer (some ⟨bf, 0, none⟩)] w (NextNo r w) := by
  have hrl := h.lt
  have HZ := Lib.hid (Bk.fresh w 31 (rtF 0).toArray)
  have HP := Lib.hid (pread_none hp (w.alloc (.cells (rtF 0).toArray 31)) q r t (h.and ((Kp.refl _ _).alloc _)))
  have HS := Lib.hid (splice_rt 0 zeroP rfl)
  have HPO := Lib.hid (all_oneCell_toArray (preC_one zeroP))
  have HXO := Lib.hid (all_oneCell_toArray (rtC_one ⟨0, zeroP⟩))
  have HPL := Lib.hid (preC_length (p := zeroP) rfl)
  have HXL := Lib.hid (rtC_length (x := ⟨0, zeroP⟩) rfl)
  have HI18 := Lib.hid (size_of infoPre).2
  have HI19 := Lib.hid (size_of infoRt).2
  unfold NextNo
  unfold PReadNo PreI.val at HP
  obtain ⟨cP, hcP⟩ : ∃ cP, preC zeroP = cP := ⟨_, rfl⟩
  rw [hcP] at HP HS HPO HPL
  obtain ⟨cX, hcX⟩ : ∃ cX, rtC ⟨0, zeroP⟩ = cX := ⟨_, rfl⟩
  rw [hcX] at HS HXO HXL
  obtain ⟨a1, a2, a3⟩ := ha.one
  obtain ⟨f1, f2, f3⟩ := hf.one
  obtain ⟨r1, r2, r3⟩ := hr.one
  clear hcP hcX h hp ha hf hr a2 f2 r2
  go_enter Try.func34, Try.ntmps34
  go_wp2_with (first
    | (go_at_call 36; refine HP.out.mono ?_; rintro e w1 ⟨rfl, hK1⟩; have HZ1 := Lib.hid (show Bk w1 w.heap.size 31 (rtF 0).toArray from HZ.out.keep hK1 (fun e => by unfold OnB at e; omega)); replace hK1 := Lib.hid hK1)
    | (refine wpList_store_mid rfl 29 (.tmp 21) (.tmp 19) rfl w.heap.size 1 cP.toArray rfl rfl (there_bk HZ1.out 1 _ (by rw [rtF_length, List.size_toArray, HPL.out]; decide)) (by rw [List.size_toArray, HPL.out]; exact HI18.out) HPO.out ?_; have HB3 := Lib.hid (show Bk (w1.setCells w.heap.size 1 cP) w.heap.size 31 cX.toArray by have := Bk.setCells cP 1 HZ1.out (by rw [rtF_length, HPL.out]; decide); rwa [HS.out] at this))
    | (refine wpList_load_at rfl 31 (.tmp 3) rfl ⟨w.heap.size, 0, none⟩ rfl cX _ (CellsAt.of_bk HB3.out) Try.underlying31 rfl (by rw [HXL.out]; exact HI19.out) ?_)
    | (refine wpList_store_row rfl 31 (.tmp 3) (.tmp 22) rfl w.heap.size cX.toArray rfl rfl 31 cX.toArray HB3.out (by rw [List.size_toArray, HXL.out]; exact HI19.out) rfl HXO.out ?_))
  refine bodyPost_ret (v := .tuple #[.agg cX.toArray, .bool false]) (results_row_tmp (fn := Try.f34) rfl _ _ w.heap.size 31 cX.toArray (0, 0) _ rfl (HB3.out.row _) Try.underlying31 rfl (by rw [List.size_toArray, HXL.out]; exact HI19.out)) rfl ⟨cX, rfl, HXL.out, fun u hu => (Array.all_eq_true_iff_forall_mem.1 HXO.out) u (by simpa using hu), ?_⟩
  exact Kp.row (Kp.setCells (fun h => by omega) cP 1 (((Kp.refl _ w).alloc _).same hK1.out)) (fun h => by omega) _

set_option maxRecDepth 100000 in
set_option maxHeartbeats 4000000 in
theorem next_short (fam : Int) (ys : List Int) (hs : ys.length < 4) (ba bf br q r t : Nat) (w : World) (h : Rd w q r ys t) (ha : Bk w ba 4 #[.bool true]) (hr : Bk w br 59 #[.pointer (some ⟨r, 0, none⟩)]) :
    Calls Try.prog 34 #[.pointer (some ⟨ba, 0, none⟩), .pointer (some ⟨br, 0, none⟩), .pointer (some ⟨bf, 0, none⟩)] w (NextNo r w) := by
  have hrl := h.lt
  have HZ := Lib.hid (Bk.fresh w 31 (rtF 0).toArray)
  have HP := Lib.hid (number_short (w.alloc (.cells (rtF 0).toArray 31)) q r ys t 4 (h.and ((Kp.refl _ _).alloc _)) (by decide) (by decide) (by omega))
  have HXO := Lib.hid (show (rtF 0).toArray.all (·.oneCell') = true from all_oneCell_toArray (rtF_one 0))
  have HI19 := Lib.hid (size_of infoRt).2
  obtain ⟨a1, a2, a3⟩ := ha.one
  obtain ⟨r1, r2, r3⟩ := hr.one
  have HFIN : Hid (∀ w1 : World, Bk w1 w.heap.size 31 (rtF 0).toArray → Bk (w1.setCell ⟨w.heap.size, 0, none⟩ (.int .u32 0)) w.heap.size 31 (rtF 0).toArray) := Lib.hid (fun w1 h1 => h1.set 0 (.int .u32 0))
  clear h ha hr a2 r2 hs
  go_enter Try.func34, Try.ntmps34
  go_wp2_with (first
    | (go_at_call 35; refine HP.out.mono ?_; rintro e w1 ⟨rfl, hK1⟩; have HZ1 := Lib.hid (show Bk w1 w.heap.size 31 (rtF 0).toArray from HZ.out.and hK1); replace hK1 := Lib.hid hK1; have z1 := HZ1.out.cell 0; have z2 := HZ1.out.frozen 0; change _ = some (Value.int .u32 0) at z1; have HZ2 := Lib.hid (HFIN.out _ HZ1.out))
    | (refine wpList_load_at rfl 31 (.tmp 3) rfl ⟨w.heap.size, 0, none⟩ rfl (rtF 0) _ (CellsAt.of_bk HZ2.out) Try.underlying31 rfl (by rw [rtF_length]; exact HI19.out) ?_)
    | (refine wpList_store_row rfl 31 (.tmp 3) (.tmp 14) rfl w.heap.size (rtF 0).toArray rfl rfl 31 (rtF 0).toArray HZ2.out (by rw [List.size_toArray, rtF_length]; exact HI19.out) rfl HXO.out ?_))
  refine bodyPost_ret (v := .tuple #[.agg (rtF 0).toArray, .bool false]) (results_row_tmp (fn := Try.f34) rfl _ _ w.heap.size 31 (rtF 0).toArray (0, 0) _ rfl (HZ2.out.row _) Try.underlying31 rfl (by rw [List.size_toArray, rtF_length]; exact HI19.out)) rfl ⟨rtF 0, rfl, rfl, rtF_one 0, ?_⟩
  exact Kp.row ((((Kp.refl _ w).alloc _).and hK1.out).setCell (p := ⟨w.heap.size, 0, none⟩) (fun h => by exact absurd h (Nat.lt_irrefl _)) _) (fun h => by omega) _

set_option maxRecDepth 100000 in
set_option maxHeartbeats 4000000 in
theorem next_add_none (fam : Int) (ys : List Int) (hl : 4 ≤ ys.length) (hp : readP fam (ys.drop 4) = none) (ba bf br q r t : Nat) (w : World) (h : Rd w q r ys t) (ha : Bk w ba 4 #[.bool true]) (hf : Bk w bf 3 #[.int .i64 fam]) (hr : Bk w br 59 #[.pointer (some ⟨r, 0, none⟩)])
    (hba : ba ≠ r) (hbf : bf ≠ r) (hbr : br ≠ r) :
    Calls Try.prog 34 #[.pointer (some ⟨ba, 0, none⟩), .pointer (some ⟨br, 0, none⟩), .pointer (some ⟨bf, 0, none⟩)] w (NextNo r w) := by
  have hrl := h.lt
  have hq : q < w.heap.size := h.lt_q (by rintro rfl; simp at hl)
  have HZ := Lib.hid (Bk.fresh w 31 (rtF 0).toArray)
  have HN := Lib.hid (number_yes (w.alloc (.cells (rtF 0).toArray 31)) q r ys t 4 (h.and ((Kp.refl _ _).alloc _)) (by decide) (by decide) hl)
  have HP := Lib.hid (fun (w : World) (hR : Rd w q r (ys.drop 4) (t + 4)) => pread_none hp w q r (t + 4) hR)
  obtain ⟨v, hv⟩ : ∃ v, big (ys.take 4) = v := ⟨_, rfl⟩
  have HS := Lib.hid (splice_rt v zeroP rfl)
  have HPO := Lib.hid (all_oneCell_toArray (preC_one zeroP))
  have HXO := Lib.hid (all_oneCell_toArray (rtC_one ⟨v, zeroP⟩))
  have HPL := Lib.hid (preC_length (p := zeroP) rfl)
  have HXL := Lib.hid (rtC_length (x := ⟨v, zeroP⟩) rfl)
  have HI18 := Lib.hid (size_of infoPre).2
  have HI19 := Lib.hid (size_of infoRt).2
  unfold NumYes at HN
  rw [hv] at HN
  unfold NextNo
  unfold PReadNo PreI.val at HP
  obtain ⟨cP, hcP⟩ : ∃ cP, preC zeroP = cP := ⟨_, rfl⟩
  rw [hcP] at HP HS HPO HPL
  obtain ⟨cX, hcX⟩ : ∃ cX, rtC ⟨v, zeroP⟩ = cX := ⟨_, rfl⟩
  rw [hcX] at HS HXO HXL
  have HF := Lib.hid hf
  have HR := Lib.hid hr
  obtain ⟨a1, a2, a3⟩ := ha.one
  obtain ⟨r1, r2, r3⟩ := hr.one
  have HFIN : Hid (∀ w1 : World, Bk w1 w.heap.size 31 (rtF 0).toArray → Bk (w1.setCell ⟨w.heap.size, 0, none⟩ (.int .u32 v)) w.heap.size 31 (rtF v).toArray) := Lib.hid (fun w1 h1 => h1.set 0 (.int .u32 v))
  have hfl := hf.lt
  clear h ha hr hf a2 r2 hl hp hv hcP hcX
  go_enter Try.func34, Try.ntmps34
  go_wp2_with (first
    | (go_at_call 35; refine HN.out.mono ?_; rintro e w1 ⟨rfl, hR1, hK1⟩; have HZ1 := Lib.hid (show Bk w1 w.heap.size 31 (rtF 0).toArray from HZ.out.keep hK1 (fun e => by unfold OnB at e; omega)); have z1 := HZ1.out.cell 0; have z2 := HZ1.out.frozen 0; change _ = some (Value.int .u32 0) at z1; have HZ2 := Lib.hid (HFIN.out _ HZ1.out); obtain ⟨f1, f2, f3⟩ := ((HF.out.alloc _).keep hK1 (fun e => hbf e)).one; obtain ⟨r4, r5, r6⟩ := ((HR.out.alloc _).keep hK1 (fun e => hbr e)).one; replace hK1 := Lib.hid hK1; have HR1 := Lib.hid (hR1.keep ((Kp.refl (OnB w.heap.size) w1).setCell (p := ⟨w.heap.size, 0, none⟩) (fun _ => rfl) (.int .u32 v)) (fun e => by unfold OnB at e; omega) (fun _ e => by unfold OnB at e; omega)); clear hR1)
    | (go_at_call 36; refine (HP.out _ HR1.out).mono ?_; rintro e w2 ⟨rfl, hK2⟩; have HZ3 := Lib.hid (show Bk w2 w.heap.size 31 (rtF v).toArray from HZ2.out.keep hK2 (fun e => by unfold OnB at e; omega)); replace hK2 := Lib.hid hK2)
    | (refine wpList_store_mid rfl 29 (.tmp 21) (.tmp 19) rfl w.heap.size 1 cP.toArray rfl rfl (there_bk HZ3.out 1 _ (by rw [rtF_length, List.size_toArray, HPL.out]; decide)) (by rw [List.size_toArray, HPL.out]; exact HI18.out) HPO.out ?_; have HB3 := Lib.hid (show Bk (w2.setCells w.heap.size 1 cP) w.heap.size 31 cX.toArray by have := Bk.setCells cP 1 HZ3.out (by rw [rtF_length, HPL.out]; decide); rwa [HS.out] at this))
    | (refine wpList_load_at rfl 31 (.tmp 3) rfl ⟨w.heap.size, 0, none⟩ rfl cX _ (CellsAt.of_bk HB3.out) Try.underlying31 rfl (by rw [HXL.out]; exact HI19.out) ?_)
    | (refine wpList_store_row rfl 31 (.tmp 3) (.tmp 22) rfl w.heap.size cX.toArray rfl rfl 31 cX.toArray HB3.out (by rw [List.size_toArray, HXL.out]; exact HI19.out) rfl HXO.out ?_))
  refine bodyPost_ret (v := .tuple #[.agg cX.toArray, .bool false]) (results_row_tmp (fn := Try.f34) rfl _ _ w.heap.size 31 cX.toArray (0, 0) _ rfl (HB3.out.row _) Try.underlying31 rfl (by rw [List.size_toArray, HXL.out]; exact HI19.out)) rfl ⟨cX, rfl, HXL.out, fun u hu => (Array.all_eq_true_iff_forall_mem.1 HXO.out) u (by simpa using hu), ?_⟩
  exact Kp.row (Kp.setCells (fun h => by omega) cP 1 (((((Kp.refl _ w).alloc _).same hK1.out).setCell (p := ⟨w.heap.size, 0, none⟩) (fun h => by exact absurd h (Nat.lt_irrefl _)) _).same hK2.out)) (fun h => by omega) _

set_option maxRecDepth 100000 in
set_option maxHeartbeats 4000000 in
theorem next_add_some (fam : Int) (ys : List Int) (p : PreI) (k : Nat) (hl : 4 ≤ ys.length) (hp : readP fam (ys.drop 4) = some (p, k)) (ba bf br q r t : Nat) (w : World) (h : Rd w q r ys t) (ha : Bk w ba 4 #[.bool true]) (hf : Bk w bf 3 #[.int .i64 fam]) (hr : Bk w br 59 #[.pointer (some ⟨r, 0, none⟩)])
    (hba : ba ≠ r) (hbf : bf ≠ r) (hbr : br ≠ r) (hB : IsB ys) (hfb : -9223372036854775808 ≤ fam ∧ fam ≤ 9223372036854775807) :
    Calls Try.prog 34 #[.pointer (some ⟨ba, 0, none⟩), .pointer (some ⟨br, 0, none⟩), .pointer (some ⟨bf, 0, none⟩)] w (NextYes ⟨big (ys.take 4), p⟩ (ys.drop (4 + k)) (t + (4 + k)) q r w) := by
  have hg := readP_good hp (hB.drop 4) hfb
  have hrl := h.lt
  have hq : q < w.heap.size := h.lt_q (by rintro rfl; simp at hl)
  have HZ := Lib.hid (Bk.fresh w 31 (rtF 0).toArray)
  have HN := Lib.hid (number_yes (w.alloc (.cells (rtF 0).toArray 31)) q r ys t 4 (h.and ((Kp.refl _ _).alloc _)) (by decide) (by decide) hl)
  have HP := Lib.hid (fun (w : World) (hR : Rd w q r (ys.drop 4) (t + 4)) => pread_some hp w q r (t + 4) hR)
  rw [List.drop_drop, Nat.add_assoc] at HP
  obtain ⟨v, hv⟩ : ∃ v, big (ys.take 4) = v := ⟨_, rfl⟩
  have HS := Lib.hid (splice_rt v p hg.1.2.2.1)
  have HPO := Lib.hid (all_oneCell_toArray (preC_one p))
  have HXO := Lib.hid (all_oneCell_toArray (rtC_one ⟨v, p⟩))
  have HPL := Lib.hid (preC_length hg.1.2.2.1)
  have HXL := Lib.hid (rtC_length (x := ⟨v, p⟩) hg.1.2.2.1)
  have HI18 := Lib.hid (size_of infoPre).2
  have HI19 := Lib.hid (size_of infoRt).2
  unfold NumYes at HN
  rw [hv] at HN ⊢
  unfold NextYes
  unfold PReadYes PreI.val at HP
  unfold RtI.val
  obtain ⟨cP, hcP⟩ : ∃ cP, preC p = cP := ⟨_, rfl⟩
  rw [hcP] at HP HS HPO HPL
  obtain ⟨cX, hcX⟩ : ∃ cX, rtC ⟨v, p⟩ = cX := ⟨_, rfl⟩
  rw [hcX] at HS HXO HXL ⊢
  have HF := Lib.hid hf
  have HR := Lib.hid hr
  obtain ⟨a1, a2, a3⟩ := ha.one
  obtain ⟨r1, r2, r3⟩ := hr.one
  have HFIN : Hid (∀ w1 : World, Bk w1 w.heap.size 31 (rtF 0).toArray → Bk (w1.setCell ⟨w.heap.size, 0, none⟩ (.int .u32 v)) w.heap.size 31 (rtF v).toArray) := Lib.hid (fun w1 h1 => h1.set 0 (.int .u32 v))
  have hfl := hf.lt
  clear h ha hr hf a2 r2 hl hp hv hg hcP hcX
  go_enter Try.func34, Try.ntmps34
  go_wp2_with (first
    | (go_at_call 35; refine HN.out.mono ?_; rintro e w1 ⟨rfl, hR1, hK1⟩; have HZ1 := Lib.hid (show Bk w1 w.heap.size 31 (rtF 0).toArray from HZ.out.keep hK1 (fun e => by unfold OnB at e; omega)); have z1 := HZ1.out.cell 0; have z2 := HZ1.out.frozen 0; change _ = some (Value.int .u32 0) at z1; have HZ2 := Lib.hid (HFIN.out _ HZ1.out); obtain ⟨f1, f2, f3⟩ := ((HF.out.alloc _).keep hK1 (fun e => hbf e)).one; obtain ⟨r4, r5, r6⟩ := ((HR.out.alloc _).keep hK1 (fun e => hbr e)).one; replace hK1 := Lib.hid hK1; have HR1 := Lib.hid (hR1.keep ((Kp.refl (OnB w.heap.size) w1).setCell (p := ⟨w.heap.size, 0, none⟩) (fun _ => rfl) (.int .u32 v)) (fun e => by unfold OnB at e; omega) (fun _ e => by unfold OnB at e; omega)); clear hR1)
    | (go_at_call 36; refine (HP.out _ HR1.out).mono ?_; rintro e w2 ⟨rfl, hR2, hK2⟩; have HZ3 := Lib.hid (show Bk w2 w.heap.size 31 (rtF v).toArray from HZ2.out.keep hK2 (fun e => by unfold OnB at e; omega)); replace hK2 := Lib.hid hK2; replace hR2 := Lib.hid hR2)
    | (refine wpList_store_mid rfl 29 (.tmp 21) (.tmp 19) rfl w.heap.size 1 cP.toArray rfl rfl (there_bk HZ3.out 1 _ (by rw [rtF_length, List.size_toArray, HPL.out]; decide)) (by rw [List.size_toArray, HPL.out]; exact HI18.out) HPO.out ?_; have HB3 := Lib.hid (show Bk (w2.setCells w.heap.size 1 cP) w.heap.size 31 cX.toArray by have := Bk.setCells cP 1 HZ3.out (by rw [rtF_length, HPL.out]; decide); rwa [HS.out] at this))
    | (refine wpList_load_at rfl 31 (.tmp 3) rfl ⟨w.heap.size, 0, none⟩ rfl cX _ (CellsAt.of_bk HB3.out) Try.underlying31 rfl (by rw [HXL.out]; exact HI19.out) ?_)
    | (refine wpList_store_row rfl 31 (.tmp 3) (.tmp 22) rfl w.heap.size cX.toArray rfl rfl 31 cX.toArray HB3.out (by rw [List.size_toArray, HXL.out]; exact HI19.out) rfl HXO.out ?_))
  refine bodyPost_ret (v := .tuple #[.agg cX.toArray, .bool true]) (results_row_tmp (fn := Try.f34) rfl _ _ w.heap.size 31 cX.toArray (0, 0) _ rfl (HB3.out.row _) Try.underlying31 rfl (by rw [List.size_toArray, HXL.out]; exact HI19.out)) rfl ⟨rfl, ?_, ?_⟩
  · exact hR2.out.keep (Kp.row (S := OnB w.heap.size) (Kp.setCells (S := OnB w.heap.size) (fun _ => rfl) cP 1 (Kp.refl _ w2)) (fun _ => rfl) _) (fun e => by unfold OnB at e; omega) (fun hy e => by unfold OnB at e; omega)
  · exact Kp.row (Kp.setCells (fun h => by omega) cP 1 (((((Kp.refl _ w).alloc _).same hK1.out).setCell (p := ⟨w.heap.size, 0, none⟩) (fun h => by exact absurd h (Nat.lt_irrefl _)) _).same hK2.out)) (fun h => by omega) _

end Go.Proofs.Ytkkfigdfgagimaa
