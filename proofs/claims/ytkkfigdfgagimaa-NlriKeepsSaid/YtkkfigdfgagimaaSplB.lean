/- peerageref03.Split: its contract by walking the Go text. -/
import Derived.Test.YtkkfigdfgagimaaSplA
import Derived.Test.YtkkfigdfgagimaaRNlA
namespace Go.Proofs.Ytkkfigdfgagimaa
open Go.RowKit
set_option linter.unusedVariables false
set_option linter.unusedSimpArgs false

theorem SpI.n_le {most : Int} {add : Bool} {xs : List RtI} {s : SpS} (h : SpI most add xs s) : s.n ≤ (formN add xs).length := by
  rw [h.size, ← h.all]
  simp [formN]

theorem ne_rt : (31 : TypeId) ≠ 22 := by decide
/-- The lists so far (out) and the one at work (now), in memory. -/
structure RS (w wr : World) (lim : Nat) (out : List (List RtI)) (now : List RtI) (A : Option Addr) (ol c : Nat) (B : Option Addr) (nl d : Nat) (cs : List Value) : Prop where
  hol : out.length = ol
  hnl : now.length = nl
  own : wr.ownsRow w.heap.size 22 1 (.slice A ol c) ol cs
  gl : GL wr w.heap.size lim out cs
  nw : wr.ownsRow lim 31 19 (.slice B nl d) nl (flatE rtC now)
  lo : w.heap.size ≤ lim
  hi : lim ≤ wr.heap.size
  kp : Kp NoB w wr
section
variable {w wr w2 w3 : World} {lim : Nat} {out : List (List RtI)} {now : List RtI} {A B : Option Addr} {ol c nl d : Nat} {cs : List Value}
theorem RS.zero (k : Kp NoB w wr) : RS w wr wr.heap.size [] [] none 0 0 none 0 0 [] := ⟨rfl, rfl, World.ownsRow_nil _ _ _ _, GL.nil _ _ _, World.ownsRow_nil _ _ _ _, k.size, Nat.le_refl _, k⟩
theorem RS.and (h : RS w wr lim out now A ol c B nl d cs) (k : Kp NoB wr w2) : RS w w2 lim out now A ol c B nl d cs :=
  ⟨h.hol, h.hnl, k.own h.own (fun _ _ q => q), h.gl.and k, k.own h.nw (fun _ _ q => q), h.lo, Nat.le_trans h.hi k.size, h.kp.and k⟩
theorem RS.alloc (h : RS w wr lim out now A ol c B nl d cs) (o : Obj) : RS w (wr.alloc o) lim out now A ol c B nl d cs := h.and ((Kp.refl _ _).alloc o)
/-- The list at work joins the others. -/
theorem RS.push (h : RS w wr lim out now A ol c B nl d cs) {A3 : Option Addr} {c3 : Nat} (hg : wr.grownBy w3 (Value.slice A ol c).ownBlock)
    (ho : w3.ownsRow w.heap.size 22 1 (.slice A3 (ol + 1) c3) (ol + 1) (cs ++ [.slice B nl d])) : RS w w3 w3.heap.size (out ++ [now]) [] A3 (ol + 1) c3 none 0 0 (cs ++ [.slice B nl d]) := by
  have hk := Kp.of_grown hg
  have hnw := hk.own h.nw (own_two h.nw h.own ne_rt)
  refine ⟨by simp [h.hol], rfl, ho, ?_, World.ownsRow_nil _ _ _ _, Nat.le_trans h.lo (Nat.le_trans h.hi hk.size), Nat.le_refl _, h.kp.grown hg (fun b hb => .inl (own_base h.own b hb))⟩
  refine ((h.gl.keep hk (fun v n xs q _ => own_two q h.own ne_rt)).up (Nat.le_trans h.hi hk.size)).snoc h.hnl.symm (own_down hnw h.lo) (fun b hb => (hnw.lt b hb).2)
/-- A route joins the list at work. -/
theorem RS.put (h : RS w wr lim out now A ol c B nl d cs) {B3 : Option Addr} {d3 : Nat} {x : RtI} (hg : wr.grownBy w3 (Value.slice B nl d).ownBlock)
    (ho : w3.ownsRow lim 31 19 (.slice B3 (nl + 1) d3) (nl + 1) (flatE rtC now ++ rtC x)) : RS w w3 lim out (now ++ [x]) A ol c B3 (nl + 1) d3 cs := by
  have hk := Kp.of_grown hg
  refine ⟨h.hol, by simp [h.hnl], hk.own h.own (own_two h.own h.nw ne_rt.symm), h.gl.keep hk (fun v n xs q hl b hb hq => ?_), by rw [flatE_snoc]; exact ho, h.lo, Nat.le_trans h.hi hk.size, h.kp.grown hg (fun b hb => .inl (Nat.le_trans h.lo (own_base h.nw b hb)))⟩
  have h1 := hl b hb
  have h2 := own_base h.nw b hq.symm
  omega
end

theorem splitAny_of {w wr : World} {lim : Nat} {out : List (List RtI)} {A : Option Addr} {ol c : Nat} {B : Option Addr} {d : Nat} {cs : List Value} (h : RS w wr lim out [] A ol c B 0 d cs) {o : Option (List (List RtI))} (ho : o = some out) (e : Ending)
    (he : e = .returned (.tuple #[.slice A ol c, .bool true])) : SplitAny o w e wr := by
  subst ho
  have h1 := h.hol
  subst h1
  exact ⟨A, c, cs, he, h.own, h.gl.up h.hi, h.kp⟩

set_option maxRecDepth 100000 in
set_option maxHeartbeats 8000000 in
theorem rsplit_good (most fam : Int) (add : Bool) (A0 : Option Addr) (c0 : Nat) (xs : List RtI) (w : World) (hx : RtL w A0 xs) (hn : xs.length ≤ 1000) (hv : validL fam add xs = true) (hmo : -9223372036854775808 ≤ most ∧ most ≤ 9223372036854775807) :
    Calls Try.prog 15 #[.int .i64 most, .int .i64 fam, .bool add, .slice A0 xs.length c0] w (SplitAny (splitO most fam add xs) w) := by
  have HV := Lib.hid (rnvalid_any fam add A0 c0 xs w hx (by omega))
  have HP := Lib.hid (validL_pre hv)
  rw [hv] at HV
  have HL := Lib.hid (fun j => formN_len add (xs.take j) (fun x hx => validL_pre hv x (List.mem_of_mem_take hx)))
  have HSO := Lib.hid (show splitO most fam add xs = (spRun most add xs sp0).map spGroups by unfold splitO; rw [if_pos hv])
  have HX := Lib.hid hx
  clear hx hv
  obtain ⟨i0, hi, hz0, hz1, hz2⟩ := info_parts infoRt19
  obtain ⟨iS, hiS, hs0, hs1, hs2⟩ := info_parts infoRtS
  obtain ⟨R, hR⟩ : ∃ R, splitO most fam add xs = R := ⟨_, rfl⟩
  rw [hR] at HSO ⊢
  clear hR
  obtain ⟨n, hnn⟩ : ∃ n, xs.length = n := ⟨_, rfl⟩
  have HN := Lib.hid hnn
  rw [hnn] at hn HV ⊢
  clear hnn
  go_enter Try.func15, Try.ntmps15
  go_wp2_with (go_at_call 23; refine HV.out.mono ?_; rintro e w1 ⟨rfl, hK1⟩)
  go_loopw [10, 11, 12, 13] (fun vo vn vk i wr => ∃ (j ol c nl d sn lim : Nat) (A B : Option Addr) (s : SpS) (cs : List Value), j ≤ n ∧ i = .int .i64 j ∧ vk = .int .i64 sn ∧ vn = .slice B nl d ∧ vo = .slice A ol c ∧ Hid (s.n = sn) ∧ Hid (spRun most add (xs.take j) sp0 = some s) ∧ Hid (RS w wr lim s.out s.now A ol c B nl d cs)) (fun _ _ _ i _ => n - (intOf i).toNat)
  case atStart => exact ⟨0, 0, 0, 0, 0, 0, _, none, none, sp0, [], Nat.zero_le _, rfl, rfl, rfl, rfl, Lib.hid rfl, Lib.hid rfl, Lib.hid (RS.zero hK1)⟩
  case round =>
    obtain ⟨j, ol, c, nl, d, sn, lim, A, B, s, cs, hj, rfl, rfl, rfl, rfl, HSN, HRUN, HRS⟩ := hrel
    have hI := spI_of (most := most) (add := add) (by rw [HN.out]; exact hj) HRUN.out
    have hsl : sn ≤ 21 * j := by have h0 := hI.n_le; have h1 := HL.out j; have h2 := HSN.out; have h3 := List.length_take_le j xs; omega
    have hnl : nl ≤ j ∧ ol ≤ j := by have h0 := hI.few; have h1 := HRS.out.hol; have h2 := HRS.out.hnl; have h3 := List.length_take_le j xs; omega
    have hne : s.now ≠ [] ↔ 0 < nl := by rw [← HRS.out.hnl]; exact List.length_pos_iff.symm
    have HOW := Lib.hid hI.start
    clear hI
    by_cases hlt : j < n
    · obtain ⟨ad, x, hxj, hxB, hA, hc⟩ := HX.out.at (by rw [HN.out]; exact hlt)
      subst hA
      have HC := Lib.hid hc
      have HI := Lib.hid (show (Try.prog.info? 31).map (·.size) = some (rtC x).length by rw [rtC_length hxB.2.2.2.1]; exact (size_of infoRt).2)
      have HCL := Lib.hid (rtC_length hxB.2.2.2.1)
      have HCV := Lib.hid (rtC_one x)
      have hpv := HP.out x (List.mem_of_getElem? hxj)
      have HFM := Lib.hid (fun w => rform_any add x w hxB hpv)
      have hfl := formR_len (add := add) hpv
      unfold RtI.val at HFM
      have HXJ := Lib.hid hxj
      have HSTEP := Lib.hid (show spStep most add s x = if most < ((formR add x).length : Int) then none else if s.now ≠ [] ∧ most < (s.n : Int) + ((formR add x).length : Int) then some ⟨s.out ++ [s.now], [x], (formR add x).length⟩ else some ⟨s.out, s.now ++ [x], s.n + (formR add x).length⟩ from rfl)
      obtain ⟨rs, hrs⟩ : ∃ rs, rtC x = rs := ⟨_, rfl⟩
      have HRX := Lib.hid hrs
      obtain ⟨L, hL⟩ : ∃ L, formR add x = L := ⟨_, rfl⟩
      rw [hrs] at HFM HC HI HCL HCV
      rw [hL] at HFM hfl HSTEP
      obtain ⟨l, hl⟩ : ∃ l, L.length = l := ⟨_, rfl⟩
      unfold FormedR at HFM
      simp only [hl] at HFM HSTEP
      rw [hl] at hfl
      rw [HSN.out] at HSTEP
      clear hc hxj hxB hpv hrs hL hl
      have HKP := Lib.hid HRS.out.kp
      by_cases hbig : most < (l : Int)
      · have hfin : R = none := by rw [HSO.out, spRun_no HRUN.out HXJ.out (by rw [HSTEP.out, if_pos hbig])]; rfl
        have HF := Lib.hid hfin
        clear hfin hne
        go_wp2_with (first
          | (refine wpList_load_at rfl 31 (.tmp 29) rfl (ad.add (j * 19)) rfl rs _ (HC.out.and HKP.out) Try.underlying31 rfl HI.out ?_)
          | (go_at_call 32; (with_reducible refine (HFM.out _).mono ?_); rintro e w2 ⟨A2, c2, rfl, hown2, hK2⟩; clear hown2; replace hK2 := Lib.hid hK2))
        go_ret2
        rw [HF.out]
        exact ⟨rfl, HKP.out.and hK2.out⟩
      · by_cases hnew : 0 < nl ∧ most < (sn : Int) + (l : Int)
        · have HST := Lib.hid (show spStep most add s x = some ⟨s.out ++ [s.now], [x], l⟩ by rw [HSTEP.out, if_neg hbig, if_pos ⟨hne.2 hnew.1, hnew.2⟩])
          have HR2 := Lib.hid (spRun_yes HRUN.out HXJ.out HST.out)
          have hnew1 : (0 : Int) < (nl : Int) := by omega
          have hnew2 := hnew.2
          clear hnew hne HST
          go_wp2_with (first
            | (refine wpList_load_at rfl 31 (.tmp 29) rfl (ad.add (j * 19)) rfl rs _ (HC.out.and HKP.out) Try.underlying31 rfl HI.out ?_)
            | (go_at_call 32; (with_reducible refine (HFM.out _).mono ?_); rintro e w2 ⟨A2, c2, rfl, hown2, hK2⟩; clear hown2; replace hK2 := Lib.hid hK2; have HR1 := Lib.hid (HRS.out.and hK2.out))
            | (at_builtin; refine wpList_appb w.heap.size ?_ rfl (.tmp 46) (.tmp 48) 35 rfl 22 iS (.slice none 0 0) 1 24 Try.underlying35 hiS hs0 hs1 hs2 rfl (by decide) (.slice A ol c) ol cs rfl ?_ (some ⟨w2.heap.size, 0, none⟩) 1 1 [.slice B nl d] rfl rfl (Arr.one w2 _ _) (by simp [Value.oneCell']) (by omega) (by decide) (ol + 1) rfl ?_; exact (HR1.out.alloc _).kp.size; exact (HR1.out.alloc _).own; intro A3 c3 w3 hown3 hG3 _; have HR3 := Lib.hid ((HR1.out.alloc _).push hG3 hown3); clear hown3 hG3)
            | (refine wpList_load_at rfl 31 (.tmp 53) rfl (ad.add (j * 19)) rfl rs _ (HC.out.and HR3.out.kp) Try.underlying31 rfl HI.out ?_)
            | (refine wpList_build_row rfl 22 (.tmp 54) rfl rs rfl 31 i0 (.agg (rtF 0).toArray) 19 Try.underlying22 hi hz0 hz1 rfl (by decide) HCL.out (by decide) w3.heap.size rfl ?_)
            | (at_builtin; refine wpList_appb w3.heap.size ?_ rfl (.tmp 50) (.tmp 55) 22 rfl 31 i0 (.agg (rtF 0).toArray) 19 40 Try.underlying22 hi hz0 hz1 hz2 rfl (by decide) (.slice none 0 0) 0 [] rfl (World.ownsRow_nil _ _ _ _) (some ⟨w3.heap.size, 0, none⟩) 1 1 rs rfl HCL.out (Arr.lit w3 _ _) HCV.out (by omega) (by decide) 1 rfl ?_; simp; intro B4 d4 w4 hown4 hG4 _; replace hown4 := Lib.hid hown4; replace hG4 := Lib.hid hG4))
          go_roundw
          case rel =>
            refine ⟨j + 1, ol + 1, c3, 1, d4, l, w3.heap.size, A3, B4, ⟨s.out ++ [s.now], [x], l⟩, cs ++ [.slice B nl d], by omega, by go_num, by go_num, rfl, rfl, Lib.hid rfl, HR2, Lib.hid ?_⟩
            exact (HR3.out.alloc _).put hG4.out (by rw [HRX.out]; exact hown4.out)
          case measure => simp [intOf]; omega
        · have HST := Lib.hid (show spStep most add s x = some ⟨s.out, s.now ++ [x], sn + l⟩ by rw [HSTEP.out, if_neg hbig, if_neg (fun q => hnew ⟨hne.1 q.1, q.2⟩)])
          have HR2 := Lib.hid (spRun_yes HRUN.out HXJ.out HST.out)
          have hsw : IntKind.i64.wrap ((sn : Int) + (l : Int)) = (sn : Int) + (l : Int) := by rw [IntKind.wrap_i64]; omega
          rcases Nat.eq_zero_or_pos nl with hz | hz
          · subst hz
            clear hnew hne HST
            go_wp2_with (first
              | (refine wpList_load_at rfl 31 (.tmp 29) rfl (ad.add (j * 19)) rfl rs _ (HC.out.and HKP.out) Try.underlying31 rfl HI.out ?_)
              | (go_at_call 32; (with_reducible refine (HFM.out _).mono ?_); rintro e w2 ⟨A2, c2, rfl, hown2, hK2⟩; clear hown2; replace hK2 := Lib.hid hK2; have HR1 := Lib.hid (HRS.out.and hK2.out))
              | (refine wpList_load_at rfl 31 (.tmp 53) rfl (ad.add (j * 19)) rfl rs _ (HC.out.and HR1.out.kp) Try.underlying31 rfl HI.out ?_)
              | (refine wpList_build_row rfl 22 (.tmp 54) rfl rs rfl 31 i0 (.agg (rtF 0).toArray) 19 Try.underlying22 hi hz0 hz1 rfl (by decide) HCL.out (by decide) w2.heap.size rfl ?_)
              | (at_builtin; refine wpList_appb lim ?_ rfl (.tmp 50) (.tmp 55) 22 rfl 31 i0 (.agg (rtF 0).toArray) 19 40 Try.underlying22 hi hz0 hz1 hz2 rfl (by decide) (.slice B 0 d) 0 (flatE rtC s.now) rfl ?_ (some ⟨w2.heap.size, 0, none⟩) 1 1 rs rfl HCL.out (Arr.lit w2 _ _) HCV.out (by omega) (by decide) 1 rfl ?_; exact (HR1.out.alloc _).hi; exact (HR1.out.alloc _).nw; intro B4 d4 w4 hown4 hG4 _; replace hown4 := Lib.hid hown4; replace hG4 := Lib.hid hG4))
            go_roundw
            case rel =>
              refine ⟨j + 1, ol, c, 1, d4, sn + l, lim, A, B4, ⟨s.out, s.now ++ [x], sn + l⟩, cs, by omega, by go_num, by go_num, rfl, rfl, Lib.hid rfl, HR2, Lib.hid ?_⟩
              exact (HR1.out.alloc _).put hG4.out (by rw [HRX.out]; exact hown4.out)
            case measure => simp [intOf]; omega
          · have hz1' : (0 : Int) < (nl : Int) := by omega
            have hz2' : ¬ (most < (sn : Int) + (l : Int)) := fun q => hnew ⟨hz, q⟩
            clear hnew hne HST
            go_wp2_with (first
              | (refine wpList_load_at rfl 31 (.tmp 29) rfl (ad.add (j * 19)) rfl rs _ (HC.out.and HKP.out) Try.underlying31 rfl HI.out ?_)
              | (go_at_call 32; (with_reducible refine (HFM.out _).mono ?_); rintro e w2 ⟨A2, c2, rfl, hown2, hK2⟩; clear hown2; replace hK2 := Lib.hid hK2; have HR1 := Lib.hid (HRS.out.and hK2.out))
              | (refine wpList_load_at rfl 31 (.tmp 53) rfl (ad.add (j * 19)) rfl rs _ (HC.out.and HR1.out.kp) Try.underlying31 rfl HI.out ?_)
              | (refine wpList_build_row rfl 22 (.tmp 54) rfl rs rfl 31 i0 (.agg (rtF 0).toArray) 19 Try.underlying22 hi hz0 hz1 rfl (by decide) HCL.out (by decide) w2.heap.size rfl ?_)
              | (at_builtin; refine wpList_appb lim ?_ rfl (.tmp 50) (.tmp 55) 22 rfl 31 i0 (.agg (rtF 0).toArray) 19 40 Try.underlying22 hi hz0 hz1 hz2 rfl (by decide) (.slice B nl d) nl (flatE rtC s.now) rfl ?_ (some ⟨w2.heap.size, 0, none⟩) 1 1 rs rfl HCL.out (Arr.lit w2 _ _) HCV.out (by omega) (by decide) (nl + 1) rfl ?_; exact (HR1.out.alloc _).hi; exact (HR1.out.alloc _).nw; intro B4 d4 w4 hown4 hG4 _; replace hown4 := Lib.hid hown4; replace hG4 := Lib.hid hG4))
            go_roundw
            case rel =>
              refine ⟨j + 1, ol, c, nl + 1, d4, sn + l, lim, A, B4, ⟨s.out, s.now ++ [x], sn + l⟩, cs, by omega, by go_num, by go_num, rfl, rfl, Lib.hid rfl, HR2, Lib.hid ?_⟩
              exact (HR1.out.alloc _).put hG4.out (by rw [HRX.out]; exact hown4.out)
            case measure => simp [intOf]; omega
    · have hj' : j = n := by omega
      have hfin : R = some (spGroups s) := by
        have h1 := HRUN.out
        rw [List.take_of_length_le (by rw [HN.out]; omega)] at h1
        rw [HSO.out, h1]
        rfl
      have HF := Lib.hid hfin
      clear hfin
      rcases Nat.eq_zero_or_pos nl with hz | hz
      · subst hz
        have hem : s.now = [] := List.eq_nil_of_length_eq_zero HRS.out.hnl
        have HG : Hid (R = some s.out) := Lib.hid (by rw [HF.out]; unfold spGroups; rw [if_pos hem])
        rw [hem] at HRS
        clear hem hne HF
        go_wp2
        go_ret2
        exact splitAny_of HRS.out HG.out _ rfl
      · have hz1' : (0 : Int) < (nl : Int) := by omega
        have HG : Hid (R = some (s.out ++ [s.now])) := Lib.hid (by rw [HF.out]; unfold spGroups; rw [if_neg (hne.2 hz)])
        clear hne HF
        go_wp2_with (at_builtin; refine wpList_appb w.heap.size ?_ rfl (.tmp 63) (.tmp 65) 35 rfl 22 iS (.slice none 0 0) 1 24 Try.underlying35 hiS hs0 hs1 hs2 rfl (by decide) (.slice A ol c) ol cs rfl ?_ (some ⟨wr.heap.size, 0, none⟩) 1 1 [.slice B nl d] rfl rfl (Arr.one wr _ _) (by simp [Value.oneCell']) (by omega) (by decide) (ol + 1) rfl ?_; exact (HRS.out.alloc _).kp.size; exact (HRS.out.alloc _).own; intro A3 c3 w3 hown3 hG3 _; have HR3 := Lib.hid ((HRS.out.alloc _).push hG3 hown3); clear hown3 hG3)
        go_ret2
        exact splitAny_of HR3.out HG.out _ rfl

theorem rsplit_bad (most fam : Int) (add : Bool) (A0 : Option Addr) (c0 : Nat) (xs : List RtI) (w : World) (hx : RtL w A0 xs) (hn : xs.length ≤ 1000) (hv : validL fam add xs = false) :
    Calls Try.prog 15 #[.int .i64 most, .int .i64 fam, .bool add, .slice A0 xs.length c0] w (SplitAny (splitO most fam add xs) w) := by
  have HV := Lib.hid (rnvalid_any fam add A0 c0 xs w hx (by omega))
  rw [hv] at HV
  have hs : splitO most fam add xs = none := by unfold splitO; rw [hv]; rfl
  rw [hs]
  clear hx hv hs
  obtain ⟨n, hnn⟩ : ∃ n, xs.length = n := ⟨_, rfl⟩
  rw [hnn] at hn HV ⊢
  clear hnn
  go_enter Try.func15, Try.ntmps15
  go_wp2_with (go_at_call 23; refine HV.out.mono ?_; rintro e w1 ⟨rfl, hK1⟩)
  go_ret2
  exact ⟨rfl, hK1⟩
theorem rsplit_any (most fam : Int) (add : Bool) (A0 : Option Addr) (c0 : Nat) (xs : List RtI) (w : World) (hx : RtL w A0 xs) (hn : xs.length ≤ 1000) (hmo : -9223372036854775808 ≤ most ∧ most ≤ 9223372036854775807) :
    Calls Try.prog 15 #[.int .i64 most, .int .i64 fam, .bool add, .slice A0 xs.length c0] w (SplitAny (splitO most fam add xs) w) := by
  by_cases hv : validL fam add xs = true
  · exact rsplit_good most fam add A0 c0 xs w hx hn hv hmo
  · exact rsplit_bad most fam add A0 c0 xs w hx hn (by simpa using hv)

end Go.Proofs.Ytkkfigdfgagimaa
