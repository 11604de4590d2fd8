/- Bytes of the reference: its contract by walking the Go text. -/
import Derived.Test.YtjcmgfegnngjjaaDoorCapD
import Derived.Test.YtjcmgfegnngjjaaDoorApp
import Derived.Deep.RegionHeld3
namespace Go.Proofs.YtjcmgfegnngjjaaDoor
open Go.RowKit
set_option linter.unusedVariables false
set_option linter.unusedSimpArgs false

theorem form_le (xs : List CapI) (j : Nat) : (formC (xs.take j)).length ≤ (formC xs).length := by
  conv => rhs; rw [← List.take_append_drop j xs]
  simp only [formC, List.flatMap_append, List.length_append]
  omega

set_option maxHeartbeats 2000000 in
theorem rbytes_no (A : Option Addr) (c : Nat) (xs : List CapI) (cs : List Value) (w : World) (hx : CapL w xs cs) (ha : Arr w A cs) (hn : xs.length ≤ 1000000) (hv : validB xs = false) :
    Calls Tryd.prog 16 #[.slice A xs.length c] w (Stay (.tuple #[.slice none 0 0, .bool false]) w) := by
  have H := Lib.hid (rvalid_any A c xs cs w hx ha (by omega))
  rw [hv] at H
  clear hx ha hv
  obtain ⟨n, hnn⟩ : ∃ n, xs.length = n := ⟨_, rfl⟩
  rw [hnn] at hn H ⊢
  clear hnn
  go_enter Tryd.func16, Tryd.ntmps16
  go_wp2_with (go_at_call 23; refine H.out.mono ?_; rintro e w1 ⟨rfl, rfl⟩)
  go_ret2
  exact ⟨rfl, Kp.refl _ _⟩

set_option maxHeartbeats 4000000 in
theorem rbytes_yes (A : Option Addr) (c : Nat) (xs : List CapI) (cs : List Value) (w : World) (hx : CapL w xs cs) (ha : Arr w A cs) (hn : xs.length ≤ 1000000) (hv : validB xs = true) (hlen : (formC xs).length ≤ 140737488355328) :
    Calls Tryd.prog 16 #[.slice A xs.length c] w (Formed w (formC xs)) := by
  have H := Lib.hid (rvalid_any A c xs cs w hx ha (by omega))
  rw [hv] at H
  obtain ⟨i0, hi, hz0, hz1, hz2⟩ := info_parts infoU8
  have HC := Lib.hid (fun j (hj : j < xs.length) => cap_cells hx ha hj)
  have HV : Hid (∀ x ∈ xs, okC x = true) := Lib.hid (by simpa [validB] using hv)
  have HL := Lib.hid hlen
  clear hx ha hv hlen
  obtain ⟨n, hnn⟩ : ∃ n, xs.length = n := ⟨_, rfl⟩
  have HN := Lib.hid hnn
  rw [hnn] at hn H HC ⊢
  clear hnn
  obtain ⟨F, hF⟩ : ∃ F, formC xs = F := ⟨_, rfl⟩
  have HF := Lib.hid hF
  rw [hF] at HL ⊢
  clear hF
  go_enter Tryd.func16, Tryd.ntmps16
  go_wp2_with (go_at_call 23; refine H.out.mono ?_; rintro e w1 ⟨rfl, rfl⟩)
  go_loopw [4, 5] (fun v i wr => ∃ (j : Nat) (A' : Option Addr) (c' s : Nat), j ≤ n ∧ i = .int .i64 j ∧ v = .slice A' s c' ∧ Hid (wr.ownsRow w.heap.size 5 1 (.slice A' s c') s (bs (formC (xs.take j))) ∧ (formC (xs.take j)).length = s) ∧ Kp NoB w wr) (fun _ i _ => n - (intOf i).toNat)
  case atStart => exact ⟨0, none, 0, 0, Nat.zero_le _, rfl, rfl, Lib.hid ⟨World.ownsRow_nil _ _ _ _, rfl⟩, Kp.refl _ _⟩
  case round =>
    obtain ⟨j, A', c', s, hj, rfl, rfl, HO, hK⟩ := hrel
    by_cases hlt : j < n
    · obtain ⟨x, ad, A2, c2, hx, rfl, q1, q2, hc, hm, hA2, hb2, hr, -, -⟩ := HC.out j hlt
      have HQ := Lib.hid q2
      have HQ1 := Lib.hid q1
      replace q1 := hK.cell q1 (fun q => q)
      replace q2 := hK.cell q2 (fun q => q)
      have hok := HV.out x (List.mem_of_getElem? hx)
      simp only [okC, decide_eq_true_eq] at hok
      have hP := form_snoc xs j x hx
      have hlen : s + 2 + x.data.length ≤ 140737488355328 := by
        have h1 := form_le xs (j + 1)
        rw [hP, List.length_append, HO.out.2, HF.out] at h1
        have h2 := HL.out
        simp only [List.length_cons] at h1
        omega
      replace hP := Lib.hid hP
      have hA2r := Lib.hid hA2
      obtain ⟨m, hmm⟩ : ∃ m, x.data.length = m := ⟨_, rfl⟩
      obtain ⟨d, hd⟩ : ∃ d, x.data = d := ⟨_, rfl⟩
      obtain ⟨k, hkk⟩ : ∃ k, x.code = k := ⟨_, rfl⟩
      rw [hmm] at q2 HQ hP hok hlen
      rw [hkk] at q1 HQ1 hP hok
      rw [hd] at hP hA2r hmm
      have HM := Lib.hid hmm
      obtain ⟨hk0, hk1, hm1⟩ := hok
      clear hx hkk hd hc hm hA2 hb2 hmm hr
      have e1 := IntWalk.u8_in k ⟨hk0, hk1⟩
      have e2 := IntWalk.u8_in m (by omega)
      have HO1 : Hid ((wr.alloc (.cells #[.int .u8 k, .int .u8 m] 5)).drew.ownsRow w.heap.size 5 1 (.slice A' s c') s (bs (formC (xs.take j)))) := Lib.hid (Kp.own (((Kp.refl NoB wr).alloc _).drew) HO.out.1 (fun _ _ q => q))
      go_wp2_with fail
      go_region_held3 (fun w' => w'.cell? (ad.add (j * 2)) = some (.int .i64 k) ∧ w'.cell? ⟨(ad.add (j * 2)).block, (ad.add (j * 2)).off + 1, none⟩ = some (.slice A2 m c2)) (go_keep)
        (first
          | (rw [if_pos (by rfl)]; refine wp_app (w0 := w) (S := NoB) ((hK.alloc (.cells #[.int .u8 k, .int .u8 m] 5)).drew) (.tmp 15) (.tmp 29) 43 rfl 5 i0 (.int .u8 0) 1 1 Tryd.underlying43 hi hz0 hz1 hz2 rfl (by decide) _ s _ rfl HO1.out _ 2 2 [.int .u8 k, .int .u8 m] rfl rfl ((Arr.of_bk (Bk.fresh wr 5 #[.int .u8 k, .int .u8 m]) 2).and (Kp.refl _ _).drew) (by simp [Value.oneCell']) (by omega) (by decide) (s + 2) rfl ?_; intro A3 c3 w3 hown3 hK3 hG _; clear hG; have z1 := hK3.cell HQ.out (fun q => q); have z2 := hK3.cell HQ1.out (fun q => q); replace hown3 := Lib.hid hown3; replace hK3 := Lib.hid hK3))
      go_wp2_with (at_builtin; refine wpList_app hK3.out rfl (.tmp 31) (.tmp 36) 43 rfl 5 i0 (.int .u8 0) 1 1 Tryd.underlying43 hi hz0 hz1 hz2 rfl (by decide) _ (s + 2) _ rfl hown3.out _ m c2 (bs d) rfl (by rw [bs_length, HM.out, Nat.mul_one]) (hA2r.out.and hK3.out) (bs_one d) (by omega) (by decide) (s + 2 + m) rfl ?_; intro A4 c4 w4 hown4 hK4 _ _)
      go_roundw
      case rel =>
        refine ⟨j + 1, A4, c4, s + 2 + m, by omega, by go_num, rfl, Lib.hid ⟨?_, ?_⟩, hK4⟩
        · rw [hP.out, bs_append]
          simpa [bs] using hown4
        · rw [hP.out, List.length_append, HO.out.2]
          simp only [List.length_cons, HM.out]
          omega
      case measure => simp [intOf]; omega
    · have hj : j = n := by omega
      subst hj
      obtain ⟨hown, hs⟩ := HO.out
      have hxt : xs.take j = xs := List.take_of_length_le (by rw [HN.out]; omega)
      rw [hxt, HF.out] at hown hs
      subst hs
      have HOW := Lib.hid hown
      clear hown hxt HO
      go_wp2
      go_ret2
      exact formed_of HOW.out (Kp.refl _ _) hK _ rfl

end Go.Proofs.YtjcmgfegnngjjaaDoor
