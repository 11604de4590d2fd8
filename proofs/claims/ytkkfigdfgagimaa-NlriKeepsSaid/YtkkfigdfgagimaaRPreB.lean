/- The reference's prefixes: Bytes: its contract by walking the Go text. -/
import Derived.Test.YtkkfigdfgagimaaRPreA
import Derived.Test.YtkkfigdfgagimaaPreD
import Derived.Test.YtkkfigdfgagimaaRow2
namespace Go.Proofs.Ytkkfigdfgagimaa
open Go.RowKit
set_option linter.unusedVariables false
set_option linter.unusedSimpArgs false

theorem rbytes_bad (p : PreI) (w : World) (hB : p.B) (hv : validP p = false) : Calls Try.prog 51 #[p.val] w (Stay (.tuple #[.slice none 0 0, .bool false]) w) := by
  have HV := Lib.hid (fun w => rvalid_any p w hB)
  rw [hv] at HV
  have HI := Lib.hid (show (Try.prog.info? 29).map (·.size) = some (preC p).toArray.size by rw [List.size_toArray, preC_length hB.2.2.1]; exact (size_of infoPre).2)
  unfold PreI.val at HV ⊢
  obtain ⟨cs, hcs⟩ : ∃ cs, (preC p).toArray = cs := ⟨_, rfl⟩
  rw [hcs] at HV HI ⊢
  have HB0 := Lib.hid (Bk.fresh w 29 cs)
  clear hcs hv hB
  go_enter Try.func51, Try.ntmps51
  go_wp2_with (first
    | (refine wpList_load_row rfl 29 (.tmp 1) rfl w.heap.size rfl 29 _ (0, 0) _ HB0.out Try.underlying29 rfl HI.out ?_)
    | (go_at_call 64; (with_reducible refine (HV.out _).mono ?_); rintro e w1 ⟨rfl, hK1⟩))
  go_ret2
  exact ⟨rfl, ((Kp.refl _ _).alloc _).and hK1⟩

set_option maxRecDepth 100000 in
set_option maxHeartbeats 4000000 in
theorem rbytes_good (p : PreI) (w : World) (hB : p.B) (hv : validP p = true) : Calls Try.prog 51 #[p.val] w (FormedP w (formP p)) := by
  have hr : rangedB p.fam p.len = true := by unfold validP at hv; simp at hv; exact hv.1
  obtain ⟨l0, l1⟩ := ranged_bd hr
  have HV := Lib.hid (fun w => rvalid_any p w hB)
  rw [hv] at HV
  obtain ⟨hfam, hlen, ha, hab⟩ := hB
  have hn16 := needN_le l0 l1
  have hnq := needN_eq l0
  have HI := Lib.hid (show (Try.prog.info? 29).map (·.size) = some (preC p).toArray.size by rw [List.size_toArray, preC_length ha]; exact (size_of infoPre).2)
  have HPR := Lib.hid (fun (W : World) (b : Nat) (h : Bk W b 29 (preC p).toArray) => (⟨h.pre.2.1, fun j hj => h.pre.2.2 j _ (bs_get p.addr j hj)⟩ : W.cell? ⟨b, 1, none⟩ = some (.int .i64 p.len) ∧ ∀ j, j < p.addr.length → W.cell? ⟨b, 2 + j, none⟩ = some (.int .u8 (p.addr.getD j 0))))
  have HT := Lib.hid (fun j (hj : j < p.addr.length) => take_snoc p.addr j hj)
  unfold formP
  unfold PreI.val at HV ⊢
  obtain ⟨fam, len, a⟩ := p
  simp only at *
  have HA := Lib.hid ha
  obtain ⟨n, hn⟩ : ∃ n, needN len = n := ⟨_, rfl⟩
  rw [hn] at hnq hn16 ⊢
  have hwl : IntKind.u8.wrap len = len := IntWalk.u8_in _ (by omega)
  obtain ⟨cs, hcs⟩ : ∃ cs, (preC ⟨fam, len, a⟩).toArray = cs := ⟨_, rfl⟩
  rw [hcs] at HV HI HPR ⊢
  have HB0 := Lib.hid (Bk.fresh w 29 cs)
  obtain ⟨i0, hi, hz0, hz1, hz2⟩ := info_parts infoU8
  clear hcs hv hr hn hfam hlen hab ha
  go_enter Try.func51, Try.ntmps51
  go_wp2_with (first
    | (refine wpList_load_row rfl 29 (.tmp 1) rfl w.heap.size rfl 29 _ (0, 0) _ HB0.out Try.underlying29 rfl HI.out ?_)
    | (go_at_call 64; (with_reducible refine (HV.out _).mono ?_); rintro e w1 ⟨rfl, hK1⟩; have HB1 := Lib.hid (HB0.out.and hK1); obtain ⟨z2, -⟩ := HPR.out _ _ HB1.out; replace hK1 := Lib.hid hK1))
  have HO1 := Lib.hid (own_lit w1 w.heap.size 5 (bs [len]) (by have := hK1.out.size; simp at this; omega) (by simp [bs, maxLen]))
  have HB2 := Lib.hid (HB1.out.alloc (.cells #[.int .u8 len] 5))
  have HK2 := Lib.hid ((((Kp.refl NoB w).alloc (.cells cs 29)).and hK1.out).alloc (.cells #[.int .u8 len] 5))
  clear z2
  go_loopw [4, 5] (fun v i wr => ∃ (j : Nat) (A' : Option Addr) (c' : Nat), j ≤ n ∧ i = .int .i64 j ∧ v = .slice A' (1 + j) c' ∧ Hid (wr.ownsRow w.heap.size 5 1 (.slice A' (1 + j) c') (1 + j) (bs (len :: a.take j))) ∧ Hid (Bk wr w.heap.size 29 cs) ∧ Hid (Kp NoB w wr)) (fun _ i _ => n - (intOf i).toNat)
  case atStart => exact ⟨0, _, _, Nat.zero_le _, rfl, rfl, HO1, HB2, HK2⟩
  case round =>
    obtain ⟨j, A', c', hj, rfl, rfl, HO, HBW, HKW⟩ := hrel
    obtain ⟨z2, z3⟩ := HPR.out _ _ HBW.out
    by_cases hlt : j < n
    · have hlt' : (j : Int) < (n : Int) := by omega
      have hc := z3 j (by rw [HA.out]; omega)
      have HTJ := Lib.hid (HT.out j (by rw [HA.out]; omega))
      obtain ⟨y, hy⟩ : ∃ y, a.getD j 0 = y := ⟨_, rfl⟩
      rw [hy] at hc HTJ
      clear z3 hy
      go_wp2_with (at_builtin; refine wpList_app (HKW.out.alloc _) rfl (.tmp 21) (.tmp 26) 42 rfl 5 i0 (.int .u8 0) 1 1 Try.underlying42 hi hz0 hz1 hz2 rfl (by decide) (.slice A' (1 + j) c') (1 + j) (bs (len :: a.take j)) rfl (((Kp.refl NoB _).alloc _).own HO.out (fun _ _ q => q)) _ 1 1 [.int .u8 y] rfl rfl (Arr.one wr _ _) (by simp [Value.oneCell']) (by omega) (by decide) (1 + (j + 1)) (by omega) ?_; intro A3 c3 w3 hown3 hK3 hG _; replace hown3 := Lib.hid hown3; replace hK3 := Lib.hid hK3; replace hG := Lib.hid hG)
      go_roundw
      case rel =>
        refine ⟨j + 1, A3, c3, by omega, by go_num, by first | rfl | (congr 1; omega), ?_, ?_, hK3⟩
        · rw [HTJ.out]
          exact Lib.hid (by simpa [bs] using hown3.out)
        · exact Lib.hid ((HBW.out.alloc _).keep (Kp.of_grown hG.out) (own_bk HO.out HBW.out (by decide)))
      case measure => simp [intOf]; omega
    · obtain rfl : j = n := by omega
      clear z3
      go_wp2_with fail
      go_ret2
      refine ⟨A', c', ?_, ?_, HKW.out⟩
      · have : (len :: a.take j).length = 1 + j := by have := HA.out; simp; omega
        rw [this]
        rfl
      · have : (len :: a.take j).length = 1 + j := by have := HA.out; simp; omega
        rw [this]
        exact HO.out

end Go.Proofs.Ytkkfigdfgagimaa
