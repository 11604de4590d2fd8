/- Package nlri: Size: its contract by walking the Go text. -/
import Derived.Test.YtkkfigdfgagimaaNlD
namespace Go.Proofs.Ytkkfigdfgagimaa
open Go.RowKit
set_option linter.unusedVariables false
set_option linter.unusedSimpArgs false

theorem formN_snoc (add : Bool) (xs : List RtI) (j : Nat) (x : RtI) (h : xs[j]? = some x) : (formN add (xs.take (j + 1))).length = (formN add (xs.take j)).length + (formR add x).length := by
  rw [take_snocR xs j x h]
  simp [formN]

set_option maxRecDepth 100000 in
set_option maxHeartbeats 4000000 in
theorem size_any (add : Bool) (A : Option Addr) (c : Nat) (xs : List RtI) (w : World) (hx : RtL w A xs) (hn : xs.length ≤ 1000000) (hv : ∀ x ∈ xs, validP x.pre = true) :
    Calls Try.prog 18 #[.bool add, .slice A xs.length c] w (Stay (.int .i64 ((formN add xs).length : Nat)) w) := by
  have HP := Lib.hid hv
  have HX := Lib.hid hx
  have HL := Lib.hid (fun j => formN_len add (xs.take j) (fun x hx => hv x (List.mem_of_mem_take hx)))
  clear hx hv
  obtain ⟨n, hnn⟩ : ∃ n, xs.length = n := ⟨_, rfl⟩
  have HN := Lib.hid hnn
  have HF : Hid (∀ j, j = n → formN add xs = formN add (xs.take j)) := Lib.hid (fun j hj => by rw [List.take_of_length_le (by omega)])
  rw [hnn] at hn ⊢
  clear hnn
  go_enter Try.func18, Try.ntmps18
  go_wp2_with fail
  go_loopw [5, 10] (fun v i wr => ∃ (j s : Nat), j ≤ n ∧ i = .int .i64 j ∧ v = .int .i64 s ∧ Hid (s = (formN add (xs.take j)).length) ∧ Hid (Kp NoB w wr)) (fun _ i _ => n - (intOf i).toNat)
  case atStart => exact ⟨0, 0, Nat.zero_le _, rfl, rfl, Lib.hid rfl, Lib.hid (Kp.refl _ _)⟩
  case round =>
    obtain ⟨j, s, hj, rfl, rfl, HS, HK⟩ := hrel
    by_cases hlt : j < n
    · obtain ⟨ad, x, hxj, hxB, hA, hc⟩ := (HX.out.and HK.out).at (by rw [HN.out]; exact hlt)
      subst hA
      have HC := Lib.hid hc
      have HSN := Lib.hid (formN_snoc add xs j x hxj)
      have hsl : s ≤ 21 * j := by have h1 := HL.out j; have h2 := HS.out; have h3 := List.length_take_le j xs; omega
      have h19 := rtC_length hxB.2.2.2.1
      have HI := Lib.hid (show (Try.prog.info? 31).map (·.size) = some (rtC x).length by rw [h19]; exact (size_of infoRt).2)
      have hpv := HP.out x (List.mem_of_getElem? hxj)
      have HFM := Lib.hid (fun w => form_any add x w hxB hpv)
      have hfl := formR_len (add := add) hpv
      have HO1 := Lib.hid (all_oneCell_toArray (rtC_one x))
      unfold RtI.val at HFM
      obtain ⟨rs, hrs⟩ : ∃ rs, rtC x = rs := ⟨_, rfl⟩
      obtain ⟨L, hL⟩ : ∃ L, formR add x = L := ⟨_, rfl⟩
      rw [hrs] at HFM HC HI h19 HO1
      rw [hL] at HFM hfl HSN
      clear hc hxj hxB hpv hrs hL
      have HI2 := Lib.hid (show (Try.prog.info? 31).map (·.size) = some rs.toArray.size from by rw [List.size_toArray]; exact HI.out)
      have HS19 := Lib.hid (show rs.toArray.size = 19 by rw [List.size_toArray]; exact h19)
      clear h19
      go_wp2_with (first
        | (refine wpList_load_at rfl 31 (.tmp 12) rfl (ad.add (j * 19)) rfl rs _ HC.out Try.underlying31 rfl HI.out ?_)
        | (refine wpList_store_new (w := wr) rfl 31 (.tmp 7) (.tmp 13) rfl _ rs.toArray rfl rfl 31 HI2.out HS19.out.symm HO1.out ?_)
        | (refine wpList_load_at rfl 31 (.tmp 7) rfl ⟨wr.heap.size, 0, none⟩ rfl rs _ (CellsAt.of_bk (Bk.fresh wr _ _)) Try.underlying31 rfl HI.out ?_)
        | (go_at_call 31; (with_reducible refine (HFM.out _).mono ?_); rintro e w2 ⟨A2, c2, rfl, hown2, hK2⟩; replace hown2 := Lib.hid hown2; replace hK2 := Lib.hid hK2))
      go_roundw
      case rel => exact ⟨j + 1, s + L.length, by omega, by go_num, by go_num, Lib.hid (by rw [HSN.out, HS.out]), Lib.hid ((HK.out.alloc _).and hK2.out)⟩
      case measure => simp [intOf]; omega
    · have hj' : j = n := by omega
      have HFF := Lib.hid (HF.out j hj')
      go_wp2
      go_ret
      refine ⟨?_, HK.out⟩
      rw [HFF.out, ← HS.out]
      rfl

end Go.Proofs.Ytkkfigdfgagimaa
