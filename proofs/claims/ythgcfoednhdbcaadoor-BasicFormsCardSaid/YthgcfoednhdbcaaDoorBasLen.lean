/- BasicLengths' walk. No condition but the table of powers of ten. -/
import Derived.Test.YthgcfoednhdbcaaDoorBasK
import Derived.Test.YthgcfoednhdbcaaDoorClone
import Derived.Test.YthgcfoednhdbcaaDoorOpen
namespace Go.Proofs.YthgcfoednhdbcaaDoor
open Go.RowKit
set_option linter.unusedVariables false
set_option linter.unusedSimpArgs false

theorem wd_len {k : Int} {xs : List Int} (hg : goodR k xs = true) : ∃ a m c, wdO k = some (a, m, c) ∧ (xs.length : Int) = a := by
  unfold goodR at hg
  cases h : wdO k with
  | none => rw [h] at hg; cases hg
  | some r =>
    obtain ⟨a, m, c⟩ := r
    rw [h] at hg
    simp only [decide_eq_true_eq] at hg
    exact ⟨a, m, c, rfl, hg.1⟩
theorem kind_off {k : Int} {xs ys : List Int} (hg : goodR k xs = true) (hl : ys.length ≠ xs.length) : kindR k ys = if k = 6 then 1 else 2 := by
  obtain ⟨a, m, c, h, hx⟩ := wd_len hg
  have hn : goodR k ys = false := by
    unfold goodR
    rw [h]
    have : ¬ (ys.length : Int) = a := by omega
    simp [this]
  rw [kindR_eq, hn]
  rfl
theorem kind_good {k : Int} {xs : List Int} (hg : goodR k xs = true) : kindR k xs = 0 := by rw [kindR_eq, if_pos hg]
theorem kind_bad {k : Int} {xs : List Int} (hg : goodR k xs = false) : ¬ kindR k xs = 0 := by
  rw [kindR_eq, hg]
  by_cases h : k = 6 <;> simp [h]

set_option maxRecDepth 100000 in
set_option maxHeartbeats 1600000 in
theorem blen_bad (k : Int) (wk : -9223372036854775808 ≤ k ∧ k ≤ 9223372036854775807) (A : Option Addr) (n c : Nat) (xs : List Int) (y : Int) (w : World) (hx : InBytes w A n c xs) (ld : Ld w) (hg : goodR k xs = false ∨ 300 < n) :
    Calls Tryd.prog 5 #[.int .i64 k, .slice A n c, .int .u8 y] w fun e w' => e = .returned (.bool true) ∧ Kp NoB w w' := by
  obtain ⟨rfl, hn, hc, ha, hb⟩ := hx
  have HAL := Lib.hid (fun W (k : Kp NoB w W) => alive_any W (ld.tb.and k))
  by_cases h300 : (xs.length : Int) ≤ 300
  · have hgb : goodR k xs = false := by rcases hg with h | h; exact h; omega
    have HR := Lib.hid (rread_any k wk A c xs hn (by omega) w ha hb)
    have hkb := kind_bad hgb
    obtain ⟨K, hK⟩ : ∃ K, kindR k xs = K := ⟨_, rfl⟩
    obtain ⟨Z, hZ⟩ : ∃ Z, attrR k xs = Z := ⟨_, rfl⟩
    rw [hK, hZ] at HR
    rw [hK] at hkb
    obtain ⟨n, hnn⟩ : ∃ n, xs.length = n := ⟨_, rfl⟩
    rw [hnn] at HR h300 ⊢
    clear hg hgb hK hZ hnn ha hb hn ld
    unfold AtI.val AtI.cs at HR
    go_enter Tryd.func5, Tryd.ntmps5
    go_wp2_with (first
      | (go_at_call 18; refine Calls.mono HR.out ?_; rintro e w1 ⟨rfl, hK⟩; have hk1 := Lib.hid hK; clear hK)
      | (go_at_call 9; refine Calls.mono (HAL.out _ (hk1.out.alloc _)) ?_; rintro e w2 ⟨rfl, hK⟩; have hk2 := Lib.hid ((hk1.out.alloc _).and hK); clear hK))
    go_ret
    exact ⟨rfl, hk2.out⟩
  · obtain ⟨n, hnn⟩ : ∃ n, xs.length = n := ⟨_, rfl⟩
    rw [hnn] at h300 ⊢
    clear hg hnn ha hb hn ld
    go_enter Tryd.func5, Tryd.ntmps5
    go_wp2_with (go_at_call 9; refine Calls.mono (HAL.out _ (Kp.refl _ _)) ?_; rintro e w2 ⟨rfl, hK⟩; have hk2 := Lib.hid hK; clear hK)
    go_ret
    exact ⟨rfl, hk2.out⟩

set_option maxRecDepth 100000 in
set_option maxHeartbeats 3200000 in
theorem blen_nil (k wt : Int) (h6 : k = 6 ∧ wt = 1 ∨ ¬ k = 6 ∧ wt = 2) (wk : -9223372036854775808 ≤ k ∧ k ≤ 9223372036854775807) (A : Option Addr) (c : Nat) (y : Int) (hy : 0 ≤ y ∧ y < 256) (w : World) (hc : c ≤ maxLen) (ld : Ld w) (hg : goodR k [] = true) :
    Calls Tryd.prog 5 #[.int .i64 k, .slice A 0 c, .int .u8 y] w fun e w' => e = .returned (.bool true) ∧ Kp NoB w w' := by
  have HAL := Lib.hid (fun W (k : Kp NoB w W) => alive_any W (ld.tb.and k))
  have HR := Lib.hid (rread_any k wk A c [] (Nat.zero_le _) (by simp) w (Arr.nil _ _) IsB.nil)
  rw [kind_good hg] at HR
  have hwt : (if k = 6 then (1 : Int) else 2) = wt := by rcases h6 with ⟨h, rfl⟩ | ⟨h, rfl⟩ <;> simp [h]
  have HCL := Lib.hid (fun W => clone_any A c [] W (by simp) (Arr.nil _ _))
  have HRD := Lib.hid (fun W A' c' (h : Arr W A' (bs [y])) => read_any k wk A' c' [y] (by simp) W h (fun x hx => by simp at hx; omega))
  rw [kind_off hg (by simp), hwt] at HRD
  obtain ⟨Z, hZ⟩ : ∃ Z, attrR k [] = Z := ⟨_, rfl⟩
  obtain ⟨Y, hY⟩ : ∃ Z, attrR k [y] = Z := ⟨_, rfl⟩
  rw [hZ] at HR
  rw [hY] at HRD
  simp only [List.length_nil, List.length_singleton] at HR HCL HRD
  clear hZ hY hg ld hwt
  unfold AtI.val AtI.cs at HR HRD
  obtain ⟨i0, hi, hz0, hz1, hz2⟩ := info_parts infoU8
  rcases h6 with ⟨rfl, rfl⟩ | ⟨h6, rfl⟩
  all_goals
    go_enter Tryd.func5, Tryd.ntmps5
    go_wp2_with (first
      | (go_at_call 18; refine Calls.mono HR.out ?_; rintro e w1 ⟨rfl, hK⟩; have hk1 := Lib.hid hK; clear hK)
      | (go_at_call 20; refine Calls.mono (HCL.out _) ?_; rintro e w2 ⟨A2, c2, rfl, hown, hK⟩; have hkb := Lib.hid (hk1.out.alloc (.cells #[.int .i64 Z.t, .bool Z.p, .int .u32 Z.n, .int .u32 Z.m, .slice Z.S Z.sn Z.sc, .slice Z.L Z.ln Z.lc, .slice Z.B Z.bn Z.bc, .int .i64 Z.f, .slice Z.R Z.rn Z.rc] 28)); have hk2 := hK; clear hK)
      | (at_builtin; refine wpList_app (hk2.alloc _) rfl (.tmp 30) (.tmp 32) 25 rfl 5 i0 (.int .u8 0) 1 1 Tryd.underlying25 hi hz0 hz1 hz2 rfl (by decide) _ _ _ rfl (hown.alloc _) _ 1 1 [.int .u8 y] rfl rfl (Arr.one _ _ _) (by simp [Value.oneCell']) (by simp) (by decide) 1 rfl ?_; intro A3 c3 w3 hown3 hk3' _ _; have hk3 := Lib.hid (hkb.out.and hk3'); have HA3 := Lib.hid (Arr.of_own hown3); clear hk2 hown hown3 hk3')
      | (go_at_call 19; refine Calls.mono (HRD.out _ _ _ HA3.out) ?_; rintro e w4 ⟨rfl, hK⟩; have hk4 := Lib.hid (hk3.out.and hK); clear hK)
      | (go_at_call 9; refine Calls.mono (HAL.out _ (hk4.out.alloc _)) ?_; rintro e w5 ⟨rfl, hK⟩; have hk5 := Lib.hid ((hk4.out.alloc _).and hK); clear hK))
    go_ret
    exact ⟨by simp, hk5.out⟩

set_option maxRecDepth 100000 in
set_option maxHeartbeats 800000 in
theorem blen_some (k wt : Int) (h6 : k = 6 ∧ wt = 1 ∨ ¬ k = 6 ∧ wt = 2) (wk : -9223372036854775808 ≤ k ∧ k ≤ 9223372036854775807) (ad : Addr) (c : Nat) (xs : List Int) (y : Int) (hy : 0 ≤ y ∧ y < 256) (w : World) (hn : xs.length ≤ c) (hc : c ≤ maxLen) (ha : Arr w (some ad) (bs xs)) (hb : IsB xs) (hne : 1 ≤ xs.length) (ld : Ld w) (hg : goodR k xs = true) :
    Calls Tryd.prog 5 #[.int .i64 k, .slice (some ad) xs.length c, .int .u8 y] w fun e w' => e = .returned (.bool true) ∧ Kp NoB w w' := by
  have h4 : xs.length ≤ 4 := by
    obtain ⟨a, m, c', h, hx⟩ := wd_len hg
    rcases wdO_kinds h with ⟨_, h2, _⟩ | ⟨_, h2, _⟩ | ⟨_, h2, _⟩ <;> omega
  have HAL := Lib.hid (fun W (k : Kp NoB w W) => alive_any W (ld.tb.and k))
  have HR := Lib.hid (rread_any k wk (some ad) c xs hn (by omega) w ha hb)
  rw [kind_good hg] at HR
  have hwt : (if k = 6 then (1 : Int) else 2) = wt := by rcases h6 with ⟨h, rfl⟩ | ⟨h, rfl⟩ <;> simp [h]
  have HCL := Lib.hid (fun W (h : Kp NoB w W) => clone_any (some ad) c xs W (by omega) (ha.and h))
  have hby : IsB (xs ++ [y]) := hb.append (fun x hx => by simp at hx; omega)
  have HRD := Lib.hid (fun W A' c' (h : Arr W A' (bs xs ++ [.int .u8 y])) => read_any k wk A' c' (xs ++ [y]) (by simp; omega) W (by rw [bs_append]; exact h) hby)
  rw [kind_off hg (by simp), hwt] at HRD
  have HRS := Lib.hid (fun W A' c' (h : Arr W A' (bs (xs.drop 1))) => read_any k wk A' c' (xs.drop 1) (by simp; omega) W h (hb.drop 1))
  rw [kind_off hg (by rw [List.length_drop]; omega), hwt] at HRS
  have hcut : Arr w (cutA (some ad) 1 c) (bs (xs.drop 1)) := by rw [bs_drop]; exact ha.drop (by rw [bs_length]; exact hn)
  obtain ⟨Z, hZ⟩ : ∃ Z, attrR k xs = Z := ⟨_, rfl⟩
  obtain ⟨Y, hY⟩ : ∃ Z, attrR k (xs ++ [y]) = Z := ⟨_, rfl⟩
  obtain ⟨X, hX⟩ : ∃ Z, attrR k (xs.drop 1) = Z := ⟨_, rfl⟩
  rw [hZ] at HR
  rw [hY, List.length_append, List.length_singleton] at HRD
  rw [hX, List.length_drop] at HRS
  unfold Cloned at HCL
  obtain ⟨n, hnn⟩ : ∃ n, xs.length = n := ⟨_, rfl⟩
  rw [hnn] at HR HRD HRS hn hne h4 ⊢
  simp only [hnn] at HCL
  clear hZ hY hX hg ld hwt ha hb hby hnn
  unfold AtI.val AtI.cs at HR HRD HRS
  have h1n : (1 : Int) ≤ n := by omega
  have hn0 : ¬ (n : Int) = 0 := by omega
  have h300 : (n : Int) ≤ 300 := by omega
  obtain ⟨i0, hi, hz0, hz1, hz2⟩ := info_parts infoU8
  have HL4 := Lib.hid h4
  have HRD2 := HRD
  by_cases hc1 : c = 1
  all_goals
    (first | (simp only [cutA, if_pos hc1] at hcut; subst hc1; obtain rfl : n = 1 := (by omega); simp only [Nat.sub_self] at HRS; simp only [Nat.reduceAdd] at HRD2) | (simp only [cutA, if_neg hc1, Option.map_some] at hcut; rw [show ad.add 1 = ⟨ad.block, ad.off + 1, none⟩ from add_field ad 0 1 (by decide)] at hcut))
    have HCU := Lib.hid hcut
    clear hcut
    rcases h6 with ⟨rfl, rfl⟩ | ⟨h6, rfl⟩
  all_goals
    go_enter Tryd.func5, Tryd.ntmps5
    go_wp2_with (first
      | (go_at_call 18; refine Calls.mono HR.out ?_; rintro e w1 ⟨rfl, hK⟩; have hk1 := Lib.hid hK; clear hK)
      | (go_at_call 20; refine Calls.mono (HCL.out _ (hk1.out.alloc _)) ?_; rintro e w2 ⟨A2, c2, rfl, hown, hK⟩; have hkb := Lib.hid (hk1.out.alloc (.cells #[.int .i64 Z.t, .bool Z.p, .int .u32 Z.n, .int .u32 Z.m, .slice Z.S Z.sn Z.sc, .slice Z.L Z.ln Z.lc, .slice Z.B Z.bn Z.bc, .int .i64 Z.f, .slice Z.R Z.rn Z.rc] 28)); have hk2 := hK; clear hK)
      | (at_builtin; refine wpList_app (hk2.alloc _) rfl (.tmp 30) (.tmp 32) 25 rfl 5 i0 (.int .u8 0) 1 1 Tryd.underlying25 hi hz0 hz1 hz2 rfl (by decide) _ _ _ rfl (hown.alloc _) _ 1 1 [.int .u8 y] rfl rfl (Arr.one _ _ _) (by simp [Value.oneCell']) (by have := HL4.out; omega) (by decide) _ rfl ?_; intro A3 c3 w3 hown3 hk3' _ _; have hk3 := Lib.hid (hkb.out.and hk3'); have HA3 := Lib.hid (Arr.of_own hown3); clear hk2 hown hown3 hk3')
      | (go_at_call 19; (first | (with_reducible refine Calls.mono (HRD.out _ _ _ HA3.out) ?_) | (with_reducible refine Calls.mono (HRD2.out _ _ _ HA3.out) ?_)); rintro e w4 ⟨rfl, hK⟩; have hk4 := Lib.hid (hk3.out.and hK); clear hK)
      | (go_at_call 19; refine Calls.mono (HRS.out _ _ _ (HCU.out.and (hk4.out.alloc _))) ?_; rintro e w5 ⟨rfl, hK⟩; have hk5 := Lib.hid ((hk4.out.alloc _).and hK); clear hK)
      | (go_at_call 9; refine Calls.mono (HAL.out _ (hk5.out.alloc _)) ?_; rintro e w6 ⟨rfl, hK⟩; have hk6 := Lib.hid ((hk5.out.alloc _).and hK); clear hK))
    go_ret
    exact ⟨by simp, hk6.out⟩

theorem blengths_row (k : Int) (A : Option Addr) (n c : Nat) (xs : List Int) (y : Int) (w : World) (wk : -9223372036854775808 ≤ k ∧ k ≤ 9223372036854775807) (hx : InBytes w A n c xs) (hy : 0 ≤ y ∧ y ≤ 255) (ld : Ld w) :
    Calls Tryd.prog 5 #[.int .i64 k, .slice A n c, .int .u8 y] w fun e w' => e = .returned (.bool true) ∧ Kp NoB w w' := by
  cases hg : goodR k xs with
  | false => exact blen_bad k wk A n c xs y w hx ld (.inl hg)
  | true =>
    have h6 : k = 6 ∧ (if k = 6 then (1 : Int) else 2) = 1 ∨ ¬ k = 6 ∧ (if k = 6 then (1 : Int) else 2) = 2 := by
      by_cases h : k = 6
      · exact .inl ⟨h, if_pos h⟩
      · exact .inr ⟨h, if_neg h⟩
    obtain ⟨rfl, hn, hc, ha, hb⟩ := hx
    cases xs with
    | nil => exact blen_nil k _ h6 wk A c y ⟨hy.1, by omega⟩ w hc ld hg
    | cons x r =>
      obtain ⟨ad, rfl, _⟩ := ha (by simp [bs])
      exact blen_some k _ h6 wk ad c (x :: r) y ⟨hy.1, by omega⟩ w hn hc ha hb (by simp) ld hg

end Go.Proofs.YthgcfoednhdbcaaDoor
