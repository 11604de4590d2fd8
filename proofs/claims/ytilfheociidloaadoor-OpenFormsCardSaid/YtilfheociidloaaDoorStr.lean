/- Bytes as strings: what string(b) gives; the reference's Same of bytes: its contract. -/
import Derived.Test.YtilfheociidloaaDoorMem
import Derived.Test.YtilfheociidloaaDoorPlain
import Derived.Test.YtilfheociidloaaDoorProg
import Derived.KernelRfl
import Derived.Deep.QuietTactic
import Derived.BigQuiet
import Derived.WalkSpells
import Derived.Laws.BytesArg
namespace Go.Proofs.YtilfheociidloaaDoor
open Go.RowKit
set_option linter.unusedVariables false
set_option linter.unusedSimpArgs false

theorem run_str {P : Program} (w : World) (src e dst : TypeId) (hs : P.underlying src = some (.slice e)) (he : P.underlying e = some (.int .u8)) (hd : P.underlying dst = some .string) (A : Option Addr) (c : Nat) (xs : List Int) (ha : Arr w A (bs xs)) :
    (convert src dst (.slice A xs.length c)).run P w = .ok (.string (strOfNums xs)) w := by
  cases A with
  | none =>
    have hx : xs = [] := by
      rcases Classical.em (xs = []) with h | h
      · exact h
      · obtain ⟨ad, e, _⟩ := ha (by simpa [bs] using h)
        cases e
    subst hx
    rw [run_convert_bytes_nil w src e hs he _ _ dst hd]
    rfl
  | some ad =>
    have hl : (loadCells ad xs.length).run P w = .ok (xs.map (Value.int .u8)).toArray w := by
      have := run_loadCells_list (P := P) w ad (xs.map (Value.int .u8)) (fun j v hj => by
        obtain ⟨ad', e, hc⟩ := ha.at hj
        injection e with e
        subst e
        exact hc)
      simpa using this
    rw [run_convert_bytes_string w src dst e _ _ c hs he hd, run_bytesToString w _ _ c xs hl, foldl_push_bytes]
    simp [strOfNums, ByteArray.empty, ByteArray.emptyWithCapacity]
    rfl

theorem strOfNums_inj {xs ys : List Int} (hx : IsB xs) (hy : IsB ys) (h : strOfNums xs = strOfNums ys) : xs = ys := by
  have h1 : xs.map (fun n => UInt8.ofNat n.toNat) = ys.map (fun n => UInt8.ofNat n.toNat) := by
    have := congrArg (fun b : ByteArray => b.data.toList) h
    simpa [strOfNums_data] using this
  have hk : ∀ zs : List Int, IsB zs → (zs.map (fun n => UInt8.ofNat n.toNat)).map (fun u => (u.toNat : Int)) = zs := by
    intro zs hz
    rw [List.map_map]
    conv => rhs; rw [← List.map_id zs]
    refine List.map_congr_left fun z hzz => ?_
    have := hz z hzz
    simp only [Function.comp, id]
    rw [UInt8.toNat_ofNat_of_lt' (by simp [UInt8.size]; omega)]
    omega
  rw [← hk xs hx, ← hk ys hy, h1]

theorem rsame_any (A B : Option Addr) (c d : Nat) (xs ys : List Int) (w : World) (ha : Arr w A (bs xs)) (hb : Arr w B (bs ys)) (hx : IsB xs) (hy : IsB ys) :
    Calls Tryd.prog 42 #[.slice A xs.length c, .slice B ys.length d] w fun e w' => e = .returned (.bool (decide (xs = ys))) ∧ w' = w := by
  have h1 := run_str (P := Tryd.prog) w 28 5 9 Tryd.underlying28 Tryd.underlying5 Tryd.underlying9 A c xs ha
  have h2 := run_str (P := Tryd.prog) w 28 5 9 Tryd.underlying28 Tryd.underlying5 Tryd.underlying9 B d ys hb
  have HE := Lib.hid (fun h => strOfNums_inj hx hy h)
  have HE2 : Hid (xs = ys → strOfNums xs = strOfNums ys) := Lib.hid (fun h => by rw [h])
  obtain ⟨b, hbb⟩ : ∃ b, decide (xs = ys) = b := ⟨_, rfl⟩
  have HB := Lib.hid hbb
  rw [hbb]
  clear hbb ha hb hx hy
  obtain ⟨n, hn⟩ : ∃ n, xs.length = n := ⟨_, rfl⟩
  obtain ⟨m, hm⟩ : ∃ n, ys.length = n := ⟨_, rfl⟩
  obtain ⟨s, hs⟩ : ∃ s, strOfNums xs = s := ⟨_, rfl⟩
  obtain ⟨t, ht⟩ : ∃ s, strOfNums ys = s := ⟨_, rfl⟩
  rw [hn, hs] at h1
  rw [hm, ht] at h2
  rw [hn, hm]
  rw [hs, ht] at HE HE2
  clear hn hm hs ht
  go_enter Tryd.func42, Tryd.ntmps42
  go_wp2
  go_ret
  refine ⟨?_, rfl⟩
  rw [← HB.out, show decide (xs = ys) = (s.toList == t.toList) from ?_]
  · rfl
  · by_cases h : xs = ys
    · rw [HE2.out h]
      simp [h]
    · have hne : s.toList ≠ t.toList := fun he => h (HE.out (by
        rw [ByteArray.toList_eq, ByteArray.toList_eq] at he
        cases s; cases t
        simpa using he))
      rw [decide_eq_false h, beq_eq_false_iff_ne.2 hne]

end Go.Proofs.YtilfheociidloaaDoor
