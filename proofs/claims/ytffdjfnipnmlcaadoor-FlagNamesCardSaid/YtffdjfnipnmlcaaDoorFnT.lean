/- flag.Types: its contract: the types of some classes, in order. The sort, the iterator and slices.DeleteFunc by the kit's contracts. No condition but the length. -/
import Derived.Test.YtffdjfnipnmlcaaDoorFlagA
import Derived.Test.YtffdjfnipnmlcaaDoorInts
import Derived.Test.YtffdjfnipnmlcaaDoorShelf
import Derived.Lib.SlKeysI
namespace Go.Proofs.YtffdjfnipnmlcaaDoor
open Go.RowKit Go.Maps Go.Sort
set_option linter.unusedVariables false
set_option linter.unusedSimpArgs false

/-- The known types, in order. -/
def keysL : List Int := [1, 2, 3, 4, 5, 6, 7, 8, 9, 10, 14, 15, 16, 17, 18, 32]
theorem mem_keysL (k : Int) : k ∈ keysL ↔ (clsO k).isSome = true := by
  unfold keysL clsO
  simp only [List.mem_cons, List.not_mem_nil, or_false]
  split
  · simp; omega
  · split
    · simp; omega
    · split
      · simp; omega
      · simp; omega
/-- The types of some classes. -/
def typesL (zs : List Int) : List Int := keysL.filter fun k => zs.contains (cls k)

/-- 'm[k]', met in the walk. -/
theorem wpList_look1 {P : Program} {w : World} {K E : TypeId} {b : Nat} {f : Int → Option Int} {ops : Array Oper} {rest : List Oper} {o : Oper} {a : Act} {Q : Exit → Act → World → Prop} {n : Nat} (hg : o.guard = none) (m x : Operand) (t : TypeId) (hop : o.op = Op.lookup t m x false)
    (hK : P.underlying K = some (.int .i64)) (hE : P.underlying E = some (.int .i64)) (ht : P.underlying t = some (.map K E)) (hz : (zeroValue E).run P w = .ok (.int .i64 0) w) (h : MapN P K E w b n f)
    (k : Int) (hm : a.eval m = .map (some b)) (hx : a.eval x = .int .i64 k) (wk : (Lit.int .i64 k).wf = true)
    (hQ : wpList P ops Q rest (a.put o.dst (.int .i64 ((f k).getD 0))) w) : wpList P ops Q (o :: rest) a w := by
  obtain ⟨D, hown, hD, hf⟩ := h
  refine wpList_lookup_own_int w hg m x t hop K E .i64 (int_keyed hK) ht hE hz b n D hm hown _ (.int .i64 k) hx (keyOf_int_mk hK wk) (fun c hc _ => ?_)
  rw [(hf k).2] at hc
  injection hc with hc
  injection hc with _ hc
  rw [← hc]
  exact hQ

set_option maxHeartbeats 1000000 in
/-- The predicate of Types. -/
theorem pred_any (x : Int) (wk : (Lit.int .i64 x).wf = true) (B1 B2 b m : Nat) (A : Option Addr) (c : Nat) (zs : List Int) (W : World) (h1 : W.cell? ⟨B1, 0, none⟩ = some (.slice A zs.length c)) (h2 : W.cell? ⟨B2, 0, none⟩ = some (.map (some b)))
    (hm : MapN Tryd.prog 3 3 W b m clsO) (ha : Arr W A (is zs)) (hl : zs.length ≤ 140737488355328) :
    Calls Tryd.prog 21 #[.int .i64 x, .pointer (some ⟨B1, 0, none⟩), .pointer (some ⟨B2, 0, none⟩)] W fun e w' => e = .returned (.bool (!zs.contains (cls x))) ∧ w' = W := by
  have HC := Lib.hid (contains_any A c zs (cls x) W ha hl)
  obtain ⟨n, hn⟩ : ∃ n, zs.length = n := ⟨_, rfl⟩
  obtain ⟨q, hq⟩ : ∃ q, zs.contains (cls x) = q := ⟨_, rfl⟩
  rw [hn] at h1
  rw [hn, hq] at HC
  rw [hq]
  unfold cls at HC
  clear hn hq ha hl
  have hz := zeroValueI W
  go_enter Tryd.func21, Tryd.ntmps21
  go_wp2_with (first
    | (refine wpList_look1 rfl (.tmp 6) (.tmp 7) 41 rfl Tryd.underlying3 Tryd.underlying3 Tryd.underlying41 hz hm x rfl rfl wk ?_)
    | (go_at_call 6; refine HC.out.mono ?_; rintro e w1 ⟨rfl, rfl⟩))
  go_ret
  exact ⟨rfl, rfl⟩

/-- An int that a value may hold. -/
abbrev I64 := { x : Int // (Lit.int .i64 x).wf = true }
instance : Inhabited I64 := ⟨⟨0, by decide⟩⟩
def encI (x : I64) : Value := .int .i64 x.1
def keysI : List I64 := [⟨1, by decide⟩, ⟨2, by decide⟩, ⟨3, by decide⟩, ⟨4, by decide⟩, ⟨5, by decide⟩, ⟨6, by decide⟩, ⟨7, by decide⟩, ⟨8, by decide⟩, ⟨9, by decide⟩, ⟨10, by decide⟩, ⟨14, by decide⟩, ⟨15, by decide⟩, ⟨16, by decide⟩, ⟨17, by decide⟩, ⟨18, by decide⟩, ⟨32, by decide⟩]
theorem keysI_val : keysI.map (·.1) = keysL := rfl

theorem Kp.over (w : World) (q g off : Nat) (os : Array Obj) (d : Array I64) : Kp (OnB g) w (grow (putRow encI (Sort.ahead w q) g off d) os) := by
  refine ⟨rfl, rfl, rfl, ?_, fun k hk hne => ?_⟩
  · show w.heap.size ≤ ((putRow encI (Sort.ahead w q) g off d).heap ++ os).size
    rw [Array.size_append, size_putRow]
    exact Nat.le_add_right _ _
  · rw [heap_grow_old _ _ (by rw [size_putRow]; exact hk)]
    have : g ≠ k := fun e => hne e.symm
    simp [putRow, mapBlock, Sort.ahead, Array.getElem?_modify, this]
theorem Kp.over0 (w : World) (q g off : Nat) (d : Array I64) : Kp (OnB g) w (putRow encI (Sort.ahead w q) g off d) := by
  have := Kp.over w q g off #[] d
  rwa [grow_empty] at this

/-- The sorted keys of the map of the classes. -/
theorem sorted_keys {w : World} {b m : Nat} {D : DataW Unit} (hown : w.ownsMap Tryd.prog 3 (plainElem Tryd.prog 3) b m D) (hf : ∀ k, has D (.int .i64 k) = (clsO k).isSome) {ss : List Int} (h : ss.Perm (intKeys D)) :
    ss.mergeSort (fun x y => decide (x ≤ y)) = keysL ∧ Maps.size D = 16 := by
  have hp : keysL.Perm (intKeys D) := CollectedI.perm (left := fun _ => false) ⟨by decide, fun x => by rw [mem_keysL, hf x]; simp⟩ hown (int_keyed Tryd.underlying3) Tryd.underlying3 (fun _ => rfl)
  refine ⟨?_, ?_⟩
  · have h1 := mergeSort_of_perm_i (h.trans hp.symm)
    exact h1.trans (List.mergeSort_of_pairwise (by decide))
  · have := hp.length_eq
    obtain ⟨es, rfl, _⟩ := hown.keysOf
    have h2 : (intKeys (.map es : DataW Unit)).length = es.length := by simp [intKeys]
    rw [h2] at this
    exact this.symm

/-- What slices.Sorted leaves. -/
def SortedU (w : World) (e : Ending) (w' : World) : Prop := ∃ A c, e = .returned (.slice A 16 c) ∧ w'.ownsRow w.heap.size 3 1 (.slice A 16 c) 16 (is keysL) ∧ Kp NoB w w'

theorem keys_call (mb : Option Nat) (W : World) : Calls Tryd.prog 20 #[.map mb] W fun e w' => e = .returned (.func (.func 30) #[] #[.pointer (some ⟨W.heap.size, 0, none⟩)]) ∧ w' = W.alloc (.cells #[.map mb] 41) :=
  (callsIn_wide (n := 5)).1 (AnyZI.keys_in Tryd.laysKeys Fence.wide 5 trivial rfl mb W)

theorem sorts_call (m : Nat) : AnyZI.SortsIn Tryd.prog Tryd.laysSorted_ren Fence.wide m :=
  ⟨fun blk off cap ss W hH hblk hsz => callsIn_wide.2 (Tryd.slices_Sort_int blk off cap ss W hH hblk hsz),
   fun p cap W => callsIn_wide.2 (Tryd.slices_Sort_int_none p cap W)⟩

theorem sorted_call (b m : Nat) (w : World) (hm : MapN Tryd.prog 3 3 w b m clsO) :
    Calls Tryd.prog 19 #[.func (.func 30) #[] #[.pointer (some ⟨w.heap.size, 0, none⟩)]] (w.alloc (.cells #[.map (some b)] 41)) (SortedU (w.alloc (.cells #[.map (some b)] 41))) := by
  have hm2 := hm.and ((Kp.refl NoB w).alloc (.cells #[.map (some b)] 41))
  obtain ⟨D, hown, hD, hf⟩ := hm2
  have hf' := fun k => (hf k).1
  have hs := (sorted_keys hown hf' (List.Perm.refl _)).2
  have hseq : SeqGives Fence.wide 2 Tryd.prog 30 #[.pointer (some ⟨w.heap.size, 0, none⟩)] encZ (fun ss => ss.Perm (intKeys D)) (Maps.size D) (w.alloc (.cells #[.map (some b)] 41)) :=
    AnyZI.keys_gives (ρ := Tryd.laysKeys_ren) { Tryd.laysKeys with } Fence.wide _ trivial rfl (by omega) w.heap.size b m D _ (by simp) (by simp) hown
  have cS := AnyZI.sorted_in Tryd.laysSorted Fence.wide 5 trivial trivial trivial trivial rfl (by omega) (sorts_call _) (enters_of Tryd.func29 (by kernel_rfl) rfl) 30 #[.pointer (some ⟨w.heap.size, 0, none⟩)] trivial (enters_of Tryd.func30 (by kernel_rfl) rfl) _ _ (by rw [hs]; decide) (by rw [hs]; decide) _ hseq
  change CallsIn _ _ Tryd.prog 19 _ _ _ at cS
  refine ((callsIn_wide (n := 5)).1 cS).mono ?_
  rintro e w' ⟨v, ss, rfl, hp, hrow, hnil, hb⟩
  have hk := (sorted_keys hown hf' hp).1
  have hl : ss.length = 16 := by
    have := congrArg List.length hk
    rwa [List.length_mergeSort] at this
  rw [hk, hl] at hrow
  obtain ⟨A, c, rfl, -, -, -⟩ := own_form hrow
  exact ⟨A, c, rfl, hrow, Kp.of_below hb⟩

/-- What Types leaves. -/
def TypesU (zs : List Int) (w : World) (e : Ending) (w' : World) : Prop := ∃ A c, e = .returned (.slice A (typesL zs).length c) ∧ Arr w' A (is (typesL zs)) ∧ Kp NoB w w'

theorem typesI_len (zs : List Int) : (keysI.filter fun x => !(!zs.contains (cls x.1))).map (·.1) = typesL zs := by
  unfold typesL
  rw [← keysI_val, List.filter_map]
  congr 1
  congr 1
  funext x
  simp

set_option maxRecDepth 100000 in
set_option maxHeartbeats 4000000 in
theorem types_any (A : Option Addr) (c : Nat) (zs : List Int) (w : World) (ha : Arr w A (is zs)) (hl : zs.length ≤ 140737488355328) :
    Calls Tryd.prog 10 #[.slice A zs.length c] w (TypesU zs w) := by
  have HB0 := Lib.hid (Bk.fresh w 22 #[.slice A zs.length c])
  have HK0 := Lib.hid ((Kp.refl NoB w).alloc (.cells #[.slice A zs.length c] 22))
  have HD : Hid (∀ (g cap : Nat) (b m : Nat) (W : World), w.heap.size + 2 ≤ g → g < W.heap.size → 16 ≤ cap → (∀ j u, (is keysL)[j]? = some u → W.cell? ⟨g, j, none⟩ = some u) → (∀ j, W.frozen? ⟨g, j, none⟩ = false) →
      W.cell? ⟨w.heap.size, 0, none⟩ = some (.slice A zs.length c) → ∀ B2, B2 < g → B2 ≠ g → W.cell? ⟨B2, 0, none⟩ = some (.map (some b)) → MapN Tryd.prog 3 3 W b m clsO → b ≠ g → Kp NoB w W →
      Calls Tryd.prog 18 #[.slice (some ⟨g, 0, none⟩) 16 cap, .func (.func 21) #[] #[.pointer (some ⟨w.heap.size, 0, none⟩), .pointer (some ⟨B2, 0, none⟩)]] W (TypesU zs w)) := Lib.hid (by
    intro g cap b m W hg hgl hcap hcs hfz hc1 B2 hB2 hB2n hc2 hm hbg hK
    have eg : ∀ args w, (callFunc 21 args).run Tryd.prog w = .ok (.enter 21 args) w := enters_of Tryd.func21 (by kernel_rfl) rfl
    have hA : ∀ ad, A = some ad → is zs ≠ [] → ad.block ≠ g := fun ad e hne => by
      have := ha.lt hne ad e
      omega
    have hga : ∀ W', Kp (OnB g) W W' → W'.cell? ⟨w.heap.size, 0, none⟩ = some (.slice A zs.length c) ∧ W'.cell? ⟨B2, 0, none⟩ = some (.map (some b)) ∧ MapN Tryd.prog 3 3 W' b m clsO ∧ Arr W' A (is zs) := fun W' k =>
      ⟨k.cell hc1 (fun q => by unfold OnB at q; simp at q; omega), k.cell hc2 (fun q => by unfold OnB at q; simp at q; omega), hm.keep k (fun q => hbg q), fun hne => by
        obtain ⟨ad, e, hc⟩ := (ha.and hK) hne
        exact ⟨ad, e, fun j u hu => k.cell (hc j u hu) (fun q => hA ad e hne (by unfold OnB at q; rwa [block_add] at q))⟩⟩
    have hp : PredAt Tryd.prog 21 #[.pointer (some ⟨w.heap.size, 0, none⟩), .pointer (some ⟨B2, 0, none⟩)] encI (fun x => !zs.contains (cls x.1)) W := fun W' x hb => by
      obtain ⟨g1, g2, g3, g4⟩ := hga W' ((Kp.of_below hb).wide _)
      exact (pred_any x.1 x.2 w.heap.size B2 b m A c zs W' g1 g2 g3 g4 hl).mono fun e w' ⟨h1, h2⟩ => ⟨h1, 0, h2⟩
    have hpo : PredOver Tryd.prog 21 #[.pointer (some ⟨w.heap.size, 0, none⟩), .pointer (some ⟨B2, 0, none⟩)] encI (fun x => !zs.contains (cls x.1)) g 0 keysI.toArray.size W := fun n os dk x _ => by
      obtain ⟨g1, g2, g3, g4⟩ := hga _ (Kp.over W n g 0 os dk)
      exact (pred_any x.1 x.2 w.heap.size B2 b m A c zs _ g1 g2 g3 g4 hl).mono fun e w' ⟨h1, h2⟩ => ⟨h1, 0, h2⟩
    have hH : Holds encI W g 0 keysI.toArray := fun j hj => by
      have hj' : j < keysI.length := by simpa using hj
      refine ⟨?_, by rw [Nat.zero_add]; exact hfz j⟩
      rw [Nat.zero_add]
      refine hcs j _ ?_
      unfold is
      rw [← keysI_val, List.map_map, List.getElem?_map, List.getElem?_eq_getElem hj', Option.map_some]
      rw [getElem!_pos keysI.toArray j hj]
      rfl
    have h := Tryd.slices_DeleteFunc encI (fun _ => rfl) (fun x => !zs.contains (cls x.1)) 21 _ eg ⟨0, by decide⟩ zeroValueI g 0 cap keysI.toArray W hp hpo hH (by decide) (by rw [show keysI.toArray.size = 16 from rfl]; exact hcap)
    refine h.mono ?_
    rintro e w' ⟨rfl, q, rfl⟩
    obtain ⟨F, hF⟩ : ∃ F, (keysI.toArray.toList.filter fun x => !(!zs.contains (cls x.1))) = F := ⟨_, rfl⟩
    have hFL : F.map (·.1) = typesL zs := by rw [← hF]; exact typesI_len zs
    have hFl : F.length ≤ keysI.toArray.size := by
      rw [← hF]
      have := List.length_filter_le (fun x : I64 => !(!zs.contains (cls x.1))) keysI.toArray.toList
      rwa [Array.length_toList] at this
    rw [hF]
    have hlen : (typesL zs).length = F.length := by rw [← hFL, List.length_map]
    refine ⟨some ⟨g, 0, none⟩, cap, by rw [hlen], fun _ => ⟨⟨g, 0, none⟩, rfl, fun j u hu => ?_⟩, hK.new (Kp.over0 W q g 0 _) (by omega)⟩
    have hsz : (F ++ List.replicate (keysI.toArray.size - F.length) (⟨0, by decide⟩ : I64)).toArray.size = keysI.toArray.size := by rw [List.size_toArray, List.length_append, List.length_replicate]; omega
    have hh := holds_putRow encI (Sort.ahead W q) g 0 keysI.toArray _ (holds_ahead encI W q g 0 _ hH) hsz
    have hj : j < F.length := by
      have := (List.getElem?_eq_some_iff.1 hu).1
      rw [is_length, hlen] at this
      exact this
    have hjs : j < (F ++ List.replicate (keysI.toArray.size - F.length) (⟨0, by decide⟩ : I64)).toArray.size := by rw [hsz]; omega
    have := (hh j hjs).1
    rw [Nat.zero_add] at this
    rw [add_none, Nat.zero_add, this]
    rw [getElem!_pos _ j hjs]
    unfold is at hu
    rw [← hFL, List.map_map, List.getElem?_map, List.getElem?_eq_getElem hj] at hu
    simp only [Option.map_some, Option.some.injEq] at hu
    rw [← hu]
    simp [encI, List.getElem_append_left hj])
  have HC := Lib.hid classes_any
  unfold ClassMap at HC
  obtain ⟨n, hn⟩ : ∃ n, zs.length = n := ⟨_, rfl⟩
  rw [hn] at HB0 HK0 HD ⊢
  clear hn ha hl
  go_enter Tryd.func10, Tryd.ntmps10
  go_wp2_with fail
  refine (HC.out _).mono ?_
  rintro e w1 ⟨b, rfl, hm1, hK1⟩
  have k1 := Lib.hid (HK0.out.and hK1)
  have b1 := Lib.hid (HB0.out.and hK1)
  have hlt := hm1.lt
  have k2 := Lib.hid (k1.out.alloc (.cells #[.map (some b)] 41))
  have k3 := Lib.hid (k2.out.alloc (.cells #[.map (some b)] 41))
  have hka : Kp NoB w1 ((w1.alloc (.cells #[.map (some b)] 41)).alloc (.cells #[.map (some b)] 41)) := ((Kp.refl _ _).alloc _).alloc _
  have b3 := Lib.hid (b1.out.and hka)
  have c3 := Lib.hid ((Bk.fresh w1 41 #[.map (some b)]).alloc (.cells #[.map (some b)] 41))
  have m3 := Lib.hid (hm1.and hka)
  have HS := sorted_call b 16 (w1.alloc (.cells #[.map (some b)] 41)) (hm1.and ((Kp.refl _ _).alloc _))
  rw [World.size_alloc] at HS
  replace HS := Lib.hid HS
  have hsz : w.heap.size < w1.heap.size := b1.out.lt
  have hm1 := Lib.hid hm1
  clear hka
  go_wp2_with (first
    | (go_at_call 20; refine (keys_call _ _).mono ?_; rintro e w2 ⟨rfl, rfl⟩)
    | (go_at_call 19; refine HS.out.mono ?_; rintro e w4 ⟨A4, c4, rfl, hown, hK4⟩; have hown := Lib.hid hown; have hK4 := Lib.hid hK4))
  obtain ⟨g, rfl, hg, hgl, hcs, hfz⟩ := own_at hown.out (by decide)
  have hc16 : 16 ≤ c4 := by
    obtain ⟨A', c', he, h1, -, -⟩ := own_form hown.out
    injection he with _ _ he
    omega
  simp only [World.size_alloc] at hg
  refine (HD.out g c4 b 16 w4 (by omega) hgl hc16 hcs hfz (((b3.out.and hK4.out).cell 0)) w1.heap.size (by omega) (by omega) (((c3.out.and hK4.out).cell 0)) (m3.out.and hK4.out) (by omega) (k3.out.and hK4.out)).mono ?_
  rintro e w5 ⟨A5, c5, rfl, harr, hK5⟩
  replace harr := Lib.hid harr
  go_wp2_with fail
  go_ret
  exact ⟨A5, c5, rfl, harr.out, hK5⟩

end Go.Proofs.YtffdjfnipnmlcaaDoor
