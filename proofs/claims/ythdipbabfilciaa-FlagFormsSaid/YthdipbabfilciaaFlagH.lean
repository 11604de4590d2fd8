/- The form of a head (the reference): contracts by walking the Go text. -/
import Derived.Test.YthdipbabfilciaaFlagD
import Derived.Test.YthdipbabfilciaaROf
namespace Go.Proofs.Ythdipbabfilciaa
open Go.RowKit Go.Maps
set_option linter.unusedVariables false
set_option linter.unusedSimpArgs false

/-- append, met in a region that draws its order. -/
theorem wp_app {P : Program} {w : World} {o : Oper} {a : Act} {K : Act → World → Prop} {Q : Exit → Act → World → Prop} {S : Nat → Prop} {w0 : World} (hk : Kp S w0 w) (s x : Operand) (t : TypeId)
    (ho : o.op = .call { callee := .builtin .append, args := #[s, x], argTypes := #[t, t] })
    (e : TypeId) (i : TypeInfo) (z : Value) (size bytes : Nat) (ht : P.underlying t = some (.slice e)) (hi : P.info? e = some i) (hz : i.zero = some z)
    (hsize : i.size = size) (hby : i.bytes = bytes) (hzs : z.cells.size = size) (hsz : 0 < size)
    (v : Value) (n : Nat) (xs : List Value) (hs : a.eval s = v) (hown : w.ownsRow w0.heap.size e size v n xs)
    (A : Option Addr) (m c : Nat) (news : List Value) (hx : a.eval x = .slice A m c) (hl : news.length = m * size) (ha : Arr w A news) (h1 : ∀ u ∈ news, u.oneCell' = true)
    (hbytes : (n + m) * bytes ≤ 140737488355328) (hby0 : 0 < bytes) (N : Nat) (hN : N = n + m)
    (h : ∀ A' c' w', w'.ownsRow w0.heap.size e size (.slice A' N c') N (xs ++ news) → Kp S w0 w' → w.grownBy w' v.ownBlock → ((Value.slice A' N c').ownBlock = v.ownBlock ∨ (Value.slice A' N c').ownBlock = some w.heap.size) →
      K (a.put o.dst (.slice A' N c')) w') : o.wp P a w K Q := by
  subst hN
  have h63 : n + m ≤ maxLen := by
    have := Nat.le_mul_of_pos_right (n + m) hby0
    unfold maxLen
    omega
  obtain ⟨v', w', hr, h2, h3, h4⟩ := run_app (P := P) (w := w) w0.heap.size t o.type e i z size bytes ht hi hz hsize hby hzs hsz v n xs hown A m c news hl ha h1 h63 hbytes hk.size
  obtain ⟨A', c', rfl, _, _, _⟩ := own_form h2
  unfold Oper.wp execOp
  simp only [ho, resolve, invoke, builtin, Sem.run_bind, Sem.run_pure, Result.andThen_ok, List.map_toArray, List.map_cons, List.map_nil, hs, hx, hr]
  exact (h A' c' w' h2 (hk.grown h3 (fun b hb => .inl (own_base hown b hb))) h3 h4)

/-- The greatest length. -/
def topI (f : Int) : Int := if fbit f 4 then 65535 else 255

set_option maxRecDepth 100000 in
set_option maxHeartbeats 4000000 in
theorem rbytes_bad (f t l : Int) (w : World) (h : f < 0 ∨ 255 < f ∨ t < 0 ∨ 255 < t ∨ l < 0 ∨ topI f < l) :
    Calls Try.prog 20 #[.agg #[.int .i64 f, .int .i64 t, .int .i64 l]] w (Stay (.tuple #[.slice none 0 0, .bool false]) w) := by
  have e4 := and_16 f
  unfold topI at h
  revert e4 h
  cases fbit f 4
  all_goals
    intro h e4
    simp only [Bool.false_eq_true, if_false, if_true] at e4 h
    obtain ⟨x1, x2, x3, x4, x5, x6, x7⟩ := (Bk.fresh w 23 #[.int .i64 f, .int .i64 t, .int .i64 l]).three
    go_enter Try.func20, Try.ntmps20
    go_wp2_with fail
  all_goals first
    | (go_ret2; exact ⟨rfl, (Kp.refl _ _).alloc _⟩)
    | (exfalso; omega)
    | skip

set_option maxRecDepth 100000 in
set_option maxHeartbeats 4000000 in
theorem rbytes_good (f t l : Int) (w : World) (f0 : 0 ≤ f) (f1 : f ≤ 255) (t0 : 0 ≤ t) (t1 : t ≤ 255) (l0 : 0 ≤ l) (l1 : l ≤ topI f) :
    Calls Try.prog 20 #[.agg #[.int .i64 f, .int .i64 t, .int .i64 l]] w (FormYes f t l w) := by
  obtain ⟨i0, hi, hz0, hz1, hz2⟩ := info_parts infoU8
  have e4 := and_16 f
  have hl5 : l ≤ 65535 := by unfold topI at l1; split at l1 <;> omega
  have hw32 : IntKind.u32.wrap l = l := IntWalk.u32_in _ (by omega)
  have hwf : IntKind.u8.wrap f = f := IntWalk.u8_in _ (by omega)
  have hwt : IntKind.u8.wrap t = t := IntWalk.u8_in _ (by omega)
  unfold FormYes formL widthI
  unfold topI at l1
  revert e4 l1
  cases fbit f 4
  all_goals
    intro l1 e4
    simp only [Bool.false_eq_true, if_false, if_true] at e4 l1 ⊢
    have HO := Lib.hid (fun w => (by first | exact rof_1 l w l0 (by omega) | exact rof_2 l w l0 (by omega) : Calls Try.prog 32 #[.int .i64 _, .int .u32 l] w (OfYes w _ l)))
    obtain ⟨x1, x2, x3, x4, x5, x6, x7⟩ := (Bk.fresh w 23 #[.int .i64 f, .int .i64 t, .int .i64 l]).three
    have hb := Lib.hid (Bk.fresh w 23 #[.int .i64 f, .int .i64 t, .int .i64 l])
    have hk0 := Lib.hid ((Kp.refl NoB w).alloc (.cells #[.int .i64 f, .int .i64 t, .int .i64 l] 23))
    have hL1 : Hid ((((w.alloc (.cells #[.int .i64 f, .int .i64 t, .int .i64 l] 23)).drew).alloc (.cells #[.int .u8 f, .int .u8 t] 5)).ownsRow w.heap.size 5 1 (.slice (some ⟨w.heap.size + 1, 0, none⟩) 2 2) 2 [.int .u8 f, .int .u8 t]) := Lib.hid (by
      have := own_lit ((w.alloc (.cells #[.int .i64 f, .int .i64 t, .int .i64 l] 23)).drew) w.heap.size 5 [.int .u8 f, .int .u8 t] (by have := hk0.out.size; exact this) (by simp [maxLen])
      have e : ((w.alloc (.cells #[.int .i64 f, .int .i64 t, .int .i64 l] 23)).drew).heap.size = w.heap.size + 1 := World.size_alloc _ _
      rw [e] at this
      exact this)
    have hL2 : Hid (∀ w1 : World, w.heap.size ≤ w1.heap.size → (w1.alloc (.cells #[.int .u8 f, .int .u8 t] 5)).ownsRow w.heap.size 5 1 (.slice (some ⟨w1.heap.size, 0, none⟩) 2 2) 2 [.int .u8 f, .int .u8 t]) := Lib.hid (fun w1 h => own_lit w1 w.heap.size 5 [.int .u8 f, .int .u8 t] h (by simp [maxLen]))
    go_enter Try.func20, Try.ntmps20
    go_wp2_with fail
  all_goals
    go_region_held3 (fun w' => w'.cell? ⟨w.heap.size, 0, none⟩ = some (.int .i64 f) ∧ w'.cell? ⟨w.heap.size, 1, none⟩ = some (.int .i64 t) ∧ w'.cell? ⟨w.heap.size, 2, none⟩ = some (.int .i64 l)) (go_keep)
      (first
        | (go_at_call 32; refine (HO.out (((w.alloc (.cells #[.int .i64 f, .int .i64 t, .int .i64 l] 23)).drew).alloc (.cells #[.int .u8 f, .int .u8 t] 5))).mono ?_; rintro e w1 ⟨A1, c1, rfl, hown1, hK1⟩; obtain ⟨y1, y2, y3, y4, y5, y6, y7⟩ := (((hb.out.drewN 1).alloc (.cells #[.int .u8 f, .int .u8 t] 5)).and hK1).three; replace hK1 := Lib.hid hK1; replace hown1 := Lib.hid hown1)
        | (go_at_call 32; refine (HO.out ((w.alloc (.cells #[.int .i64 f, .int .i64 t, .int .i64 l] 23)).drew)).mono ?_; rintro e w1 ⟨A1, c1, rfl, hown1, hK1⟩; obtain ⟨y1, y2, y3, y4, y5, y6, y7⟩ := ((hb.out.drewN 1).and hK1).three; replace hK1 := Lib.hid hK1; replace hown1 := Lib.hid hown1)
        | (rw [if_pos (by rfl)]; refine wp_app (w0 := w) (S := NoB) ((hk0.out.drew.alloc (.cells #[.int .u8 f, .int .u8 t] 5)).and hK1.out) (.tmp 45) (.tmp 50) 35 rfl 5 i0 (.int .u8 0) 1 1 Try.underlying35 hi hz0 hz1 hz2 rfl (by decide) _ 2 [.int .u8 f, .int .u8 t] rfl (hK1.out.own hL1.out (fun _ _ q => q)) A1 _ c1 _ rfl (by rw [bs_length, putL_length]) (Arr.of_own hown1.out) (bs_one _) (by decide) (by decide) _ rfl ?_; intro A2 c2 w2 hown2 hK2 hG _; obtain ⟨z1, z2, z3, z4, z5, z6, z7⟩ := ((((hb.out.drewN 1).alloc (.cells #[.int .u8 f, .int .u8 t] 5)).and hK1.out).keep (Kp.of_grown hG) (fun hq => by have hq' : some w.heap.size = some (w.heap.size + 1) := hq; injection hq' with hq'; omega)).three; clear hG; replace hown2 := Lib.hid hown2; replace hK2 := Lib.hid hK2)
        | (rw [if_pos (by rfl)]; refine wp_app (w0 := w) (S := NoB) ((hk0.out.drew.and hK1.out).alloc (.cells #[.int .u8 f, .int .u8 t] 5)) (.tmp 45) (.tmp 50) 35 rfl 5 i0 (.int .u8 0) 1 1 Try.underlying35 hi hz0 hz1 hz2 rfl (by decide) _ 2 [.int .u8 f, .int .u8 t] rfl (hL2.out _ (hk0.out.drew.and hK1.out).size) A1 _ c1 _ rfl (by rw [bs_length, putL_length]) ((Arr.of_own hown1.out).alloc _) (bs_one _) (by decide) (by decide) _ rfl ?_; intro A2 c2 w2 hown2 hK2 hG _; have hlt := ((hb.out.drewN 1).and hK1.out).lt; obtain ⟨z1, z2, z3, z4, z5, z6, z7⟩ := ((((hb.out.drewN 1).and hK1.out).alloc (.cells #[.int .u8 f, .int .u8 t] 5)).keep (Kp.of_grown hG) (fun hq => by have hq' : some w.heap.size = some w1.heap.size := hq; injection hq' with hq'; omega)).three; clear hG hlt; replace hown2 := Lib.hid hown2; replace hK2 := Lib.hid hK2))
  all_goals
    go_wp2_with fail
    go_ret2
    refine ⟨A2, c2, by simp [putL_length], ?_, hK2.out⟩
    have := hown2.out
    simpa [putL_length, bs] using this

end Go.Proofs.Ythdipbabfilciaa
