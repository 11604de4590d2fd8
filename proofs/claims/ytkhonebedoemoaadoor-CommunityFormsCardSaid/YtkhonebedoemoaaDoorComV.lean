/- Attributes of numbers alone; rows written in place. No condition. -/
import Derived.Test.YtkhonebedoemoaaDoorComP
import Derived.Test.YtkhonebedoemoaaDoorHeldR
import Derived.Deep.RegionHeld3
namespace Go.Proofs.YtkhonebedoemoaaDoor
open Go.RowKit
set_option linter.unusedVariables false
set_option linter.unusedSimpArgs false

theorem infoU : (Tryd.prog.info? 22).map (fun i => (i.zero, i.size, i.bytes)) = some (some (.int .u32 0), 1, 4) := by kernel_rfl
theorem sizeAt : (Tryd.prog.info? 28).map (·.size) = some 9 := by kernel_rfl
/-- A whole row is stored into a block, in a fenced walk. -/
theorem wpListIn_store_row {F : Fence} {n : Nat} {P : Program} {w : World} {ops : Array Oper} {rest : List Oper} {o : Oper} {a : Act} {Q : Exit → Act → World → Prop} (hgd : o.guard = none) (ty : TypeId) (x y : Operand) (ho : o.op = .store ty x y)
    (b : Nat) (t : TypeId) (z cells : Array Value) (hb : Bk w b t z) (hx : a.eval x = .pointer (some ⟨b, 0, none⟩)) (hy : a.eval y = .agg cells) (hi : (P.info? ty).map (·.size) = some cells.size)
    (hold : z.size = cells.size) (h1 : cells.all (·.oneCell') = true)
    (h : Bk (w.setRow b cells) b t cells → Kp (OnB b) w (w.setRow b cells) → wpListIn F n P ops Q rest (a.put o.dst undef) (w.setRow b cells)) : wpListIn F n P ops Q (o :: rest) a w :=
  wpListIn_plain hgd fun K hK => by
    have hr : (Instr.storeAt ty (.pointer (some ⟨b, 0, none⟩)) (.agg cells)).run P w = .ok () (w.setRow b cells) := by
      have := run_storeVar_row (P := P) w b t ty z cells hb hi hold h1
      simp only [Instr.storeAt, Instr.sureAddr, Sem.run_bind, Sem.run_pure, Result.andThen_ok, this]
    unfold Oper.wpIn
    refine ⟨by simp [Oper.about, ho], ?_⟩
    rw [Oper.semAt_plain F _ _ (by rw [ho]; intro c hc'; cases hc')]
    simp [execOp, ho, hx, hy, hr, Result.andThen]
    exact hK _ _ (h (setRow_heap w b z cells t (0, 0) hb) ⟨rfl, rfl, rfl, by simp, fun k hk hn => setRow_other w b k cells hn⟩)

/-- The attribute that Unique returns. -/
def zU (k : Int) (p : Bool) (A : Option Addr) (n c : Nat) : AtI := ⟨k, p, 0, 0, none, 0, 0, A, n, c, none, 0, 0, 0, none, 0, 0⟩
def zZ : AtI := ⟨0, false, 0, 0, none, 0, 0, none, 0, 0, none, 0, 0, 0, none, 0, 0⟩

theorem zU_ok {k : Int} (hk : -9223372036854775808 ≤ k ∧ k ≤ 9223372036854775807) (p : Bool) (A : Option Addr) {n : Nat} (c : Nat) (hn : n ≤ 1000) : (zU k p A n c).Ok := ⟨hk, by simp [zU], by simp [zU], by simp [zU], by simp [zU]; omega⟩
theorem zZ_ok : zZ.Ok := ⟨by simp [zZ], by simp [zZ], by simp [zZ], by simp [zZ], by simp [zZ]⟩
theorem zZ_bad : validC zZ = false := by simp [validC, zZ, grp]
theorem zU_valid {k : Int} (p : Bool) (A : Option Addr) {n : Nat} (c : Nat) (hg : 0 < grp k) (hn : 0 < n) (hm : n % grp k = 0) : validC (zU k p A n c) = true := by
  simp [validC, zU, plainB, AtI.rest, AtI.bare, hg, hn, hm]
theorem wp_neatP {P : Program} {c : Code} {Q : Exit → Act → World → Prop} {a : Act} {w : World} (R : Act → World → Prop) (h : c.wp P (neat R) a w) (hq : ∀ a' w', R a' w' → Q .normal a' w') : c.wp P Q a w :=
  Code.wp_mono (fun e a' w' hp => by
    cases e with
    | normal => exact hq a' w' hp
    | _ => exact hp.elim) h
theorem us_len (l : List Int) : (us l).length = l.length := by simp [us]
theorem kp_setRow (w : World) (b : Nat) (cs : Array Value) : Kp (OnB b) w (w.setRow b cs) := ⟨rfl, rfl, rfl, by simp, fun k hk hn => setRow_other w b k cs hn⟩

theorem hslU (A : Option Addr) (n c I G : Nat) (hg : 0 < G) (h1 : I + G ≤ n) (h2 : n ≤ c) (W : World) : (Instr.sliceAt 24 (.slice A n c) (some (.int .i64 (I : Int))) (some (.int .i64 ((I : Int) + G))) none).run Tryd.prog W = .ok (.slice (A.map (fun x => x.add I)) G (c - I)) W := by
  have e1 : ((I : Int) + G).toNat = I + G := by omega
  have h3 : (I : Int) + (G : Int) ≤ (c : Int) := by omega
  have h4 : ¬ c = I := by omega
  have h5 : ¬ (I : Int) + (G : Int) < 0 := by omega
  simp [Instr.sliceAt, Instr.slice, go_sem, h3, h4, h5, e1]
theorem exec_slice {P : Program} {w : World} {ρ : Operand → Value} {o : Oper} {t : TypeId} {x lo hi : Operand} {v xv lv hv : Value} (ho : o.op = .slice t x (some lo) (some hi) none) (hx : ρ x = xv) (hl : ρ lo = lv) (hh : ρ hi = hv) (h : (Instr.sliceAt t xv (some lv) (some hv) none).run P w = .ok v w) : (execOp ρ o).run P w = .ok (.value v) w := by
  subst hx hl hh
  simp [execOp, ho, h, Result.andThen]
theorem wrap_i64 (x : Int) (h0 : 0 ≤ x) (h1 : x ≤ 9223372036854775807) : IntKind.i64.wrap x = x := by
  simp [IntKind.wrap, IntKind.bits, IntKind.signed]
  omega

theorem hslW (A : Option Addr) (n c I G : Nat) (hg : 0 < G) (h1 : I + G ≤ n) (h2 : n ≤ c) (h3 : c ≤ 9223372036854775807) (W : World) : (Instr.sliceAt 24 (.slice A n c) (some (.int .i64 (I : Int))) (some (.int .i64 (IntKind.i64.wrap ((I : Int) + G)))) none).run Tryd.prog W = .ok (.slice (A.map (fun x => x.add I)) G (c - I)) W := by
  rw [wrap_i64 _ (by omega) (by omega)]
  exact hslU A n c I G hg h1 h2 W

/-- Same of two attributes of one list. -/
theorem usame2 (k : Int) (p : Bool) (A B : Option Addr) (c d : Nat) (l : List Int) (w : World) (hl : l.length ≤ 100000) (ha : Arr w A (us l)) (hb : Arr w B (us l)) :
    Calls Tryd.prog 14 #[(zU k p A l.length c).val, (zU k p B l.length d).val] w (Stay (.bool true) w) :=
  gsame_any (zU k p A l.length c) (zU k p B l.length d) l w rfl rfl rfl rfl rfl rfl hl ha hb (by simp [zU, AtI.rest, AtI.bare]) (by simp [zU, AtI.rest, AtI.bare])


end Go.Proofs.YtkhonebedoemoaaDoor
