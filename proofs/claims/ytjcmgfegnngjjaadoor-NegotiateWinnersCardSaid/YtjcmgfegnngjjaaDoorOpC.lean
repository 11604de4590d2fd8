/- OPENs compared, given; the chapter's example: contracts by walking the Go text. -/
import Derived.Test.YtjcmgfegnngjjaaDoorOpA
import Derived.Deep.RegionHeld3
namespace Go.Proofs.YtjcmgfegnngjjaaDoor
open Go.RowKit
set_option linter.unusedVariables false
set_option linter.unusedSimpArgs false

theorem Kp.set_on {w w1 : World} {b i : Nat} (h : Kp (OnB b) w w1) (u : Value) : Kp (OnB b) w (w1.setCell ⟨b, i, none⟩ u) := h.setCell (p := ⟨b, i, none⟩) (fun _ => rfl) u

/-- What the law's Given leaves. -/
def GivenO (T : TypeId) (o : OpenI) (cs : List Value) (w : World) (e : Ending) (w' : World) : Prop :=
  ∃ A c, e = .returned (o.val A c) ∧ w'.ownsRow w.heap.size T 2 (.slice A o.caps.length c) o.caps.length cs ∧ Kp NoB w w'

set_option maxRecDepth 100000 in
set_option maxHeartbeats 4000000 in
theorem ogiven_any (o : OpenI) (A : Option Addr) (c : Nat) (cs : List Value) (w : World) (hx : CapL w o.caps cs) (ha : Arr w A cs) (hl : o.caps.length ≤ 1000000) :
    Calls Tryd.prog 6 #[o.val A c] w (GivenO 58 o cs w) := by
  obtain ⟨s, h, i, caps⟩ := o
  unfold OpenI.val
  simp only at hx hl ⊢
  have HG := Lib.hid (fun w' (k : Kp NoB w w') => given_any A c caps cs w' (hx.and k) (ha.and k) hl)
  have HF : Hid (∀ (A' : Option Addr) (c' : Nat) (e : Ending) (w1 w' : World), w1.ownsRow w.heap.size 58 2 (.slice A' caps.length c') caps.length cs → Kp (OnB (w.heap.size + 1)) w1 w' → Kp NoB w w1 → e = .returned (.agg #[.int .u32 s, .int .i64 h, .int .u32 i, .slice A' caps.length c']) → w.heap.size + 1 < w1.heap.size → (¬ some (w.heap.size + 1) = (Value.slice A' caps.length c').ownBlock) → GivenO 58 ⟨s, h, i, caps⟩ cs w e w') := Lib.hid (fun A' c' e w1 w' hown k1 k2 he hlt hne => ⟨A', c', he, k1.own hown (fun b hb hq => hne (by rw [hb, show b = w.heap.size + 1 from hq])), k2.new k1 (by omega)⟩)
  obtain ⟨n, hn⟩ : ∃ n, caps.length = n := ⟨_, rfl⟩
  simp only [hn] at HG HF ⊢
  clear hx ha hl hn
  have hb0 := Lib.hid ((Bk.fresh w 25 #[.int .u32 s, .int .i64 h, .int .u32 i, .slice A n c]).alloc (.cells #[.int .u32 0, .int .i64 0, .int .u32 0, .slice none 0 0] 30))
  have hb1 := Lib.hid (Bk.second w (.cells #[.int .u32 s, .int .i64 h, .int .u32 i, .slice A n c] 25) 30 #[.int .u32 0, .int .i64 0, .int .u32 0, .slice none 0 0])
  have hk0 := Lib.hid (((Kp.refl NoB w).alloc (.cells #[.int .u32 s, .int .i64 h, .int .u32 i, .slice A n c] 25)).alloc (.cells #[.int .u32 0, .int .i64 0, .int .u32 0, .slice none 0 0] 30))
  obtain ⟨x1, x2, x3, x4, x5, x6, x7, x8, x9⟩ := hb0.out.four
  obtain ⟨y1, y2, y3, y4, y5, y6, y7, y8, y9⟩ := hb1.out.four
  go_enter Tryd.func6, Tryd.ntmps6
  go_wp2_with fail
  go_region_held3 (fun w' => w'.cell? ⟨w.heap.size, 0, none⟩ = some (.int .u32 s) ∧ w'.cell? ⟨w.heap.size, 1, none⟩ = some (.int .i64 h) ∧ w'.cell? ⟨w.heap.size, 2, none⟩ = some (.int .u32 i) ∧ w'.cell? ⟨w.heap.size, 3, none⟩ = some (.slice A n c)) (go_keep)
    (first
      | (go_at_call 13; refine (HG.out _ (hk0.out.drew)).mono ?_; rintro e w1 ⟨A1, c1, rfl, hown1, hK1⟩; obtain ⟨z1, z2, z3, z4, z5, z6, z7, z8, z9⟩ := ((hb0.out.drewN 1).and hK1).four; obtain ⟨u1, u2, u3, u4, u5, u6, u7, u8, u9⟩ := ((hb1.out.drewN 1).and hK1).four; replace hown1 := Lib.hid hown1; replace hK1 := Lib.hid hK1))
  go_wp2_with fail
  have hsz : (((w.alloc (.cells #[.int .u32 s, .int .i64 h, .int .u32 i, .slice A n c] 25)).alloc (.cells #[.int .u32 0, .int .i64 0, .int .u32 0, .slice none 0 0] 30)).drew).heap.size = w.heap.size + 1 + 1 := by
    show ((w.alloc _).alloc _).heap.size = _
    simp
  have hs1 := hK1.out.size
  have ho := hown1.out
  rw [hsz] at hs1 ho
  refine bodyPost_ret (v := .agg #[.int .u32 s, .int .i64 h, .int .u32 i, .slice A1 n c1]) (by simp [results, Tryd.results6, go_sem, *]) rfl ?_
  exact HF.out A1 c1 _ w1 _ (own_le ho (by omega)) ((((Kp.refl (OnB (w.heap.size + 1)) w1).set_on _).set_on _).set_on _ |>.set_on _) ((hk0.out.drew).and hK1.out) rfl (by omega) (own_ge ho (by omega))

end Go.Proofs.YtjcmgfegnngjjaaDoor
