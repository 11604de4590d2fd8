/- The names of the types, of both sides. No condition. -/
import Derived.Test.YtkhonebedoemoaaDoorComD
namespace Go.Proofs.YtkhonebedoemoaaDoor
open Go.RowKit
set_option linter.unusedVariables false
set_option linter.unusedSimpArgs false

/-- The name of a type that has groups. -/
def nameC (k : Int) : ByteArray := if k = 8 then ⟨#[99, 111, 109, 109, 117, 110, 105, 116, 105, 101, 115]⟩ else if k = 10 then ⟨#[99, 108, 117, 115, 116, 101, 114, 115]⟩ else if k = 16 then ⟨#[101, 120, 116, 101, 110, 100, 101, 100]⟩ else ⟨#[108, 97, 114, 103, 101]⟩
theorem grp_pos {k : Int} (h : 0 < grp k) : k = 8 ∨ k = 10 ∨ k = 16 ∨ k = 32 := by
  unfold grp at h
  split at h
  · omega
  · split at h
    · omega
    · split at h
      · omega
      · omega

theorem idx8 (w : World) : (Instr.index 79 (.agg #[.string ⟨#[]⟩, .string ⟨#[]⟩, .string ⟨#[]⟩, .string ⟨#[]⟩, .string ⟨#[]⟩, .string ⟨#[]⟩, .string ⟨#[]⟩, .string ⟨#[]⟩, .string ⟨#[99, 111, 109, 109, 117, 110, 105, 116, 105, 101, 115]⟩, .string ⟨#[]⟩, .string ⟨#[99, 108, 117, 115, 116, 101, 114, 115]⟩, .string ⟨#[]⟩, .string ⟨#[]⟩, .string ⟨#[]⟩, .string ⟨#[]⟩, .string ⟨#[]⟩, .string ⟨#[101, 120, 116, 101, 110, 100, 101, 100]⟩, .string ⟨#[]⟩, .string ⟨#[]⟩, .string ⟨#[]⟩, .string ⟨#[]⟩, .string ⟨#[]⟩, .string ⟨#[]⟩, .string ⟨#[]⟩, .string ⟨#[]⟩, .string ⟨#[]⟩, .string ⟨#[]⟩, .string ⟨#[]⟩, .string ⟨#[]⟩, .string ⟨#[]⟩, .string ⟨#[]⟩, .string ⟨#[]⟩, .string ⟨#[108, 97, 114, 103, 101]⟩]) (.int .i64 8)).run Tryd.prog w = .ok (.string ⟨#[99, 111, 109, 109, 117, 110, 105, 116, 105, 101, 115]⟩) w := by kernel_rfl
theorem idx10 (w : World) : (Instr.index 79 (.agg #[.string ⟨#[]⟩, .string ⟨#[]⟩, .string ⟨#[]⟩, .string ⟨#[]⟩, .string ⟨#[]⟩, .string ⟨#[]⟩, .string ⟨#[]⟩, .string ⟨#[]⟩, .string ⟨#[99, 111, 109, 109, 117, 110, 105, 116, 105, 101, 115]⟩, .string ⟨#[]⟩, .string ⟨#[99, 108, 117, 115, 116, 101, 114, 115]⟩, .string ⟨#[]⟩, .string ⟨#[]⟩, .string ⟨#[]⟩, .string ⟨#[]⟩, .string ⟨#[]⟩, .string ⟨#[101, 120, 116, 101, 110, 100, 101, 100]⟩, .string ⟨#[]⟩, .string ⟨#[]⟩, .string ⟨#[]⟩, .string ⟨#[]⟩, .string ⟨#[]⟩, .string ⟨#[]⟩, .string ⟨#[]⟩, .string ⟨#[]⟩, .string ⟨#[]⟩, .string ⟨#[]⟩, .string ⟨#[]⟩, .string ⟨#[]⟩, .string ⟨#[]⟩, .string ⟨#[]⟩, .string ⟨#[]⟩, .string ⟨#[108, 97, 114, 103, 101]⟩]) (.int .i64 10)).run Tryd.prog w = .ok (.string ⟨#[99, 108, 117, 115, 116, 101, 114, 115]⟩) w := by kernel_rfl
theorem idx16 (w : World) : (Instr.index 79 (.agg #[.string ⟨#[]⟩, .string ⟨#[]⟩, .string ⟨#[]⟩, .string ⟨#[]⟩, .string ⟨#[]⟩, .string ⟨#[]⟩, .string ⟨#[]⟩, .string ⟨#[]⟩, .string ⟨#[99, 111, 109, 109, 117, 110, 105, 116, 105, 101, 115]⟩, .string ⟨#[]⟩, .string ⟨#[99, 108, 117, 115, 116, 101, 114, 115]⟩, .string ⟨#[]⟩, .string ⟨#[]⟩, .string ⟨#[]⟩, .string ⟨#[]⟩, .string ⟨#[]⟩, .string ⟨#[101, 120, 116, 101, 110, 100, 101, 100]⟩, .string ⟨#[]⟩, .string ⟨#[]⟩, .string ⟨#[]⟩, .string ⟨#[]⟩, .string ⟨#[]⟩, .string ⟨#[]⟩, .string ⟨#[]⟩, .string ⟨#[]⟩, .string ⟨#[]⟩, .string ⟨#[]⟩, .string ⟨#[]⟩, .string ⟨#[]⟩, .string ⟨#[]⟩, .string ⟨#[]⟩, .string ⟨#[]⟩, .string ⟨#[108, 97, 114, 103, 101]⟩]) (.int .i64 16)).run Tryd.prog w = .ok (.string ⟨#[101, 120, 116, 101, 110, 100, 101, 100]⟩) w := by kernel_rfl
theorem idx32 (w : World) : (Instr.index 79 (.agg #[.string ⟨#[]⟩, .string ⟨#[]⟩, .string ⟨#[]⟩, .string ⟨#[]⟩, .string ⟨#[]⟩, .string ⟨#[]⟩, .string ⟨#[]⟩, .string ⟨#[]⟩, .string ⟨#[99, 111, 109, 109, 117, 110, 105, 116, 105, 101, 115]⟩, .string ⟨#[]⟩, .string ⟨#[99, 108, 117, 115, 116, 101, 114, 115]⟩, .string ⟨#[]⟩, .string ⟨#[]⟩, .string ⟨#[]⟩, .string ⟨#[]⟩, .string ⟨#[]⟩, .string ⟨#[101, 120, 116, 101, 110, 100, 101, 100]⟩, .string ⟨#[]⟩, .string ⟨#[]⟩, .string ⟨#[]⟩, .string ⟨#[]⟩, .string ⟨#[]⟩, .string ⟨#[]⟩, .string ⟨#[]⟩, .string ⟨#[]⟩, .string ⟨#[]⟩, .string ⟨#[]⟩, .string ⟨#[]⟩, .string ⟨#[]⟩, .string ⟨#[]⟩, .string ⟨#[]⟩, .string ⟨#[]⟩, .string ⟨#[108, 97, 114, 103, 101]⟩]) (.int .i64 32)).run Tryd.prog w = .ok (.string ⟨#[108, 97, 114, 103, 101]⟩) w := by kernel_rfl
set_option maxRecDepth 100000 in
set_option maxHeartbeats 1600000 in
theorem cname_any (k : Int) (hk : k = 8 ∨ k = 10 ∨ k = 16 ∨ k = 32) (w : World) : Calls Tryd.prog 37 #[.int .i64 k] w (Stay (.string (nameC k)) w) := by
  rcases hk with rfl | rfl | rfl | rfl
  all_goals
    go_enter Tryd.func37, Tryd.ntmps37
    have i8 := idx8
    have i10 := idx10
    have i16 := idx16
    have i32 := idx32
    go_wp2
    go_ret
    exact ⟨rfl, Kp.refl _ _⟩

set_option maxRecDepth 100000 in
set_option maxHeartbeats 1600000 in
theorem rname_any (k : Int) (hk : k = 8 ∨ k = 10 ∨ k = 16 ∨ k = 32) (w : World) : Calls Tryd.prog 40 #[.int .i64 k] w (Stay (.string (nameC k)) w) := by
  rcases hk with rfl | rfl | rfl | rfl
  all_goals
    go_enter Tryd.func40, Tryd.ntmps40
    go_wp2
    go_ret
    exact ⟨rfl, Kp.refl _ _⟩

end Go.Proofs.YtkhonebedoemoaaDoor
