/- One function of instructions; where it is found. -/
import Derived.Test.YtpffmndfanknaaaDoorCheckW
namespace Go.Proofs.YtpffmndfanknaaaDoor
set_option linter.unusedVariables false
set_option linter.unusedSimpArgs false
open Go.RowKit

/-- A list of one function comes back: where it lies. -/
def OfR (ib n : Nat) (w : World) (e : Ending) (w' : World) : Prop := ∃ lb, e = .returned (.slice (some ⟨lb, 0, none⟩) 1 1) ∧ Below w.heap.size w w' ∧ lb < w'.heap.size ∧
  ∀ j v, ([.string ⟨#[102]⟩, .int .i64 0, .int .i64 0, .slice (some ⟨ib, 0, none⟩) n n] : List Value)[j]? = some v → w'.cell? ⟨lb, 0 + j, none⟩ = some v

set_option maxRecDepth 100000 in
set_option maxHeartbeats 1000000 in
theorem of_any (ib n : Nat) (w : World) : Calls Tryd.prog 8 #[.slice (some ⟨ib, 0, none⟩) n n] w (OfR ib n w) := by
  go_enter Tryd.func8, Tryd.ntmps8
  go_wp2
  go_ret
  exact ⟨w.heap.size, rfl, (Below.refl _ _).alloc (Nat.le_refl _) _, by simp, row_cells (heap_alloc_last w _) (o := 0) (fun _ _ h => by simpa using h)⟩

set_option maxRecDepth 100000 in
set_option maxHeartbeats 2000000 in
theorem find_f (lb ib n : Nat) (w : World) (hl : Hid (∀ j v, ([.string ⟨#[102]⟩, .int .i64 0, .int .i64 0, .slice (some ⟨ib, 0, none⟩) n n] : List Value)[j]? = some v → w.cell? ⟨lb, 0 + j, none⟩ = some v)) :
    Calls Tryd.prog 10 #[.slice (some ⟨lb, 0, none⟩) 1 1, .string ⟨#[102]⟩, .int .i64 0] w (Ret (.int .i64 0) w) := by
  have f0 : w.cell? ⟨lb, 0, none⟩ = some (.string ⟨#[102]⟩) := hl.out 0 _ rfl
  have f1 : w.cell? ⟨lb, 1, none⟩ = some (.int .i64 0) := hl.out 1 _ rfl
  have f2 : w.cell? ⟨lb, 2, none⟩ = some (.int .i64 0) := hl.out 2 _ rfl
  have f3 : w.cell? ⟨lb, 3, none⟩ = some (.slice (some ⟨ib, 0, none⟩) n n) := hl.out 3 _ rfl
  go_enter Tryd.func10, Tryd.ntmps10
  go_wp2
  refine wp_loop_rounds 1 ?_
  rw [rounds_succ]
  go_wp2
  go_ret
  exact Ret.mk rfl ((Below.refl _ _).alloc (Nat.le_refl _) _)

end Go.Proofs.YtpffmndfanknaaaDoor
