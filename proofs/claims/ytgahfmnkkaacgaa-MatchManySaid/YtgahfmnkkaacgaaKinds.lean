/- What a term's check makes of it: the table. -/
import Derived.Test.YtgahfmnkkaacgaaName
import Derived.Deep.WholeRow
namespace Go.Proofs.Ytgahfmnkkaacgaa
set_option linter.unusedVariables false
set_option linter.unusedSimpArgs false
open Go.RowKit

/-- The table's cells, two a kind. -/
def tableV : Array Value := #[.nilFunc, .nilFunc,
      .func (.func 33) #[] #[], .func (.func 26) #[] #[],
      .func (.func 34) #[] #[], .func (.func 26) #[] #[],
      .func (.func 35) #[] #[], .func (.func 36) #[] #[],
      .func (.func 31) #[] #[], .func (.func 28) #[] #[],
      .func (.func 31) #[] #[], .func (.func 28) #[] #[],
      .func (.func 32) #[] #[], .func (.func 30) #[] #[],
      .func (.func 32) #[] #[], .func (.func 30) #[] #[],
      .func (.func 38) #[] #[], .func (.func 30) #[] #[]]

set_option maxRecDepth 100000 in
set_option maxHeartbeats 1000000 in
theorem kinds_any (w : World) :
    Calls Try.prog 21 #[] w (Ret (.agg tableV) w) := by
  have hst : (Instr.storeAt 64 (.pointer (some ⟨w.heap.size, 0, none⟩)) (.agg #[.nilFunc, .nilFunc,
      .func (.func 33) #[] #[], .func (.func 26) #[] #[],
      .func (.func 34) #[] #[], .func (.func 26) #[] #[],
      .func (.func 35) #[] #[], .func (.func 36) #[] #[],
      .func (.func 31) #[] #[], .func (.func 28) #[] #[],
      .func (.func 31) #[] #[], .func (.func 28) #[] #[],
      .func (.func 32) #[] #[], .func (.func 30) #[] #[],
      .func (.func 32) #[] #[], .func (.func 30) #[] #[],
      .func (.func 38) #[] #[], .func (.func 30) #[] #[]])).run Try.prog (w.alloc (.cells #[.nilFunc, .nilFunc, .nilFunc, .nilFunc, .nilFunc, .nilFunc, .nilFunc, .nilFunc, .nilFunc, .nilFunc, .nilFunc, .nilFunc, .nilFunc, .nilFunc, .nilFunc, .nilFunc, .nilFunc, .nilFunc] 64)) = .ok () (w.alloc (.cells tableV 64)) :=
    run_storeAt_new w 64 #[.nilFunc, .nilFunc, .nilFunc, .nilFunc, .nilFunc, .nilFunc, .nilFunc, .nilFunc, .nilFunc, .nilFunc, .nilFunc, .nilFunc, .nilFunc, .nilFunc, .nilFunc, .nilFunc, .nilFunc, .nilFunc] #[.nilFunc, .nilFunc,
      .func (.func 33) #[] #[], .func (.func 26) #[] #[],
      .func (.func 34) #[] #[], .func (.func 26) #[] #[],
      .func (.func 35) #[] #[], .func (.func 36) #[] #[],
      .func (.func 31) #[] #[], .func (.func 28) #[] #[],
      .func (.func 31) #[] #[], .func (.func 28) #[] #[],
      .func (.func 32) #[] #[], .func (.func 30) #[] #[],
      .func (.func 32) #[] #[], .func (.func 30) #[] #[],
      .func (.func 38) #[] #[], .func (.func 30) #[] #[]] (by kernel_rfl) rfl (by kernel_rfl)
  go_enter Try.func21, Try.ntmps21
  go_wp2
  refine bodyPost_ret (v := .agg tableV) ?_ rfl (Ret.mk rfl ((Below.refl _ _).alloc (Nat.le_refl _) _))
  exact results_cell_row Try.results21 _ _ w.heap.size 64 tableV (0, 0) _ rfl (heap_alloc_last w _) Try.underlying64 rfl (by kernel_rfl)
end Go.Proofs.Ytgahfmnkkaacgaa
