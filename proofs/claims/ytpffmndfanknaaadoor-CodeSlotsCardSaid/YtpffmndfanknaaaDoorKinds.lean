/- What a term's check makes of it: the table. -/
import Derived.Test.YtpffmndfanknaaaDoorName
import Derived.Deep.WholeRow
namespace Go.Proofs.YtpffmndfanknaaaDoor
set_option linter.unusedVariables false
set_option linter.unusedSimpArgs false
open Go.RowKit

/-- The table's cells, two a kind. -/
def tableV : Array Value := #[.nilFunc, .nilFunc,
      .func (.func 57) #[] #[], .func (.func 50) #[] #[],
      .func (.func 58) #[] #[], .func (.func 50) #[] #[],
      .func (.func 59) #[] #[], .func (.func 60) #[] #[],
      .func (.func 55) #[] #[], .func (.func 52) #[] #[],
      .func (.func 55) #[] #[], .func (.func 52) #[] #[],
      .func (.func 56) #[] #[], .func (.func 54) #[] #[],
      .func (.func 56) #[] #[], .func (.func 54) #[] #[],
      .func (.func 62) #[] #[], .func (.func 54) #[] #[]]

set_option maxRecDepth 100000 in
set_option maxHeartbeats 1000000 in
theorem kinds_any (w : World) :
    Calls Tryd.prog 36 #[] w (Ret (.agg tableV) w) := by
  have hst : (Instr.storeAt 86 (.pointer (some ⟨w.heap.size, 0, none⟩)) (.agg #[.nilFunc, .nilFunc,
      .func (.func 57) #[] #[], .func (.func 50) #[] #[],
      .func (.func 58) #[] #[], .func (.func 50) #[] #[],
      .func (.func 59) #[] #[], .func (.func 60) #[] #[],
      .func (.func 55) #[] #[], .func (.func 52) #[] #[],
      .func (.func 55) #[] #[], .func (.func 52) #[] #[],
      .func (.func 56) #[] #[], .func (.func 54) #[] #[],
      .func (.func 56) #[] #[], .func (.func 54) #[] #[],
      .func (.func 62) #[] #[], .func (.func 54) #[] #[]])).run Tryd.prog (w.alloc (.cells #[.nilFunc, .nilFunc, .nilFunc, .nilFunc, .nilFunc, .nilFunc, .nilFunc, .nilFunc, .nilFunc, .nilFunc, .nilFunc, .nilFunc, .nilFunc, .nilFunc, .nilFunc, .nilFunc, .nilFunc, .nilFunc] 86)) = .ok () (w.alloc (.cells tableV 86)) :=
    run_storeAt_new w 86 #[.nilFunc, .nilFunc, .nilFunc, .nilFunc, .nilFunc, .nilFunc, .nilFunc, .nilFunc, .nilFunc, .nilFunc, .nilFunc, .nilFunc, .nilFunc, .nilFunc, .nilFunc, .nilFunc, .nilFunc, .nilFunc] #[.nilFunc, .nilFunc,
      .func (.func 57) #[] #[], .func (.func 50) #[] #[],
      .func (.func 58) #[] #[], .func (.func 50) #[] #[],
      .func (.func 59) #[] #[], .func (.func 60) #[] #[],
      .func (.func 55) #[] #[], .func (.func 52) #[] #[],
      .func (.func 55) #[] #[], .func (.func 52) #[] #[],
      .func (.func 56) #[] #[], .func (.func 54) #[] #[],
      .func (.func 56) #[] #[], .func (.func 54) #[] #[],
      .func (.func 62) #[] #[], .func (.func 54) #[] #[]] (by kernel_rfl) rfl (by kernel_rfl)
  go_enter Tryd.func36, Tryd.ntmps36
  go_wp2
  refine bodyPost_ret (v := .agg tableV) ?_ rfl (Ret.mk rfl ((Below.refl _ _).alloc (Nat.le_refl _) _))
  exact results_cell_row Tryd.results36 _ _ w.heap.size 86 tableV (0, 0) _ rfl (heap_alloc_last w _) Tryd.underlying86 rfl (by kernel_rfl)
end Go.Proofs.YtpffmndfanknaaaDoor
