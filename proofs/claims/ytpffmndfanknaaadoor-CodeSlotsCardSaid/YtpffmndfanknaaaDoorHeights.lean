/- The heights of a push and a return. -/
import Derived.Test.YtpffmndfanknaaaDoorCk1
import Derived.Test.YtpffmndfanknaaaDoorCk2
import Derived.Test.YtpffmndfanknaaaDoorCk3
import Derived.Test.YtpffmndfanknaaaDoorFind
namespace Go.Proofs.YtpffmndfanknaaaDoor
set_option linter.unusedVariables false
set_option linter.unusedSimpArgs false
open Go.RowKit

/-- Two heights come back, the second one 1. -/
def HighR (w : World) (e : Ending) (w' : World) : Prop := ∃ ha, e = .returned (.slice (some ⟨ha, 0, none⟩) 2 2) ∧ Below w.heap.size w w' ∧ ha < w'.heap.size ∧ w'.cell? ⟨ha, 1, none⟩ = some (.int .i64 1)

set_option maxRecDepth 100000 in
set_option maxHeartbeats 2000000 in
theorem heights1 (lb ib : Nat) (w : World) (hlb : lb < w.heap.size) (hib : ib < w.heap.size) (hl : Hid (∀ j v, ([.string ⟨#[102]⟩, .int .i64 0, .int .i64 0, .slice (some ⟨ib, 0, none⟩) 2 2] : List Value)[j]? = some v → w.cell? ⟨lb, 0 + j, none⟩ = some v))
    (hins : Hid (∀ j v, ([.int .i64 1, .int .i64 0, .int .i64 0, .int .i64 1, .int .i64 1, .complex .f64 0 0, .string ⟨#[]⟩, .int .i64 0, .int .u32 0, .int .u64 0, .slice none 0 0, .slice none 0 0, .int .i64 12, .int .i64 0, .int .i64 0, .int .i64 0, .int .i64 0, .complex .f64 0 0, .string ⟨#[]⟩, .int .i64 0, .int .u32 0, .int .u64 0, .slice none 0 0, .slice none 0 0] : List Value)[j]? = some v → w.cell? ⟨ib, 0 + j, none⟩ = some v)) :
    Calls Tryd.prog 9 #[.slice (some ⟨lb, 0, none⟩) 1 1, .int .i64 0] w (HighR w) := by
  go_enter Tryd.func9, Tryd.ntmps9
  go_wp2_with fail
  refine (ck1 lb ib _ hlb hib hl hins).mono ?_
  rintro e w1 ⟨rfl, hb⟩
  have HB := Lib.hid hb
  have HL := Lib.hid (show ∀ j v, ([.string ⟨#[102]⟩, .int .i64 0, .int .i64 0, .slice (some ⟨ib, 0, none⟩) 2 2] : List Value)[j]? = some v → w1.cell? ⟨lb, 0 + j, none⟩ = some v from fun j v hv => by rw [HB.out.cell (p := ⟨lb, 0 + j, none⟩) hlb]; exact hl.out j v hv)
  clear hb
  go_wp2_with (refine load_to rfl 53 _ rfl (some 32) rfl lb 0 (by simp [Act.eval]) [.string ⟨#[102]⟩, .int .i64 0, .int .i64 0, .slice (some ⟨ib, 0, none⟩) 2 2] _ (fun j v hv => HL.out j v hv) Tryd.underlying53 rfl (by kernel_rfl) ?_)
  refine (flow1 ib _ (Nat.lt_of_lt_of_le hib HB.out.size) (Lib.hid (fun j v hv => by rw [HB.out.cell (p := ⟨ib, 0 + j, none⟩) hib]; exact hins.out j v hv))).mono ?_
  rintro e w2 ⟨ha, rfl, hb, _, h1, h2⟩
  have HB := Lib.hid (HB.out.trans (hb.mono HB.out.size))
  have H2 := Lib.hid h2
  clear hb h2
  go_wp2
  go_ret
  exact ⟨ha, rfl, HB.out, h1, H2.out⟩

end Go.Proofs.YtpffmndfanknaaaDoor
