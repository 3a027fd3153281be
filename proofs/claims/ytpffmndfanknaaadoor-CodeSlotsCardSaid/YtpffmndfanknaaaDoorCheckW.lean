/- What the check of functions needs besides: a name, a map's first look and first entry. -/
import Derived.Test.YtpffmndfanknaaaDoorFlow1
import Derived.Test.YtpffmndfanknaaaDoorFlow2
import Derived.Test.YtpffmndfanknaaaDoorFlow3
import Derived.Test.YtpffmndfanknaaaDoorMap
namespace Go.Proofs.YtpffmndfanknaaaDoor
set_option linter.unusedVariables false
set_option linter.unusedSimpArgs false
open Go.RowKit

abbrev nmF : ByteArray := ⟨#[102]⟩

set_option maxRecDepth 100000 in
set_option maxHeartbeats 2000000 in
theorem right_f (w : World) : Calls Tryd.prog 13 #[.string nmF] w (Ret (.bool true) w) := by
  obtain ⟨cap, w1, hrun, hb, hsz, hcell⟩ := conv_bytes w 9 31 5 nmF (P := Tryd.prog) Tryd.underlying9 Tryd.underlying31 Tryd.underlying5
  have hc : w1.cell? ⟨w.heap.size, 0, none⟩ = some (.int .u8 102) := hcell 0 (by decide)
  have hs : nmF.size = 1 := rfl
  rw [hs] at hrun
  have HB := Lib.hid hb
  clear hcell hb hsz hs
  go_enter Tryd.func13, Tryd.ntmps13
  go_wp2
  refine wp_loop_rounds 2 ?_
  rw [rounds_succ]
  go_wp2
  rw [rounds_succ]
  go_wp2
  go_ret
  exact Ret.mk rfl HB.out

/-- A function's sign as a map's key. -/
abbrev keyF : Value := .agg #[.string nmF, .int .i64 0]

theorem key_ok (e : Bool) (w : World) : (Instr.checkKey e 10000 55 keyF).run Tryd.prog w = .ok () w := by
  unfold Instr.checkKey
  kernel_rfl

theorem look_first {w : World} {b : Nat} (h : w.heap[b]? = some (.map #[] 0)) : (Instr.lookup 50 (.map (some b)) keyF false).run Tryd.prog w = .ok (.int .i64 0) w := by
  have hz : (zeroValue 3).run Tryd.prog w = .ok (.int .i64 0) w := by kernel_rfl
  have hck := key_ok true w
  have hfk : (Instr.findKey 55 keyF []).run Tryd.prog w = .ok none w := by
    unfold Instr.findKey
    simp [run_underlying Tryd.underlying55, Instr.findNow]
  unfold Instr.lookup
  simp [run_underlying Tryd.underlying50, h, hck, hfk, hz, getObj, Sem.run, Result.andThen]

set_option maxRecDepth 100000 in
theorem put_first {w : World} {b : Nat} (h : w.heap[b]? = some (.map #[] 0)) (v : Value) : (Instr.mapUpdate 50 (.map (some b)) keyF v).run Tryd.prog w = .ok () (World.mput w b keyF v) := by
  have hck := key_ok false w
  have hfk : (Instr.findKey 55 keyF []).run Tryd.prog w = .ok none w := by
    unfold Instr.findKey
    simp [run_underlying Tryd.underlying55, Instr.findNow]
  have hw : { w with heap := w.heap.setIfInBounds b (.map #[{ key := keyF, val := v, born := 0 }] 1) } = World.mput w b keyF v := by
    unfold World.mput
    congr 1
    apply Array.ext_getElem?
    intro i
    rw [Array.getElem?_modify, Array.getElem?_setIfInBounds]
    by_cases hi : b = i
    · subst hi
      have hlt : b < w.heap.size := (Array.getElem?_eq_some_iff.1 h).1
      rw [Array.getElem?_eq_getElem hlt] at h
      simp only [Option.some.injEq] at h
      simp [hlt, h]
    · simp [hi]
  unfold Instr.mapUpdate
  simp [run_underlying Tryd.underlying50, h, hck, hfk, getObj, setObj, Sem.run, Result.andThen, hw]

theorem cells4 {w : World} {b : Nat} {T : TypeId} {fr : Nat × Nat} {x0 x1 x2 x3 : Value} (h : w.heap[b]? = some (.cells #[x0, x1, x2, x3] T fr)) :
    w.cell? ⟨b, 0, none⟩ = some x0 ∧ w.cell? ⟨b, 1, none⟩ = some x1 ∧ w.cell? ⟨b, 2, none⟩ = some x2 ∧ w.cell? ⟨b, 3, none⟩ = some x3 :=
  ⟨cell_of_row _ _ 0 _ _ _ h, cell_of_row _ _ 1 _ _ _ h, cell_of_row _ _ 2 _ _ _ h, cell_of_row _ _ 3 _ _ _ h⟩
theorem cells2' {w : World} {b : Nat} {T : TypeId} {fr : Nat × Nat} {x0 x1 : Value} (h : w.heap[b]? = some (.cells #[x0, x1] T fr)) :
    w.cell? ⟨b, 0, none⟩ = some x0 ∧ w.cell? ⟨b, 1, none⟩ = some x1 :=
  ⟨cell_of_row _ _ 0 _ _ _ h, cell_of_row _ _ 1 _ _ _ h⟩

end Go.Proofs.YtpffmndfanknaaaDoor
