/- What an instruction has: the table. -/
import Derived.Test.YtpffmndfanknaaaDoorHeap
namespace Go.Proofs.YtpffmndfanknaaaDoor
set_option linter.unusedVariables false
set_option linter.unusedSimpArgs false
open Go.RowKit

/-- The table's cells, three an instruction. -/
def rowsV : Array Value := #[.int .i64 0, .int .i64 0, .int .i64 0, .int .i64 4, .int .i64 0, .int .i64 1, .int .i64 1, .int .i64 0, .int .i64 1, .int .i64 0, .int .i64 1, .int .i64 0, .int .i64 1, .int .i64 0, .int .i64 1, .int .i64 1, .int .i64 0, .int .i64 1, .int .i64 1, .int .i64 2, .int .i64 1, .int .i64 0, .int .i64 1, .int .i64 1, .int .i64 13, .int .i64 1, .int .i64 1, .int .i64 73, .int .i64 0, .int .i64 0, .int .i64 19, .int .i64 0, .int .i64 1, .int .i64 51, .int .i64 0, .int .i64 0, .int .i64 32, .int .i64 1, .int .i64 0, .int .i64 1, .int .i64 0, .int .i64 1, .int .i64 0, .int .i64 2, .int .i64 1, .int .i64 33, .int .i64 1, .int .i64 0, .int .i64 0, .int .i64 1, .int .i64 0, .int .i64 9, .int .i64 0, .int .i64 1, .int .i64 0, .int .i64 1, .int .i64 0, .int .i64 0, .int .i64 1, .int .i64 0]

/-- A struct or an array is built. -/
theorem wpList_build {P : Program} {ops : Array Oper} {rest : List Oper} {o : Oper} {a : Act} {Q : Exit → Act → World → Prop} {w : World} (hgd : o.guard = none) (t : TypeId) (parts : Array (Nat × Operand)) (ho : o.op = .build t parts)
    (dst : Option Tmp) (hd : o.dst = dst) (cells : Array Value) (hb : P.built t (parts.map fun (i, x) => (i, a.eval x)).toList = some cells)
    (h : wpList P ops Q rest (a.put dst (.agg cells)) w) : wpList P ops Q (o :: rest) a w := by
  subst hd
  refine wpList_plain hgd fun K hK => ?_
  refine wp_build t parts ho (by rw [hb]; rfl) ?_
  rw [hb]
  exact hK _ _ h

set_option maxRecDepth 100000 in
set_option maxHeartbeats 1000000 in
theorem rows_any (w : World) : Calls Tryd.prog 20 #[] w (Ret (.agg rowsV) w) := by
  have hst := run_storeCells_new (P := Tryd.prog) w 63 #[.int .i64 0, .int .i64 0, .int .i64 0, .int .i64 0, .int .i64 0, .int .i64 0, .int .i64 0, .int .i64 0, .int .i64 0, .int .i64 0, .int .i64 0, .int .i64 0, .int .i64 0, .int .i64 0, .int .i64 0, .int .i64 0, .int .i64 0, .int .i64 0, .int .i64 0, .int .i64 0, .int .i64 0, .int .i64 0, .int .i64 0, .int .i64 0, .int .i64 0, .int .i64 0, .int .i64 0, .int .i64 0, .int .i64 0, .int .i64 0, .int .i64 0, .int .i64 0, .int .i64 0, .int .i64 0, .int .i64 0, .int .i64 0, .int .i64 0, .int .i64 0, .int .i64 0, .int .i64 0, .int .i64 0, .int .i64 0, .int .i64 0, .int .i64 0, .int .i64 0, .int .i64 0, .int .i64 0, .int .i64 0, .int .i64 0, .int .i64 0, .int .i64 0, .int .i64 0, .int .i64 0, .int .i64 0, .int .i64 0, .int .i64 0, .int .i64 0, .int .i64 0, .int .i64 0, .int .i64 0] rowsV (by kernel_rfl) (by kernel_rfl) (by kernel_rfl)
  have hrs : rowsV.size = 60 := by kernel_rfl
  go_enter Tryd.func20, Tryd.ntmps20
  go_wp2_with (refine wpList_build rfl 63 _ rfl _ rfl rowsV (by kernel_rfl) ?_)
  clear hst
  refine bodyPost_ret (v := .agg rowsV) ?_ rfl (Ret.mk rfl ((Below.refl _ _).alloc (Nat.le_refl _) _))
  exact results_cell_row Tryd.results20 _ _ w.heap.size 63 rowsV (0, 0) _ rfl (heap_alloc_last w _) Tryd.underlying63 rfl (by kernel_rfl)

/-- An instruction, cell by cell: its number, no numbers besides, a term that is nothing but a kind and an int. -/
abbrev insV (op k n : Int) : List Value := [.int .i64 op, .int .i64 0, .int .i64 0, .int .i64 k, .int .i64 n, .complex .f64 0 0, .string ⟨#[]⟩, .int .i64 0, .int .u32 0, .int .u64 0, .slice none 0 0, .slice none 0 0]
/-- A function, cell by cell. -/
abbrev funV (ib n : Nat) : List Value := [.string ⟨#[102]⟩, .int .i64 0, .int .i64 0, .slice (some ⟨ib, 0, none⟩) n n]

@[go_sem] theorem row1 (w : World) : (Instr.index 63 (.agg rowsV) (.int .i64 1)).run Tryd.prog w = .ok (.agg #[.int .i64 4, .int .i64 0, .int .i64 1]) w := by kernel_rfl
@[go_sem] theorem row9 (w : World) : (Instr.index 63 (.agg rowsV) (.int .i64 9)).run Tryd.prog w = .ok (.agg #[.int .i64 73, .int .i64 0, .int .i64 0]) w := by kernel_rfl
@[go_sem] theorem row12 (w : World) : (Instr.index 63 (.agg rowsV) (.int .i64 12)).run Tryd.prog w = .ok (.agg #[.int .i64 32, .int .i64 1, .int .i64 0]) w := by kernel_rfl
@[go_sem] theorem row_takes (a b c : Value) (w : World) : (Instr.field 62 (.agg #[a, b, c]) 1).run Tryd.prog w = .ok b w := by kernel_rfl

set_option maxRecDepth 100000 in
set_option maxHeartbeats 1000000 in
theorem cempty_zero (w : World) : Calls Tryd.prog 21 #[.agg #[.int .i64 0, .int .i64 0, .complex .f64 0 0, .string ⟨#[]⟩, .int .i64 0, .int .u32 0, .int .u64 0, .slice none 0 0, .slice none 0 0]] w (Ret (.bool true) w) := by
  go_enter Tryd.func21, Tryd.ntmps21
  go_wp2
  all_goals
    go_ret
    exact Ret.mk rfl ((Below.refl _ _).alloc (Nat.le_refl _) _)


set_option maxRecDepth 100000 in
set_option maxHeartbeats 1000000 in
theorem takes1 (w : World) : Calls Tryd.prog 27 #[.agg #[.int .i64 1, .int .i64 0, .int .i64 0, .int .i64 1, .int .i64 1, .complex .f64 0 0, .string ⟨#[]⟩, .int .i64 0, .int .u32 0, .int .u64 0, .slice none 0 0, .slice none 0 0]] w (Ret (.int .i64 0) w) := by
  go_enter Tryd.func27, Tryd.ntmps27
  go_wp2
  go_region_held3 (fun W => W.cell? ⟨w.heap.size, 0, none⟩ = some (.int .i64 1)) (first | assumption | go_keep | go_simp) (first | (go_at_call 20; refine (rows_any _).mono ?_; rintro e w1 ⟨rfl, hb⟩; have hk : w1.cell? ⟨w.heap.size, 0, none⟩ = some (.int .i64 1) := (by rw [hb.cell (p := ⟨w.heap.size, 0, none⟩) (by simp)]; go_simp); have HB := Lib.hid hb; clear hb))
  all_goals
    go_wp2
    go_ret
    exact Ret.mk rfl (((Below.refl w.heap.size w).alloc (Nat.le_refl _) _).drew.trans (HB.out.mono (B' := w.heap.size) (by simp)))


set_option maxRecDepth 100000 in
set_option maxHeartbeats 1000000 in
theorem takes9 (w : World) : Calls Tryd.prog 27 #[.agg #[.int .i64 9, .int .i64 0, .int .i64 0, .int .i64 0, .int .i64 0, .complex .f64 0 0, .string ⟨#[]⟩, .int .i64 0, .int .u32 0, .int .u64 0, .slice none 0 0, .slice none 0 0]] w (Ret (.int .i64 0) w) := by
  go_enter Tryd.func27, Tryd.ntmps27
  go_wp2
  go_region_held3 (fun W => W.cell? ⟨w.heap.size, 0, none⟩ = some (.int .i64 9)) (first | assumption | go_keep | go_simp) (first | (go_at_call 20; refine (rows_any _).mono ?_; rintro e w1 ⟨rfl, hb⟩; have hk : w1.cell? ⟨w.heap.size, 0, none⟩ = some (.int .i64 9) := (by rw [hb.cell (p := ⟨w.heap.size, 0, none⟩) (by simp)]; go_simp); have HB := Lib.hid hb; clear hb))
  all_goals
    go_wp2
    go_ret
    exact Ret.mk rfl (((Below.refl w.heap.size w).alloc (Nat.le_refl _) _).drew.trans (HB.out.mono (B' := w.heap.size) (by simp)))


set_option maxRecDepth 100000 in
set_option maxHeartbeats 1000000 in
theorem takes12 (w : World) : Calls Tryd.prog 27 #[.agg #[.int .i64 12, .int .i64 0, .int .i64 0, .int .i64 0, .int .i64 0, .complex .f64 0 0, .string ⟨#[]⟩, .int .i64 0, .int .u32 0, .int .u64 0, .slice none 0 0, .slice none 0 0]] w (Ret (.int .i64 1) w) := by
  go_enter Tryd.func27, Tryd.ntmps27
  go_wp2
  go_region_held3 (fun W => W.cell? ⟨w.heap.size, 0, none⟩ = some (.int .i64 12)) (first | assumption | go_keep | go_simp) (first | (go_at_call 20; refine (rows_any _).mono ?_; rintro e w1 ⟨rfl, hb⟩; have hk : w1.cell? ⟨w.heap.size, 0, none⟩ = some (.int .i64 12) := (by rw [hb.cell (p := ⟨w.heap.size, 0, none⟩) (by simp)]; go_simp); have HB := Lib.hid hb; clear hb))
  all_goals
    go_wp2
    go_ret
    exact Ret.mk rfl (((Below.refl w.heap.size w).alloc (Nat.le_refl _) _).drew.trans (HB.out.mono (B' := w.heap.size) (by simp)))

end Go.Proofs.YtpffmndfanknaaaDoor
