/- Words of the walk: laws on structs as whole rows. -/
import Derived.Test.YtpffmndfanknaaaDoorCheck
import Derived.Test.YtpffmndfanknaaaDoorApp
import Derived.StillTailTactics
import Derived.Deep.LoopGhost
import Derived.Deep.RegionLaw
import Derived.Deep.MidRow
import Derived.WalkSmall
import Derived.Deep.RegionHeld3
import Derived.Deep.AppendLies
import Derived.Great.BuildSlice
import Derived.Deep.WholeRow
namespace Go.Proofs.YtpffmndfanknaaaDoor
set_option linter.unusedVariables false
set_option linter.unusedSimpArgs false
open Go.RowKit

/-- A struct is read, cell by cell. -/
theorem load_to {P : Program} {ops : Array Oper} {rest : List Oper} {op : Oper} {a : Act} {w : World} {Q : Exit → Act → World → Prop} (hgd : op.guard = none) (ty : TypeId) (x : Operand) (ho : op.op = .load ty x) (dst : Option Tmp) (hdst : op.dst = dst)
    (b o : Nat) (hx : a.eval x = .pointer (some ⟨b, o, none⟩)) (cs : List Value) (d : TypeDesc) (hc : ∀ j v, cs[j]? = some v → w.cell? ⟨b, o + j, none⟩ = some v)
    (hu : P.underlying ty = some d) (hd : d.isRow = true) (hi : (P.info? ty).map (·.size) = some cs.length)
    (h : wpList P ops Q rest (a.put dst (.agg cs.toArray)) w) : wpList P ops Q (op :: rest) a w := by
  subst hdst
  exact wpList_load_mid hgd ty x ho b o hx cs d hc hu hd hi h

/-- A struct is laid into the box that was made last. -/
theorem store_new {P : Program} {ops : Array Oper} {rest : List Oper} {o : Oper} {a : Act} {Q : Exit → Act → World → Prop} (hgd : o.guard = none) (ty : TypeId) (x y : Operand) (ho : o.op = .store ty x y)
    (hd : o.dst = none) (w : World) (cells old : Array Value) (t : TypeId) (hx : a.eval x = .pointer (some ⟨w.heap.size, 0, none⟩)) (hy : a.eval y = .agg cells)
    (hi : (P.info? ty).map (·.size) = some cells.size) (hold : old.size = cells.size) (h1 : cells.all (·.oneCell') = true)
    (h : wpList P ops Q rest a (w.alloc (.cells cells t))) : wpList P ops Q (o :: rest) a (w.alloc (.cells old t)) :=
  wpList_store_rowTo hgd ty x y ho hd w.heap.size cells hx hy t old (heap_alloc_last w _) hi hold h1 (by rw [World.setRow_alloc_new]; exact h)

theorem row_cells {w : World} {g : Nat} {C : Array Value} {t : TypeId} {fr : Nat × Nat} (h : w.heap[g]? = some (.cells C t fr)) {o : Nat} {cs : List Value} (hcs : ∀ j v, cs[j]? = some v → C[o + j]? = some v) :
    ∀ j v, cs[j]? = some v → w.cell? ⟨g, o + j, none⟩ = some v := fun j v hv => by
  rw [cell_of_row w g (o + j) _ _ _ h]; exact hcs j v hv

theorem heap_alloc_two (w : World) (o o' : Obj) : ((w.alloc o).alloc o').heap[w.heap.size + 1]? = some o' := by
  have := heap_alloc_last (w.alloc o) o'
  simpa using this
theorem heap_alloc_three (w : World) (a b c : Obj) : (((w.alloc a).alloc b).alloc c).heap[w.heap.size + 1 + 1]? = some c := by
  have := heap_alloc_last ((w.alloc a).alloc b) c
  simpa using this

end Go.Proofs.YtpffmndfanknaaaDoor
