/- The flow through a function's instructions. -/
import Derived.Test.YtpffmndfanknaaaDoorFormed
namespace Go.Proofs.YtpffmndfanknaaaDoor
set_option linter.unusedVariables false
set_option linter.unusedSimpArgs false
open Go.RowKit

theorem two_setCell1 {w : World} {b : Nat} {v u x : Value} {t : TypeId} (h : w.heap[b]? = some (.cells #[v, u] t (0, 0))) : (w.setCell ⟨b, 1, none⟩ x).heap[b]? = some (.cells #[v, x] t (0, 0)) := by
  have hlt := lt_of_block h
  have h' : w.heap[b] = .cells #[v, u] t (0, 0) := by simpa [Array.getElem?_eq_getElem hlt] using h
  show (w.heap.modify b _)[b]? = _
  rw [Array.getElem?_eq_getElem (by simpa using hlt), Array.getElem_modify_self, h']
  rfl

/-- What the flow keeps in memory: the function's box, the heights, their variable, the queue, its variable; old memory stands. -/
structure FSt (w0 : World) (fb ha hv qa qb qv ib n : Nat) (hs : List Int) (ql : Nat) (k : Int) (w : World) : Prop where
  below : Below w0.heap.size w0 w
  o : w0.heap.size ≤ fb ∧ fb < ha ∧ ha < hv ∧ hv < qa ∧ qa < qb ∧ qb < qv
  bf : w.heap[fb]? = some (.cells #[.string ⟨#[102]⟩, .int .i64 0, .int .i64 0, .slice (some ⟨ib, 0, none⟩) n n] 53 (0, 0))
  bha : w.heap[ha]? = some (.cells (hs.map (Value.int .i64)).toArray 3 (0, 0))
  bhv : w.heap[hv]? = some (.cells #[.slice (some ⟨ha, 0, none⟩) n n] 42 (0, 0))
  bqv : w.heap[qv]? = some (.cells #[.pointer (some ⟨qb, 0, none⟩)] 69 (0, 0))
  qs : QS qb qa ql k w

section
variable {w0 : World} {fb ha hv qa qb qv ib n : Nat} {hs : List Int} {ql : Nat} {k : Int} {w : World}
theorem FSt.size (h : FSt w0 fb ha hv qa qb qv ib n hs ql k w) : qv < w.heap.size := lt_of_block h.bqv
theorem FSt.to {w' : World} {B : Nat} (h : FSt w0 fb ha hv qa qb qv ib n hs ql k w) (hb : Below B w w') (hB : w.heap.size ≤ B) : FSt w0 fb ha hv qa qb qv ib n hs ql k w' := by
  have hs := h.size
  have ho := h.o
  exact ⟨h.below.trans (hb.mono (by omega)), ho, (hb.block _ (by omega)).trans h.bf, (hb.block _ (by omega)).trans h.bha, (hb.block _ (by omega)).trans h.bhv, (hb.block _ (by omega)).trans h.bqv,
    (hb.block _ (by omega)).trans h.qs.1, (hb.block _ (by omega)).trans h.qs.2.1, h.qs.2.2⟩
theorem FSt.alloc (h : FSt w0 fb ha hv qa qb qv ib n hs ql k w) (o : Obj) : FSt w0 fb ha hv qa qb qv ib n hs ql k (w.alloc o) :=
  h.to ((Below.refl w.heap.size w).alloc (Nat.le_refl _) o) (Nat.le_refl _)
theorem FSt.drew (h : FSt w0 fb ha hv qa qb qv ib n hs ql k w) : FSt w0 fb ha hv qa qb qv ib n hs ql k w.drew :=
  h.to (Below.refl w.heap.size w).drew (Nat.le_refl _)
theorem FSt.queue {ql' : Nat} {k' : Int} {w' : World} (h : FSt w0 fb ha hv qa qb qv ib n hs ql k w) (hu : Upd [qb, qa] w w') (hq : QS qb qa ql' k' w') : FSt w0 fb ha hv qa qb qv ib n hs ql' k' w' := by
  have hs := h.size
  have ho := h.o
  exact ⟨h.below.trans (hu.to (by have := h.below.size; omega) (by simp; omega)), ho, (hu.block _ (by omega) (by simp; omega)).trans h.bf, (hu.block _ (by omega) (by simp; omega)).trans h.bha, (hu.block _ (by omega) (by simp; omega)).trans h.bhv, (hu.block _ (by omega) (by simp; omega)).trans h.bqv, hq⟩
theorem FSt.cells (h : FSt w0 fb ha hv qa qb qv ib n hs ql k w) :
    w.cell? ⟨fb, 3, none⟩ = some (.slice (some ⟨ib, 0, none⟩) n n) ∧ w.cell? ⟨hv, 0, none⟩ = some (.slice (some ⟨ha, 0, none⟩) n n) ∧
      w.cell? ⟨qv, 0, none⟩ = some (.pointer (some ⟨qb, 0, none⟩)) ∧ w.cell? ⟨qb, 0, none⟩ = some (.slice (some ⟨qa, 0, none⟩) ql 1) :=
  ⟨cell_of_row _ _ 3 _ _ _ h.bf, cell_of_one h.bhv, cell_of_one h.bqv, cell_of_one h.qs.1⟩
theorem FSt.high (h : FSt w0 fb ha hv qa qb qv ib n hs ql k w) (j : Nat) : w.cell? ⟨ha, j, none⟩ = (hs[j]?).map (Value.int .i64) := by
  rw [cell_of_row _ _ j _ _ _ h.bha]; simp
theorem FSt.free (h : FSt w0 fb ha hv qa qb qv ib n hs ql k w) (j : Nat) : w.frozen? ⟨ha, j, none⟩ = false := by
  simp [World.frozen?, h.bha]
theorem FSt.raise {a b : Int} (h : FSt w0 fb ha hv qa qb qv ib n [a, b] ql k w) (x : Int) : FSt w0 fb ha hv qa qb qv ib n [a, x] ql k (w.setCell ⟨ha, 1, none⟩ (.int .i64 x)) := by
  have hs := h.size
  have ho := h.o
  refine ⟨h.below.setCell (by show _ ≤ ha; omega) _, ho, (Below.heap_setCell _ _ _ _ (by show _ ≠ ha; omega)).trans h.bf, two_setCell1 h.bha, (Below.heap_setCell _ _ _ _ (by show _ ≠ ha; omega)).trans h.bhv, (Below.heap_setCell _ _ _ _ (by show _ ≠ ha; omega)).trans h.bqv,
    (Below.heap_setCell _ _ _ _ (by show _ ≠ ha; omega)).trans h.qs.1, (Below.heap_setCell _ _ _ _ (by show _ ≠ ha; omega)).trans h.qs.2.1, h.qs.2.2⟩
end

/-- The flow's memory when it begins. -/
theorem fst_start (w : World) (ib n : Nat) (hs : List Int) (C : Array Value) (hC : C = (hs.map (Value.int .i64)).toArray) :
    FSt w w.heap.size (w.heap.size + 1) (w.heap.size + 1 + 1) (w.heap.size + 1 + 1 + 1) (w.heap.size + 1 + 1 + 1 + 1) (w.heap.size + 1 + 1 + 1 + 1 + 1) ib n hs 1 0
      ((((((w.alloc (.cells #[.string ⟨#[102]⟩, .int .i64 0, .int .i64 0, .slice (some ⟨ib, 0, none⟩) n n] 53)).alloc (.cells C 3)).alloc (.cells #[.slice (some ⟨w.heap.size + 1, 0, none⟩) n n] 42)).alloc (.cells #[.int .i64 0] 3)).alloc (.cells #[.slice (some ⟨w.heap.size + 1 + 1 + 1, 0, none⟩) 1 1] 70)).alloc (.cells #[.pointer (some ⟨w.heap.size + 1 + 1 + 1 + 1, 0, none⟩)] 69)) := by
  subst hC
  have up : ∀ (W : World) (o : Obj) (b : Nat) (x : Obj), W.heap[b]? = some x → (W.alloc o).heap[b]? = some x := fun W o b x h => (Below.heap_alloc _ _ _ (lt_of_block h)).trans h
  have nw : ∀ (W : World) (o : Obj) (b : Nat), b = W.heap.size → (W.alloc o).heap[b]? = some o := fun W o b h => by subst h; exact heap_alloc_last _ _
  refine ⟨?_, by omega, ?_, ?_, ?_, ?_, ?_, ?_, by omega⟩
  · exact ((((((Below.refl _ _).alloc (Nat.le_refl _) _).alloc (by first | omega | (simp; done) | (simp; omega)) _).alloc (by first | omega | (simp; done) | (simp; omega)) _).alloc (by first | omega | (simp; done) | (simp; omega)) _).alloc (by first | omega | (simp; done) | (simp; omega)) _).alloc (by first | omega | (simp; done) | (simp; omega)) _
  · exact up _ _ _ _ (up _ _ _ _ (up _ _ _ _ (up _ _ _ _ (up _ _ _ _ (nw _ _ _ rfl)))))
  · exact up _ _ _ _ (up _ _ _ _ (up _ _ _ _ (up _ _ _ _ (nw _ _ _ (by simp)))))
  · exact up _ _ _ _ (up _ _ _ _ (up _ _ _ _ (nw _ _ _ (by simp))))
  · exact nw _ _ _ (by simp)
  · exact up _ _ _ _ (nw _ _ _ (by simp))
  · exact up _ _ _ _ (up _ _ _ _ (nw _ _ _ (by simp)))

theorem cells3 {w : World} {b : Nat} {T : TypeId} {fr : Nat × Nat} {x0 x1 x2 : Value} (h : w.heap[b]? = some (.cells #[x0, x1, x2] T fr)) :
    w.cell? ⟨b, 0, none⟩ = some x0 ∧ w.cell? ⟨b, 1, none⟩ = some x1 ∧ w.cell? ⟨b, 2, none⟩ = some x2 :=
  ⟨cell_of_row _ _ 0 _ _ _ h, cell_of_row _ _ 1 _ _ _ h, cell_of_row _ _ 2 _ _ _ h⟩
theorem modify_cells {w : World} {b j : Nat} {C C' : Array Value} {x : Value} {t : TypeId} (h : w.heap[b]? = some (.cells C t (0, 0))) (hC : C.setIfInBounds j x = C') : (w.setCell ⟨b, j, none⟩ x).heap[b]? = some (.cells C' t (0, 0)) := by
  have hlt := lt_of_block h
  have h' : w.heap[b] = .cells C t (0, 0) := by simpa [Array.getElem?_eq_getElem hlt] using h
  show (w.heap.modify b _)[b]? = _
  rw [Array.getElem?_eq_getElem (by simpa using hlt), Array.getElem_modify_self, h', ← hC]
  rfl
theorem three_set {w : World} {b : Nat} {a0 a1 a2 x y z : Value} {t : TypeId} (h : w.heap[b]? = some (.cells #[a0, a1, a2] t (0, 0))) : (((w.setCell ⟨b, 0, none⟩ x).setCell ⟨b, 1, none⟩ y).setCell ⟨b, 2, none⟩ z).heap[b]? = some (.cells #[x, y, z] t (0, 0)) :=
  modify_cells (modify_cells (modify_cells h rfl) rfl) rfl

/-- An instruction's box, cell by cell. -/
theorem cells12 {w : World} {b : Nat} {T : TypeId} {fr : Nat × Nat} {x0 x1 x2 x3 x4 x5 x6 x7 x8 x9 x10 x11 : Value} (h : w.heap[b]? = some (.cells #[x0, x1, x2, x3, x4, x5, x6, x7, x8, x9, x10, x11] T fr)) :
    w.cell? ⟨b, 0, none⟩ = some x0 ∧ w.cell? ⟨b, 1, none⟩ = some x1 ∧ w.cell? ⟨b, 2, none⟩ = some x2 ∧ w.cell? ⟨b, 3, none⟩ = some x3 ∧ w.cell? ⟨b, 4, none⟩ = some x4 ∧ w.cell? ⟨b, 5, none⟩ = some x5 ∧ w.cell? ⟨b, 6, none⟩ = some x6 ∧ w.cell? ⟨b, 7, none⟩ = some x7 ∧ w.cell? ⟨b, 8, none⟩ = some x8 ∧ w.cell? ⟨b, 9, none⟩ = some x9 ∧ w.cell? ⟨b, 10, none⟩ = some x10 ∧ w.cell? ⟨b, 11, none⟩ = some x11 :=
  ⟨cell_of_row _ _ 0 _ _ _ h, cell_of_row _ _ 1 _ _ _ h, cell_of_row _ _ 2 _ _ _ h, cell_of_row _ _ 3 _ _ _ h, cell_of_row _ _ 4 _ _ _ h, cell_of_row _ _ 5 _ _ _ h, cell_of_row _ _ 6 _ _ _ h, cell_of_row _ _ 7 _ _ _ h, cell_of_row _ _ 8 _ _ _ h, cell_of_row _ _ 9 _ _ _ h, cell_of_row _ _ 10 _ _ _ h, cell_of_row _ _ 11 _ _ _ h⟩

/-- A step's end. -/
def StepR (w0 : World) (fb ha hv qa qb qv ib n : Nat) (hs : List Int) (ql : Nat) (k : Int) (v : Value) (w : World) (e : Ending) (w' : World) : Prop := e = .returned v ∧ FSt w0 fb ha hv qa qb qv ib n hs ql k w' ∧ Upd [ha, qb, qa] w w'

set_option maxRecDepth 100000 in
set_option maxHeartbeats 2000000 in
theorem reach_new (w0 : World) (fb ha hv qa qb qv ib : Nat) (k : Int) (w : World) (h : FSt w0 fb ha hv qa qb qv ib 2 [0, -1] 0 k w) :
    Calls Tryd.prog 28 #[.int .i64 1, .int .i64 1, .pointer (some ⟨fb, 0, none⟩), .pointer (some ⟨hv, 0, none⟩), .pointer (some ⟨qv, 0, none⟩)] w (StepR w0 fb ha hv qa qb qv ib 2 [0, 1] 1 1 (.bool true) w) := by
  obtain ⟨k1, k2, k3, _⟩ := h.cells
  have k4 : w.cell? ⟨ha, 1, none⟩ = some (.int .i64 (-1)) := by rw [h.high]; rfl
  have k5 := h.free 1
  have hz := h.size
  have hne : ¬ hv = ha := by have := h.o; omega
  have hne2 : ¬ qv = ha := by have := h.o; omega
  have HS := Lib.hid h
  clear h
  go_enter Tryd.func28, Tryd.ntmps28
  go_wp2_with fail
  refine (heap_push _ qa k 1 _ (HS.out.raise 1).qs).mono ?_
  rintro e w1 ⟨rfl, hq, hu⟩
  have HE := Lib.hid ((HS.out.raise 1).queue hu hq)
  have HU := Lib.hid (((Upd.refl [ha, qb, qa] w).set (p := ⟨ha, 1, none⟩) (by simp) (.int .i64 1)).trans (hu.more (by simp)))
  clear hq hu k1 k2 k3 k4 k5
  go_wp2
  go_ret
  exact ⟨rfl, HE.out, HU.out⟩

set_option maxRecDepth 100000 in
set_option maxHeartbeats 2000000 in
theorem reach_not (w0 : World) (fb ha hv qa qb qv ib : Nat) (k : Int) (w : World) (h : FSt w0 fb ha hv qa qb qv ib 2 [0, 1] 0 k w) :
    Calls Tryd.prog 28 #[.int .i64 0, .int .i64 1, .pointer (some ⟨fb, 0, none⟩), .pointer (some ⟨hv, 0, none⟩), .pointer (some ⟨qv, 0, none⟩)] w (StepR w0 fb ha hv qa qb qv ib 2 [0, 1] 0 k (.bool false) w) := by
  obtain ⟨k1, k2, k3, _⟩ := h.cells
  have k4 : w.cell? ⟨ha, 0, none⟩ = some (.int .i64 0) := by rw [h.high]; rfl
  have HS := Lib.hid h
  clear h
  go_enter Tryd.func28, Tryd.ntmps28
  go_wp2
  go_ret
  exact ⟨rfl, HS.out, Upd.refl _ _⟩

end Go.Proofs.YtpffmndfanknaaaDoor
