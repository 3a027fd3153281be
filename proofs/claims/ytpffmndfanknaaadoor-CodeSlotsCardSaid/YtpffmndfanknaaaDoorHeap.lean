/- The priority queue of one number: container/heap over code.queue. -/
import Derived.Test.YtpffmndfanknaaaDoorW
import Derived.OneCell
namespace Go.Proofs.YtpffmndfanknaaaDoor
set_option linter.unusedVariables false
set_option linter.unusedSimpArgs false
open Go.RowKit

set_option maxRecDepth 100000 in
set_option maxHeartbeats 1000000 in
theorem qlen_any (A : Option Addr) (n c : Nat) (w : World) : Calls Tryd.prog 25 #[.slice A n c] w fun e w' => e = .returned (.int .i64 n) ∧ w = w' := by
  go_enter Tryd.func25, Tryd.ntmps25
  go_wp2
  go_ret
  exact ⟨rfl, rfl⟩

theorem method_len0 (a : Addr) (w : World) : (method 253 69 (.pointer (some a)) "Len").run Tryd.prog w = ((loadVar 70 a >>= fun v => pure (25, v)) : Sem (FuncId × Value)).run Tryd.prog w := by kernel_rfl
theorem method_len (a : Addr) (v : Value) (w : World) (h : w.cell? a = some v) : (method 253 69 (.pointer (some a)) "Len").run Tryd.prog w = .ok (25, v) w := by
  rw [method_len0]
  go_simp
theorem method_swap0 (a : Addr) (w : World) : (method 253 69 (.pointer (some a)) "Swap").run Tryd.prog w = ((loadVar 70 a >>= fun v => pure (96, v)) : Sem (FuncId × Value)).run Tryd.prog w := by kernel_rfl
theorem method_swap (a : Addr) (v : Value) (w : World) (h : w.cell? a = some v) : (method 253 69 (.pointer (some a)) "Swap").run Tryd.prog w = .ok (96, v) w := by
  rw [method_swap0]
  go_simp
theorem method_pop (a : Addr) (w : World) : (method 253 69 (.pointer (some a)) "Pop").run Tryd.prog w = .ok (94, .pointer (some a)) w := by kernel_rfl
theorem method_push (a : Addr) (w : World) : (method 253 69 (.pointer (some a)) "Push").run Tryd.prog w = .ok (95, .pointer (some a)) w := by kernel_rfl

/-- What a call may turn besides new blocks: the blocks named. -/
structure Upd (S : List Nat) (w w' : World) : Prop where
  os : w'.os = w.os
  tape : w'.tape = w.tape
  output : w'.output = w.output
  size : w.heap.size ≤ w'.heap.size
  block : ∀ k, k < w.heap.size → k ∉ S → w'.heap[k]? = w.heap[k]?
theorem Upd.refl (S : List Nat) (w : World) : Upd S w w := ⟨rfl, rfl, rfl, Nat.le_refl _, fun _ _ _ => rfl⟩
theorem Upd.of {S : List Nat} {w w' : World} (h : Below w.heap.size w w') : Upd S w w' := ⟨h.os, h.tape, h.output, h.size, fun k hk _ => h.block k hk⟩
theorem Upd.trans {S : List Nat} {a b c : World} (h : Upd S a b) (k : Upd S b c) : Upd S a c :=
  ⟨k.os.trans h.os, k.tape.trans h.tape, k.output.trans h.output, Nat.le_trans h.size k.size, fun i hi hs => (k.block i (Nat.lt_of_lt_of_le hi h.size) hs).trans (h.block i hi hs)⟩
theorem Upd.set {S : List Nat} {a w : World} (h : Upd S a w) {p : Addr} (hp : p.block ∈ S) (u : Value) : Upd S a (w.setCell p u) :=
  h.trans ⟨rfl, rfl, rfl, by simp [World.setCell], fun k _ hk => Below.heap_setCell _ _ _ _ (fun e => hk (e ▸ hp))⟩
theorem Upd.alloc {S : List Nat} {a w : World} (h : Upd S a w) (o : Obj) : Upd S a (w.alloc o) := h.trans (.of ((Below.refl _ _).alloc (Nat.le_refl _) o))
theorem Upd.drew {S : List Nat} {a w : World} (h : Upd S a w) : Upd S a w.drew := ⟨h.os, h.tape, h.output, h.size, h.block⟩
theorem Upd.more {S S' : List Nat} {a w : World} (h : Upd S a w) (hs : ∀ k ∈ S, k ∈ S') : Upd S' a w := ⟨h.os, h.tape, h.output, h.size, fun k hk hn => h.block k hk (fun e => hn (hs k e))⟩
theorem Upd.to {S : List Nat} {a w : World} (h : Upd S a w) {B : Nat} (hB : B ≤ a.heap.size) (hs : ∀ k ∈ S, B ≤ k) : Below B a w :=
  ⟨h.os, h.tape, h.output, h.size, fun k hk => h.block k (by omega) (fun e => by have := hs k e; omega)⟩

/-- A queue: its box, its one place, how many numbers it holds, what the place holds. -/
def QS (qb qa n : Nat) (k : Int) (w : World) : Prop :=
  w.heap[qb]? = some (.cells #[.slice (some ⟨qa, 0, none⟩) n 1] 70 (0, 0)) ∧ w.heap[qa]? = some (.cells #[.int .i64 k] 3 (0, 0)) ∧ qb ≠ qa

theorem QS.drew {qb qa n : Nat} {k : Int} {w : World} (h : QS qb qa n k w) : QS qb qa n k w.drew := h
theorem QS.upd {qb qa n : Nat} {k : Int} {w w' : World} {S : List Nat} (h : QS qb qa n k w) (hu : Upd S w w') (h1 : qb ∉ S) (h2 : qa ∉ S) : QS qb qa n k w' :=
  ⟨(hu.block qb (lt_of_block h.1) h1).trans h.1, (hu.block qa (lt_of_block h.2.1) h2).trans h.2.1, h.2.2⟩
theorem QS.setA {qb qa n : Nat} {k : Int} {w : World} (h : QS qb qa n k w) (k' : Int) : QS qb qa n k' (w.setCell ⟨qa, 0, none⟩ (.int .i64 k')) :=
  ⟨(Below.heap_setCell _ _ _ _ h.2.2).trans h.1, one_setCell h.2.1, h.2.2⟩
theorem QS.setB {qb qa n : Nat} {k : Int} {w : World} (h : QS qb qa n k w) (n' : Nat) : QS qb qa n' k (w.setCell ⟨qb, 0, none⟩ (.slice (some ⟨qa, 0, none⟩) n' 1)) :=
  ⟨one_setCell h.1, (Below.heap_setCell _ _ _ _ (Ne.symm h.2.2)).trans h.2.1, h.2.2⟩

/-- A queue's call: what it answers, what the queue holds then, and that nothing else has turned. -/
def QR (qb qa n : Nat) (k : Int) (v : Value) (w : World) (e : Ending) (w' : World) : Prop := e = .returned v ∧ QS qb qa n k w' ∧ Upd [qb, qa] w w'

set_option maxRecDepth 100000 in
set_option maxHeartbeats 2000000 in
theorem swap_one (qb qa : Nat) (k : Int) (w : World) (h : QS qb qa 1 k w) : Calls Tryd.prog 96 #[.slice (some ⟨qa, 0, none⟩) 1 1, .int .i64 0, .int .i64 0] w (QR qb qa 1 k (.tuple #[]) w) := by
  have hc := cell_of_one h.2.1
  have hf := free_of_one h.2.1
  have HS := Lib.hid h
  clear h
  go_enter Tryd.func96, Tryd.ntmps96
  go_region
  all_goals
    go_end0
    exact ⟨rfl, ((HS.out.setA k).setA k).drew, (((Upd.refl _ _).set (by simp) _).set (by simp) _).drew⟩

set_option maxRecDepth 100000 in
set_option maxHeartbeats 2000000 in
theorem qpop_one (qb qa : Nat) (k : Int) (w : World) (h : QS qb qa 1 k w) : Calls Tryd.prog 94 #[.pointer (some ⟨qb, 0, none⟩)] w (QR qb qa 0 k (.iface 3 (.int .i64 k)) w) := by
  have hc := cell_of_one h.2.1
  have hd := cell_of_one h.1
  have hf := free_of_one h.1
  have HS := Lib.hid h
  clear h
  go_enter Tryd.func94, Tryd.ntmps94
  go_wp2
  go_ret
  exact ⟨rfl, HS.out.setB 0, (Upd.refl _ _).set (by simp) _⟩

@[go_sem] theorem assert_int (v : Value) (w : World) : (Instr.typeAssert (.iface 3 v) 20 3 false).run Tryd.prog w = .ok v w := by kernel_rfl

theorem infoInt : (Tryd.prog.info? 3).map (fun i => (i.zero, i.size, i.bytes)) = some (some (.int .i64 0), 1, 8) := by kernel_rfl

set_option maxRecDepth 100000 in
set_option maxHeartbeats 2000000 in
theorem qpush_one (qb qa : Nat) (k n : Int) (w : World) (h : QS qb qa 0 k w) : Calls Tryd.prog 95 #[.pointer (some ⟨qb, 0, none⟩), .iface 3 (.int .i64 n)] w (QR qb qa 1 n (.tuple #[]) w) := by
  have hc := cell_of_one h.2.1
  have hc2 := free_of_one h.2.1
  have hd := cell_of_one h.1
  have hf := free_of_one h.1
  have hl := lt_of_block h.1
  have hl2 := lt_of_block h.2.1
  have HS := Lib.hid h
  clear h
  obtain ⟨i0, hi, hz0, hz1, hz2⟩ := info_parts infoInt
  have hss : ∀ W : World, W.setCells qa 0 [.int .i64 n] = W.setCell ⟨qa, 0, none⟩ (.int .i64 n) := fun _ => rfl
  have hne : ¬ qb = qa := HS.out.2.2
  go_enter Tryd.func95, Tryd.ntmps95
  go_region_law (refine step_append_room rfl _ _ 70 rfl 3 i0 1 Tryd.underlying70 hi hz1 qa 0 0 1 rfl ⟨w.heap.size, 0, none⟩ 1 1 [.int .i64 n] rfl rfl ?c1 ?c2 ?c3 ?c4 ?_)
  all_goals
    go_end0
    exact ⟨rfl, (((HS.out.setA n).setB 1).upd (((Upd.refl [] _).alloc _).drew) (by simp) (by simp)), ((((Upd.refl _ _).set (by simp) _).set (by simp) _).alloc _).drew⟩

set_option maxRecDepth 100000 in
set_option maxHeartbeats 2000000 in
theorem down_none (v : Value) (w : World) : Calls Tryd.prog 41 #[v, .int .i64 0, .int .i64 0] w fun e w' => e = .returned (.bool false) ∧ w = w' := by
  go_enter Tryd.func41, Tryd.ntmps41
  go_wp2
  refine wp_loop_rounds 1 ?_
  rw [rounds_succ]
  go_wp2
  go_ret
  exact ⟨rfl, rfl⟩

set_option maxRecDepth 100000 in
set_option maxHeartbeats 2000000 in
theorem up_none (v : Value) (w : World) : Calls Tryd.prog 42 #[v, .int .i64 0] w fun e w' => e = .returned (.tuple #[]) ∧ w = w' := by
  go_enter Tryd.func42, Tryd.ntmps42
  go_wp2
  refine wp_loop_rounds 1 ?_
  rw [rounds_succ]
  go_wp2
  go_end0
  exact ⟨rfl, rfl⟩

set_option maxRecDepth 100000 in
set_option maxHeartbeats 2000000 in
theorem heap_pop (qb qa : Nat) (k : Int) (w : World) (h : QS qb qa 1 k w) : Calls Tryd.prog 26 #[.iface 69 (.pointer (some ⟨qb, 0, none⟩))] w (QR qb qa 0 k (.iface 3 (.int .i64 k)) w) := by
  have hm1 := method_len ⟨qb, 0, none⟩ _ w (cell_of_one h.1)
  have hm2 := method_swap ⟨qb, 0, none⟩ _ w (cell_of_one h.1)
  have hm3 := method_pop ⟨qb, 0, none⟩
  have HS := Lib.hid h
  clear h
  go_enter Tryd.func26, Tryd.ntmps26
  go_wp2_with fail
  refine (qlen_any _ _ _ _).mono ?_
  rintro e w1 ⟨rfl, rfl⟩
  go_wp2_with fail
  refine (swap_one qb qa k _ HS.out).mono ?_
  rintro e w1 ⟨rfl, hq, hu⟩
  have HQ1 := Lib.hid hq
  have HU1 := Lib.hid hu
  clear hm1 hm2 hq hu
  go_wp2_with fail
  refine (down_none _ _).mono ?_
  rintro e w2 ⟨rfl, rfl⟩
  go_wp2_with fail
  refine (qpop_one qb qa k _ HQ1.out).mono ?_
  rintro e w3 ⟨rfl, hq, hu⟩
  have HQ3 := Lib.hid hq
  have HU3 := Lib.hid (HU1.out.trans hu)
  clear hm3 hq hu
  go_wp2
  go_ret
  exact ⟨rfl, HQ3.out, HU3.out⟩

set_option maxRecDepth 100000 in
set_option maxHeartbeats 2000000 in
theorem heap_push (qb qa : Nat) (k n : Int) (w : World) (h : QS qb qa 0 k w) : Calls Tryd.prog 29 #[.iface 69 (.pointer (some ⟨qb, 0, none⟩)), .iface 3 (.int .i64 n)] w (QR qb qa 1 n (.tuple #[]) w) := by
  have hm3 := method_push ⟨qb, 0, none⟩
  have HS := Lib.hid h
  clear h
  go_enter Tryd.func29, Tryd.ntmps29
  go_wp2_with fail
  refine (qpush_one qb qa k n _ HS.out).mono ?_
  rintro e w1 ⟨rfl, hq, hu⟩
  have hm1 := method_len ⟨qb, 0, none⟩ _ w1 (cell_of_one hq.1)
  have HQ1 := Lib.hid hq
  have HU1 := Lib.hid hu
  clear hm3 hq hu
  go_wp2_with fail
  refine (qlen_any _ _ _ _).mono ?_
  rintro e w2 ⟨rfl, rfl⟩
  clear hm1
  go_wp2_with fail
  refine (up_none _ _).mono ?_
  rintro e w2 ⟨rfl, rfl⟩
  go_wp2
  go_end0
  exact ⟨rfl, HQ1.out, HU1.out⟩

end Go.Proofs.YtpffmndfanknaaaDoor
