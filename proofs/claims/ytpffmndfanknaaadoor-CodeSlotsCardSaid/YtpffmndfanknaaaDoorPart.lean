/- The term package's check of a part: what it answers, and what it has counted then. -/
import Derived.Test.YtpffmndfanknaaaDoorKinds
import Derived.Test.YtpffmndfanknaaaDoorLT
import Derived.Deep.RegionHeld3
import Derived.BigRegion
namespace Go.Proofs.YtpffmndfanknaaaDoor
set_option linter.unusedVariables false
set_option linter.unusedSimpArgs false
open Go.RowKit

/-- A walk's count and table lie in block Lb. -/
def LookAt (w : World) (Lb : Nat) (m : Int) : Prop := w.heap[Lb]? = some (.cells (#[.int .i64 m] ++ tableV) 89 (0, 0))

theorem LookAt.lt {w : World} {Lb : Nat} {m : Int} (h : LookAt w Lb m) : Lb < w.heap.size := by
  rcases Nat.lt_or_ge Lb w.heap.size with h' | h'
  · exact h'
  · unfold LookAt at h; simp [Array.getElem?_eq_none h'] at h
theorem LookAt.cell {w : World} {Lb : Nat} {m : Int} (h : LookAt w Lb m) (i : Nat) : w.cell? ⟨Lb, i, none⟩ = (#[Value.int .i64 m] ++ tableV)[i]? := cell_of_row w Lb i _ _ _ h
theorem LookAt.cell0 {w : World} {Lb : Nat} {m : Int} (h : LookAt w Lb m) : w.cell? ⟨Lb, 0, none⟩ = some (.int .i64 m) := by rw [h.cell]; kernel_rfl
theorem LookAt.frozen {w : World} {Lb : Nat} {m : Int} (h : LookAt w Lb m) (i : Nat) : w.frozen? ⟨Lb, i, none⟩ = false := by
  unfold LookAt at h; simp [World.frozen?, h]
theorem LookAt.below {w w' : World} {Lb B : Nat} {m : Int} (h : LookAt w Lb m) (hb : Below B w w') (hB : Lb < B) : LookAt w' Lb m := (hb.block Lb hB).trans h
theorem LookAt.alloc {w : World} {Lb : Nat} {m : Int} (h : LookAt w Lb m) (o : Obj) : LookAt (w.alloc o) Lb m := (Below.heap_alloc w o Lb h.lt).trans h
theorem LookAt.drew {w : World} {Lb : Nat} {m : Int} (h : LookAt w Lb m) : LookAt w.drew Lb m := h
theorem LookAt.set {w : World} {Lb : Nat} {m : Int} (h : LookAt w Lb m) (m' : Int) : LookAt (w.setCell ⟨Lb, 0, none⟩ (.int .i64 m')) Lb m' := by
  unfold LookAt at h ⊢
  have hlt : Lb < w.heap.size := LookAt.lt h
  rw [Array.getElem?_eq_getElem hlt] at h
  simp only [Option.some.injEq] at h
  have hlt' : Lb < (w.setCell ⟨Lb, 0, none⟩ (.int .i64 m')).heap.size := by simpa [World.setCell] using hlt
  rw [Array.getElem?_eq_getElem hlt']
  simp only [World.setCell]
  rw [Array.getElem_modify_self, h]
  simp

def bareId (k : Nat) : FuncId := if k = 1 then 57 else if k = 2 then 58 else if k = 3 then 59 else if k = 4 ∨ k = 5 then 55 else if k = 6 ∨ k = 7 then 56 else 62
def goodId (k : Nat) : FuncId := if k = 1 ∨ k = 2 then 50 else if k = 3 then 60 else if k = 4 ∨ k = 5 then 52 else 54

theorem kind_cases {k : Nat} (h1 : 1 ≤ k) (h8 : k ≤ 8) : k = 1 ∨ k = 2 ∨ k = 3 ∨ k = 4 ∨ k = 5 ∨ k = 6 ∨ k = 7 ∨ k = 8 := by omega

theorem LookAt.bare {w : World} {Lb : Nat} {m : Int} (h : LookAt w Lb m) {k : Nat} (h1 : 1 ≤ k) (h8 : k ≤ 8) : w.cell? ⟨Lb, 1 + k * 2, none⟩ = some (.func (.func (bareId k)) #[] #[]) := by
  rw [h.cell]
  rcases kind_cases h1 h8 with rfl | rfl | rfl | rfl | rfl | rfl | rfl | rfl <;> kernel_rfl
theorem LookAt.good {w : World} {Lb : Nat} {m : Int} (h : LookAt w Lb m) {k : Nat} (h1 : 1 ≤ k) (h8 : k ≤ 8) : w.cell? ⟨Lb, 1 + k * 2 + 1, none⟩ = some (.func (.func (goodId k)) #[] #[]) := by
  rw [h.cell]
  rcases kind_cases h1 h8 with rfl | rfl | rfl | rfl | rfl | rfl | rfl | rfl <;> kernel_rfl

theorem callFunc_enter {P : Program} {f : FuncId} {fn : Func} (hf : P.funcs[f]? = some fn) (hn : (fn.name == "runtime.NumGoroutine") = false) (hb : fn.body.isNone = false) (args : Array Value) (w : World) :
    (callFunc f args).run P w = .ok (.enter f args) w := by
  obtain ⟨c, hc⟩ : ∃ c, fn.body = some c := by
    cases h : fn.body with
    | none => rw [h] at hb; cases hb
    | some c => exact ⟨c, rfl⟩
  have hn' : fn.name ≠ "runtime.NumGoroutine" := by simpa using hn
  simp [callFunc, program, Sem.run, hf, hn', hc]

theorem bare_enters {k : Nat} (h1 : 1 ≤ k) (h8 : k ≤ 8) (args : Array Value) (w : World) : (callFunc (bareId k) args).run Tryd.prog w = .ok (.enter (bareId k) args) w := by
  rcases kind_cases h1 h8 with rfl | rfl | rfl | rfl | rfl | rfl | rfl | rfl
  · exact callFunc_enter Tryd.func57 (by kernel_rfl) (by kernel_rfl) args w
  · exact callFunc_enter Tryd.func58 (by kernel_rfl) (by kernel_rfl) args w
  · exact callFunc_enter Tryd.func59 (by kernel_rfl) (by kernel_rfl) args w
  · exact callFunc_enter Tryd.func55 (by kernel_rfl) (by kernel_rfl) args w
  · exact callFunc_enter Tryd.func55 (by kernel_rfl) (by kernel_rfl) args w
  · exact callFunc_enter Tryd.func56 (by kernel_rfl) (by kernel_rfl) args w
  · exact callFunc_enter Tryd.func56 (by kernel_rfl) (by kernel_rfl) args w
  · exact callFunc_enter Tryd.func62 (by kernel_rfl) (by kernel_rfl) args w
theorem good_enters {k : Nat} (h1 : 1 ≤ k) (h8 : k ≤ 8) (args : Array Value) (w : World) : (callFunc (goodId k) args).run Tryd.prog w = .ok (.enter (goodId k) args) w := by
  rcases kind_cases h1 h8 with rfl | rfl | rfl | rfl | rfl | rfl | rfl | rfl
  · exact callFunc_enter Tryd.func50 (by kernel_rfl) (by kernel_rfl) args w
  · exact callFunc_enter Tryd.func50 (by kernel_rfl) (by kernel_rfl) args w
  · exact callFunc_enter Tryd.func60 (by kernel_rfl) (by kernel_rfl) args w
  · exact callFunc_enter Tryd.func52 (by kernel_rfl) (by kernel_rfl) args w
  · exact callFunc_enter Tryd.func52 (by kernel_rfl) (by kernel_rfl) args w
  · exact callFunc_enter Tryd.func54 (by kernel_rfl) (by kernel_rfl) args w
  · exact callFunc_enter Tryd.func54 (by kernel_rfl) (by kernel_rfl) args w
  · exact callFunc_enter Tryd.func54 (by kernel_rfl) (by kernel_rfl) args w

/-- A struct of nine cells comes back that is empty or not; nothing that was there has turned. -/
def BareR (w : World) (E : Bool) (e : Ending) (w' : World) : Prop :=
  ∃ (k n : Int) (re im : Nat) (s : ByteArray) (a b c : Int) (A1 : Option Addr) (n1 c1 : Nat) (A2 : Option Addr) (n2 c2 : Nat),
    e = .returned (.agg #[.int .i64 k, .int .i64 n, .complex .f64 re im, .string s, .int .i64 a, .int .u32 b, .int .u64 c, .slice A1 n1 c1, .slice A2 n2 c2]) ∧ emptyF n re im s a b c n1 n2 = E ∧ Below w.heap.size w w'

theorem bare_any (k : Nat) (h1 : 1 ≤ k) (h8 : k ≤ 8) (n : Int) (re im : Nat) (s : ByteArray) (a b c : Int) (A1 A2 : Option Addr) (n1 c1 n2 c2 : Nat) (w : World) :
    Calls Tryd.prog (bareId k) #[.agg #[.int .i64 k, .int .i64 n, .complex .f64 re im, .string s, .int .i64 a, .int .u32 b, .int .u64 c, .slice A1 n1 c1, .slice A2 n2 c2]] w (BareR w (bareEmpty k n re im s a b c n1 n2)) := by
  rcases kind_cases h1 h8 with rfl | rfl | rfl | rfl | rfl | rfl | rfl | rfl
  · exact (noN_any _ _ _ _ _ _ _ _ _ _ _ _ _ _ _).mono fun e w' ⟨he, hb⟩ => ⟨_, _, _, _, _, _, _, _, _, _, _, _, _, _, he, rfl, hb⟩
  · exact (noZ_any _ _ _ _ _ _ _ _ _ _ _ _ _ _ _).mono fun e w' ⟨he, hb⟩ => ⟨_, _, _, _, _, _, _, _, _, _, _, _, _, _, he, rfl, hb⟩
  · exact (noS_any _ _ _ _ _ _ _ _ _ _ _ _ _ _ _).mono fun e w' ⟨he, hb⟩ => ⟨_, _, _, _, _, _, _, _, _, _, _, _, _, _, he, rfl, hb⟩
  · exact (noId_any _ _ _ _ _ _ _ _ _ _ _ _ _ _ _).mono fun e w' ⟨he, hb⟩ => ⟨_, _, _, _, _, _, _, _, _, _, _, _, _, _, he, rfl, hb⟩
  · exact (noId_any _ _ _ _ _ _ _ _ _ _ _ _ _ _ _).mono fun e w' ⟨he, hb⟩ => ⟨_, _, _, _, _, _, _, _, _, _, _, _, _, _, he, rfl, hb⟩
  · exact (noL_any _ _ _ _ _ _ _ _ _ _ _ _ _ _ _).mono fun e w' ⟨he, hb⟩ => ⟨_, _, _, _, _, _, _, _, _, _, _, _, _, _, he, rfl, hb⟩
  · exact (noL_any _ _ _ _ _ _ _ _ _ _ _ _ _ _ _).mono fun e w' ⟨he, hb⟩ => ⟨_, _, _, _, _, _, _, _, _, _, _, _, _, _, he, rfl, hb⟩
  · exact (noB_any _ _ _ _ _ _ _ _ _ _ _ _ _ _ _).mono fun e w' ⟨he, hb⟩ => ⟨_, _, _, _, _, _, _, _, _, _, _, _, _, _, he, rfl, hb⟩

theorem good_any (k : Nat) (h1 : 1 ≤ k) (h8 : k ≤ 8) (h2 : k ≠ 2) (n : Int) (re im : Nat) (s : ByteArray) (a b c : Int) (A1 A2 : Option Addr) (n1 c1 n2 c2 : Nat) (w : World) :
    Calls Tryd.prog (goodId k) #[.agg #[.int .i64 k, .int .i64 n, .complex .f64 re im, .string s, .int .i64 a, .int .u32 b, .int .u64 c, .slice A1 n1 c1, .slice A2 n2 c2]] w (Ret (.bool (goodF k n re im s a b c n1 n2)) w) := by
  rcases kind_cases h1 h8 with rfl | rfl | rfl | rfl | rfl | rfl | rfl | rfl
  · exact number_any _ _ _ _ _ _ _ _ _ _ _ _ _ _ _ (by decide)
  · exact absurd rfl h2
  · exact nameGood_any _ _ _ _ _ _ _ _ _ _ _ _ _ _ _
  · exact named_any _ _ _ _ _ _ _ _ _ _ _ _ _ _ _
  · exact named_any _ _ _ _ _ _ _ _ _ _ _ _ _ _ _
  · exact anyGood_any _ _ _ _ _ _ _ _ _ _ _ _ _ _ _
  · exact anyGood_any _ _ _ _ _ _ _ _ _ _ _ _ _ _ _
  · exact anyGood_any _ _ _ _ _ _ _ _ _ _ _ _ _ _ _

end Go.Proofs.YtpffmndfanknaaaDoor
