/- A match: the words. -/
import Derived.Test.YtgahfmnkkaacgaaFits
import Derived.Test.YtgahfmnkkaacgaaFitL
import Derived.Maps.RangeRun
namespace Go.Proofs.Ytgahfmnkkaacgaa
set_option linter.unusedVariables false
set_option linter.unusedSimpArgs false
open Go.RowKit

theorem map_lfT (l : List (ByteArray × Int)) : (l.map fun p => lfT (.var p.1)) = (l.map fun p => Lf.var p.1).map lfT := by simp
theorem map_intT (l : List (ByteArray × Int)) : (l.map fun p => intT p.2) = (l.map (·.2)).map intT := by simp

theorem node_at {w : World} {B : Nat} (k : Int) (ts : List LT) (A : Option Addr) (c : Nat) (P : Option Addr) (cP : Nat) (n : Nat) (hn : ts.length = n) (hl : n ≤ 256) (h : LT.ats w B ts P) :
    LT.at w B (.mk k 0 0 0 ⟨#[]⟩ 0 0 0 [] ts) (tcells k 0 0 0 ⟨#[]⟩ 0 0 0 A 0 c P n cP) := by
  subst hn
  unfold LT.at
  exact ⟨A, c, P, cP, rfl, ⟨by simp, .inl rfl⟩, by omega, h⟩

theorem mapAt_nil {w : World} {b : Nat} (h : MapAt w b []) : w.heap[b]? = some (.map #[] 0) := by
  obtain ⟨es, hb, he, _⟩ := h
  have : es = #[] := by
    cases es with
    | mk l => cases l with
      | nil => rfl
      | cons a r => simp at he
  subst this
  exact hb

theorem mapAt_one {w : World} {b : Nat} {k : ByteArray} {v : Value} (h : MapAt w b [(k, v)]) : w.heap[b]? = some (.map #[⟨.string k, v, 0⟩] 1) := by
  obtain ⟨es, hb, he, hborn⟩ := h
  obtain ⟨l⟩ := es
  match l, he with
  | [e], he =>
    have h0 := hborn 0 e rfl
    obtain ⟨ek, ev, eb⟩ := e
    simp only [List.map_cons, List.map_nil, List.cons.injEq, Prod.mk.injEq, and_true] at he
    obtain ⟨rfl, rfl⟩ := he
    simp only at h0
    subst h0
    exact hb
  | _ :: _ :: _, he => simp at he

/-- Nothing is left in a map that is ranged over. -/
theorem next_done {P : Program} {w : World} {r bm since c0 clock : Nat} {seen : Array Nat} {es : Array MapEntry} (hr : w.heap[r]? = some (.mapIter (some bm) since seen c0)) (hb : w.heap[bm]? = some (.map es clock))
    (hold : ∀ x ∈ es.toList, x.born < since) (hsc : since ≤ c0) (hl : leftOf es seen = #[]) (ty : TypeId) : (Instr.next (.pointer (some ⟨r, 0, none⟩)) false ty).run P w = .ok (.tuple #[.bool false]) w := by
  rcases run_next_at (P := P) w ty r bm since c0 seen es clock hr hb hold hsc with ⟨_, h⟩ | ⟨e, he, _⟩
  · exact h
  · rw [hl] at he
    simp at he

/-- The only entry of a map that is ranged over comes out. -/
theorem next_one {P : Program} {w : World} {r bm : Nat} {k v : Value} (hr : w.heap[r]? = some (.mapIter (some bm) 1 #[] 1)) (hb : w.heap[bm]? = some (.map #[⟨k, v, 0⟩] 1)) :
    ∃ w2 : World, (∀ ty, (Instr.next (.pointer (some ⟨r, 0, none⟩)) false ty).run P w = .ok (.tuple #[.bool true, k, v]) w2) ∧ w2.heap[r]? = some (.mapIter (some bm) 1 #[0] 1) ∧ (∀ i, i ≠ r → w2.heap[i]? = w.heap[i]?) ∧ w2.heap.size = w.heap.size ∧ w2.os = w.os ∧ w2.tape = w.tape ∧ w2.output = w.output := by
  refine ⟨Go.ChangeMaps.setBlock w r (.mapIter (some bm) 1 #[0] 1), fun ty => ?_, ?_, ?_, ?_, rfl, rfl, rfl⟩
  · have hs := run_setObj_at (P := P) hr (.mapIter (some bm) 1 #[0] 1)
    have ht : (!(#[] : Array Nat).isEmpty && !(#[⟨k, v, 0⟩] : Array MapEntry).isEmpty && (#[⟨k, v, 0⟩] : Array MapEntry).all (fun x => decide (x.born ≥ 1))) = false := rfl
    simp [Instr.next, getObj, Sem.run_bind, Sem.run, hr, hb, Result.andThen, choose, Question.forced, hs]
  · have hlt : r < w.heap.size := (Array.getElem?_eq_some_iff.1 hr).1
    simp [Go.ChangeMaps.setBlock, hlt]
  · intro i hi
    simp [Go.ChangeMaps.setBlock, Array.getElem?_setIfInBounds, Ne.symm hi]
  · simp [Go.ChangeMaps.setBlock]

theorem run_mlen {P : Program} {w : World} {b : Nat} {l : List (ByteArray × Value)} {t kt e : TypeId} (ht : P.underlying t = some (.map kt e)) (h : MapAt w b l) (ty : TypeId) :
    (Builtin.len_ #[t] ty #[.map (some b)]).run P w = .ok (.int .i64 l.length) w := by
  obtain ⟨es, hb, hl, _⟩ := h
  have hs : es.size = l.length := by
    have := congrArg List.length hl
    simpa using this
  simp [Builtin.len_, run_underlying ht, MapKept.run_getObj_map hb, goInt, Result.andThen, hs]

theorem infoBind : (Try.prog.info? 36).map (fun i => (i.zero, i.size, i.bytes)) = some (some (.agg #[.string ⟨#[]⟩, .int .i64 0, .int .i64 0, .complex .f64 0 0, .string ⟨#[]⟩, .int .i64 0, .int .u32 0, .int .u64 0, .slice none 0 0, .slice none 0 0]), 10, 136) := by kernel_rfl

/-- A bound name, cell by cell; several of them. -/
def bcells (e : ByteArray × Int × SL) : List Value := .string e.1 :: icells e.2.1 e.2.2
def brow : List (ByteArray × Int × SL) → List Value
  | [] => []
  | e :: r => bcells e ++ brow r

theorem brow_len : ∀ l : List (ByteArray × Int × SL), (brow l).length = l.length * 10
  | [] => rfl
  | e :: r => by simp [brow, brow_len r, bcells]; omega
theorem brow_app : ∀ a b : List (ByteArray × Int × SL), brow (a ++ b) = brow a ++ brow b
  | [], b => rfl
  | e :: a, b => by simp [brow, brow_app a b]

/-- What comes of a match. -/
def MatchR (w : World) (l : List (ByteArray × Int)) (pre : List Value) (kn : Nat) (e : Ending) (w' : World) : Prop :=
  ∃ ps : List Pr, ps.map (fun p => (p.s, p.x)) = l ∧ Below w.heap.size w w' ∧
    (((fitS ps []).1 = false ∧ e = .returned (.tuple #[.slice none 0 0, .bool false, .int .i64 0])) ∨
     ((fitS ps []).1 = true ∧ 64 < kn + (fitS ps []).2.length ∧ e = .returned (.tuple #[.slice none 0 0, .bool false, .int .i64 52])) ∨
     ((fitS ps []).1 = true ∧ kn + (fitS ps []).2.length ≤ 64 ∧ ∃ v ents, ents.map (fun e => (e.1, e.2.1)) = (fitS ps []).2.map (fun e => (e.1, e.2.1)) ∧ e = .returned (.tuple #[v, .bool true, .int .i64 0]) ∧
       ∃ pre', (pre = [] → pre' = []) ∧ pre'.length = kn * 10 ∧ w'.ownsRow w.heap.size 36 10 v (kn + ents.length) (pre' ++ brow ents)))

end Go.Proofs.Ytgahfmnkkaacgaa
