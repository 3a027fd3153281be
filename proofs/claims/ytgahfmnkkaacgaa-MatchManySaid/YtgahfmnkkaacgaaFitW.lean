/- Whether ints fit a tuple or list of variables: the words. -/
import Derived.Test.YtgahfmnkkaacgaaTable
import Derived.StillTailTactics
import Derived.Deep.LoopGhost
import Derived.Deep.RegionLaw
import Derived.Deep.MidRow
import Derived.WalkSmall
import Derived.Deep.RegionHeld3
import Derived.Deep.AppendLies
import Derived.Great.BuildSlice
namespace Go.Proofs.Ytgahfmnkkaacgaa
set_option linter.unusedVariables false
set_option linter.unusedSimpArgs false
open Go.RowKit

/-- What two empty slices in a struct hold besides. -/
abbrev SL := Option Addr × Nat × Option Addr × Nat
abbrev vcells (s : ByteArray) (q : SL) : List Value := tcells 9 0 0 0 s 0 0 0 q.1 0 q.2.1 q.2.2.1 0 q.2.2.2
abbrev icells (x : Int) (q : SL) : List Value := tcells 1 x 0 0 ⟨#[]⟩ 0 0 0 q.1 0 q.2.1 q.2.2.1 0 q.2.2.2

/-- A variable and an int, as they lie in memory. -/
structure Pr where
  s : ByteArray
  q : SL
  x : Int
  r : SL

def Pr.cells (p : Pr) : List Value := vcells p.s p.q ++ icells p.x p.r
/-- The cells of pairs that lie in a stack, the first one on top. -/
def stk : List Pr → List Value
  | [] => []
  | p :: l => stk l ++ p.cells

theorem stk_len : ∀ l : List Pr, (stk l).length = l.length * 18
  | [] => rfl
  | p :: l => by simp [stk, stk_len l, Pr.cells]; omega

theorem stk_top (p : Pr) (l : List Pr) (j : Nat) (v : Value) (hj : p.cells[j]? = some v) : (stk (p :: l))[l.length * 18 + j]? = some v := by
  unfold stk
  rw [List.getElem?_append_right (by rw [stk_len]; omega), stk_len]
  simpa using hj

def findE : List (ByteArray × Int × SL) → ByteArray → Option (Int × SL)
  | [], _ => none
  | e :: r, s => if s = e.1 then some e.2 else findE r s
def entV (e : ByteArray × Int × SL) : ByteArray × Value := (e.1, .agg (icells e.2.1 e.2.2).toArray)

theorem mlook_app (s : ByteArray) : ∀ a b : List (ByteArray × Value), mlook (a ++ b) s = match mlook a s with | some v => some v | none => mlook b s
  | [], b => rfl
  | p :: a, b => by
    simp only [List.cons_append, mlook]
    by_cases h : s = p.1
    · simp [h]
    · simp only [h, if_false]; exact mlook_app s a b
theorem mlook_ents (s : ByteArray) : ∀ l : List (ByteArray × Int × SL), mlook (l.map entV) s = (findE l s).map fun e => Value.agg (icells e.1 e.2).toArray
  | [] => rfl
  | e :: r => by
    simp only [List.map_cons, mlook, findE, entV]
    by_cases h : s = e.1
    · simp [h]
    · simp only [h, if_false]; exact mlook_ents s r
theorem mlook_both {base : List (ByteArray × Value)} {s : ByteArray} (hb : mlook base s = none) (l : List (ByteArray × Int × SL)) : mlook (base ++ l.map entV) s = (findE l s).map fun e => Value.agg (icells e.1 e.2).toArray := by
  rw [mlook_app, hb]; exact mlook_ents s l

/-- Whether pairs fit, and what is bound then. -/
def fitS : List Pr → List (ByteArray × Int × SL) → Bool × List (ByteArray × Int × SL)
  | [], l => (true, l)
  | p :: r, l => match findE l p.s with
    | none => fitS r (l ++ [(p.s, p.x, p.r)])
    | some e => if e.1 = p.x then fitS r l else (false, l)

/-- Variables and ints lie in memory, pair by pair. -/
def PairsAt (w : World) (B : Nat) (ps : List Pr) (P T : Option Addr) : Prop :=
  ps = [] ∨ ∃ pb po tb to_, P = some ⟨pb, po, none⟩ ∧ T = some ⟨tb, to_, none⟩ ∧ pb < B ∧ tb < B ∧
    ∀ i p, ps[i]? = some p → (∀ j v, (vcells p.s p.q)[j]? = some v → w.cell? ⟨pb, po + i * 9 + j, none⟩ = some v) ∧ (∀ j v, (icells p.x p.r)[j]? = some v → w.cell? ⟨tb, to_ + i * 9 + j, none⟩ = some v)

theorem pairs_of {w : World} {B : Nat} : ∀ (l : List (ByteArray × Int)) (P T : Option Addr), LT.ats w B (l.map fun p => lfT (.var p.1)) P → LT.ats w B (l.map fun p => intT p.2) T →
    ∃ ps : List Pr, ps.map (fun p => (p.s, p.x)) = l ∧ PairsAt w B ps P T
  | [], P, T, _, _ => ⟨[], rfl, .inl rfl⟩
  | a :: l, P, T, hP, hT => by
    unfold List.map LT.ats at hP hT
    obtain ⟨pb, po, vs, rfl, hpb, _, hc, ht, hr⟩ := hP
    obtain ⟨tb, to_, us, rfl, htb, _, hd, hu, hs⟩ := hT
    obtain ⟨A1, c1, A2, c2, rfl⟩ := nils_at ht
    have hus : ∃ A1 c1 A2 c2, us = tcells 1 a.2 0 0 ⟨#[]⟩ 0 0 0 A1 0 c1 A2 0 c2 := by
      unfold intT LT.at at hu
      obtain ⟨A1, c1, A2, c2, hv, _⟩ := hu
      exact ⟨A1, c1, A2, c2, hv⟩
    obtain ⟨B1, d1, B2, d2, rfl⟩ := hus
    obtain ⟨ps, hps, hat⟩ := pairs_of l _ _ hr hs
    refine ⟨⟨a.1, (A1, c1, A2, c2), a.2, (B1, d1, B2, d2)⟩ :: ps, by simp [hps], .inr ⟨pb, po, tb, to_, rfl, rfl, hpb, htb, fun i p hi => ?_⟩⟩
    cases i with
    | zero =>
      simp only [List.getElem?_cons_zero, Option.some.injEq] at hi
      subst hi
      exact ⟨fun j v hv => by have := hc j v hv; simpa using this, fun j v hv => by have := hd j v hv; simpa using this⟩
    | succ i =>
      simp only [List.getElem?_cons_succ] at hi
      rcases hat with rfl | ⟨pb', po', tb', to', hp', ht', _, _, hall⟩
      · simp at hi
      · simp only [Option.some.injEq, Addr.mk.injEq] at hp' ht'
        obtain ⟨rfl, rfl, _⟩ := hp'
        obtain ⟨rfl, rfl, _⟩ := ht'
        obtain ⟨h1, h2⟩ := hall i p hi
        refine ⟨fun j v hv => ?_, fun j v hv => ?_⟩
        · rw [← h1 j v hv]; congr 2; omega
        · rw [← h2 j v hv]; congr 2; omega

theorem pairs_stay {w w' : World} {B : Nat} (h : ∀ a : Addr, a.block < B → w'.cell? a = w.cell? a) {ps : List Pr} {P T : Option Addr} (hp : PairsAt w B ps P T) : PairsAt w' B ps P T := by
  rcases hp with hp | ⟨pb, po, tb, to_, h1, h2, h3, h4, h5⟩
  · exact .inl hp
  · exact .inr ⟨pb, po, tb, to_, h1, h2, h3, h4, fun i p hi => ⟨fun j v hv => by rw [h _ h3]; exact (h5 i p hi).1 j v hv, fun j v hv => by rw [h _ h4]; exact (h5 i p hi).2 j v hv⟩⟩

theorem stk_head : ∀ (l : List Pr), l ≠ [] → (stk l)[0]? = some (.int .i64 9)
  | [], h => absurd rfl h
  | p :: l, _ => by
    by_cases hl : l = []
    · subst hl; rfl
    · unfold stk
      rw [List.getElem?_append_left (by rw [stk_len]; have := List.length_pos_iff.2 hl; omega)]
      exact stk_head l hl

theorem own_ne_at {w : World} {base : Nat} {e : TypeId} {size : Nat} {v : Value} {n : Nat} {xs : List Value} (h : w.ownsRow base e size v n xs) {b : Nat} {C : Array Value} (hb : w.heap[b]? = some (.cells C e (0, 0))) {x y : Value} (hx : xs[0]? = some x) (hy : C.toList[0]? = some y) (hxy : x ≠ y) : v.ownBlock ≠ some b := by
  intro hv
  rcases h.2 with ⟨rfl, _⟩ | ⟨g, cap, cur, rfl, _, hh, _, _, _, htake⟩
  · simp [Value.ownBlock] at hv
  · simp only [Value.ownBlock, Option.some.injEq] at hv
    subst hv
    rw [hh] at hb
    simp only [Option.some.injEq, Obj.cells.injEq] at hb
    obtain ⟨rfl, _⟩ := hb
    rw [← htake, List.getElem?_take] at hx
    split at hx
    · rw [hy] at hx
      exact hxy (Option.some.inj hx).symm
    · cases hx

theorem heap_alloc_three (w : World) (a b c : Obj) : (((w.alloc a).alloc b).alloc c).heap[w.heap.size + 1 + 1]? = some c := by
  have := heap_alloc_last ((w.alloc a).alloc b) c
  simpa using this

/-- A row that was made last. -/
theorem own_new {w : World} {base : Nat} {e : TypeId} {size : Nat} {g n : Nat} {C : Array Value} {xs : List Value} (hl : xs.length = n * size) (hb : base ≤ g) (hg : w.heap[g]? = some (.cells C e (0, 0))) (hc : C.size = n * size) (hx : C.toList = xs) (hn : n ≤ maxLen) :
    w.ownsRow base e size (.slice (some ⟨g, 0, none⟩) n n) n xs :=
  ⟨hl, .inr ⟨g, n, C, rfl, hb, hg, Nat.le_refl _, hn, hc, by rw [hx, ← hl]; exact List.take_length⟩⟩

theorem own_base {w : World} {base base' : Nat} {e : TypeId} {size : Nat} {v : Value} {n : Nat} {xs : List Value} (h : w.ownsRow base e size v n xs) (hb : base' ≤ base) : w.ownsRow base' e size v n xs := by
  obtain ⟨h1, h2⟩ := h
  refine ⟨h1, ?_⟩
  rcases h2 with h2 | ⟨g, cap, cur, hv, hg, r⟩
  · exact .inl h2
  · exact .inr ⟨g, cap, cur, hv, by omega, r⟩

theorem gb_alloc {w a : World} {r : Option Nat} (h : w.grownBy a r) (o : Obj) : w.grownBy (a.alloc o) r :=
  ⟨h.os, h.tape, h.output, by have := h.size; simp; omega, fun k hk hn => (Below.heap_alloc a o k (by have := h.size; omega)).trans (h.block k hk hn)⟩
theorem gb_drew {w a : World} {r : Option Nat} (h : w.grownBy a r) : w.grownBy a.drew r := ⟨h.os, h.tape, h.output, h.size, h.block⟩
theorem gb_mput {w a : World} {m : Nat} (h : w.grownBy a (some m)) (k v : Value) : w.grownBy (World.mput a m k v) (some m) :=
  ⟨h.os, h.tape, h.output, by rw [mput_size]; exact h.size, fun i hi hn => (mput_other a m k v i (fun e => hn (by rw [e]))).trans (h.block i hi hn)⟩
theorem gb_grown {w a b : World} {r row : Option Nat} (h : w.grownBy a r) (hg : a.grownBy b row) (hr : ∀ k, row = some k → w.heap.size ≤ k) : w.grownBy b r :=
  ⟨hg.os.trans h.os, hg.tape.trans h.tape, hg.output.trans h.output, Nat.le_trans h.size hg.size, fun i hi hn => (hg.block i (Nat.lt_of_lt_of_le hi h.size) (fun e => by have := hr i e.symm; omega)).trans (h.block i hi hn)⟩
theorem gb_below {w a b : World} {r : Option Nat} {B : Nat} (h : w.grownBy a r) (hb : Below B a b) (hB : w.heap.size ≤ B) : w.grownBy b r :=
  ⟨hb.os.trans h.os, hb.tape.trans h.tape, hb.output.trans h.output, Nat.le_trans h.size hb.size, fun i hi hn => (hb.block i (by omega)).trans (h.block i hi hn)⟩
theorem gb_to {w a : World} {m B : Nat} (h : w.grownBy a (some m)) (h1 : B ≤ m) (h2 : B ≤ w.heap.size) : Below B w a :=
  ⟨h.os, h.tape, h.output, h.size, fun i hi => h.block i (by omega) (fun e => by injection e; omega)⟩

/-- The stack holds the two terms. -/
def topC (K : Int) (A1 : Option Addr) (c1 : Nat) (P : Option Addr) (n cP : Nat) (B1 : Option Addr) (d1 : Nat) (T : Option Addr) (cT : Nat) : List Value :=
  tcells K 0 0 0 ⟨#[]⟩ 0 0 0 A1 0 c1 P n cP ++ tcells K 0 0 0 ⟨#[]⟩ 0 0 0 B1 0 d1 T n cT

/-- What a round's head knows where pairs are left. -/
structure FitSt (ps : List Pr) (mb : Nat) (base : List (ByteArray × Value)) (Lo Bs : Nat) (w wr : World) (v : Value) (rest : List Pr) (ents : List (ByteArray × Int × SL)) : Prop where
  sub : ∀ p ∈ rest, p ∈ ps
  len : rest.length ≤ 256
  own : wr.ownsRow Bs 70 18 v rest.length (stk rest)
  map : MapAt wr mb (base ++ ents.map entV)
  below : w.grownBy wr (some mb)
  fit : fitS rest ents = fitS ps []
  ok : ∀ e ∈ ents, intOk e.2.1

/-- What comes of it. -/
def FitR (w : World) (Lo mb : Nat) (base : List (ByteArray × Value)) (r : Bool × List (ByteArray × Int × SL)) (e : Ending) (w' : World) : Prop :=
  e = .returned (.bool r.1) ∧ w.grownBy w' (some mb) ∧ (r.1 = true → MapAt w' mb (base ++ r.2.map entV))

theorem findE_ok {ents : List (ByteArray × Int × SL)} (h : ∀ e ∈ ents, intOk e.2.1) {s : ByteArray} {e : Int × SL} (he : findE ents s = some e) : intOk e.1 := by
  induction ents with
  | nil => simp [findE] at he
  | cons a r ih =>
    unfold findE at he
    split at he
    · simp only [Option.some.injEq] at he
      rw [← he]; exact h a (List.mem_cons_self ..)
    · exact ih (fun e he => h e (List.mem_cons_of_mem _ he)) he

theorem infoPair : (Try.prog.info? 70).map (fun i => (i.zero, i.size, i.bytes)) = some (some (.agg #[.int .i64 0, .int .i64 0, .complex .f64 0 0, .string ⟨#[]⟩, .int .i64 0, .int .u32 0, .int .u64 0, .slice none 0 0, .slice none 0 0,
  .int .i64 0, .int .i64 0, .complex .f64 0 0, .string ⟨#[]⟩, .int .i64 0, .int .u32 0, .int .u64 0, .slice none 0 0, .slice none 0 0]), 18, 240) := by kernel_rfl

/-- A struct is read, cell by cell. -/
theorem load_to {P : Program} {ops : Array Oper} {rest : List Oper} {op : Oper} {a : Act} {w : World} {Q : Exit → Act → World → Prop} (hgd : op.guard = none) (ty : TypeId) (x : Operand) (ho : op.op = .load ty x) (dst : Option Tmp) (hdst : op.dst = dst)
    (b o : Nat) (hx : a.eval x = .pointer (some ⟨b, o, none⟩)) (cs : List Value) (d : TypeDesc) (hc : ∀ j v, cs[j]? = some v → w.cell? ⟨b, o + j, none⟩ = some v)
    (hu : P.underlying ty = some d) (hd : d.isRow = true) (hi : (P.info? ty).map (·.size) = some cs.length)
    (h : wpList P ops Q rest (a.put dst (.agg cs.toArray)) w) : wpList P ops Q (op :: rest) a w := by
  subst hdst
  exact wpList_load_mid hgd ty x ho b o hx cs d hc hu hd hi h

/-- A struct is laid into the box that was made last. -/
theorem store_new {P : Program} {ops : Array Oper} {rest : List Oper} {o : Oper} {a : Act} {Q : Exit → Act → World → Prop} (hgd : o.guard = none) (ty : TypeId) (x y : Operand) (ho : o.op = .store ty x y)
    (hd : o.dst = none) (w : World) (cells old : Array Value) (t : TypeId) (hx : a.eval x = .pointer (some ⟨w.heap.size, 0, none⟩)) (hy : a.eval y = .agg cells)
    (hi : (P.info? ty).map (·.size) = some cells.size) (hold : old.size = cells.size) (h1 : cells.all (·.oneCell') = true)
    (h : wpList P ops Q rest a (w.alloc (.cells cells t))) : wpList P ops Q (o :: rest) a (w.alloc (.cells old t)) :=
  wpList_store_rowTo hgd ty x y ho hd w.heap.size cells hx hy t old (heap_alloc_last w _) hi hold h1 (by rw [World.setRow_alloc_new]; exact h)

theorem row_cells {w : World} {g : Nat} {C : Array Value} {t : TypeId} {fr : Nat × Nat} (h : w.heap[g]? = some (.cells C t fr)) {o : Nat} {cs : List Value} (hcs : ∀ j v, cs[j]? = some v → C[o + j]? = some v) :
    ∀ j v, cs[j]? = some v → w.cell? ⟨g, o + j, none⟩ = some v := fun j v hv => by
  rw [cell_of_row w g (o + j) _ _ _ h]; exact hcs j v hv

end Go.Proofs.Ytgahfmnkkaacgaa
