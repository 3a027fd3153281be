/- A map with string keys, by the list of its entries in the order in which they were laid. -/
import Derived.Test.YtpffmndfanknaaaDoorApp
import Derived.Maps.OwnOps
import Derived.Maps.OwnSet
import Derived.Deep.RegionLaw
import Derived.MapKept
import Derived.Deep.WholeRow
namespace Go.Proofs.YtpffmndfanknaaaDoor
set_option linter.unusedVariables false
set_option linter.unusedSimpArgs false
open Go.RowKit

/-- Block b is a map of these entries, none of which was ever struck. -/
def MapAt (w : World) (b : Nat) (l : List (ByteArray × Value)) : Prop :=
  ∃ es : Array MapEntry, w.heap[b]? = some (.map es es.size) ∧ es.toList.map (fun e => (e.key, e.val)) = l.map (fun p => (Value.string p.1, p.2)) ∧ ∀ (i : Nat) (e : MapEntry), es[i]? = some e → e.born = i

def mlook : List (ByteArray × Value) → ByteArray → Option Value
  | [], _ => none
  | p :: r, k => if k = p.1 then some p.2 else mlook r k

theorem findNow_string (k : ByteArray) : ∀ (es : List MapEntry) (l : List (ByteArray × Value)) (i : Nat), es.map (fun e => (e.key, e.val)) = l.map (fun p => (Value.string p.1, p.2)) →
    ∃ r, Instr.findNow .string (.string k) es i = some r ∧ r.map (·.2) = mlook l k
  | [], [], i, _ => ⟨none, rfl, rfl⟩
  | [], p :: r, i, h => by simp at h
  | e :: es, [], i, h => by simp at h
  | e :: es, p :: r, i, h => by
    simp only [List.map_cons, List.cons.injEq, Prod.mk.injEq] at h
    obtain ⟨⟨hk, hv⟩, hr⟩ := h
    obtain ⟨q, hq, hm⟩ := findNow_string k es r (i + 1) hr
    unfold Instr.findNow mlook
    rw [hk]
    by_cases hkp : k = p.1
    · subst hkp
      have : (p.1 == p.1) = true := (MapKept.bytes_beq _ _).2 rfl
      refine ⟨some (i, e.val), by simp [Instr.sameNow, this], by simp [hv]⟩
    · refine ⟨q, ?_, by rw [if_neg hkp]; exact hm⟩
      have : (k == p.1) = false := by
        cases h : (k == p.1) with
        | false => rfl
        | true => exact absurd ((MapKept.bytes_beq _ _).1 h) hkp
      simp [Instr.sameNow, this, hq]

theorem MapAt.lt {w : World} {b : Nat} {l : List (ByteArray × Value)} (h : MapAt w b l) : b < w.heap.size := by
  obtain ⟨es, hb, _⟩ := h
  rcases Nat.lt_or_ge b w.heap.size with h' | h'
  · exact h'
  · simp [Array.getElem?_eq_none h'] at hb

theorem MapAt.stays {w w' : World} {b : Nat} {l : List (ByteArray × Value)} (h : MapAt w b l) (hb : w'.heap[b]? = w.heap[b]?) : MapAt w' b l := by
  obtain ⟨es, he, hl⟩ := h
  exact ⟨es, hb.trans he, hl⟩

theorem MapAt.alloc {w : World} {b : Nat} {l : List (ByteArray × Value)} (h : MapAt w b l) (o : Obj) : MapAt (w.alloc o) b l := h.stays (Below.heap_alloc w o b h.lt)
theorem MapAt.drew {w : World} {b : Nat} {l : List (ByteArray × Value)} (h : MapAt w b l) : MapAt w.drew b l := h
theorem MapAt.below {w w' : World} {b B : Nat} {l : List (ByteArray × Value)} (h : MapAt w b l) (hb : Below B w w') (hB : b < B) : MapAt w' b l := h.stays (hb.block b hB)
theorem MapAt.setCell {w : World} {b : Nat} {l : List (ByteArray × Value)} (h : MapAt w b l) (a : Addr) (v : Value) : MapAt (w.setCell a v) b l := by
  obtain ⟨es, he, hl⟩ := h
  refine ⟨es, ?_, hl⟩
  simp only [World.setCell, Array.getElem?_modify, he]
  split <;> rfl
theorem MapAt.setRow {w : World} {b : Nat} {l : List (ByteArray × Value)} (h : MapAt w b l) (g : Nat) (v : Array Value) : MapAt (w.setRow g v) b l := by
  obtain ⟨es, he, hl⟩ := h
  refine ⟨es, ?_, hl⟩
  simp only [World.setRow, Array.getElem?_modify, he]
  split <;> rfl
theorem MapAt.new (w : World) : MapAt (w.alloc (.map #[] 0)) w.heap.size [] := ⟨#[], heap_alloc_last w _, rfl, by simp⟩

@[go_sem] theorem MapAt.drew_iff {w : World} {b : Nat} {l : List (ByteArray × Value)} : MapAt w.drew b l ↔ MapAt w b l := Iff.rfl
@[go_sem] theorem MapAt.alloc_iff {w : World} {b : Nat} {l : List (ByteArray × Value)} {o : Obj} (hb : b < w.heap.size) : MapAt (w.alloc o) b l ↔ MapAt w b l := by
  unfold MapAt
  rw [Below.heap_alloc w o b hb]
theorem setCell_inv (w : World) (a : Addr) (v : Value) (b : Nat) (es : Array MapEntry) (c : Nat) : (w.setCell a v).heap[b]? = some (.map es c) ↔ w.heap[b]? = some (.map es c) := by
  simp only [World.setCell, Array.getElem?_modify]
  split
  · cases h : w.heap[b]? with
    | none => simp
    | some o => cases o <;> simp
  · exact Iff.rfl
@[go_sem] theorem MapAt.setCell_iff {w : World} {b : Nat} {l : List (ByteArray × Value)} {a : Addr} {v : Value} : MapAt (w.setCell a v) b l ↔ MapAt w b l := by
  unfold MapAt
  constructor
  · rintro ⟨es, h, r⟩
    exact ⟨es, (setCell_inv w a v b es _).1 h, r⟩
  · rintro ⟨es, h, r⟩
    exact ⟨es, (setCell_inv w a v b es _).2 h, r⟩

/-- An entry more in a map. -/
def World.mput (w : World) (b : Nat) (k v : Value) : World :=
  { w with heap := w.heap.modify b fun
      | .map es clock => .map (es.push { key := k, val := v, born := clock }) (clock + 1)
      | o => o }

@[go_sem] theorem mput_size (w : World) (b : Nat) (k v : Value) : (World.mput w b k v).heap.size = w.heap.size := by simp [World.mput]
theorem mput_other (w : World) (b : Nat) (k v : Value) (c : Nat) (h : c ≠ b) : (World.mput w b k v).heap[c]? = w.heap[c]? := by
  simp [World.mput, Array.getElem?_modify, Ne.symm h]
theorem mput_at (w : World) (b : Nat) (k v : Value) : (World.mput w b k v).heap[b]? = (w.heap[b]?).map fun
      | .map es clock => .map (es.push { key := k, val := v, born := clock }) (clock + 1)
      | o => o := by
  simp [World.mput, Array.getElem?_modify]
@[go_sem] theorem mput_cell (w : World) (b : Nat) (k v : Value) (a : Addr) : (World.mput w b k v).cell? a = w.cell? a := by
  by_cases hb : a.block = b
  · subst hb
    unfold World.cell?
    rw [mput_at]
    cases h : w.heap[a.block]? with
    | none => rfl
    | some o => cases o <;> rfl
  · exact World.cell?_of_block (mput_other w b k v _ hb)
@[go_sem] theorem mput_frozen (w : World) (b : Nat) (k v : Value) (a : Addr) : (World.mput w b k v).frozen? a = w.frozen? a := by
  by_cases hb : a.block = b
  · subst hb
    unfold World.frozen?
    rw [mput_at]
    cases h : w.heap[a.block]? with
    | none => rfl
    | some o => cases o <;> rfl
  · exact World.frozen?_of_block (mput_other w b k v _ hb)
theorem below_mput {B : Nat} (w : World) {b : Nat} (k v : Value) (hB : B ≤ b) : Below B w (World.mput w b k v) :=
  ⟨rfl, rfl, rfl, by rw [mput_size]; exact Nat.le_refl _, fun c hc => mput_other w b k v c (by omega)⟩

theorem MapAt.put {w : World} {b : Nat} {l : List (ByteArray × Value)} (h : MapAt w b l) (k : ByteArray) (v : Value) : MapAt (World.mput w b (.string k) v) b (l ++ [(k, v)]) := by
  obtain ⟨es, he, hl, hb⟩ := h
  refine ⟨es.push { key := .string k, val := v, born := es.size }, ?_, ?_, ?_⟩
  · simp [World.mput, Array.getElem?_modify, he]
  · simp [hl]
  · intro i e hi
    rw [Array.getElem?_push] at hi
    split at hi
    · rename_i h
      simp only [Option.some.injEq] at hi
      rw [← hi, h]
    · exact hb i e hi

/-- 'm[k]'. -/
theorem run_look {P : Program} {w : World} {b : Nat} {l : List (ByteArray × Value)} {t kt e : TypeId} {z : Value} (ht : P.underlying t = some (.map kt e)) (hk : P.underlying kt = some .string) (hz : (zeroValue e).run P w = .ok z w)
    (h : MapAt w b l) (k : ByteArray) (ok : Bool) :
    (Instr.lookup t (.map (some b)) (.string k) ok).run P w = .ok (if ok then .tuple #[(mlook l k).getD z, .bool (mlook l k).isSome] else (mlook l k).getD z) w := by
  obtain ⟨es, he, hl, _⟩ := h
  obtain ⟨r, hr, hm⟩ := findNow_string k es.toList l 0 hl
  have hck : (Instr.checkKey es.isEmpty 10000 kt (.string k)).run P w = .ok () w := by
    unfold Instr.checkKey
    simp [run_underlying hk]
  have hfk : (Instr.findKey kt (.string k) es.toList).run P w = .ok r w := by
    unfold Instr.findKey
    simp [run_underlying hk, hr]
  unfold Instr.lookup
  cases r with
  | none =>
    have hn : mlook l k = none := by simpa using hm.symm
    cases ok <;> simp [run_underlying ht, he, hck, hfk, hz, hn, getObj, Sem.run, Result.andThen]
  | some p =>
    have hn : mlook l k = some p.2 := by simpa using hm.symm
    cases ok <;> simp [run_underlying ht, he, hck, hfk, hn, getObj, Sem.run, Result.andThen]

/-- 'm[k] = v', k not being there. -/
theorem run_put {P : Program} {w : World} {b : Nat} {l : List (ByteArray × Value)} {t kt e : TypeId} (ht : P.underlying t = some (.map kt e)) (hk : P.underlying kt = some .string)
    (h : MapAt w b l) (k : ByteArray) (hn : mlook l k = none) (v : Value) :
    (Instr.mapUpdate t (.map (some b)) (.string k) v).run P w = .ok () (World.mput w b (.string k) v) := by
  obtain ⟨es, he, hl, _⟩ := h
  obtain ⟨r, hr, hm⟩ := findNow_string k es.toList l 0 hl
  have hck : (Instr.checkKey false 10000 kt (.string k)).run P w = .ok () w := by
    unfold Instr.checkKey
    simp [run_underlying hk]
  have hfk : (Instr.findKey kt (.string k) es.toList).run P w = .ok r w := by
    unfold Instr.findKey
    simp [run_underlying hk, hr]
  have hr0 : r = none := by
    rw [hn] at hm
    simpa using hm
  subst hr0
  have hw : { w with heap := w.heap.setIfInBounds b (.map (es.push { key := Value.string k, val := v, born := es.size }) (es.size + 1)) } = World.mput w b (.string k) v := by
    unfold World.mput
    congr 1
    apply Array.ext_getElem?
    intro i
    rw [Array.getElem?_modify, Array.getElem?_setIfInBounds]
    by_cases hi : b = i
    · subst hi
      have hlt : b < w.heap.size := (Array.getElem?_eq_some_iff.1 he).1
      rw [Array.getElem?_eq_getElem hlt] at he
      simp only [Option.some.injEq] at he
      simp [hlt, he]
    · simp [hi]
  unfold Instr.mapUpdate
  simp [run_underlying ht, he, hck, hfk, getObj, setObj, Sem.run, Result.andThen, hw]

/-- 'append(s, x...)' as a step of a region that draws, s owned by the call. -/
theorem step_app {P : Program} {ops : Array Oper} {o : Oper} {a : Act} {w : World} {K : Act → World → Prop} {Q : Exit → Act → World → Prop} {E : Prop} (hg : o.guard = none) (s x : Operand) (t : TypeId)
    (ho : o.op = .call { callee := .builtin .append, args := #[s, x], argTypes := #[t, t] })
    (base : Nat) (e : TypeId) (i : TypeInfo) (z : Value) (size bytes : Nat) (ht : P.underlying t = some (.slice e)) (hi : P.info? e = some i) (hz : i.zero = some z)
    (hsize : i.size = size) (hby : i.bytes = bytes) (hzs : z.cells.size = size) (hsz : 0 < size)
    (v : Value) (n : Nat) (xs : List Value) (hs : a.eval s = v) (hown : w.ownsRow base e size v n xs)
    (ad : Addr) (m c : Nat) (news : List Value) (hx : a.eval x = .slice (some ad) m c) (hl : news.length = m * size) (hnews : ∀ j u, news[j]? = some u → w.cell? (ad.add j) = some u) (h1 : ∀ u ∈ news, u.oneCell' = true)
    (h63 : n + m ≤ maxLen) (hbytes : (n + m) * bytes ≤ 140737488355328) (hbase : base ≤ w.heap.size)
    (h : ∀ v' w', w'.ownsRow base e size v' (n + m) (xs ++ news) → w.grownBy w' v.ownBlock → K (a.put o.dst v') w') :
    if Region.wanted o (yielded ops a.tmps) = true then Oper.wp P o a w K Q else E := by
  have hw : Region.wanted o (yielded ops a.tmps) = true := by simp [Region.wanted, hg]
  rw [if_pos hw]
  exact wp_append_own w s x t ho base e i z size bytes ht hi hz hsize hby hzs hsz v n xs hs hown ad m c news hx hl hnews h1 h63 hbytes hbase (fun v' w' h2 h3 _ => h v' w' h2 h3)

theorem own_setCell {w : World} {base : Nat} {e : TypeId} {size : Nat} {v : Value} {n : Nat} {xs : List Value} (h : w.ownsRow base e size v n xs) {a : Addr} (ha : v.ownBlock ≠ some a.block) (u : Value) : (w.setCell a u).ownsRow base e size v n xs := by
  obtain ⟨h1, h2⟩ := h
  refine ⟨h1, ?_⟩
  rcases h2 with h2 | ⟨g, cap, cur, hv, hg, hh, r⟩
  · exact Or.inl h2
  · refine Or.inr ⟨g, cap, cur, hv, hg, ?_, r⟩
    have hne : g ≠ a.block := fun e => ha (by rw [hv]; simp [Value.ownBlock, e])
    rw [Below.heap_setCell _ _ _ _ hne]; exact hh
theorem own_mput {w : World} {base : Nat} {e : TypeId} {size : Nat} {v : Value} {n : Nat} {xs : List Value} (h : w.ownsRow base e size v n xs) (b : Nat) (k u : Value) : (World.mput w b k u).ownsRow base e size v n xs := by
  obtain ⟨h1, h2⟩ := h
  refine ⟨h1, ?_⟩
  rcases h2 with h2 | ⟨g, cap, cur, hv, hg, hh, r⟩
  · exact Or.inl h2
  · refine Or.inr ⟨g, cap, cur, hv, hg, ?_, r⟩
    by_cases hb : g = b
    · subst hb
      rw [mput_at, hh]; rfl
    · rw [mput_other _ _ _ _ _ hb]; exact hh
theorem own_below {w w' : World} {base B : Nat} {e : TypeId} {size : Nat} {v : Value} {n : Nat} {xs : List Value} (h : w.ownsRow base e size v n xs) (hb : Below B w w') (hB : w.heap.size ≤ B) : w'.ownsRow base e size v n xs := by
  obtain ⟨h1, h2⟩ := h
  refine ⟨h1, ?_⟩
  rcases h2 with h2 | ⟨g, cap, cur, hv, hg, hh, r⟩
  · exact Or.inl h2
  · have hlt : g < w.heap.size := (Array.getElem?_eq_some_iff.1 hh).1
    exact Or.inr ⟨g, cap, cur, hv, hg, by rw [hb.block g (by omega)]; exact hh, r⟩

end Go.Proofs.YtpffmndfanknaaaDoor
