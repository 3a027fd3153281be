/- Appending to a slice that the call owns, whatever is appended; terms one behind the other, cell by cell. -/
import Derived.Test.YtpffmndfanknaaaDoorLT
namespace Go.Proofs.YtpffmndfanknaaaDoor
set_option linter.unusedVariables false
set_option linter.unusedSimpArgs false
open Go.RowKit

theorem run_append_none_any {P : Program} {w : World} (base : Nat) (t ty e : TypeId) (i : TypeInfo) (size : Nat) (ht : P.underlying t = some (.slice e)) (hi : P.info? e = some i)
    (v : Value) (n c : Nat) (xs : List Value) (hown : w.ownsRow base e size v n xs) :
    (Builtin.append_ #[t, t] ty #[v, .slice none 0 c]).run P w = .ok v w := by
  rcases hown.2 with ⟨rfl, rfl⟩ | ⟨g, cap, cur, rfl, _, _, hnc, _⟩
  · simp [Builtin.append_, run_underlying ht, sizeOf, typeInfo, hi, Builtin.lenOf, Builtin.firstCells]
  · simp [Builtin.append_, run_underlying ht, sizeOf, typeInfo, hi, Builtin.lenOf, Builtin.firstCells, hnc, storeCells]

/-- 'append(s, x...)', s owned by the call, x nil or not. -/
theorem wpList_app {P : Program} {ops : Array Oper} {rest : List Oper} {o : Oper} {a : Act} {Q : Exit → Act → World → Prop} {w : World} (hgd : o.guard = none) (s x : Operand) (t : TypeId)
    (ho : o.op = .call { callee := .builtin .append, args := #[s, x], argTypes := #[t, t] })
    (base : Nat) (e : TypeId) (i : TypeInfo) (z : Value) (size bytes : Nat) (ht : P.underlying t = some (.slice e)) (hi : P.info? e = some i) (hz : i.zero = some z)
    (hsize : i.size = size) (hby : i.bytes = bytes) (hzs : z.cells.size = size) (hsz : 0 < size)
    (v : Value) (n : Nat) (xs : List Value) (hs : a.eval s = v) (hown : w.ownsRow base e size v n xs)
    (src : Option Addr) (m c : Nat) (news : List Value) (hx : a.eval x = .slice src m c) (hl : news.length = m * size)
    (hnews : m = 0 ∨ ∃ ad, src = some ad ∧ ∀ j u, news[j]? = some u → w.cell? (ad.add j) = some u) (h1 : ∀ u ∈ news, u.oneCell' = true)
    (h63 : n + m ≤ maxLen) (hbytes : (n + m) * bytes ≤ 140737488355328) (hbase : base ≤ w.heap.size)
    (h : ∀ v' w', w'.ownsRow base e size v' (n + m) (xs ++ news) → w.grownBy w' v.ownBlock → wpList P ops Q rest (a.put o.dst v') w') : wpList P ops Q (o :: rest) a w := by
  cases src with
  | some ad =>
    refine wpList_append_own w hgd s x t ho base e i z size bytes ht hi hz hsize hby hzs hsz v n xs hs hown ad m c news hx hl ?_ h1 h63 hbytes hbase (fun v' w' h2 h3 _ => h v' w' h2 h3)
    rcases hnews with rfl | ⟨ad', had, hc⟩
    · have : news = [] := List.eq_nil_of_length_eq_zero (by simpa using hl)
      subst this
      intro j u hu; simp at hu
    · cases had
      exact hc
  | none =>
    have hm : m = 0 := by
      rcases hnews with hm | ⟨ad, had, _⟩
      · exact hm
      · cases had
    subst hm
    have : news = [] := List.eq_nil_of_length_eq_zero (by simpa using hl)
    subst this
    refine wpList_plain hgd fun K hK => ?_
    have hrun := run_append_none_any (P := P) (w := w) base t o.type e i size ht hi v n c xs hown
    unfold Oper.wp
    simp [execOp, ho, resolve, invoke, builtin, hs, hx, hrun, Result.andThen]
    exact hK _ _ (by simpa using h v w (by simpa using hown) (World.grownBy.refl _ _))

/-- What is owned is a slice value of that length. -/
theorem own_shape {w : World} {base : Nat} {e : TypeId} {size : Nat} {v : Value} {n : Nat} {xs : List Value} (h : w.ownsRow base e size v n xs) :
    ∃ A cap, v = .slice A n cap ∧ (A = none → n = 0 ∧ cap = 0) ∧ ∀ ad, A = some ad → ∃ g, ad = ⟨g, 0, none⟩ ∧ base ≤ g ∧ g < w.heap.size ∧ ∀ j u, xs[j]? = some u → w.cell? ⟨g, j, none⟩ = some u := by
  rcases h.2 with ⟨hv, hn⟩ | ⟨g, cap, cur, hv, hb, hg, rest⟩
  · subst hn
    exact ⟨none, 0, hv, (fun _ => ⟨rfl, rfl⟩), (fun ad had => by cases had)⟩
  · refine ⟨some ⟨g, 0, none⟩, cap, hv, (fun h => by cases h), fun ad had => ⟨g, by injection had with e; exact e.symm, hb, ?_, ?_⟩⟩
    · rcases Nat.lt_or_ge g w.heap.size with h' | h'
      · exact h'
      · simp [Array.getElem?_eq_none h'] at hg
    · intro j u hu
      have := World.ownsRow.cells (g := g) h (by rw [hv]; rfl) j u hu
      rwa [Addr.add_lit, Nat.zero_add] at this

/-- Terms one behind the other, cell by cell: wherever the same cells lie, there are the same terms. -/
theorem ats_flat {w : World} {B : Nat} : ∀ (l : List LT) (p : Option Addr), LT.ats w B l p → ∃ news : List Value, news.length = l.length * 9 ∧ (∀ u ∈ news, u.oneCell' = true) ∧
    (l ≠ [] → ∃ blk off, p = some ⟨blk, off, none⟩ ∧ blk < B ∧ ∀ j u, news[j]? = some u → w.cell? ⟨blk, off + j, none⟩ = some u) ∧
    (∀ (w' : World) (B' blk' off' : Nat), (∀ a : Addr, a.block < B → w'.cell? a = w.cell? a) → B ≤ B' → blk' < B' → (∀ j u, news[j]? = some u → w'.cell? ⟨blk', off' + j, none⟩ = some u) → LT.ats w' B' l (some ⟨blk', off', none⟩))
  | [], p, _ => ⟨[], rfl, by simp, fun h => absurd rfl h, fun w' B' blk' off' _ _ _ _ => by unfold LT.ats; trivial⟩
  | t :: r, p, h => by
    unfold LT.ats at h
    obtain ⟨blk, off, vs, hp, hblk, h9, hc, ht, hr⟩ := h
    obtain ⟨news, hl, h1, hn, hback⟩ := ats_flat r _ hr
    have hvs1 : ∀ u ∈ vs, u.oneCell' = true := by
      obtain ⟨k, n, re, im, s, a, b, c, bs, l⟩ := t
      unfold LT.at at ht
      obtain ⟨A1, c1, A2, c2, hv, _⟩ := ht
      subst hv
      intro u hu
      simp only [tcells, List.mem_cons, List.not_mem_nil, or_false] at hu
      rcases hu with rfl | rfl | rfl | rfl | rfl | rfl | rfl | rfl | rfl <;> rfl
    refine ⟨vs ++ news, by simp [hl, h9]; omega, ?_, ?_, ?_⟩
    · intro u hu
      rcases List.mem_append.1 hu with hu | hu
      · exact hvs1 u hu
      · exact h1 u hu
    · intro _
      refine ⟨blk, off, hp, hblk, fun j u hu => ?_⟩
      rcases Nat.lt_or_ge j 9 with hj | hj
      · rw [List.getElem?_append_left (by omega)] at hu
        exact hc j u hu
      · rw [List.getElem?_append_right (by omega)] at hu
        by_cases hre : r = []
        · subst hre
          have : news = [] := List.eq_nil_of_length_eq_zero (by simpa using hl)
          subst this
          simp at hu
        · obtain ⟨blk', off', hp', _, hc'⟩ := hn hre
          simp only [Option.some.injEq, Addr.mk.injEq] at hp'
          obtain ⟨rfl, rfl, _⟩ := hp'
          have := hc' (j - vs.length) u hu
          rw [← this]
          congr 2
          omega
    · intro w' B' blk' off' hw hB hblk' hc'
      unfold LT.ats
      refine ⟨blk', off', vs, rfl, hblk', h9, fun j v hv => hc' j v ?_, at_mono hB _ _ (at_stays hw _ _ ht), hback w' B' blk' (off' + 9) hw hB hblk' fun j u hu => ?_⟩
      · rw [List.getElem?_append_left (by have := (List.getElem?_eq_some_iff.1 hv).1; omega)]
        exact hv
      · have := hc' (9 + j) u (by rw [List.getElem?_append_right (by omega), h9]; simpa using hu)
        rw [← this]
        congr 2
        omega

/-- A call's end: a struct that reads as this term; below the heap's end nothing has turned. -/
def TermR (w : World) (t : LT) (e : Ending) (w' : World) : Prop := ∃ vs, e = .returned (.agg vs.toArray) ∧ Below w.heap.size w w' ∧ LT.at w' w'.heap.size t vs

theorem add_block (ad : Addr) (j : Nat) : (ad.add j).block = ad.block := by unfold Addr.add; split <;> rfl

theorem below_setRow {B : Nat} (w : World) {g : Nat} (cells : Array Value) (hB : B ≤ g) : Below B w (w.setRow g cells) :=
  ⟨rfl, rfl, rfl, by simp [World.setRow], fun k hk => setRow_other w g k cells (by omega)⟩

theorem below_grown {w w' : World} {v : Value} (h : w.grownBy w' v.ownBlock) {B : Nat} (hB : B ≤ w.heap.size) (hv : ∀ k, v.ownBlock = some k → B ≤ k) : Below B w w' :=
  (Below.refl B w).grown h hB hv

end Go.Proofs.YtpffmndfanknaaaDoor
