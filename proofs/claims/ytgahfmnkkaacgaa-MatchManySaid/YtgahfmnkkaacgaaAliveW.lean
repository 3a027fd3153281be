/- The law's guard: the words. -/
import Derived.Test.YtgahfmnkkaacgaaMany
import Derived.Test.YtgahfmnkkaacgaaFillF
import Derived.Test.YtgahfmnkkaacgaaMatch6n
namespace Go.Proofs.Ytgahfmnkkaacgaa
set_option linter.unusedVariables false
set_option linter.unusedSimpArgs false
open Go.RowKit

/-- The name that the guard speaks of. -/
abbrev nmX : ByteArray := ⟨#[88]⟩
theorem nmX_ok : mnameF nmX = true := by kernel_rfl
abbrev nmA : ByteArray := ⟨#[97]⟩
abbrev acells (s : ByteArray) : List Value := tcells 3 0 0 0 s 0 0 0 none 0 0 none 0 0
theorem nmA_ok : nameF nmA = true := by kernel_rfl
abbrev nmU : ByteArray := ⟨#[95]⟩
theorem nmU_no : mnameF nmU = false := by kernel_rfl
theorem XX_top : TopOk (nodeT 6 [.var nmX, .var nmX]) 0 3 [nmX] :=
  node_top 6 (by decide) [.var nmX, .var nmX] (by simp) (fun f hf => by
    simp only [List.mem_cons, List.not_mem_nil, or_false, or_self] at hf
    subst hf; exact nmX_ok)

/-- What the guard's walk keeps: nothing old has turned, the pattern's box, and where its parts lie. -/
def St (w : World) (b : Nat) (C : Array Value) (l : List LT) (P : Option Addr) (W : World) : Prop :=
  Below w.heap.size w W ∧ b < W.heap.size ∧ W.heap[b]? = some (.cells C 31 (0, 0)) ∧ LT.ats W b l P

theorem St.below {w : World} {b : Nat} {C : Array Value} {l : List LT} {P : Option Addr} {W W' : World} {B : Nat} (h : St w b C l P W) (hb : Below B W W') (hB : W.heap.size ≤ B) : St w b C l P W' := by
  obtain ⟨h1, h3, h4, h5⟩ := h
  have hs := h1.size
  refine ⟨h1.trans (hb.mono (by omega)), by have := hb.size; omega, (hb.block b (by omega)).trans h4, ats_stays (fun a ha => hb.cell (by omega)) _ _ h5⟩
theorem St.alloc {w : World} {b : Nat} {C : Array Value} {l : List LT} {P : Option Addr} {W : World} (h : St w b C l P W) (o : Obj) : St w b C l P (W.alloc o) :=
  h.below ((Below.refl W.heap.size W).alloc (Nat.le_refl _) o) (Nat.le_refl _)
theorem St.drew {w : World} {b : Nat} {C : Array Value} {l : List LT} {P : Option Addr} {W : World} (h : St w b C l P W) : St w b C l P W.drew :=
  h.below ((Below.refl W.heap.size W).drew) (Nat.le_refl _)
theorem St.parts {w : World} {b : Nat} {C : Array Value} {l : List LT} {P : Option Addr} {W : World} (h : St w b C l P W) : LT.ats W W.heap.size l P :=
  ats_mono (Nat.le_of_lt h.2.1) _ _ h.2.2.2
theorem St.cells {w : World} {b : Nat} {A1 : Option Addr} {c1 : Nat} {P : Option Addr} {cP : Nat} {l : List LT} {W : World} (h : St w b #[.int .i64 6, .int .i64 0, .complex .f64 0 0, .string ⟨#[]⟩, .int .i64 0, .int .u32 0, .int .u64 0, .slice A1 0 c1, .slice P 2 cP] l P W) :
    W.cell? ⟨b, 0, none⟩ = some (.int .i64 6) ∧ W.cell? ⟨b, 1, none⟩ = some (.int .i64 0) ∧ W.cell? ⟨b, 2, none⟩ = some (.complex .f64 0 0) ∧ W.cell? ⟨b, 3, none⟩ = some (.string ⟨#[]⟩) ∧ W.cell? ⟨b, 4, none⟩ = some (.int .i64 0) ∧ W.cell? ⟨b, 5, none⟩ = some (.int .u32 0) ∧ W.cell? ⟨b, 6, none⟩ = some (.int .u64 0) ∧ W.cell? ⟨b, 7, none⟩ = some (.slice A1 0 c1) ∧ W.cell? ⟨b, 8, none⟩ = some (.slice P 2 cP) := by
  have hr := row_cells h.2.2.1 (o := 0) (cs := [.int .i64 6, .int .i64 0, .complex .f64 0 0, .string ⟨#[]⟩, .int .i64 0, .int .u32 0, .int .u64 0, .slice A1 0 c1, .slice P 2 cP]) (fun _ _ h => by simpa using h)
  simp only [Nat.zero_add] at hr
  exact ⟨hr 0 _ rfl, hr 1 _ rfl, hr 2 _ rfl, hr 3 _ rfl, hr 4 _ rfl, hr 5 _ rfl, hr 6 _ rfl, hr 7 _ rfl, hr 8 _ rfl⟩

abbrev pnC (A1 : Option Addr) (c1 : Nat) (P : Option Addr) (cP : Nat) : Array Value := #[.int .i64 6, .int .i64 0, .complex .f64 0 0, .string ⟨#[]⟩, .int .i64 0, .int .u32 0, .int .u64 0, .slice A1 0 c1, .slice P 2 cP]
abbrev XX : List LT := [lfT (.var nmX), lfT (.var nmX)]
theorem St.cell {w : World} {b : Nat} {A1 : Option Addr} {c1 : Nat} {P : Option Addr} {cP : Nat} {l : List LT} {W : World} (h : St w b (pnC A1 c1 P cP) l P W) :
    ∀ j v, (tcells 6 0 0 0 ⟨#[]⟩ 0 0 0 A1 0 c1 P 2 cP)[j]? = some v → W.cell? ⟨b, 0 + j, none⟩ = some v :=
  row_cells h.2.2.1 (o := 0) (fun _ _ h => by simpa using h)
theorem St.new {W : World} {b : Nat} {C : Array Value} {l : List LT} {P : Option Addr} {w : World} (h : St w b C l P W) : St W b C l P W := ⟨Below.refl _ _, h.2⟩

/-- Two terms in a new row. -/
theorem two_ats (W : World) (t1 t2 : LT) (c1 c2 : List Value) (C : Array Value) (hC : C = (c1 ++ c2).toArray) (h1 : c1.length = 9) (h2 : c2.length = 9) (ht1 : LT.at (W.alloc (.cells C 31)) (W.heap.size + 1) t1 c1) (ht2 : LT.at (W.alloc (.cells C 31)) (W.heap.size + 1) t2 c2) :
    LT.ats (W.alloc (.cells C 31)) (W.alloc (.cells C 31)).heap.size [t1, t2] (some ⟨W.heap.size, 0, none⟩) := by
  have hs : (W.alloc (.cells C 31)).heap.size = W.heap.size + 1 := by simp
  rw [hs]
  have hc := row_cells (heap_alloc_last W (.cells C 31)) (o := 0) (cs := c1 ++ c2) (fun _ _ h => by rw [hC, Nat.zero_add]; simpa using h)
  unfold LT.ats
  refine ⟨W.heap.size, 0, c1, rfl, by omega, h1, fun j v hv => hc j v ?_, ht1, ?_⟩
  · rw [List.getElem?_append_left (List.getElem?_eq_some_iff.1 hv).1]; exact hv
  · unfold LT.ats
    refine ⟨W.heap.size, 0 + 9, c2, rfl, by omega, h2, fun j v hv => ?_, ht2, by unfold LT.ats; trivial⟩
    have := hc (9 + j) v (by rw [List.getElem?_append_right (by omega), h1, show 9 + j - 9 = j from by omega]; exact hv)
    rw [← this]
    congr 2
    omega

/-- Where two leaves without slices of their own lie. -/
theorem two_leaves {w : World} {B : Nat} {k1 k2 : Int} {s1 s2 : ByteArray} {P : Option Addr} (h : LT.ats w B [.mk k1 0 0 0 s1 0 0 0 [] [], .mk k2 0 0 0 s2 0 0 0 [] []] P) :
    ∃ pb po V1 v1 V2 v2 U1 u1 U2 u2, P = some ⟨pb, po, none⟩ ∧ pb < B ∧ (∀ j v, (tcells k1 0 0 0 s1 0 0 0 V1 0 v1 V2 0 v2)[j]? = some v → w.cell? ⟨pb, po + j, none⟩ = some v) ∧
      (∀ j v, (tcells k2 0 0 0 s2 0 0 0 U1 0 u1 U2 0 u2)[j]? = some v → w.cell? ⟨pb, po + 9 + j, none⟩ = some v) := by
  unfold LT.ats at h
  obtain ⟨pb, po, vs, rfl, hlt, h9, hc, ht, hr⟩ := h
  unfold LT.ats at hr
  obtain ⟨pb', po', vs', hp', hlt', h9', hc', ht', _⟩ := hr
  simp only [Option.some.injEq, Addr.mk.injEq] at hp'
  obtain ⟨rfl, rfl, _⟩ := hp'
  obtain ⟨V1, v1, V2, v2, rfl⟩ := nils_at ht
  obtain ⟨U1, u1, U2, u2, rfl⟩ := nils_at ht'
  exact ⟨pb, po, V1, v1, V2, v2, U1, u1, U2, u2, rfl, hlt, hc, hc'⟩

def YesR (w : World) (e : Ending) (w' : World) : Prop :=
  ∃ g c q, e = .returned (.tuple #[.slice (some ⟨g, 0, none⟩) 1 c, .bool true, .int .i64 0]) ∧ Below w.heap.size w w' ∧ g < w'.heap.size ∧ w.heap.size ≤ g ∧ ∀ j u, (bcells (nmX, 1, q))[j]? = some u → w'.cell? ⟨g, j, none⟩ = some u
def NoR (w : World) (e : Ending) (w' : World) : Prop := e = .returned (.tuple #[.slice none 0 0, .bool false, .int .i64 0]) ∧ Below w.heap.size w w'

theorem match_yes (P T : Option Addr) (A1 : Option Addr) (c1 cP : Nat) (B1 : Option Addr) (d1 cT : Nat) (w : World) (hP : Hid (LT.ats w w.heap.size [lfT (.var nmX), lfT (.var nmX)] P)) (hT : Hid (LT.ats w w.heap.size [intT 1, intT 1] T)) :
    Calls Try.prog 8 #[.agg #[.int .i64 6, .int .i64 0, .complex .f64 0 0, .string ⟨#[]⟩, .int .i64 0, .int .u32 0, .int .u64 0, .slice A1 0 c1, .slice P 2 cP], .agg #[.int .i64 6, .int .i64 0, .complex .f64 0 0, .string ⟨#[]⟩, .int .i64 0, .int .u32 0, .int .u64 0, .slice B1 0 d1, .slice T 2 cT], .slice none 0 0] w (YesR w) := by
  refine Calls.mono (match6n [(nmX, 1), (nmX, 1)] P T A1 c1 cP B1 d1 cT w (by decide) (Lib.hid (fun p hp => ?_)) (Lib.hid (fun p hp => ?_)) hP hT) ?_
  · simp only [List.mem_cons, List.not_mem_nil, or_false, or_self] at hp
    subst hp; exact nmX_ok
  · simp only [List.mem_cons, List.not_mem_nil, or_false, or_self] at hp
    subst hp; exact ⟨by decide, by decide⟩
  · rintro e w' ⟨ps, hps, hb, hcase⟩
    match ps, hps with
    | [⟨s1, q1, x1, r1⟩, ⟨s2, q2, x2, r2⟩], hps =>
      simp only [List.map_cons, List.map_nil, List.cons.injEq, Prod.mk.injEq, and_true] at hps
      obtain ⟨⟨rfl, rfl⟩, rfl, rfl⟩ := hps
      have hf : fitS [⟨nmX, q1, 1, r1⟩, ⟨nmX, q2, 1, r2⟩] [] = (true, [(nmX, 1, r1)]) := by simp [fitS, findE]
      rw [hf] at hcase
      rcases hcase with ⟨h, _⟩ | ⟨_, h, _⟩ | ⟨_, _, v, ents, hents, rfl, pre, hpre, hprel, hown⟩
      · cases h
      · simp at h
      · match ents, hents with
        | [⟨s, x, q⟩], hents =>
          simp only [List.map_cons, List.map_nil, List.cons.injEq, Prod.mk.injEq, and_true] at hents
          obtain ⟨rfl, rfl⟩ := hents
          rw [hpre rfl] at hown
          obtain ⟨A, cap, rfl, hA1, hA2⟩ := own_shape hown
          cases A with
          | none => have := (hA1 rfl).1; simp at this
          | some ad =>
            obtain ⟨g, rfl, hg1, hg2, hgc⟩ := hA2 ad rfl
            exact ⟨g, cap, q, rfl, hb, hg2, hg1, fun j u hu => hgc j u (by simpa [brow] using hu)⟩

theorem match_no (P T : Option Addr) (A1 : Option Addr) (c1 cP : Nat) (B1 : Option Addr) (d1 cT : Nat) (w : World) (hP : Hid (LT.ats w w.heap.size [lfT (.var nmX), lfT (.var nmX)] P)) (hT : Hid (LT.ats w w.heap.size [intT 1, intT 2] T)) :
    Calls Try.prog 8 #[.agg #[.int .i64 6, .int .i64 0, .complex .f64 0 0, .string ⟨#[]⟩, .int .i64 0, .int .u32 0, .int .u64 0, .slice A1 0 c1, .slice P 2 cP], .agg #[.int .i64 6, .int .i64 0, .complex .f64 0 0, .string ⟨#[]⟩, .int .i64 0, .int .u32 0, .int .u64 0, .slice B1 0 d1, .slice T 2 cT], .slice none 0 0] w (NoR w) := by
  refine Calls.mono (match6n [(nmX, 1), (nmX, 2)] P T A1 c1 cP B1 d1 cT w (by decide) (Lib.hid (fun p hp => ?_)) (Lib.hid (fun p hp => ?_)) hP hT) ?_
  · simp only [List.mem_cons, List.not_mem_nil, or_false] at hp
    rcases hp with rfl | rfl <;> exact nmX_ok
  · simp only [List.mem_cons, List.not_mem_nil, or_false] at hp
    rcases hp with rfl | rfl <;> exact ⟨by decide, by decide⟩
  · rintro e w' ⟨ps, hps, hb, hcase⟩
    match ps, hps with
    | [⟨s1, q1, x1, r1⟩, ⟨s2, q2, x2, r2⟩], hps =>
      simp only [List.map_cons, List.map_nil, List.cons.injEq, Prod.mk.injEq, and_true] at hps
      obtain ⟨⟨rfl, rfl⟩, rfl, rfl⟩ := hps
      have hf : (fitS [⟨nmX, q1, 1, r1⟩, ⟨nmX, q2, 2, r2⟩] []).1 = false := by simp [fitS, findE]
      rw [hf] at hcase
      rcases hcase with ⟨_, rfl⟩ | ⟨h, _⟩ | ⟨h, _⟩
      · exact ⟨rfl, hb⟩
      · cases h
      · cases h

end Go.Proofs.Ytgahfmnkkaacgaa
