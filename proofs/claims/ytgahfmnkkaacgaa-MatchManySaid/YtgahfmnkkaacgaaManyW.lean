/- The law's names and ints, as rows. -/
import Derived.Test.YtgahfmnkkaacgaaMatch7n
import Derived.Test.YtgahfmnkkaacgaaMatch7o
namespace Go.Proofs.Ytgahfmnkkaacgaa
set_option linter.unusedVariables false
set_option linter.unusedSimpArgs false
open Go.RowKit

/-- The i-th name. -/
def nmB (i : Nat) : ByteArray := ⟨#[86, UInt8.ofNat (97 + i % 26), UInt8.ofNat (97 + i / 26)]⟩

theorem nmB_right : ∀ i, i < 200 → mnameF (nmB i) = true := by
  have h : (List.range 200).all (fun i => mnameF (nmB i)) = true := by kernel_rfl
  intro i hi
  exact List.all_eq_true.1 h i (List.mem_range.2 hi)

theorem nmB_inj {i j : Nat} (hi : i < 200) (hj : j < 200) (h : nmB i = nmB j) : i = j := by
  unfold nmB at h
  simp only [ByteArray.mk.injEq, Array.mk.injEq, List.cons.injEq, and_true, true_and] at h
  obtain ⟨h1, h2⟩ := h
  have e1 := congrArg UInt8.toNat h1
  have e2 := congrArg UInt8.toNat h2
  simp only [UInt8.toNat_ofNat'] at e1 e2
  omega

theorem nmB_known {i : Nat} (hi : i < 200) : nmB i ≠ ⟨#[75, 110, 111, 119, 110]⟩ := by
  intro h
  have := congrArg (fun b : ByteArray => b.size) h
  simp [nmB, ByteArray.size] at this

abbrev nilS : SL := (none, 0, none, 0)
def vrow : Nat → List Value
  | 0 => []
  | i + 1 => vrow i ++ vcells (nmB i) nilS
def irow : Nat → List Value
  | 0 => []
  | i + 1 => irow i ++ icells (i : Nat) nilS

theorem vrow_len : ∀ i, (vrow i).length = i * 9
  | 0 => rfl
  | i + 1 => by simp [vrow, vrow_len i]; omega
theorem irow_len : ∀ i, (irow i).length = i * 9
  | 0 => rfl
  | i + 1 => by simp [irow, irow_len i]; omega
theorem vrow_get (n : Nat) : ∀ (i j : Nat) (v : Value), i < n → (vcells (nmB i) nilS)[j]? = some v → (vrow n)[i * 9 + j]? = some v := by
  induction n with
  | zero => intro i j v hi; omega
  | succ n ih =>
    intro i j v hi hv
    have hj : j < 9 := by have := (List.getElem?_eq_some_iff.1 hv).1; simpa using this
    unfold vrow
    rcases Nat.lt_or_ge i n with h | h
    · rw [List.getElem?_append_left (by rw [vrow_len]; omega)]
      exact ih i j v h hv
    · have : i = n := by omega
      subst this
      rw [List.getElem?_append_right (by rw [vrow_len]; omega), vrow_len]
      simpa using hv
theorem irow_get (n : Nat) : ∀ (i j : Nat) (v : Value), i < n → (icells (i : Nat) nilS)[j]? = some v → (irow n)[i * 9 + j]? = some v := by
  induction n with
  | zero => intro i j v hi; omega
  | succ n ih =>
    intro i j v hi hv
    have hj : j < 9 := by have := (List.getElem?_eq_some_iff.1 hv).1; simpa using this
    unfold irow
    rcases Nat.lt_or_ge i n with h | h
    · rw [List.getElem?_append_left (by rw [irow_len]; omega)]
      exact ih i j v h hv
    · have : i = n := by omega
      subst this
      rw [List.getElem?_append_right (by rw [irow_len]; omega), irow_len]
      simpa using hv

/-- Leaves one behind the other. -/
theorem leaves_at {w : World} {B g : Nat} (hg : g < B) (t : Nat → LT) (c : Nat → List Value) (hc : ∀ i, (c i).length = 9) (ht : ∀ i, LT.at w B (t i) (c i)) (n : Nat) :
    ∀ (k i : Nat), i + k = n → (∀ i' j v, i' < n → (c i')[j]? = some v → w.cell? ⟨g, i' * 9 + j, none⟩ = some v) → LT.ats w B ((List.range' i k).map t) (some ⟨g, i * 9, none⟩)
  | 0, i, _, _ => by unfold List.range' List.map LT.ats; trivial
  | k + 1, i, hk, h => by
    unfold List.range' List.map LT.ats
    refine ⟨g, i * 9, c i, rfl, hg, hc i, fun j v hv => h i j v (by omega) hv, ht i, ?_⟩
    have := leaves_at hg t c hc ht n k (i + 1) (by omega) h
    rw [show i * 9 + 9 = (i + 1) * 9 from by omega]
    exact this

def manyL (n : Nat) : List (ByteArray × Int) := (List.range' 0 n).map fun i => (nmB i, (i : Int))

theorem own_kept {w w' : World} {base : Nat} {e : TypeId} {size : Nat} {v : Value} {n : Nat} {xs : List Value} (h : w.ownsRow base e size v n xs) {row : Option Nat} (hg : w.grownBy w' row) (hr : ∀ k, v.ownBlock = some k → row ≠ some k) : w'.ownsRow base e size v n xs := by
  obtain ⟨h1, h2⟩ := h
  refine ⟨h1, ?_⟩
  rcases h2 with h2 | ⟨g, cap, cur, hv, hb, hh, r⟩
  · exact .inl h2
  · exact .inr ⟨g, cap, cur, hv, hb, by rw [hg.block g (Array.getElem?_eq_some_iff.1 hh).1 (fun e => hr g (by rw [hv]; rfl) e.symm)]; exact hh, r⟩

/-- Two rows whose first cells differ lie in two blocks. -/
theorem own_apart {w : World} {b1 b2 : Nat} {e : TypeId} {size : Nat} {v1 v2 : Value} {n1 n2 : Nat} {xs1 xs2 : List Value} (h1 : w.ownsRow b1 e size v1 n1 xs1) (h2 : w.ownsRow b2 e size v2 n2 xs2) {x y : Value} (hx : xs1[0]? = some x) (hy : xs2[0]? = some y) (hxy : x ≠ y) :
    ∀ k, v1.ownBlock = some k → v2.ownBlock ≠ some k := by
  intro k hk
  rcases h1.2 with ⟨rfl, _⟩ | ⟨g, cap, cur, rfl, _, hh, _, _, _, htake⟩
  · simp [Value.ownBlock] at hk
  · simp only [Value.ownBlock, Option.some.injEq] at hk
    subst hk
    refine own_ne_at h2 hh hy (y := x) ?_ (fun e => hxy e.symm)
    rw [← htake, List.getElem?_take] at hx
    split at hx
    · exact hx
    · cases hx

theorem vrow_head {n : Nat} (h : 0 < n) : (vrow n)[0]? = some (.int .i64 9) := vrow_get n 0 0 _ h rfl
theorem irow_head {n : Nat} (h : 0 < n) : (irow n)[0]? = some (.int .i64 1) := irow_get n 0 0 _ h rfl

theorem names_ats {w : World} {base n c : Nat} {A : Option Addr} (h : w.ownsRow base 31 9 (.slice A n c) n (vrow n)) : LT.ats w w.heap.size ((List.range' 0 n).map fun i => lfT (.var (nmB i))) A := by
  obtain ⟨A', c', hv, h0, h1⟩ := own_shape h
  cases hv
  cases A with
  | none =>
    have := (h0 rfl).1
    subst this
    unfold List.range' List.map LT.ats
    trivial
  | some ad =>
    obtain ⟨g, rfl, _, hg, hc⟩ := h1 ad rfl
    have := leaves_at hg (fun i => lfT (.var (nmB i))) (fun i => vcells (nmB i) nilS) (fun _ => rfl) (fun i => bare_at w _ 9 (nmB i) none 0) n n 0 (by omega) (fun i j v hi hv => hc _ _ (vrow_get n i j v hi hv))
    simpa using this

theorem ints_ats {w : World} {base n c : Nat} {A : Option Addr} (h : w.ownsRow base 31 9 (.slice A n c) n (irow n)) : LT.ats w w.heap.size ((List.range' 0 n).map fun i => intT (i : Nat)) A := by
  obtain ⟨A', c', hv, h0, h1⟩ := own_shape h
  cases hv
  cases A with
  | none =>
    have := (h0 rfl).1
    subst this
    unfold List.range' List.map LT.ats
    trivial
  | some ad =>
    obtain ⟨g, rfl, _, hg, hc⟩ := h1 ad rfl
    have := leaves_at hg (fun i => intT (i : Nat)) (fun i => icells (i : Nat) nilS) (fun _ => rfl) (fun i => int_at w _ (i : Nat) none 0 none 0) n n 0 (by omega) (fun i j v hi hv => hc _ _ (irow_get n i j v hi hv))
    simpa using this

theorem manyL_len (n : Nat) : (manyL n).length = n := by simp [manyL]
theorem manyL_names (n : Nat) : ((manyL n).map fun p => lfT (.var p.1)) = (List.range' 0 n).map fun i => lfT (.var (nmB i)) := by simp [manyL]
theorem manyL_ints (n : Nat) : ((manyL n).map fun p => intT p.2) = (List.range' 0 n).map fun i => intT (i : Nat) := by simp [manyL]
theorem manyL_mem {n : Nat} {p : ByteArray × Int} (h : p ∈ manyL n) : ∃ i, i < n ∧ p = (nmB i, (i : Int)) := by
  unfold manyL at h
  obtain ⟨i, hi, rfl⟩ := List.mem_map.1 h
  rw [List.mem_range'_1] at hi
  exact ⟨i, by omega, rfl⟩
theorem manyL_get {n i : Nat} (h : i < n) : (manyL n)[i]? = some (nmB i, (i : Int)) := by
  simp [manyL, h]
theorem manyL_nodup {n : Nat} (hn : n ≤ 200) : ((manyL n).map (·.1)).Nodup := by
  unfold manyL
  rw [List.map_map]
  refine List.Pairwise.map (R := fun a b => a < 200 ∧ b < 200 ∧ a ≠ b) _ (fun a b h e => h.2.2 (nmB_inj h.1 h.2.1 e)) ?_
  refine List.Pairwise.imp_of_mem (R := fun a b => a < b) (fun {a b} ha hb h => ?_) List.pairwise_lt_range'
  rw [List.mem_range'_1] at ha hb
  exact ⟨by omega, by omega, by omega⟩

/-- The law's match: all fits, each name is bound to its int. -/
theorem many_fit {n : Nat} (hn : n ≤ 200) {ps : List Pr} (h : ps.map (fun p => (p.s, p.x)) = manyL n) : (fitS ps []).1 = true ∧ (fitS ps []).2.map (fun e => (e.1, e.2.1)) = manyL n ∧ (fitS ps []).2.length = n := by
  have hs : ps.map (·.s) = (manyL n).map (·.1) := by rw [← h, List.map_map]; rfl
  have := fit_distinct ps [] (by rw [hs]; exact manyL_nodup hn) (fun _ _ => rfl)
  rw [this]
  refine ⟨rfl, ?_, ?_⟩
  · rw [← h]
    simp
  · have := congrArg List.length h
    simp [manyL_len] at this
    simpa using this

theorem node_shape {w : World} {B : Nat} {k : Int} {l : List LT} {vs : List Value} {n : Nat} (hn : l.length = n) (h : LT.at w B (.mk k 0 0 0 ⟨#[]⟩ 0 0 0 [] l) vs) :
    ∃ A1 c1 P cP, vs = tcells k 0 0 0 ⟨#[]⟩ 0 0 0 A1 0 c1 P n cP ∧ LT.ats w B l P := by
  subst hn
  unfold LT.at at h
  obtain ⟨A1, c1, P, cP, hv, _, _, hs⟩ := h
  exact ⟨A1, c1, P, cP, hv, hs⟩

theorem brow_get : ∀ (ents : List (ByteArray × Int × SL)) (j t : Nat) (e : ByteArray × Int × SL) (u : Value), ents[j]? = some e → (bcells e)[t]? = some u → (brow ents)[j * 10 + t]? = some u
  | [], j, t, e, u, he, _ => by simp at he
  | e0 :: r, 0, t, e, u, he, hu => by
    simp only [List.getElem?_cons_zero, Option.some.injEq] at he
    subst he
    have ht : t < (bcells e0).length := (List.getElem?_eq_some_iff.1 hu).1
    unfold brow
    rw [Nat.zero_mul, Nat.zero_add, List.getElem?_append_left ht]
    exact hu
  | e0 :: r, j + 1, t, e, u, he, hu => by
    unfold brow
    rw [List.getElem?_append_right (by show 10 ≤ _; omega)]
    show (brow r)[(j + 1) * 10 + t - 10]? = _
    rw [show (j + 1) * 10 + t - 10 = j * 10 + t from by omega]
    exact brow_get r j t e u (by simpa using he) hu

end Go.Proofs.Ytgahfmnkkaacgaa
