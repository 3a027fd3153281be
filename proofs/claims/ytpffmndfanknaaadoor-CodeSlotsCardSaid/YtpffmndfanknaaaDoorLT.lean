/- What it is for memory to hold a term, and what the check makes of a term. -/
import Derived.Test.YtpffmndfanknaaaDoorTerm
namespace Go.Proofs.YtpffmndfanknaaaDoor
set_option linter.unusedVariables false
set_option linter.unusedSimpArgs false
open Go.RowKit

/-- The cells of a struct value's fields. -/
abbrev tcells (k n : Int) (re im : Nat) (s : ByteArray) (a b c : Int) (A1 : Option Addr) (n1 c1 : Nat) (A2 : Option Addr) (n2 c2 : Nat) : List Value :=
  [.int .i64 k, .int .i64 n, .complex .f64 re im, .string s, .int .i64 a, .int .u32 b, .int .u64 c, .slice A1 n1 c1, .slice A2 n2 c2]

/-- Bytes lie at an address, below block B. -/
def bytesAt (w : World) (B : Nat) (bs : List UInt8) (p : Option Addr) : Prop :=
  bs.length ≤ 281474976710656 ∧ (bs = [] ∨ ∃ blk off, p = some ⟨blk, off, none⟩ ∧ blk < B ∧ ∀ i u, bs[i]? = some u → w.cell? ⟨blk, off + i, none⟩ = some (.int .u8 u.toNat))

mutual
/-- Nine cells are a term whose parts lie below block B. -/
def LT.at (w : World) (B : Nat) : LT → List Value → Prop
  | .mk k n re im s a b c bs l, vs => ∃ A1 c1 A2 c2, vs = tcells k n re im s a b c A1 bs.length c1 A2 l.length c2 ∧ bytesAt w B bs A1 ∧ l.length ≤ 281474976710656 ∧ LT.ats w B l A2
/-- Terms lie one behind the other at an address, below block B. -/
def LT.ats (w : World) (B : Nat) : List LT → Option Addr → Prop
  | [], _ => True
  | t :: r, p => ∃ blk off vs, p = some ⟨blk, off, none⟩ ∧ blk < B ∧ vs.length = 9 ∧ (∀ j v, vs[j]? = some v → w.cell? ⟨blk, off + j, none⟩ = some v) ∧ LT.at w B t vs ∧ LT.ats w B r (some ⟨blk, off + 9, none⟩)
end

theorem bytesAt_stays {w w' : World} {B : Nat} (h : ∀ a : Addr, a.block < B → w'.cell? a = w.cell? a) {bs : List UInt8} {p : Option Addr} (hb : bytesAt w B bs p) : bytesAt w' B bs p := by
  refine ⟨hb.1, ?_⟩
  rcases hb.2 with hb | ⟨blk, off, hp, hblk, hc⟩
  · exact .inl hb
  · exact .inr ⟨blk, off, hp, hblk, fun i u hu => by rw [h _ hblk]; exact hc i u hu⟩

mutual
theorem at_stays {w w' : World} {B : Nat} (h : ∀ a : Addr, a.block < B → w'.cell? a = w.cell? a) : ∀ (t : LT) (vs : List Value), LT.at w B t vs → LT.at w' B t vs
  | .mk k n re im s a b c bs l, vs, ht => by
    unfold LT.at at ht ⊢
    obtain ⟨A1, c1, A2, c2, hv, hb, hl, hs⟩ := ht
    exact ⟨A1, c1, A2, c2, hv, bytesAt_stays h hb, hl, ats_stays h l A2 hs⟩
theorem ats_stays {w w' : World} {B : Nat} (h : ∀ a : Addr, a.block < B → w'.cell? a = w.cell? a) : ∀ (l : List LT) (p : Option Addr), LT.ats w B l p → LT.ats w' B l p
  | [], p, _ => by unfold LT.ats; trivial
  | t :: r, p, hs => by
    unfold LT.ats at hs ⊢
    obtain ⟨blk, off, vs, hp, hblk, h9, hc, ht, hr⟩ := hs
    exact ⟨blk, off, vs, hp, hblk, h9, fun j v hv => by rw [h _ hblk]; exact hc j v hv, at_stays h t vs ht, ats_stays h r _ hr⟩
end

mutual
theorem at_mono {w : World} {B B' : Nat} (h : B ≤ B') : ∀ (t : LT) (vs : List Value), LT.at w B t vs → LT.at w B' t vs
  | .mk k n re im s a b c bs l, vs, ht => by
    unfold LT.at at ht ⊢
    obtain ⟨A1, c1, A2, c2, hv, hb, hl, hs⟩ := ht
    refine ⟨A1, c1, A2, c2, hv, ⟨hb.1, ?_⟩, hl, ats_mono h l A2 hs⟩
    rcases hb.2 with hb | ⟨blk, off, hp, hblk, hc⟩
    · exact .inl hb
    · exact .inr ⟨blk, off, hp, by omega, hc⟩
theorem ats_mono {w : World} {B B' : Nat} (h : B ≤ B') : ∀ (l : List LT) (p : Option Addr), LT.ats w B l p → LT.ats w B' l p
  | [], p, _ => by unfold LT.ats; trivial
  | t :: r, p, hs => by
    unfold LT.ats at hs ⊢
    obtain ⟨blk, off, vs, hp, hblk, h9, hc, ht, hr⟩ := hs
    exact ⟨blk, off, vs, hp, by omega, h9, hc, at_mono h t vs ht, ats_mono h r _ hr⟩
end

/-- The i-th of terms one behind the other. -/
theorem ats_get {w : World} {B : Nat} : ∀ (l : List LT) (p : Option Addr) (_ : LT.ats w B l p) (i : Nat) (t : LT) (_ : l[i]? = some t),
    ∃ blk off vs, p = some ⟨blk, off, none⟩ ∧ blk < B ∧ vs.length = 9 ∧ (∀ j v, vs[j]? = some v → w.cell? ⟨blk, off + i * 9 + j, none⟩ = some v) ∧ LT.at w B t vs
  | [], _, _, i, t, hi => by simp at hi
  | t0 :: r, p, hs, i, t, hi => by
    unfold LT.ats at hs
    obtain ⟨blk, off, vs, hp, hblk, h9, hc, ht, hr⟩ := hs
    cases i with
    | zero =>
      simp only [List.getElem?_cons_zero, Option.some.injEq] at hi
      subst hi
      exact ⟨blk, off, vs, hp, hblk, h9, fun j v hv => by simpa using hc j v hv, ht⟩
    | succ i =>
      simp only [List.getElem?_cons_succ] at hi
      obtain ⟨blk', off', vs', hp', hblk', h9', hc', ht'⟩ := ats_get r _ hr i t hi
      simp only [Option.some.injEq, Addr.mk.injEq] at hp'
      obtain ⟨rfl, rfl, _⟩ := hp'
      exact ⟨blk, off, vs', hp, hblk, h9', fun j v hv => by rw [← hc' j v hv]; congr 2; omega, ht'⟩

/-! ### The check -/
def bareEmpty (k n : Int) (re im : Nat) (s : ByteArray) (a b c : Int) (nb nl : Nat) : Bool :=
  if k = 1 then emptyF 0 re im s a b c nb nl else if k = 2 then emptyF n 0 0 s a b c nb nl else if k = 3 then emptyF n re im ⟨#[]⟩ a b c nb nl
  else if k = 4 ∨ k = 5 then emptyF n re im s 0 0 0 nb nl else if k = 6 ∨ k = 7 then emptyF n re im s a b c nb 0 else emptyF n re im s a b c 0 nl

def goodF (k n : Int) (re im : Nat) (s : ByteArray) (a b c : Int) (nb nl : Nat) : Bool :=
  if k = 1 ∨ k = 2 then rightF k n re im s a b c nb nl else if k = 3 then nameF s else if k = 4 ∨ k = 5 then idF a b c else true

mutual
/-- What is wrong with a term at a depth, m being counted so far; what is counted then. -/
def partF : LT → Int → Int → Int × Int
  | .mk k n re im s a b c bs l, d, m =>
    if 24 < d then (20, m) else if 4096 < m + (1 + bs.length) then (21, m + (1 + bs.length)) else if k < 1 ∨ 8 < k then (22, m + (1 + bs.length))
    else if bareEmpty k n re im s a b c bs.length l.length = false then (23, m + (1 + bs.length)) else if goodF k n re im s a b c bs.length l.length = false then (24, m + (1 + bs.length))
    else if 256 < l.length then (25, m + (1 + bs.length)) else partsF l (d + 1) (m + (1 + bs.length))
def partsF : List LT → Int → Int → Int × Int
  | [], _, m => (0, m)
  | t :: r, d, m => if (partF t d m).1 = 0 then partsF r d (partF t d m).2 else partF t d m
end

/-- What is wrong with a term. -/
def checkF (t : LT) : Int := (partF t 1 0).1

mutual
def LT.plain : LT → Prop
  | .mk k _ _ _ _ _ _ _ _ l => k ≠ 2 ∧ LT.plains l
def LT.plains : List LT → Prop
  | [] => True
  | t :: r => LT.plain t ∧ LT.plains r
end

mutual
theorem partF_le : ∀ (t : LT) (d m : Int), 0 ≤ m → m ≤ 4096 → m ≤ (partF t d m).2 ∧ ((partF t d m).1 = 0 → (partF t d m).2 ≤ 4096)
  | .mk k n re im s a b c bs l, d, m, h0, h1 => by
    unfold partF
    split
    · exact ⟨by simp, fun h => by simp at h⟩
    split
    · exact ⟨by simp; omega, fun h => by simp at h⟩
    repeat (split; · exact ⟨by simp; omega, fun h => by simp at h⟩)
    have := partsF_le l (d + 1) (m + (1 + bs.length)) (by omega) (by omega)
    exact ⟨by omega, this.2⟩
theorem partsF_le : ∀ (l : List LT) (d m : Int), 0 ≤ m → m ≤ 4096 → m ≤ (partsF l d m).2 ∧ ((partsF l d m).1 = 0 → (partsF l d m).2 ≤ 4096)
  | [], d, m, h0, h1 => by unfold partsF; exact ⟨by simp, fun _ => by simpa using h1⟩
  | t :: r, d, m, h0, h1 => by
    have ht := partF_le t d m h0 h1
    unfold partsF
    split
    · rename_i he
      have := partsF_le r d (partF t d m).2 (by omega) (ht.2 he)
      exact ⟨by omega, this.2⟩
    · rename_i he
      exact ⟨ht.1, fun h => absurd h he⟩
end

theorem partsF_drop (l : List LT) (d m : Int) (i : Nat) (t : LT) (hi : l[i]? = some t) (x : Int × Int) (hx : partsF (l.drop i) d m = x) :
    (if (partF t d m).1 = 0 then partsF (l.drop (i + 1)) d (partF t d m).2 else partF t d m) = x := by
  have hlt : i < l.length := by
    rcases Nat.lt_or_ge i l.length with h | h
    · exact h
    · simp [List.getElem?_eq_none h] at hi
  have e : l.drop i = t :: l.drop (i + 1) := by
    rw [List.drop_eq_getElem_cons hlt]
    rw [List.getElem?_eq_getElem hlt] at hi
    simp only [Option.some.injEq] at hi
    rw [hi]
  rw [e] at hx
  rw [← hx]
  conv => rhs; unfold partsF

theorem plains_get : ∀ (l : List LT) (_ : LT.plains l) (i : Nat) (t : LT) (_ : l[i]? = some t), LT.plain t
  | [], _, i, t, hi => by simp at hi
  | t0 :: r, h, i, t, hi => by
    unfold LT.plains at h
    cases i with
    | zero => simp only [List.getElem?_cons_zero, Option.some.injEq] at hi; subst hi; exact h.1
    | succ i => exact plains_get r h.2 i t (by simpa using hi)

end Go.Proofs.YtpffmndfanknaaaDoor
