/- Terms as plain data, what it is for memory to hold one, and what the term package's check makes of one. -/
import Derived.WalkKit
import Derived.WalkSpells
import Derived.WalkLawsBesides
import Derived.Laws.EntriesVeiled
import Derived.Lib.ConvBytes
import Derived.Lib.Hide
namespace Go.Proofs.YtpffmndfanknaaaDoor
set_option linter.unusedVariables false
set_option linter.unusedSimpArgs false
open Go.RowKit

section
variable {P : Program} {w : World} {a : Addr} {m : Mode}
@[go_sem] theorem run_store_complex (k : FloatKind) (x y : Nat) : (store a (.complex k x y) m).run P w = stored P w a (.complex k x y) m := run_store P w a _ m rfl
end

/-- A call's end: this value, and below the heap's end nothing has turned. Closed to the walk. -/
def Ret (v : Value) (w : World) (e : Ending) (w' : World) : Prop := e = .returned v ∧ Below w.heap.size w w'

theorem Ret.mk {v v' : Value} {w w' : World} (h : v' = v) (hb : Below w.heap.size w w') : Ret v w (.returned v') w' := ⟨by rw [h], hb⟩

/-- A term. -/
inductive LT where
  | mk (k n : Int) (re im : Nat) (s : ByteArray) (a b c : Int) (bs : List UInt8) (l : List LT)

def zeroC (re im : Nat) : Bool := (FloatKind.f64.format.order re 0 == some .eq) && (FloatKind.f64.format.order im 0 == some .eq)

def rightF (k n : Int) (re im : Nat) (s : ByteArray) (a b c : Int) (nb nl : Nat) : Bool :=
  decide (s.toList = []) && (decide (a = 0) && decide (b = 0) && decide (c = 0)) && decide (nb = 0) && decide (nl = 0) && decide (k = 1) && zeroC re im && decide (-4611686018427387904 ≤ n) && decide (n ≤ 4611686018427387903)

def emptyF (n : Int) (re im : Nat) (s : ByteArray) (a b c : Int) (nb nl : Nat) : Bool :=
  decide (n = 0) && zeroC re im && decide (s.toList = []) && (decide (a = 0) && decide (b = 0) && decide (c = 0)) && decide (nb = 0) && decide (nl = 0)

def idF (a b c : Int) : Bool := decide (1 ≤ a) && decide (a ≤ 64) && decide (1 ≤ b) && decide (1 ≤ c)

/-! ### Names -/
def okI (x : Int) : Bool := decide (97 ≤ x) && decide (x ≤ 122) || decide (65 ≤ x) && decide (x ≤ 90) || decide (48 ≤ x) && decide (x ≤ 57) || decide (x = 95)
def byteI (s : ByteArray) (i : Nat) : Int := (s.data.toList.getD i 0).toNat
def nameF (s : ByteArray) : Bool := decide (1 ≤ s.size) && decide (s.size ≤ 32) && decide (97 ≤ byteI s 0) && decide (byteI s 0 ≤ 122) && decide (∀ i, i < s.size → okI (byteI s i) = true)

theorem byteI_get (s : ByteArray) (i : Nat) (h : i < s.size) : ((s[i]'h).toNat : Int) = byteI s i := by
  have h' : i < s.data.toList.length := by simpa using h
  have e : s.data.toList.getD i 0 = s.data.toList[i] := by rw [List.getD_eq_getElem?_getD, List.getElem?_eq_getElem h']; rfl
  unfold byteI
  rw [e]; rfl

theorem byteI_range (s : ByteArray) (i : Nat) : 0 ≤ byteI s i ∧ byteI s i ≤ 255 := by
  unfold byteI
  have := (s.data.toList.getD i 0).toNat_lt
  omega

/-- '[]byte(s)': a new row that reads as the string's bytes; nothing else has turned. -/
theorem conv_bytes {P : Program} (w : World) (src dst e : TypeId) (s : ByteArray) {u : TypeDesc}
    (hs : P.underlying src = some u) (hd : P.underlying dst = some (.slice e)) (he : P.underlying e = some (.int .u8)) :
    ∃ cap w1, (convert src dst (.string s)).run P w = .ok (.slice (some ⟨w.heap.size, 0, none⟩) s.size cap) w1 ∧ Below w.heap.size w w1 ∧ w1.heap.size = w.heap.size + 1 ∧
      ∀ j, j < s.size → w1.cell? ⟨w.heap.size, j, none⟩ = some (.int .u8 (byteI s j)) := by
  refine ⟨_, _, Lib.run_convert_string_bytes w src dst e s hs hd he, ⟨?_, ?_, ?_, ?_, ?_⟩, Lib.bytesWorld_size .., fun j hj => by rw [Lib.bytesWorld_cell _ _ _ _ hj]; rfl⟩
  · simp [Lib.bytesWorld, World.freeze, World.alloc, World.drew, -World.alloc_eq, -World.drew_eq]
  · simp [Lib.bytesWorld, World.freeze, World.alloc, World.drew, -World.alloc_eq, -World.drew_eq]
  · simp [Lib.bytesWorld, World.freeze, World.alloc, World.drew, -World.alloc_eq, -World.drew_eq]
  · rw [Lib.bytesWorld_size]; omega
  · exact fun k hk => Lib.bytesWorld_at_old _ _ _ _ hk

end Go.Proofs.YtpffmndfanknaaaDoor
