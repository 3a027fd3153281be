/- Which names are slots: the code's answer. -/
import Derived.Test.YtpffmndfanknaaaDoorCAlive
import Derived.Test.YtpffmndfanknaaaDoorShelf
import Derived.Deep.QuietTactic
import Derived.BigQuiet
import Derived.Deep.RegionWith
import Derived.Lib.AtoiAllCases
import Derived.Lib.AppendIntMem
namespace Go.Proofs.YtpffmndfanknaaaDoor
set_option linter.unusedVariables false
set_option linter.unusedSimpArgs false
open Go.RowKit

/-- The name behind its first letter. -/
def restB (s : ByteArray) : ByteArray := s.extract 1 s.size

def headOk (s : ByteArray) : Prop := 2 ≤ s.size ∧ (byteI s 0 = 86 ∨ byteI s 0 = 66)

set_option maxRecDepth 100000 in
set_option maxHeartbeats 2000000 in
theorem slot_short (s : ByteArray) (w : World) (h : s.size < 2) : Calls Tryd.prog 5 #[.string s] w (Ret (.tuple #[.int .i64 0, .bool false, .bool false]) w) := by
  have h0 : ((s.size : Int) < 2) := by omega
  clear h
  go_enter Tryd.func5, Tryd.ntmps5
  go_wp2
  go_ret3
  exact Ret.mk rfl (Below.refl _ _)

set_option maxRecDepth 100000 in
set_option maxHeartbeats 2000000 in
theorem slot_head (s : ByteArray) (w : World) (h : 2 ≤ s.size) (h1 : ¬ byteI s 0 = 86) (h2 : ¬ byteI s 0 = 66) : Calls Tryd.prog 5 #[.string s] w (Ret (.tuple #[.int .i64 0, .bool false, .bool false]) w) := by
  have h0 : ¬ ((s.size : Int) < 2) := by omega
  have hp : 0 < s.size := by omega
  have hs0 := byteI_get s 0 hp
  have hbr := byteI_range s 0
  generalize byteI s 0 = x at *
  have g1 : (x == 86) = false := by simpa using h1
  have g2 : (x != 86) = true := by simpa using h1
  have g3 : (x == 66) = false := by simpa using h2
  have g4 : (x != 66) = true := by simpa using h2
  clear h h1 h2
  go_enter Tryd.func5, Tryd.ntmps5
  go_wp2
  go_ret3
  exact Ret.mk rfl (Below.refl _ _)

/-- The listed variables of the library, as far as the walk asks. -/
def LaidV (w : World) : Prop := (∃ t p, w.var? Tryd.prog "strconv.ErrSyntax" = some #[.iface t p]) ∧ (∃ t p, w.var? Tryd.prog "strconv.ErrRange" = some #[.iface t p]) ∧
  Lib.TabIs Tryd.prog w "internal/strconv.uint64pow10" .u64 Lib.pow10Tab ∧ 2 < w.heap.size

theorem LaidV.below {w w' : World} (h : LaidV w) (hb : Below w.heap.size w w') : LaidV w' := by
  obtain ⟨⟨t1, p1, h1⟩, ⟨t2, p2, h2⟩, h3, h4⟩ := h
  have g1 : Tryd.prog.globalNamed "strconv.ErrSyntax" = some 0 := by kernel_rfl
  have g2 : Tryd.prog.globalNamed "strconv.ErrRange" = some 1 := by kernel_rfl
  have g3 : Tryd.prog.globalNamed "internal/strconv.uint64pow10" = some 2 := by kernel_rfl
  exact ⟨⟨t1, p1, var?_below hb g1 (by omega) h1⟩, ⟨t2, p2, var?_below hb g2 (by omega) h2⟩, var?_below hb g3 (by omega) h3, Nat.lt_of_lt_of_le h4 hb.size⟩

theorem below_drewN (w : World) (n : Nat) {B : Nat} : Below B w (w.drewN n) := ⟨rfl, rfl, rfl, Nat.le_refl _, fun _ _ => rfl⟩

theorem bytes_below (w : World) (t : TypeId) (x : _) : Below w.heap.size w (Lib.bytesWorld w t x) := by
  refine ⟨?_, ?_, ?_, ?_, ?_⟩
  · simp [Lib.bytesWorld, World.freeze, World.alloc, World.drew, -World.alloc_eq, -World.drew_eq]
  · simp [Lib.bytesWorld, World.freeze, World.alloc, World.drew, -World.alloc_eq, -World.drew_eq]
  · simp [Lib.bytesWorld, World.freeze, World.alloc, World.drew, -World.alloc_eq, -World.drew_eq]
  · rw [Lib.bytesWorld_size]; omega
  · exact fun k hk => Lib.bytesWorld_at_old _ _ _ _ hk

/-- The number of a text: a number, and nothing wrong; something wrong. -/
def AtoiR (w : World) (r : Lib.NumEnd Int) (e : Ending) (w' : World) : Prop := Below w.heap.size w w' ∧
  match r with
  | .ok v => e = .returned (.tuple #[.int .i64 v, .nilIface])
  | _ => ∃ n N, e = .returned (.tuple #[.int .i64 n, .iface 79 (.pointer (some ⟨N, 0, none⟩))])

theorem atoi_any (s : ByteArray) (hlim : s.size ≤ 281474976710656) (w : World) (h : LaidV w) : Calls Tryd.prog 11 #[.string s] w (AtoiR w (Lib.atoiAll s.data.toList)) := by
  obtain ⟨⟨t1, p1, h1⟩, ⟨t2, p2, h2⟩, h3, h4⟩ := h
  rcases hr : Lib.atoiAll s.data.toList with v | _ | _
  · refine (Any.strconv_Atoi_ok Tryd.laysC172 s (by omega) v hr w).mono fun e w' ⟨he, hw⟩ => ⟨?_, he⟩
    rcases hw with rfl | ⟨t, rfl⟩
    · exact Below.refl _ _
    · exact bytes_below _ _ _
  · exact (Any.strconv_Atoi_syntax_var Tryd.laysC172 s hlim hr t1 p1 w h1).mono fun e w' ⟨N, he, _, _, hb⟩ => ⟨hb, _, N, he⟩
  · exact (Any.strconv_Atoi_range_var Tryd.laysC172 s hlim hr t2 p2 w h2).mono fun e w' ⟨N, he, _, _, hb⟩ => ⟨hb, _, N, he⟩

theorem itoa_any (n : Int) (h0 : -9223372036854775808 ≤ n) (h1 : n ≤ 9223372036854775807) (w : World) (h : LaidV w) :
    Calls Tryd.prog 12 #[.int .i64 n] w (Ret (.string ⟨(Lib.itoa n).toArray⟩) w) :=
  (Any.strconv_Itoa Tryd.laysM171 n h0 h1 w h.2.2.1).mono fun e w' ⟨he, k, os, hw⟩ => ⟨he, by subst hw; exact Lib.below_grow _ _ (Nat.le_refl _) _ _⟩

set_option maxRecDepth 100000 in
set_option maxHeartbeats 2000000 in
theorem slot_err (s : ByteArray) (w : World) (h : 2 ≤ s.size) (hlim : s.size ≤ 281474976710656) (hx : byteI s 0 = 86 ∨ byteI s 0 = 66) (hv : LaidV w) (he : ∀ v, Lib.atoiAll (s.extract 1 s.size).data.toList ≠ .ok v) :
    Calls Tryd.prog 5 #[.string s] w (Ret (.tuple #[.int .i64 0, .bool false, .bool false]) w) := by
  have h0 : ¬ ((s.size : Int) < 2) := by omega
  have h00 : (1 : Int) ≤ (s.size : Int) := by omega
  have hp : 0 < s.size := by omega
  have hs0 := byteI_get s 0 hp
  have hbr := byteI_range s 0
  have HV := Lib.hid hv
  have HE := Lib.hid he
  have hsz : (s.extract 1 s.size).size ≤ 281474976710656 := by simp; omega
  generalize byteI s 0 = x at *
  clear h hv he
  rcases hx with rfl | rfl
  all_goals
    go_enter Tryd.func5, Tryd.ntmps5
    go_wp2_with fail
    refine (atoi_any (s.extract 1 s.size) hsz _ HV.out).mono ?_
    rintro e w1 ⟨hb, hr⟩
    have HB := Lib.hid hb
    obtain ⟨n, N, rfl⟩ : ∃ n N, e = .returned (.tuple #[.int .i64 n, .iface 79 (.pointer (some ⟨N, 0, none⟩))]) := by
      rcases h : Lib.atoiAll (s.extract 1 s.size).data.toList with v | _ | _
      · exact absurd h (HE.out v)
      · rw [h] at hr; exact hr
      · rw [h] at hr; exact hr
    clear hr hb
    go_wp2_with fail
    go_quiet (fail)
    go_wp2
    go_ret3
    exact Ret.mk rfl (HB.out.trans (below_drewN _ _))

end Go.Proofs.YtpffmndfanknaaaDoor
