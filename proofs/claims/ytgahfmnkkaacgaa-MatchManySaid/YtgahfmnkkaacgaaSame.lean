/- The order of two ints; whether they are the same. -/
import Derived.Test.YtgahfmnkkaacgaaMWalk
namespace Go.Proofs.Ytgahfmnkkaacgaa
set_option linter.unusedVariables false
set_option linter.unusedSimpArgs false
open Go.RowKit

def intT (n : Int) : LT := .mk 1 n 0 0 ⟨#[]⟩ 0 0 0 [] []
def intOk (n : Int) : Prop := -4611686018427387904 ≤ n ∧ n ≤ 4611686018427387903

theorem right_int {n : Int} (h : intOk n) : rightF 1 n 0 0 ⟨#[]⟩ 0 0 0 0 0 = true := by
  unfold rightF
  simp [zeroC_zero, h.1, h.2]
theorem check_int {n : Int} (h : intOk n) : checkF (intT n) = 0 := by
  unfold intT checkF partF partsF
  simp [bareEmpty, goodF, emptyF, zeroC_zero, right_int h]
theorem plain_int (n : Int) : LT.plain (intT n) := by unfold intT LT.plain LT.plains; exact ⟨by decide, trivial⟩
theorem int_at (w : World) (B : Nat) (n : Int) (A1 : Option Addr) (c1 : Nat) (A2 : Option Addr) (c2 : Nat) : LT.at w B (intT n) (tcells 1 n 0 0 ⟨#[]⟩ 0 0 0 A1 0 c1 A2 0 c2) := by
  unfold intT LT.at
  exact ⟨A1, c1, A2, c2, rfl, ⟨by simp, .inl rfl⟩, by simp, by unfold LT.ats; trivial⟩

def cmpI (a b : Int) : Int := if a < b then -1 else if b < a then 1 else 0

set_option maxRecDepth 100000 in
set_option maxHeartbeats 1000000 in
theorem ncmp_int (a b : Int) (ha : intOk a) (hb : intOk b) (A1 : Option Addr) (c1 : Nat) (A2 : Option Addr) (c2 : Nat) (B1 : Option Addr) (d1 : Nat) (B2 : Option Addr) (d2 : Nat) (w : World) :
    Calls Try.prog 44 #[.agg #[.int .i64 1, .int .i64 a, .complex .f64 0 0, .string ⟨#[]⟩, .int .i64 0, .int .u32 0, .int .u64 0, .slice A1 0 c1, .slice A2 0 c2],
      .agg #[.int .i64 1, .int .i64 b, .complex .f64 0 0, .string ⟨#[]⟩, .int .i64 0, .int .u32 0, .int .u64 0, .slice B1 0 d1, .slice B2 0 d2]] w (Ret (.tuple #[.int .i64 (cmpI a b), .int .i64 0]) w) := by
  have HA := Lib.hid (right_int ha)
  have HB := Lib.hid (right_int hb)
  clear ha hb
  generalize hC : cmpI a b = C
  have HC := Lib.hid hC
  clear hC
  go_enter Try.func44, Try.ntmps44
  go_wp2_with fail
  refine (right_any _ _ _ _ _ _ _ _ _ _ _ _ _ _ _ (by decide)).mono ?_
  rw [HA.out]
  rintro e w1 ⟨rfl, hb1⟩
  have hz1 : w.heap.size < w1.heap.size := by have := hb1.size; simp at this; omega
  have hy1 : w.heap.size + 1 < w1.heap.size := by have := hb1.size; simp at this; omega
  have HB1 := Lib.hid ((((Below.refl w.heap.size w).alloc (Nat.le_refl _) _).alloc (by simp) _).trans (hb1.mono (by simp; omega)))
  obtain ⟨hc1, hf1⟩ := bcell hb1
  clear hb1 hf1
  go_wp2_with fail
  refine (right_any _ _ _ _ _ _ _ _ _ _ _ _ _ _ _ (by decide)).mono ?_
  rw [HB.out]
  rintro e w2 ⟨rfl, hb2⟩
  have HB2 := Lib.hid (HB1.out.trans (hb2.mono (by omega)))
  obtain ⟨hc2, hf2⟩ := bcell hb2
  clear hb2 hf2
  rcases Int.lt_trichotomy a b with h | h | h
  · have hC : C = -1 := by rw [← HC.out]; unfold cmpI; rw [if_pos h]
    subst hC
    go_wp2
    go_ret2
    exact ⟨rfl, HB2.out⟩
  · subst h
    have hC : C = 0 := by rw [← HC.out]; unfold cmpI; simp
    subst hC
    have hi := Int.lt_irrefl a
    go_wp2
    go_ret2
    exact ⟨rfl, HB2.out⟩
  · have hC : C = 1 := by rw [← HC.out]; unfold cmpI; rw [if_neg (by omega), if_pos h]
    subst hC
    have hn : ¬ a < b := by omega
    go_wp2
    go_ret2
    exact ⟨rfl, HB2.out⟩

set_option maxRecDepth 100000 in
set_option maxHeartbeats 1000000 in
theorem order_int (a b : Int) (ha : intOk a) (hb : intOk b) (A1 : Option Addr) (c1 : Nat) (A2 : Option Addr) (c2 : Nat) (B1 : Option Addr) (d1 : Nat) (B2 : Option Addr) (d2 : Nat) (w : World) :
    Calls Try.prog 42 #[.agg #[.int .i64 1, .int .i64 a, .complex .f64 0 0, .string ⟨#[]⟩, .int .i64 0, .int .u32 0, .int .u64 0, .slice A1 0 c1, .slice A2 0 c2],
      .agg #[.int .i64 1, .int .i64 b, .complex .f64 0 0, .string ⟨#[]⟩, .int .i64 0, .int .u32 0, .int .u64 0, .slice B1 0 d1, .slice B2 0 d2]] w (Ret (.int .i64 (cmpI a b)) w) := by
  have HA := Lib.hid ha
  have HB := Lib.hid hb
  clear ha hb
  go_enter Try.func42, Try.ntmps42
  go_wp2_with fail
  refine (ncmp_int _ _ HA.out HB.out _ _ _ _ _ _ _ _ _).mono ?_
  rintro e w1 ⟨rfl, hb1⟩
  have HB1 := Lib.hid ((((Below.refl w.heap.size w).alloc (Nat.le_refl _) _).alloc (by simp) _).trans (hb1.mono (by simp; omega)))
  clear hb1
  go_wp2
  go_ret
  exact Ret.mk rfl HB1.out

set_option maxRecDepth 100000 in
set_option maxHeartbeats 1000000 in
theorem cmp_int (a b : Int) (ha : intOk a) (hb : intOk b) (A1 : Option Addr) (c1 : Nat) (A2 : Option Addr) (c2 : Nat) (B1 : Option Addr) (d1 : Nat) (B2 : Option Addr) (d2 : Nat) (w : World) :
    Calls Try.prog 40 #[.agg #[.int .i64 1, .int .i64 a, .complex .f64 0 0, .string ⟨#[]⟩, .int .i64 0, .int .u32 0, .int .u64 0, .slice A1 0 c1, .slice A2 0 c2],
      .agg #[.int .i64 1, .int .i64 b, .complex .f64 0 0, .string ⟨#[]⟩, .int .i64 0, .int .u32 0, .int .u64 0, .slice B1 0 d1, .slice B2 0 d2]] w (Ret (.tuple #[.int .i64 (cmpI a b), .int .i64 0]) w) := by
  have HA := Lib.hid ha
  have HB := Lib.hid hb
  have HPA := Lib.hid (plain_int a)
  have HPB := Lib.hid (plain_int b)
  clear ha hb
  go_enter Try.func40, Try.ntmps40
  go_wp2_with fail
  refine (check_any (intT a) (tcells 1 a 0 0 ⟨#[]⟩ 0 0 0 A1 0 c1 A2 0 c2) _ HPA.out (int_at _ _ _ _ _ _ _)).mono ?_
  rw [check_int HA.out]
  rintro e w1 ⟨rfl, hb1⟩
  have hz1 : w.heap.size < w1.heap.size := by have := hb1.size; simp at this; omega
  have hy1 : w.heap.size + 1 < w1.heap.size := by have := hb1.size; simp at this; omega
  have HB1 := Lib.hid ((((Below.refl w.heap.size w).alloc (Nat.le_refl _) _).alloc (by simp) _).trans (hb1.mono (by simp; omega)))
  obtain ⟨hc1, hf1⟩ := bcell hb1
  clear hb1 hf1
  go_wp2_with fail
  refine (check_any (intT b) (tcells 1 b 0 0 ⟨#[]⟩ 0 0 0 B1 0 d1 B2 0 d2) _ HPB.out (int_at _ _ _ _ _ _ _)).mono ?_
  rw [check_int HB.out]
  rintro e w2 ⟨rfl, hb2⟩
  have hz2 : w.heap.size < w2.heap.size := by have := hb2.size; omega
  have hy2 : w.heap.size + 1 < w2.heap.size := by have := hb2.size; omega
  have HB2 := Lib.hid (HB1.out.trans (hb2.mono (by omega)))
  obtain ⟨hc2, hf2⟩ := bcell hb2
  clear hb2 hf2
  go_wp2_with fail
  refine (order_int _ _ HA.out HB.out _ _ _ _ _ _ _ _ _).mono ?_
  rintro e w3 ⟨rfl, hb3⟩
  have HB3 := Lib.hid (HB2.out.trans (hb3.mono (by omega)))
  clear hb3
  go_wp2
  go_ret2
  exact ⟨rfl, HB3.out⟩

set_option maxRecDepth 100000 in
set_option maxHeartbeats 1000000 in
theorem same_int (a b : Int) (ha : intOk a) (hb : intOk b) (A1 : Option Addr) (c1 : Nat) (A2 : Option Addr) (c2 : Nat) (B1 : Option Addr) (d1 : Nat) (B2 : Option Addr) (d2 : Nat) (w : World) :
    Calls Try.prog 24 #[.agg #[.int .i64 1, .int .i64 a, .complex .f64 0 0, .string ⟨#[]⟩, .int .i64 0, .int .u32 0, .int .u64 0, .slice A1 0 c1, .slice A2 0 c2],
      .agg #[.int .i64 1, .int .i64 b, .complex .f64 0 0, .string ⟨#[]⟩, .int .i64 0, .int .u32 0, .int .u64 0, .slice B1 0 d1, .slice B2 0 d2]] w (Ret (.bool (decide (a = b))) w) := by
  have HA := Lib.hid ha
  have HB := Lib.hid hb
  clear ha hb
  generalize hR : decide (a = b) = R
  have HR := Lib.hid hR
  clear hR
  go_enter Try.func24, Try.ntmps24
  go_wp2_with fail
  refine (cmp_int _ _ HA.out HB.out _ _ _ _ _ _ _ _ _).mono ?_
  rintro e w1 ⟨rfl, hb1⟩
  have HB1 := Lib.hid ((((Below.refl w.heap.size w).alloc (Nat.le_refl _) _).alloc (by simp) _).trans (hb1.mono (by simp; omega)))
  clear hb1
  have hcmp : (cmpI a b == 0) = R := by
    rw [← HR.out]
    unfold cmpI
    rcases Int.lt_trichotomy a b with h | h | h
    · have : a ≠ b := by omega
      simp [h, this]
    · simp [h]
    · have h1 : a ≠ b := by omega
      have h2 : ¬ a < b := by omega
      simp [h, h1, h2]
  go_wp2
  go_ret
  exact Ret.mk rfl HB1.out

end Go.Proofs.Ytgahfmnkkaacgaa
