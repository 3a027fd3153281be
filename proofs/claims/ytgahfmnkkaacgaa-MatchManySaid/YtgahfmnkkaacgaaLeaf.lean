/- What the term package's small functions do. -/
import Derived.Test.YtgahfmnkkaacgaaProg
import Derived.Test.YtgahfmnkkaacgaaTerm
namespace Go.Proofs.Ytgahfmnkkaacgaa
set_option linter.unusedVariables false
set_option linter.unusedSimpArgs false
open Go.RowKit

set_option maxHeartbeats 400000 in
theorem int_any (n : Int) (w : World) :
    Calls Try.prog 6 #[.int .i64 n] w (Ret (.agg #[.int .i64 1, .int .i64 n, .complex .f64 0 0, .string ⟨#[]⟩, .int .i64 0, .int .u32 0, .int .u64 0, .slice none 0 0, .slice none 0 0]) w) := by
  go_enter Try.func6, Try.ntmps6
  go_wp2
  exact bodyPost_ret (v := .agg #[.int .i64 1, .int .i64 n, .complex .f64 0 0, .string ⟨#[]⟩, .int .i64 0, .int .u32 0, .int .u64 0, .slice none 0 0, .slice none 0 0]) (by simp [results, Try.results6, go_sem]) rfl (Ret.mk rfl ((Below.refl _ _).alloc (Nat.le_refl _) _))

set_option maxHeartbeats 400000 in
theorem atom_any (s : ByteArray) (w : World) :
    Calls Try.prog 7 #[.string s] w (Ret (.agg #[.int .i64 3, .int .i64 0, .complex .f64 0 0, .string s, .int .i64 0, .int .u32 0, .int .u64 0, .slice none 0 0, .slice none 0 0]) w) := by
  go_enter Try.func7, Try.ntmps7
  go_wp2
  exact bodyPost_ret (v := .agg #[.int .i64 3, .int .i64 0, .complex .f64 0 0, .string s, .int .i64 0, .int .u32 0, .int .u64 0, .slice none 0 0, .slice none 0 0]) (by simp [results, Try.results7, go_sem]) rfl (Ret.mk rfl ((Below.refl _ _).alloc (Nat.le_refl _) _))

set_option maxHeartbeats 1000000 in
theorem right_any (k n : Int) (re im : Nat) (s : ByteArray) (a b c : Int) (A1 A2 : Option Addr) (n1 c1 n2 c2 : Nat) (w : World) (hk : k ≠ 2) :
    Calls Try.prog 27 #[.agg #[.int .i64 k, .int .i64 n, .complex .f64 re im, .string s, .int .i64 a, .int .u32 b, .int .u64 c, .slice A1 n1 c1, .slice A2 n2 c2]] w
      (Ret (.bool (rightF k n re im s a b c n1 n2)) w) := by
  have hk2 : (k == 2) = false := by simpa using hk
  clear hk
  go_enter Try.func27, Try.ntmps27
  go_wp2
  all_goals (go_ret; refine Ret.mk ?_ ((Below.refl _ _).alloc (Nat.le_refl _) _))
  all_goals (simp_all [rightF, zeroC] <;> omega)

set_option maxHeartbeats 1000000 in
theorem empty_any (k n : Int) (re im : Nat) (s : ByteArray) (a b c : Int) (A1 A2 : Option Addr) (n1 c1 n2 c2 : Nat) (w : World) :
    Calls Try.prog 39 #[.agg #[.int .i64 k, .int .i64 n, .complex .f64 re im, .string s, .int .i64 a, .int .u32 b, .int .u64 c, .slice A1 n1 c1, .slice A2 n2 c2]] w
      (Ret (.bool (emptyF n re im s a b c n1 n2)) w) := by
  go_enter Try.func39, Try.ntmps39
  go_wp2
  all_goals (go_ret; refine Ret.mk ?_ ((Below.refl _ _).alloc (Nat.le_refl _) _))
  all_goals (simp_all [emptyF, zeroC] <;> first | omega | (rw [Bool.eq_iff_iff]; simp; done) | (rw [Bool.eq_iff_iff]; simp; omega))

set_option maxHeartbeats 1000000 in
theorem id_any (a b c : Int) (w : World) :
    Calls Try.prog 29 #[.agg #[.int .i64 a, .int .u32 b, .int .u64 c]] w (Ret (.bool (idF a b c)) w) := by
  go_enter Try.func29, Try.ntmps29
  go_wp2
  all_goals (go_ret; refine Ret.mk ?_ ((Below.refl _ _).alloc (Nat.le_refl _) _))
  all_goals (simp_all [idF] <;> omega)


set_option maxHeartbeats 1000000 in
theorem noId_any (k n : Int) (re im : Nat) (s : ByteArray) (a b c : Int) (A1 A2 : Option Addr) (n1 c1 n2 c2 : Nat) (w : World) :
    Calls Try.prog 31 #[.agg #[.int .i64 k, .int .i64 n, .complex .f64 re im, .string s, .int .i64 a, .int .u32 b, .int .u64 c, .slice A1 n1 c1, .slice A2 n2 c2]] w
      (Ret (.agg #[.int .i64 k, .int .i64 n, .complex .f64 re im, .string s, .int .i64 0, .int .u32 0, .int .u64 0, .slice A1 n1 c1, .slice A2 n2 c2]) w) := by
  go_enter Try.func31, Try.ntmps31
  go_wp2
  refine bodyPost_ret (v := .agg #[.int .i64 k, .int .i64 n, .complex .f64 re im, .string s, .int .i64 0, .int .u32 0, .int .u64 0, .slice A1 n1 c1, .slice A2 n2 c2]) (by simp [results, Try.results31, go_sem]) rfl (Ret.mk rfl ?_)
  repeat (first | exact Below.refl _ _ | refine Below.alloc ?_ (by simp) _ | refine Below.setCell ?_ (by simp) _)

set_option maxHeartbeats 1000000 in
theorem noL_any (k n : Int) (re im : Nat) (s : ByteArray) (a b c : Int) (A1 A2 : Option Addr) (n1 c1 n2 c2 : Nat) (w : World) :
    Calls Try.prog 32 #[.agg #[.int .i64 k, .int .i64 n, .complex .f64 re im, .string s, .int .i64 a, .int .u32 b, .int .u64 c, .slice A1 n1 c1, .slice A2 n2 c2]] w
      (Ret (.agg #[.int .i64 k, .int .i64 n, .complex .f64 re im, .string s, .int .i64 a, .int .u32 b, .int .u64 c, .slice A1 n1 c1, .slice none 0 0]) w) := by
  go_enter Try.func32, Try.ntmps32
  go_wp2
  refine bodyPost_ret (v := .agg #[.int .i64 k, .int .i64 n, .complex .f64 re im, .string s, .int .i64 a, .int .u32 b, .int .u64 c, .slice A1 n1 c1, .slice none 0 0]) (by simp [results, Try.results32, go_sem]) rfl (Ret.mk rfl ?_)
  repeat (first | exact Below.refl _ _ | refine Below.alloc ?_ (by simp) _ | refine Below.setCell ?_ (by simp) _)

set_option maxHeartbeats 1000000 in
theorem noN_any (k n : Int) (re im : Nat) (s : ByteArray) (a b c : Int) (A1 A2 : Option Addr) (n1 c1 n2 c2 : Nat) (w : World) :
    Calls Try.prog 33 #[.agg #[.int .i64 k, .int .i64 n, .complex .f64 re im, .string s, .int .i64 a, .int .u32 b, .int .u64 c, .slice A1 n1 c1, .slice A2 n2 c2]] w
      (Ret (.agg #[.int .i64 k, .int .i64 0, .complex .f64 re im, .string s, .int .i64 a, .int .u32 b, .int .u64 c, .slice A1 n1 c1, .slice A2 n2 c2]) w) := by
  go_enter Try.func33, Try.ntmps33
  go_wp2
  refine bodyPost_ret (v := .agg #[.int .i64 k, .int .i64 0, .complex .f64 re im, .string s, .int .i64 a, .int .u32 b, .int .u64 c, .slice A1 n1 c1, .slice A2 n2 c2]) (by simp [results, Try.results33, go_sem]) rfl (Ret.mk rfl ?_)
  repeat (first | exact Below.refl _ _ | refine Below.alloc ?_ (by simp) _ | refine Below.setCell ?_ (by simp) _)

set_option maxHeartbeats 1000000 in
theorem noZ_any (k n : Int) (re im : Nat) (s : ByteArray) (a b c : Int) (A1 A2 : Option Addr) (n1 c1 n2 c2 : Nat) (w : World) :
    Calls Try.prog 34 #[.agg #[.int .i64 k, .int .i64 n, .complex .f64 re im, .string s, .int .i64 a, .int .u32 b, .int .u64 c, .slice A1 n1 c1, .slice A2 n2 c2]] w
      (Ret (.agg #[.int .i64 k, .int .i64 n, .complex .f64 0 0, .string s, .int .i64 a, .int .u32 b, .int .u64 c, .slice A1 n1 c1, .slice A2 n2 c2]) w) := by
  go_enter Try.func34, Try.ntmps34
  go_wp2
  refine bodyPost_ret (v := .agg #[.int .i64 k, .int .i64 n, .complex .f64 0 0, .string s, .int .i64 a, .int .u32 b, .int .u64 c, .slice A1 n1 c1, .slice A2 n2 c2]) (by simp [results, Try.results34, go_sem]) rfl (Ret.mk rfl ?_)
  repeat (first | exact Below.refl _ _ | refine Below.alloc ?_ (by simp) _ | refine Below.setCell ?_ (by simp) _)

set_option maxHeartbeats 1000000 in
theorem noS_any (k n : Int) (re im : Nat) (s : ByteArray) (a b c : Int) (A1 A2 : Option Addr) (n1 c1 n2 c2 : Nat) (w : World) :
    Calls Try.prog 35 #[.agg #[.int .i64 k, .int .i64 n, .complex .f64 re im, .string s, .int .i64 a, .int .u32 b, .int .u64 c, .slice A1 n1 c1, .slice A2 n2 c2]] w
      (Ret (.agg #[.int .i64 k, .int .i64 n, .complex .f64 re im, .string ⟨#[]⟩, .int .i64 a, .int .u32 b, .int .u64 c, .slice A1 n1 c1, .slice A2 n2 c2]) w) := by
  go_enter Try.func35, Try.ntmps35
  go_wp2
  refine bodyPost_ret (v := .agg #[.int .i64 k, .int .i64 n, .complex .f64 re im, .string ⟨#[]⟩, .int .i64 a, .int .u32 b, .int .u64 c, .slice A1 n1 c1, .slice A2 n2 c2]) (by simp [results, Try.results35, go_sem]) rfl (Ret.mk rfl ?_)
  repeat (first | exact Below.refl _ _ | refine Below.alloc ?_ (by simp) _ | refine Below.setCell ?_ (by simp) _)

set_option maxHeartbeats 1000000 in
theorem noB_any (k n : Int) (re im : Nat) (s : ByteArray) (a b c : Int) (A1 A2 : Option Addr) (n1 c1 n2 c2 : Nat) (w : World) :
    Calls Try.prog 38 #[.agg #[.int .i64 k, .int .i64 n, .complex .f64 re im, .string s, .int .i64 a, .int .u32 b, .int .u64 c, .slice A1 n1 c1, .slice A2 n2 c2]] w
      (Ret (.agg #[.int .i64 k, .int .i64 n, .complex .f64 re im, .string s, .int .i64 a, .int .u32 b, .int .u64 c, .slice none 0 0, .slice A2 n2 c2]) w) := by
  go_enter Try.func38, Try.ntmps38
  go_wp2
  refine bodyPost_ret (v := .agg #[.int .i64 k, .int .i64 n, .complex .f64 re im, .string s, .int .i64 a, .int .u32 b, .int .u64 c, .slice none 0 0, .slice A2 n2 c2]) (by simp [results, Try.results38, go_sem]) rfl (Ret.mk rfl ?_)
  repeat (first | exact Below.refl _ _ | refine Below.alloc ?_ (by simp) _ | refine Below.setCell ?_ (by simp) _)

set_option maxHeartbeats 1000000 in
theorem number_any (k n : Int) (re im : Nat) (s : ByteArray) (a b c : Int) (A1 A2 : Option Addr) (n1 c1 n2 c2 : Nat) (w : World) (hk : k ≠ 2) :
    Calls Try.prog 26 #[.agg #[.int .i64 k, .int .i64 n, .complex .f64 re im, .string s, .int .i64 a, .int .u32 b, .int .u64 c, .slice A1 n1 c1, .slice A2 n2 c2]] w
      (Ret (.bool (rightF k n re im s a b c n1 n2)) w) := by
  go_enter Try.func26, Try.ntmps26
  go_wp2_with (go_at_call 27; refine (right_any _ _ _ _ _ _ _ _ _ _ _ _ _ _ _ hk).mono ?_; rintro e w' ⟨rfl, hb⟩)
  go_ret
  refine Ret.mk rfl ?_
  exact ((Below.refl _ _).alloc (Nat.le_refl _) _).trans (hb.mono (by simp))

set_option maxHeartbeats 1000000 in
theorem named_any (k n : Int) (re im : Nat) (s : ByteArray) (a b c : Int) (A1 A2 : Option Addr) (n1 c1 n2 c2 : Nat) (w : World) :
    Calls Try.prog 28 #[.agg #[.int .i64 k, .int .i64 n, .complex .f64 re im, .string s, .int .i64 a, .int .u32 b, .int .u64 c, .slice A1 n1 c1, .slice A2 n2 c2]] w
      (Ret (.bool (idF a b c)) w) := by
  go_enter Try.func28, Try.ntmps28
  go_wp2_with (go_at_call 29; refine (id_any _ _ _ _).mono ?_; rintro e w' ⟨rfl, hb⟩)
  go_ret
  refine Ret.mk rfl ?_
  exact ((Below.refl _ _).alloc (Nat.le_refl _) _).trans (hb.mono (by simp))

set_option maxHeartbeats 1000000 in
theorem anyGood_any (k n : Int) (re im : Nat) (s : ByteArray) (a b c : Int) (A1 A2 : Option Addr) (n1 c1 n2 c2 : Nat) (w : World) :
    Calls Try.prog 30 #[.agg #[.int .i64 k, .int .i64 n, .complex .f64 re im, .string s, .int .i64 a, .int .u32 b, .int .u64 c, .slice A1 n1 c1, .slice A2 n2 c2]] w
      (Ret (.bool (true)) w) := by
  go_enter Try.func30, Try.ntmps30
  go_wp2
  go_ret
  refine Ret.mk rfl ?_
  exact ((Below.refl _ _).alloc (Nat.le_refl _) _)

end Go.Proofs.Ytgahfmnkkaacgaa
