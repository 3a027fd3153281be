/- What the term package's small functions do. -/
import Derived.Test.YtpffmndfanknaaaDoorProg
import Derived.Test.YtpffmndfanknaaaDoorTerm
namespace Go.Proofs.YtpffmndfanknaaaDoor
set_option linter.unusedVariables false
set_option linter.unusedSimpArgs false
open Go.RowKit

set_option maxHeartbeats 1000000 in
theorem right_any (k n : Int) (re im : Nat) (s : ByteArray) (a b c : Int) (A1 A2 : Option Addr) (n1 c1 n2 c2 : Nat) (w : World) (hk : k ≠ 2) :
    Calls Tryd.prog 51 #[.agg #[.int .i64 k, .int .i64 n, .complex .f64 re im, .string s, .int .i64 a, .int .u32 b, .int .u64 c, .slice A1 n1 c1, .slice A2 n2 c2]] w
      (Ret (.bool (rightF k n re im s a b c n1 n2)) w) := by
  have hk2 : (k == 2) = false := by simpa using hk
  clear hk
  go_enter Tryd.func51, Tryd.ntmps51
  go_wp2
  all_goals (go_ret; refine Ret.mk ?_ ((Below.refl _ _).alloc (Nat.le_refl _) _))
  all_goals (simp_all [rightF, zeroC] <;> omega)

set_option maxHeartbeats 1000000 in
theorem empty_any (k n : Int) (re im : Nat) (s : ByteArray) (a b c : Int) (A1 A2 : Option Addr) (n1 c1 n2 c2 : Nat) (w : World) :
    Calls Tryd.prog 63 #[.agg #[.int .i64 k, .int .i64 n, .complex .f64 re im, .string s, .int .i64 a, .int .u32 b, .int .u64 c, .slice A1 n1 c1, .slice A2 n2 c2]] w
      (Ret (.bool (emptyF n re im s a b c n1 n2)) w) := by
  go_enter Tryd.func63, Tryd.ntmps63
  go_wp2
  all_goals (go_ret; refine Ret.mk ?_ ((Below.refl _ _).alloc (Nat.le_refl _) _))
  all_goals (simp_all [emptyF, zeroC] <;> first | omega | (rw [Bool.eq_iff_iff]; simp; done) | (rw [Bool.eq_iff_iff]; simp; omega))

set_option maxHeartbeats 1000000 in
theorem id_any (a b c : Int) (w : World) :
    Calls Tryd.prog 53 #[.agg #[.int .i64 a, .int .u32 b, .int .u64 c]] w (Ret (.bool (idF a b c)) w) := by
  go_enter Tryd.func53, Tryd.ntmps53
  go_wp2
  all_goals (go_ret; refine Ret.mk ?_ ((Below.refl _ _).alloc (Nat.le_refl _) _))
  all_goals (simp_all [idF] <;> omega)


set_option maxHeartbeats 1000000 in
theorem noId_any (k n : Int) (re im : Nat) (s : ByteArray) (a b c : Int) (A1 A2 : Option Addr) (n1 c1 n2 c2 : Nat) (w : World) :
    Calls Tryd.prog 55 #[.agg #[.int .i64 k, .int .i64 n, .complex .f64 re im, .string s, .int .i64 a, .int .u32 b, .int .u64 c, .slice A1 n1 c1, .slice A2 n2 c2]] w
      (Ret (.agg #[.int .i64 k, .int .i64 n, .complex .f64 re im, .string s, .int .i64 0, .int .u32 0, .int .u64 0, .slice A1 n1 c1, .slice A2 n2 c2]) w) := by
  go_enter Tryd.func55, Tryd.ntmps55
  go_wp2
  refine bodyPost_ret (v := .agg #[.int .i64 k, .int .i64 n, .complex .f64 re im, .string s, .int .i64 0, .int .u32 0, .int .u64 0, .slice A1 n1 c1, .slice A2 n2 c2]) (by simp [results, Tryd.results55, go_sem]) rfl (Ret.mk rfl ?_)
  repeat (first | exact Below.refl _ _ | refine Below.alloc ?_ (by simp) _ | refine Below.setCell ?_ (by simp) _)

set_option maxHeartbeats 1000000 in
theorem noL_any (k n : Int) (re im : Nat) (s : ByteArray) (a b c : Int) (A1 A2 : Option Addr) (n1 c1 n2 c2 : Nat) (w : World) :
    Calls Tryd.prog 56 #[.agg #[.int .i64 k, .int .i64 n, .complex .f64 re im, .string s, .int .i64 a, .int .u32 b, .int .u64 c, .slice A1 n1 c1, .slice A2 n2 c2]] w
      (Ret (.agg #[.int .i64 k, .int .i64 n, .complex .f64 re im, .string s, .int .i64 a, .int .u32 b, .int .u64 c, .slice A1 n1 c1, .slice none 0 0]) w) := by
  go_enter Tryd.func56, Tryd.ntmps56
  go_wp2
  refine bodyPost_ret (v := .agg #[.int .i64 k, .int .i64 n, .complex .f64 re im, .string s, .int .i64 a, .int .u32 b, .int .u64 c, .slice A1 n1 c1, .slice none 0 0]) (by simp [results, Tryd.results56, go_sem]) rfl (Ret.mk rfl ?_)
  repeat (first | exact Below.refl _ _ | refine Below.alloc ?_ (by simp) _ | refine Below.setCell ?_ (by simp) _)

set_option maxHeartbeats 1000000 in
theorem noN_any (k n : Int) (re im : Nat) (s : ByteArray) (a b c : Int) (A1 A2 : Option Addr) (n1 c1 n2 c2 : Nat) (w : World) :
    Calls Tryd.prog 57 #[.agg #[.int .i64 k, .int .i64 n, .complex .f64 re im, .string s, .int .i64 a, .int .u32 b, .int .u64 c, .slice A1 n1 c1, .slice A2 n2 c2]] w
      (Ret (.agg #[.int .i64 k, .int .i64 0, .complex .f64 re im, .string s, .int .i64 a, .int .u32 b, .int .u64 c, .slice A1 n1 c1, .slice A2 n2 c2]) w) := by
  go_enter Tryd.func57, Tryd.ntmps57
  go_wp2
  refine bodyPost_ret (v := .agg #[.int .i64 k, .int .i64 0, .complex .f64 re im, .string s, .int .i64 a, .int .u32 b, .int .u64 c, .slice A1 n1 c1, .slice A2 n2 c2]) (by simp [results, Tryd.results57, go_sem]) rfl (Ret.mk rfl ?_)
  repeat (first | exact Below.refl _ _ | refine Below.alloc ?_ (by simp) _ | refine Below.setCell ?_ (by simp) _)

set_option maxHeartbeats 1000000 in
theorem noZ_any (k n : Int) (re im : Nat) (s : ByteArray) (a b c : Int) (A1 A2 : Option Addr) (n1 c1 n2 c2 : Nat) (w : World) :
    Calls Tryd.prog 58 #[.agg #[.int .i64 k, .int .i64 n, .complex .f64 re im, .string s, .int .i64 a, .int .u32 b, .int .u64 c, .slice A1 n1 c1, .slice A2 n2 c2]] w
      (Ret (.agg #[.int .i64 k, .int .i64 n, .complex .f64 0 0, .string s, .int .i64 a, .int .u32 b, .int .u64 c, .slice A1 n1 c1, .slice A2 n2 c2]) w) := by
  go_enter Tryd.func58, Tryd.ntmps58
  go_wp2
  refine bodyPost_ret (v := .agg #[.int .i64 k, .int .i64 n, .complex .f64 0 0, .string s, .int .i64 a, .int .u32 b, .int .u64 c, .slice A1 n1 c1, .slice A2 n2 c2]) (by simp [results, Tryd.results58, go_sem]) rfl (Ret.mk rfl ?_)
  repeat (first | exact Below.refl _ _ | refine Below.alloc ?_ (by simp) _ | refine Below.setCell ?_ (by simp) _)

set_option maxHeartbeats 1000000 in
theorem noS_any (k n : Int) (re im : Nat) (s : ByteArray) (a b c : Int) (A1 A2 : Option Addr) (n1 c1 n2 c2 : Nat) (w : World) :
    Calls Tryd.prog 59 #[.agg #[.int .i64 k, .int .i64 n, .complex .f64 re im, .string s, .int .i64 a, .int .u32 b, .int .u64 c, .slice A1 n1 c1, .slice A2 n2 c2]] w
      (Ret (.agg #[.int .i64 k, .int .i64 n, .complex .f64 re im, .string ⟨#[]⟩, .int .i64 a, .int .u32 b, .int .u64 c, .slice A1 n1 c1, .slice A2 n2 c2]) w) := by
  go_enter Tryd.func59, Tryd.ntmps59
  go_wp2
  refine bodyPost_ret (v := .agg #[.int .i64 k, .int .i64 n, .complex .f64 re im, .string ⟨#[]⟩, .int .i64 a, .int .u32 b, .int .u64 c, .slice A1 n1 c1, .slice A2 n2 c2]) (by simp [results, Tryd.results59, go_sem]) rfl (Ret.mk rfl ?_)
  repeat (first | exact Below.refl _ _ | refine Below.alloc ?_ (by simp) _ | refine Below.setCell ?_ (by simp) _)

set_option maxHeartbeats 1000000 in
theorem noB_any (k n : Int) (re im : Nat) (s : ByteArray) (a b c : Int) (A1 A2 : Option Addr) (n1 c1 n2 c2 : Nat) (w : World) :
    Calls Tryd.prog 62 #[.agg #[.int .i64 k, .int .i64 n, .complex .f64 re im, .string s, .int .i64 a, .int .u32 b, .int .u64 c, .slice A1 n1 c1, .slice A2 n2 c2]] w
      (Ret (.agg #[.int .i64 k, .int .i64 n, .complex .f64 re im, .string s, .int .i64 a, .int .u32 b, .int .u64 c, .slice none 0 0, .slice A2 n2 c2]) w) := by
  go_enter Tryd.func62, Tryd.ntmps62
  go_wp2
  refine bodyPost_ret (v := .agg #[.int .i64 k, .int .i64 n, .complex .f64 re im, .string s, .int .i64 a, .int .u32 b, .int .u64 c, .slice none 0 0, .slice A2 n2 c2]) (by simp [results, Tryd.results62, go_sem]) rfl (Ret.mk rfl ?_)
  repeat (first | exact Below.refl _ _ | refine Below.alloc ?_ (by simp) _ | refine Below.setCell ?_ (by simp) _)

set_option maxHeartbeats 1000000 in
theorem number_any (k n : Int) (re im : Nat) (s : ByteArray) (a b c : Int) (A1 A2 : Option Addr) (n1 c1 n2 c2 : Nat) (w : World) (hk : k ≠ 2) :
    Calls Tryd.prog 50 #[.agg #[.int .i64 k, .int .i64 n, .complex .f64 re im, .string s, .int .i64 a, .int .u32 b, .int .u64 c, .slice A1 n1 c1, .slice A2 n2 c2]] w
      (Ret (.bool (rightF k n re im s a b c n1 n2)) w) := by
  go_enter Tryd.func50, Tryd.ntmps50
  go_wp2_with (go_at_call 51; refine (right_any _ _ _ _ _ _ _ _ _ _ _ _ _ _ _ hk).mono ?_; rintro e w' ⟨rfl, hb⟩)
  go_ret
  refine Ret.mk rfl ?_
  exact ((Below.refl _ _).alloc (Nat.le_refl _) _).trans (hb.mono (by simp))

set_option maxHeartbeats 1000000 in
theorem named_any (k n : Int) (re im : Nat) (s : ByteArray) (a b c : Int) (A1 A2 : Option Addr) (n1 c1 n2 c2 : Nat) (w : World) :
    Calls Tryd.prog 52 #[.agg #[.int .i64 k, .int .i64 n, .complex .f64 re im, .string s, .int .i64 a, .int .u32 b, .int .u64 c, .slice A1 n1 c1, .slice A2 n2 c2]] w
      (Ret (.bool (idF a b c)) w) := by
  go_enter Tryd.func52, Tryd.ntmps52
  go_wp2_with (go_at_call 53; refine (id_any _ _ _ _).mono ?_; rintro e w' ⟨rfl, hb⟩)
  go_ret
  refine Ret.mk rfl ?_
  exact ((Below.refl _ _).alloc (Nat.le_refl _) _).trans (hb.mono (by simp))

set_option maxHeartbeats 1000000 in
theorem anyGood_any (k n : Int) (re im : Nat) (s : ByteArray) (a b c : Int) (A1 A2 : Option Addr) (n1 c1 n2 c2 : Nat) (w : World) :
    Calls Tryd.prog 54 #[.agg #[.int .i64 k, .int .i64 n, .complex .f64 re im, .string s, .int .i64 a, .int .u32 b, .int .u64 c, .slice A1 n1 c1, .slice A2 n2 c2]] w
      (Ret (.bool (true)) w) := by
  go_enter Tryd.func54, Tryd.ntmps54
  go_wp2
  go_ret
  refine Ret.mk rfl ?_
  exact ((Below.refl _ _).alloc (Nat.le_refl _) _)

end Go.Proofs.YtpffmndfanknaaaDoor
