/- Which names are slots: the document's answer, walked. -/
import Derived.Test.YtpffmndfanknaaaDoorSlotD
namespace Go.Proofs.YtpffmndfanknaaaDoor
set_option linter.unusedVariables false
set_option linter.unusedSimpArgs false
open Go.RowKit

set_option maxRecDepth 100000 in
set_option maxHeartbeats 2000000 in
theorem ref_short (s : ByteArray) (w : World) (h : s.size < 2) :
    Calls Tryd.prog 6 #[.string s] w (Ret (.tuple #[.int .i64 0, .bool false, .bool false]) w) := by
  have h0 : ((s.size : Int) < 2) := by omega
  clear h

  all_goals (go_enter Tryd.func6, Tryd.ntmps6; go_wp2)
  all_goals
    go_ret3
    exact Ret.mk rfl (Below.refl _ _)

set_option maxRecDepth 100000 in
set_option maxHeartbeats 2000000 in
theorem ref_long (s : ByteArray) (w : World) (h : 3 < s.size) :
    Calls Tryd.prog 6 #[.string s] w (Ret (.tuple #[.int .i64 0, .bool false, .bool false]) w) := by
  have h0 : ¬ ((s.size : Int) < 2) := by omega
  have h3 : ((3 : Int) < (s.size : Int)) := by omega
  clear h

  all_goals (go_enter Tryd.func6, Tryd.ntmps6; go_wp2)
  all_goals
    go_ret3
    exact Ret.mk rfl (Below.refl _ _)

set_option maxRecDepth 100000 in
set_option maxHeartbeats 2000000 in
theorem ref_head (s : ByteArray) (w : World) (h : 2 ≤ s.size) (h4 : s.size ≤ 3) (h1 : ¬ byteI s 0 = 86) (h2 : ¬ byteI s 0 = 66) :
    Calls Tryd.prog 6 #[.string s] w (Ret (.tuple #[.int .i64 0, .bool false, .bool false]) w) := by
  have h0 : ¬ ((s.size : Int) < 2) := by omega
  have h3 : ¬ ((3 : Int) < (s.size : Int)) := by omega
  have hp0 : 0 < s.size := by omega
  have hs0 := byteI_get s 0 hp0
  have hr0 := byteI_range s 0
  have hp : (0 : Int) < (s.size : Int) := by omega
  generalize byteI s 0 = x at *
  have g1 : (x == 86) = false := by simpa using h1
  have g2 : (x != 86) = true := by simpa using h1
  have g3 : (x == 66) = false := by simpa using h2
  have g4 : (x != 66) = true := by simpa using h2
  clear h1 h2

  all_goals (go_enter Tryd.func6, Tryd.ntmps6; go_wp2)
  all_goals
    go_ret3
    exact Ret.mk rfl (Below.refl _ _)

set_option maxRecDepth 100000 in
set_option maxHeartbeats 2000000 in
theorem ref_2_lo (s : ByteArray) (w : World) (h : s.size = 2) (hx : byteI s 0 = 86 ∨ byteI s 0 = 66) (hy : byteI s 1 < 48) :
    Calls Tryd.prog 6 #[.string s] w (Ret (.tuple #[.int .i64 0, .bool false, .bool false]) w) := by
  have h0 : ¬ ((s.size : Int) < 2) := by omega
  have h3 : ¬ ((3 : Int) < (s.size : Int)) := by omega
  have hp0 : 0 < s.size := by omega
  have hs0 := byteI_get s 0 hp0
  have hr0 := byteI_range s 0
  have hp1 : 1 < s.size := by omega
  have hs1 := byteI_get s 1 hp1
  have hr1 := byteI_range s 1
  generalize byteI s 0 = x at *
  generalize byteI s 1 = y at *
  clear h0 h3
  have qyfalse : (y == 48) = false := by simp; omega

  rcases hx with rfl | rfl
  all_goals (go_enter Tryd.func6, Tryd.ntmps6; go_wp2)
  all_goals (refine wp_loop_rounds 1 ?_)
  all_goals (rw [rounds_succ])
  all_goals go_wp2
  all_goals
    go_ret3
    exact Ret.mk rfl (Below.refl _ _)

set_option maxRecDepth 100000 in
set_option maxHeartbeats 2000000 in
theorem ref_2_hi (s : ByteArray) (w : World) (h : s.size = 2) (hx : byteI s 0 = 86 ∨ byteI s 0 = 66) (hy : 57 < byteI s 1) :
    Calls Tryd.prog 6 #[.string s] w (Ret (.tuple #[.int .i64 0, .bool false, .bool false]) w) := by
  have h0 : ¬ ((s.size : Int) < 2) := by omega
  have h3 : ¬ ((3 : Int) < (s.size : Int)) := by omega
  have hp0 : 0 < s.size := by omega
  have hs0 := byteI_get s 0 hp0
  have hr0 := byteI_range s 0
  have hp1 : 1 < s.size := by omega
  have hs1 := byteI_get s 1 hp1
  have hr1 := byteI_range s 1
  generalize byteI s 0 = x at *
  generalize byteI s 1 = y at *
  clear h0 h3
  have qyfalse : (y == 48) = false := by simp; omega
  have d9535 : decide (y < 48) = false := by simp; omega

  rcases hx with rfl | rfl
  all_goals (go_enter Tryd.func6, Tryd.ntmps6; go_wp2)
  all_goals (refine wp_loop_rounds 1 ?_)
  all_goals (rw [rounds_succ])
  all_goals go_wp2
  all_goals
    go_ret3
    exact Ret.mk rfl (Below.refl _ _)

set_option maxRecDepth 100000 in
set_option maxHeartbeats 2000000 in
theorem ref_2_ok (s : ByteArray) (w : World) (h : s.size = 2) (hx : byteI s 0 = 86 ∨ byteI s 0 = 66) (hy1 : 48 ≤ byteI s 1) (hy2 : byteI s 1 ≤ 57) :
    Calls Tryd.prog 6 #[.string s] w (Ret (.tuple #[.int .i64 (byteI s 1 - 48), .bool (decide (byteI s 0 = 66)), .bool true]) w) := by
  have h0 : ¬ ((s.size : Int) < 2) := by omega
  have h3 : ¬ ((3 : Int) < (s.size : Int)) := by omega
  have hp0 : 0 < s.size := by omega
  have hs0 := byteI_get s 0 hp0
  have hr0 := byteI_range s 0
  have hp1 : 1 < s.size := by omega
  have hs1 := byteI_get s 1 hp1
  have hr1 := byteI_range s 1
  generalize byteI s 0 = x at *
  generalize byteI s 1 = y at *
  clear h0 h3
  have d9535 : decide (y < 48) = false := by simp; omega
  have d738 : decide (57 < y) = false := by simp; omega
  have d8429 : decide (71 < y - 48) = false := by simp; omega

  rcases hx with rfl | rfl
  all_goals (go_enter Tryd.func6, Tryd.ntmps6; go_wp2)
  all_goals (refine wp_loop_rounds 2 ?_)
  all_goals (rw [rounds_succ])
  all_goals go_wp2
  all_goals (rw [rounds_succ])
  all_goals go_wp2
  all_goals
    go_quiet (fail)
    go_wp2
    go_ret3
    exact Ret.mk (by first | (simp; done) | (simp; omega)) (below_drewN _ _)

set_option maxRecDepth 100000 in
set_option maxHeartbeats 2000000 in
theorem ref_3_zero (s : ByteArray) (w : World) (h : s.size = 3) (hx : byteI s 0 = 86 ∨ byteI s 0 = 66) (hy : byteI s 1 = 48) :
    Calls Tryd.prog 6 #[.string s] w (Ret (.tuple #[.int .i64 0, .bool false, .bool false]) w) := by
  have h0 : ¬ ((s.size : Int) < 2) := by omega
  have h3 : ¬ ((3 : Int) < (s.size : Int)) := by omega
  have hp0 : 0 < s.size := by omega
  have hs0 := byteI_get s 0 hp0
  have hr0 := byteI_range s 0
  have hp1 : 1 < s.size := by omega
  have hs1 := byteI_get s 1 hp1
  have hr1 := byteI_range s 1
  generalize byteI s 0 = x at *
  generalize byteI s 1 = y at *
  clear h0 h3
  subst hy

  rcases hx with rfl | rfl
  all_goals (go_enter Tryd.func6, Tryd.ntmps6; go_wp2)
  all_goals
    go_ret3
    exact Ret.mk rfl (Below.refl _ _)

set_option maxRecDepth 100000 in
set_option maxHeartbeats 2000000 in
theorem ref_3_ylo (s : ByteArray) (w : World) (h : s.size = 3) (hx : byteI s 0 = 86 ∨ byteI s 0 = 66) (hy : byteI s 1 < 48) :
    Calls Tryd.prog 6 #[.string s] w (Ret (.tuple #[.int .i64 0, .bool false, .bool false]) w) := by
  have h0 : ¬ ((s.size : Int) < 2) := by omega
  have h3 : ¬ ((3 : Int) < (s.size : Int)) := by omega
  have hp0 : 0 < s.size := by omega
  have hs0 := byteI_get s 0 hp0
  have hr0 := byteI_range s 0
  have hp1 : 1 < s.size := by omega
  have hs1 := byteI_get s 1 hp1
  have hr1 := byteI_range s 1
  generalize byteI s 0 = x at *
  generalize byteI s 1 = y at *
  clear h0 h3
  have qyfalse : (y == 48) = false := by simp; omega

  rcases hx with rfl | rfl
  all_goals (go_enter Tryd.func6, Tryd.ntmps6; go_wp2)
  all_goals (refine wp_loop_rounds 1 ?_)
  all_goals (rw [rounds_succ])
  all_goals go_wp2
  all_goals
    go_ret3
    exact Ret.mk rfl (Below.refl _ _)

set_option maxRecDepth 100000 in
set_option maxHeartbeats 2000000 in
theorem ref_3_yhi (s : ByteArray) (w : World) (h : s.size = 3) (hx : byteI s 0 = 86 ∨ byteI s 0 = 66) (hy : 57 < byteI s 1) :
    Calls Tryd.prog 6 #[.string s] w (Ret (.tuple #[.int .i64 0, .bool false, .bool false]) w) := by
  have h0 : ¬ ((s.size : Int) < 2) := by omega
  have h3 : ¬ ((3 : Int) < (s.size : Int)) := by omega
  have hp0 : 0 < s.size := by omega
  have hs0 := byteI_get s 0 hp0
  have hr0 := byteI_range s 0
  have hp1 : 1 < s.size := by omega
  have hs1 := byteI_get s 1 hp1
  have hr1 := byteI_range s 1
  generalize byteI s 0 = x at *
  generalize byteI s 1 = y at *
  clear h0 h3
  have qyfalse : (y == 48) = false := by simp; omega
  have d9535 : decide (y < 48) = false := by simp; omega

  rcases hx with rfl | rfl
  all_goals (go_enter Tryd.func6, Tryd.ntmps6; go_wp2)
  all_goals (refine wp_loop_rounds 1 ?_)
  all_goals (rw [rounds_succ])
  all_goals go_wp2
  all_goals
    go_ret3
    exact Ret.mk rfl (Below.refl _ _)

set_option maxRecDepth 100000 in
set_option maxHeartbeats 2000000 in
theorem ref_3_zlo (s : ByteArray) (w : World) (h : s.size = 3) (hx : byteI s 0 = 86 ∨ byteI s 0 = 66) (hy1 : 48 < byteI s 1) (hy2 : byteI s 1 ≤ 57) (hz : byteI s 2 < 48) :
    Calls Tryd.prog 6 #[.string s] w (Ret (.tuple #[.int .i64 0, .bool false, .bool false]) w) := by
  have h0 : ¬ ((s.size : Int) < 2) := by omega
  have h3 : ¬ ((3 : Int) < (s.size : Int)) := by omega
  have hp0 : 0 < s.size := by omega
  have hs0 := byteI_get s 0 hp0
  have hr0 := byteI_range s 0
  have hp1 : 1 < s.size := by omega
  have hs1 := byteI_get s 1 hp1
  have hr1 := byteI_range s 1
  have hp2 : 2 < s.size := by omega
  have hs2 := byteI_get s 2 hp2
  have hr2 := byteI_range s 2
  generalize byteI s 0 = x at *
  generalize byteI s 1 = y at *
  generalize byteI s 2 = z at *
  clear h0 h3
  have qyfalse : (y == 48) = false := by simp; omega
  have d9535 : decide (y < 48) = false := by simp; omega
  have d738 : decide (57 < y) = false := by simp; omega

  rcases hx with rfl | rfl
  all_goals (go_enter Tryd.func6, Tryd.ntmps6; go_wp2)
  all_goals (refine wp_loop_rounds 2 ?_)
  all_goals (rw [rounds_succ])
  all_goals go_wp2
  all_goals (rw [rounds_succ])
  all_goals go_wp2
  all_goals
    go_ret3
    exact Ret.mk rfl (Below.refl _ _)

set_option maxRecDepth 100000 in
set_option maxHeartbeats 2000000 in
theorem ref_3_zhi (s : ByteArray) (w : World) (h : s.size = 3) (hx : byteI s 0 = 86 ∨ byteI s 0 = 66) (hy1 : 48 < byteI s 1) (hy2 : byteI s 1 ≤ 57) (hz : 57 < byteI s 2) :
    Calls Tryd.prog 6 #[.string s] w (Ret (.tuple #[.int .i64 0, .bool false, .bool false]) w) := by
  have h0 : ¬ ((s.size : Int) < 2) := by omega
  have h3 : ¬ ((3 : Int) < (s.size : Int)) := by omega
  have hp0 : 0 < s.size := by omega
  have hs0 := byteI_get s 0 hp0
  have hr0 := byteI_range s 0
  have hp1 : 1 < s.size := by omega
  have hs1 := byteI_get s 1 hp1
  have hr1 := byteI_range s 1
  have hp2 : 2 < s.size := by omega
  have hs2 := byteI_get s 2 hp2
  have hr2 := byteI_range s 2
  generalize byteI s 0 = x at *
  generalize byteI s 1 = y at *
  generalize byteI s 2 = z at *
  clear h0 h3
  have qyfalse : (y == 48) = false := by simp; omega
  have d9535 : decide (y < 48) = false := by simp; omega
  have d738 : decide (57 < y) = false := by simp; omega
  have d8737 : decide (z < 48) = false := by simp; omega

  rcases hx with rfl | rfl
  all_goals (go_enter Tryd.func6, Tryd.ntmps6; go_wp2)
  all_goals (refine wp_loop_rounds 2 ?_)
  all_goals (rw [rounds_succ])
  all_goals go_wp2
  all_goals (rw [rounds_succ])
  all_goals go_wp2
  all_goals
    go_ret3
    exact Ret.mk rfl (Below.refl _ _)

set_option maxRecDepth 100000 in
set_option maxHeartbeats 2000000 in
theorem ref_3_big (s : ByteArray) (w : World) (h : s.size = 3) (hx : byteI s 0 = 86 ∨ byteI s 0 = 66) (hy1 : 48 < byteI s 1) (hy2 : byteI s 1 ≤ 57) (hz1 : 48 ≤ byteI s 2) (hz2 : byteI s 2 ≤ 57) (hb : 71 < 10 * (byteI s 1 - 48) + (byteI s 2 - 48)) :
    Calls Tryd.prog 6 #[.string s] w (Ret (.tuple #[.int .i64 0, .bool false, .bool false]) w) := by
  have h0 : ¬ ((s.size : Int) < 2) := by omega
  have h3 : ¬ ((3 : Int) < (s.size : Int)) := by omega
  have hp0 : 0 < s.size := by omega
  have hs0 := byteI_get s 0 hp0
  have hr0 := byteI_range s 0
  have hp1 : 1 < s.size := by omega
  have hs1 := byteI_get s 1 hp1
  have hr1 := byteI_range s 1
  have hp2 : 2 < s.size := by omega
  have hs2 := byteI_get s 2 hp2
  have hr2 := byteI_range s 2
  generalize byteI s 0 = x at *
  generalize byteI s 1 = y at *
  generalize byteI s 2 = z at *
  clear h0 h3
  have qyfalse : (y == 48) = false := by simp; omega
  have d9535 : decide (y < 48) = false := by simp; omega
  have d738 : decide (57 < y) = false := by simp; omega
  have d8737 : decide (z < 48) = false := by simp; omega
  have d9598 : decide (57 < z) = false := by simp; omega

  rcases hx with rfl | rfl
  all_goals (go_enter Tryd.func6, Tryd.ntmps6; go_wp2)
  all_goals (refine wp_loop_rounds 3 ?_)
  all_goals (rw [rounds_succ])
  all_goals go_wp2
  all_goals (rw [rounds_succ])
  all_goals go_wp2
  all_goals (rw [rounds_succ])
  all_goals go_wp2
  all_goals
    go_ret3
    exact Ret.mk rfl (Below.refl _ _)

set_option maxRecDepth 100000 in
set_option maxHeartbeats 2000000 in
theorem ref_3_ok (s : ByteArray) (w : World) (h : s.size = 3) (hx : byteI s 0 = 86 ∨ byteI s 0 = 66) (hy1 : 48 < byteI s 1) (hy2 : byteI s 1 ≤ 57) (hz1 : 48 ≤ byteI s 2) (hz2 : byteI s 2 ≤ 57) (hb : 10 * (byteI s 1 - 48) + (byteI s 2 - 48) ≤ 71) :
    Calls Tryd.prog 6 #[.string s] w (Ret (.tuple #[.int .i64 (10 * (byteI s 1 - 48) + (byteI s 2 - 48)), .bool (decide (byteI s 0 = 66)), .bool true]) w) := by
  have h0 : ¬ ((s.size : Int) < 2) := by omega
  have h3 : ¬ ((3 : Int) < (s.size : Int)) := by omega
  have hp0 : 0 < s.size := by omega
  have hs0 := byteI_get s 0 hp0
  have hr0 := byteI_range s 0
  have hp1 : 1 < s.size := by omega
  have hs1 := byteI_get s 1 hp1
  have hr1 := byteI_range s 1
  have hp2 : 2 < s.size := by omega
  have hs2 := byteI_get s 2 hp2
  have hr2 := byteI_range s 2
  generalize byteI s 0 = x at *
  generalize byteI s 1 = y at *
  generalize byteI s 2 = z at *
  clear h0 h3
  have qyfalse : (y == 48) = false := by simp; omega
  have d9535 : decide (y < 48) = false := by simp; omega
  have d738 : decide (57 < y) = false := by simp; omega
  have d8737 : decide (z < 48) = false := by simp; omega
  have d9598 : decide (57 < z) = false := by simp; omega
  have d2665 : decide (71 < 10 * (y - 48) + (z - 48)) = false := by simp; omega

  rcases hx with rfl | rfl
  all_goals (go_enter Tryd.func6, Tryd.ntmps6; go_wp2)
  all_goals (refine wp_loop_rounds 3 ?_)
  all_goals (rw [rounds_succ])
  all_goals go_wp2
  all_goals (rw [rounds_succ])
  all_goals go_wp2
  all_goals (rw [rounds_succ])
  all_goals go_wp2
  all_goals
    go_quiet (fail)
    go_wp2
    go_ret3
    exact Ret.mk (by first | (simp; done) | (simp; omega)) (below_drewN _ _)

end Go.Proofs.YtpffmndfanknaaaDoor
