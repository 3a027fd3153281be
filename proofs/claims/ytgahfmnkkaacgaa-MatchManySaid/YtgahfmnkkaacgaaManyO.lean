/- The law where n is out of its range; the law's walk, for every input. -/
import Derived.Test.YtgahfmnkkaacgaaAlive
namespace Go.Proofs.Ytgahfmnkkaacgaa
set_option linter.unusedVariables false
set_option linter.unusedSimpArgs false
open Go.RowKit

set_option maxHeartbeats 1000000 in
theorem many_neg (n : Int) (hn : n < 0) (kn : Bool) (w : World) : Calls Try.prog 3 #[.int .i64 n, .bool kn] w (Ret (.bool true) w) := by
  go_enter Try.func3, Try.ntmps3
  go_wp2_with fail
  refine (alive_any _).mono ?_
  rintro e w0 ⟨rfl, hb⟩
  have HB := Lib.hid hb
  clear hb
  go_wp2
  go_ret
  exact Ret.mk rfl HB.out

set_option maxHeartbeats 1000000 in
theorem many_big (n : Int) (hn : 200 < n) (kn : Bool) (w : World) : Calls Try.prog 3 #[.int .i64 n, .bool kn] w (Ret (.bool true) w) := by
  have hn0 : ¬ n < 0 := by omega
  go_enter Try.func3, Try.ntmps3
  go_wp2_with fail
  refine (alive_any _).mono ?_
  rintro e w0 ⟨rfl, hb⟩
  have HB := Lib.hid hb
  clear hb
  go_wp2
  go_ret
  exact Ret.mk rfl HB.out

theorem many_any (n : Int) (kn : Bool) (w : World) : Calls Try.prog 3 #[.int .i64 n, .bool kn] w (Ret (.bool true) w) := by
  rcases Int.lt_or_le n 0 with h | h
  · exact many_neg n h kn w
  · rcases Int.lt_or_le 200 n with h2 | h2
    · exact many_big n h2 kn w
    · obtain ⟨k, rfl⟩ := Int.eq_ofNat_of_zero_le h
      exact many_run (Lib.hid alive_any) k (by omega) kn w

end Go.Proofs.Ytgahfmnkkaacgaa
