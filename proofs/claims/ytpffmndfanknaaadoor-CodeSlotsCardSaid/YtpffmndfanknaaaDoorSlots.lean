/- The law on slots, walked. -/
import Derived.Test.YtpffmndfanknaaaDoorSlotL
namespace Go.Proofs.YtpffmndfanknaaaDoor
set_option linter.unusedVariables false
set_option linter.unusedSimpArgs false
open Go.RowKit

theorem slot_b12 (w : World) (hv : LaidV w) : Calls Tryd.prog 5 #[.string ⟨#[66, 49, 50]⟩] w (Ret (.tuple #[.int .i64 12, .bool true, .bool true]) w) := by
  have h := slot_is ⟨#[66, 49, 50]⟩ (by decide) (by decide) (.inr (by kernel_rfl)) 12 (by decide) (by rw [itoa_lt (by decide)]; unfold rest; rw [Lib.extract_data]; rfl) w hv
  have e : decide (byteI ⟨#[66, 49, 50]⟩ 0 = 66) = true := by kernel_rfl
  rw [e] at h
  exact h

set_option maxRecDepth 100000 in
set_option maxHeartbeats 2000000 in
theorem slots_any (s : ByteArray) (hlim : s.size ≤ 281474976710656) (w : World) (hv : LaidV w) : Calls Tryd.prog 3 #[.string s] w (Ret (.bool true) w) := by
  obtain ⟨a, b, c, h1, h2⟩ := agree_any s hlim
  have H1 := Lib.hid h1
  have H2 := Lib.hid h2
  have HV := Lib.hid hv
  clear h1 h2 hv hlim
  go_enter Tryd.func3, Tryd.ntmps3
  go_wp2_with fail
  refine (alive_run _ (Lib.hid (fun W hW => slot_b12 W (HV.out.below hW)))).mono ?_
  rintro e w1 ⟨rfl, hb⟩
  have HV1 := Lib.hid (HV.out.below hb)
  have HB := Lib.hid hb
  clear hb
  go_wp2_with fail
  refine (H1.out _ HV1.out).mono ?_
  rintro e w2 ⟨rfl, hb⟩
  have HB := Lib.hid (HB.out.trans (hb.mono HB.out.size))
  clear hb
  go_wp2_with fail
  refine (H2.out _).mono ?_
  rintro e w3 ⟨rfl, hb⟩
  have HB := Lib.hid (HB.out.trans (hb.mono HB.out.size))
  clear hb
  cases b <;> cases c
  all_goals
    go_wp2
    go_ret
    exact Ret.mk (by simp) HB.out

end Go.Proofs.YtpffmndfanknaaaDoor
