/- The term package's check of a whole term. -/
import Derived.Test.YtpffmndfanknaaaDoorPartW
import Derived.Great.BuildSlice
namespace Go.Proofs.YtpffmndfanknaaaDoor
set_option linter.unusedVariables false
set_option linter.unusedSimpArgs false
open Go.RowKit

/-- What is read below the heap's end stays where nothing below it turns. -/
theorem at_below {w w' : World} (hb : Below w.heap.size w w') {t : LT} {vs : List Value} (h : LT.at w w.heap.size t vs) : LT.at w' w.heap.size t vs :=
  at_stays (fun x hx => hb.cell (p := x) hx) t vs h

def lookV : Array Value := #[.int .i64 0] ++ tableV

set_option maxRecDepth 100000 in
set_option maxHeartbeats 1000000 in
theorem check_any (t : LT) (vs : List Value) (w : World) (hpl : LT.plain t) (hat : LT.at w w.heap.size t vs) :
    Calls Tryd.prog 22 #[.agg vs.toArray] w (Ret (.int .i64 (checkF t)) w) := by
  obtain ⟨kk, nn, rre, iim, ss, aa, bb, cc, bbs, ll⟩ := t
  have hat0 := Lib.hid hat
  unfold LT.at at hat
  obtain ⟨D1, e1, D2, e2, hvs, hb1, hb2, hb3⟩ := hat
  subst hvs
  have HPL := Lib.hid hpl
  clear hb1 hb2 hb3 hpl
  show Calls Tryd.prog 22 #[.agg #[.int .i64 kk, .int .i64 nn, .complex .f64 rre iim, .string ss, .int .i64 aa, .int .u32 bb, .int .u64 cc, .slice D1 bbs.length e1, .slice D2 ll.length e2]] w _
  have hst := fun wx : World => run_storeCells_new (P := Tryd.prog) wx 89 #[.int .i64 0, .nilFunc, .nilFunc, .nilFunc, .nilFunc, .nilFunc, .nilFunc, .nilFunc, .nilFunc, .nilFunc, .nilFunc, .nilFunc, .nilFunc, .nilFunc, .nilFunc, .nilFunc, .nilFunc, .nilFunc, .nilFunc] lookV (by kernel_rfl) (by kernel_rfl) (by kernel_rfl)
  go_enter Tryd.func22, Tryd.ntmps22
  go_wp2_with fail
  refine (kinds_any _).mono ?_
  rintro e w1 ⟨rfl, hb⟩
  have hz1 : w.heap.size < w1.heap.size := by have := hb.size; simp at this; omega
  have HB1 := Lib.hid (((Below.refl w.heap.size w).alloc (Nat.le_refl _) _).trans (hb.mono (by simp)))
  obtain ⟨hc1, hf1⟩ := bcell hb
  clear hb hf1
  go_wp2_with (refine wpList_buildTo rfl 89 _ rfl (some 5) rfl lookV (by kernel_rfl) ?_)
  have HL := Lib.hid (show LookAt (w1.alloc (.cells lookV 89)) w1.heap.size 0 from heap_alloc_last w1 _)
  refine (part_ok (.mk kk nn rre iim ss aa bb cc bbs ll) (tcells kk nn rre iim ss aa bb cc D1 bbs.length e1 D2 ll.length e2) 1 0 w1.heap.size _ HPL.out
    (at_mono (Nat.le_of_lt hz1) _ _ (at_below (HB1.out.alloc (Nat.le_of_lt hz1) _) hat0.out)) (by decide) (by decide) (by decide) (by decide) HL.out).mono ?_
  rintro e w2 ⟨rfl, hb2, hL2⟩
  have HB2 := Lib.hid ((HB1.out.alloc (Nat.le_of_lt hz1) _).trans (hb2.mono (Nat.le_of_lt hz1)))
  clear hb2 hL2
  go_wp2
  go_ret
  exact Ret.mk rfl HB2.out
end Go.Proofs.YtpffmndfanknaaaDoor
