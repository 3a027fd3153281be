/- The check of a lone function of instructions [12]. -/
import Derived.Test.YtpffmndfanknaaaDoorCheckW
namespace Go.Proofs.YtpffmndfanknaaaDoor
set_option linter.unusedVariables false
set_option linter.unusedSimpArgs false
open Go.RowKit

set_option maxRecDepth 100000 in
set_option maxHeartbeats 8000000 in
theorem ck2 (lb ib : Nat) (w : World) (hlb : lb < w.heap.size) (hib : ib < w.heap.size) (hl : Hid (∀ j v, ([.string ⟨#[102]⟩, .int .i64 0, .int .i64 0, .slice (some ⟨ib, 0, none⟩) 1 1] : List Value)[j]? = some v → w.cell? ⟨lb, 0 + j, none⟩ = some v))
    (hins : Hid (∀ j v, ([.int .i64 12, .int .i64 0, .int .i64 0, .int .i64 0, .int .i64 0, .complex .f64 0 0, .string ⟨#[]⟩, .int .i64 0, .int .u32 0, .int .u64 0, .slice none 0 0, .slice none 0 0] : List Value)[j]? = some v → w.cell? ⟨ib, 0 + j, none⟩ = some v)) :
    Calls Tryd.prog 7 #[.slice (some ⟨lb, 0, none⟩) 1 1] w (Ret (.tuple #[.int .i64 0, .int .i64 0, .int .i64 185]) w) := by
  have hmm := @run_makeMap Tryd.prog
  go_enter Tryd.func7, Tryd.ntmps7
  go_wp2_with fail
  clear hmm
  have HM := Lib.hid (heap_alloc_last w (.map #[] 0))
  have HB := Lib.hid ((Below.refl w.heap.size w).alloc (Nat.le_refl _) (.map #[] 0))
  have HL := Lib.hid (show ∀ j v, ([.string ⟨#[102]⟩, .int .i64 0, .int .i64 0, .slice (some ⟨ib, 0, none⟩) 1 1] : List Value)[j]? = some v → (w.alloc (.map #[] 0)).cell? ⟨lb, 0 + j, none⟩ = some v from fun j v hv => by rw [HB.out.cell (p := ⟨lb, 0 + j, none⟩) hlb]; exact hl.out j v hv)
  generalize w.alloc (.map #[] 0) = w1 at *
  refine wp_loop_rounds 2 ?_
  rw [rounds_succ]
  go_wp2_with (first | (refine load_to rfl 53 _ rfl (some 28) rfl lb 0 (by simp [Act.eval]) [.string ⟨#[102]⟩, .int .i64 0, .int .i64 0, .slice (some ⟨ib, 0, none⟩) 1 1] _ (fun j v hv => HL.out j v hv) Tryd.underlying53 rfl (by kernel_rfl) ?_) | (refine store_new rfl 53 _ _ rfl rfl w1 #[.string ⟨#[102]⟩, .int .i64 0, .int .i64 0, .slice (some ⟨ib, 0, none⟩) 1 1] _ 53 rfl rfl (by kernel_rfl) rfl (by kernel_rfl) ?_))
  refine (right_f _).mono ?_
  rintro e w2 ⟨rfl, hb⟩
  have hm1 := lt_of_block HM.out
  have HF := Lib.hid ((hb.block w1.heap.size (by first | omega | (simp; done) | (simp; omega))).trans ((Below.heap_alloc _ _ _ (by first | omega | (simp; done) | (simp; omega))).trans (heap_alloc_last w1 (.cells #[.string ⟨#[102]⟩, .int .i64 0, .int .i64 0, .slice (some ⟨ib, 0, none⟩) 1 1] 53))))
  have HG := Lib.hid ((hb.block (w1.heap.size + 1) (by first | omega | (simp; done) | (simp; omega))).trans (heap_alloc_two w1 (.cells #[.string ⟨#[102]⟩, .int .i64 0, .int .i64 0, .slice (some ⟨ib, 0, none⟩) 1 1] 53) (.cells #[.string ⟨#[102]⟩, .int .i64 0] 55)))
  have HM := Lib.hid ((hb.block w.heap.size (by first | omega | (simp; done) | (simp; omega))).trans ((Below.heap_alloc _ _ _ (by first | omega | (simp; done) | (simp; omega))).trans ((Below.heap_alloc _ _ _ hm1).trans HM.out)))
  have HB := Lib.hid (Below.trans (Below.alloc (Below.alloc HB.out (by first | omega | (simp; done) | (simp; omega)) (.cells #[.string ⟨#[102]⟩, .int .i64 0, .int .i64 0, .slice (some ⟨ib, 0, none⟩) 1 1] 53)) (by first | omega | (simp; done) | (simp; omega)) (.cells #[.string ⟨#[102]⟩, .int .i64 0] 55)) (hb.mono (by first | omega | (simp; done) | (simp; omega))))
  have hne : w1.heap.size ≠ w.heap.size := by omega
  have hge : w.heap.size ≤ w1.heap.size := by omega
  clear hb HL
  generalize w1.heap.size + 1 = sb at *
  generalize w1.heap.size = fb at *
  obtain ⟨f0, f1, f2, f3⟩ := cells4 HF.out
  obtain ⟨s0, s1⟩ := cells2' HG.out
  have hlook := look_first HM.out
  have hput := put_first HM.out (.int .i64 1)
  go_wp2_with fail
  have HF := Lib.hid ((mput_other w2 w.heap.size keyF (.int .i64 1) fb hne).trans HF.out)
  have HB := Lib.hid (HB.out.trans (below_mput w2 (b := w.heap.size) keyF (.int .i64 1) (Nat.le_refl _)))
  clear f0 f1 f2 f3 s0 s1 hlook hput HG HM hm1
  generalize World.mput w2 w.heap.size keyF (.int .i64 1) = w3 at *
  refine wp_loop_rounds 2 ?_
  rw [rounds_succ]
  obtain ⟨f0, f1, f2, f3⟩ := cells4 HF.out
  have hfl := lt_of_block HF.out
  have HI := Lib.hid (show ∀ j v, ([.int .i64 12, .int .i64 0, .int .i64 0, .int .i64 0, .int .i64 0, .complex .f64 0 0, .string ⟨#[]⟩, .int .i64 0, .int .u32 0, .int .u64 0, .slice none 0 0, .slice none 0 0] : List Value)[j]? = some v → w3.cell? ⟨ib, 0 + j, none⟩ = some v from fun j v hv => by
    rw [HB.out.cell (p := ⟨ib, 0 + j, none⟩) hib]
    have hj : j < 12 := by have := (List.getElem?_eq_some_iff.1 hv).1; simpa using this
    have := hins.out (0 + j) v (by match j, hj, hv with | 0, _, hv => exact hv | 1, _, hv => exact hv | 2, _, hv => exact hv | 3, _, hv => exact hv | 4, _, hv => exact hv | 5, _, hv => exact hv | 6, _, hv => exact hv | 7, _, hv => exact hv | 8, _, hv => exact hv | 9, _, hv => exact hv | 10, _, hv => exact hv | 11, _, hv => exact hv)
    simpa using this)
  go_wp2_with (first | (refine load_to rfl 36 _ rfl (some 89) rfl ib 0 (by simp [Act.eval]) [.int .i64 12, .int .i64 0, .int .i64 0, .int .i64 0, .int .i64 0, .complex .f64 0 0, .string ⟨#[]⟩, .int .i64 0, .int .u32 0, .int .u64 0, .slice none 0 0, .slice none 0 0] _ (fun j v hv => HI.out j v hv) Tryd.underlying36 rfl (by kernel_rfl) ?_) | (refine store_new rfl 36 _ _ rfl rfl w3 #[.int .i64 12, .int .i64 0, .int .i64 0, .int .i64 0, .int .i64 0, .complex .f64 0 0, .string ⟨#[]⟩, .int .i64 0, .int .u32 0, .int .u64 0, .slice none 0 0, .slice none 0 0] _ 36 rfl rfl (by kernel_rfl) rfl (by kernel_rfl) ?_) | (refine load_to rfl 36 _ rfl (some 90) rfl w3.heap.size 0 rfl [.int .i64 12, .int .i64 0, .int .i64 0, .int .i64 0, .int .i64 0, .complex .f64 0 0, .string ⟨#[]⟩, .int .i64 0, .int .u32 0, .int .u64 0, .slice none 0 0, .slice none 0 0] _ (row_cells (heap_alloc_last w3 (.cells #[.int .i64 12, .int .i64 0, .int .i64 0, .int .i64 0, .int .i64 0, .complex .f64 0 0, .string ⟨#[]⟩, .int .i64 0, .int .u32 0, .int .u64 0, .slice none 0 0, .slice none 0 0] 36)) (o := 0) (fun _ _ h => by simpa using h)) Tryd.underlying36 rfl (by kernel_rfl) ?_))
  refine (formed12 ib 1 _).mono ?_
  rintro e w4 ⟨rfl, hb⟩
  have HX := Lib.hid ((hb.block w3.heap.size (by first | omega | (simp; done) | (simp; omega))).trans (heap_alloc_last w3 (.cells #[.int .i64 12, .int .i64 0, .int .i64 0, .int .i64 0, .int .i64 0, .complex .f64 0 0, .string ⟨#[]⟩, .int .i64 0, .int .u32 0, .int .u64 0, .slice none 0 0, .slice none 0 0] 36)))
  have HF := Lib.hid ((hb.block fb (by first | omega | (simp; done) | (simp; omega))).trans ((Below.heap_alloc _ _ _ hfl).trans HF.out))
  have HB := Lib.hid (Below.trans (HB.out.alloc HB.out.size (.cells #[.int .i64 12, .int .i64 0, .int .i64 0, .int .i64 0, .int .i64 0, .complex .f64 0 0, .string ⟨#[]⟩, .int .i64 0, .int .u32 0, .int .u64 0, .slice none 0 0, .slice none 0 0] 36)) (hb.mono (by have := HB.out.size; simp; omega)))
  clear hb f0 f1 f2 f3 hfl HI
  generalize w3.heap.size = xb0 at *
  obtain ⟨f0, f1, f2, f3⟩ := cells4 HF.out
  have HXC := Lib.hid (row_cells HX.out (o := 0) (cs := [.int .i64 12, .int .i64 0, .int .i64 0, .int .i64 0, .int .i64 0, .complex .f64 0 0, .string ⟨#[]⟩, .int .i64 0, .int .u32 0, .int .u64 0, .slice none 0 0, .slice none 0 0]) (fun _ _ h => by simpa using h))
  go_wp2_with (refine load_to rfl 36 _ rfl (some 96) rfl xb0 0 (by simp [Act.eval]) [.int .i64 12, .int .i64 0, .int .i64 0, .int .i64 0, .int .i64 0, .complex .f64 0 0, .string ⟨#[]⟩, .int .i64 0, .int .u32 0, .int .u64 0, .slice none 0 0, .slice none 0 0] _ (fun j v hv => HXC.out j v hv) Tryd.underlying36 rfl (by kernel_rfl) ?_)
  refine (led12 ib 1 _ _).mono ?_
  rintro e w6 ⟨rfl, hb⟩
  have HF := Lib.hid ((hb.block fb (lt_of_block HF.out)).trans HF.out)
  have HB := Lib.hid (HB.out.trans (hb.mono HB.out.size))
  clear hb f0 f1 f2 f3 HX HXC
  go_wp2
  rw [rounds_succ]
  obtain ⟨f0, f1, f2, f3⟩ := cells4 HF.out
  go_wp2_with fail
  refine (flow2 ib _ (Nat.lt_of_lt_of_le hib HB.out.size) (Lib.hid (fun j v hv => by rw [HB.out.cell (p := ⟨ib, 0 + j, none⟩) hib]; exact hins.out j v hv))).mono ?_
  rintro e wf ⟨rfl, hb⟩
  have HB := Lib.hid (HB.out.trans (hb.mono HB.out.size))
  clear hb f0 f1 f2 f3
  go_wp2
  go_ret3
  exact Ret.mk rfl HB.out

end Go.Proofs.YtpffmndfanknaaaDoor
