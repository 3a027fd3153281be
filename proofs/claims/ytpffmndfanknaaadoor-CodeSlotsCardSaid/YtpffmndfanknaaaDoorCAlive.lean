/- The law's guard: alive, walked, but for the slot of a name. -/
import Derived.Test.YtpffmndfanknaaaDoorHeights
namespace Go.Proofs.YtpffmndfanknaaaDoor
set_option linter.unusedVariables false
set_option linter.unusedSimpArgs false
open Go.RowKit

set_option maxRecDepth 100000 in
set_option maxHeartbeats 8000000 in
theorem alive_run (w : World) (hslot : Hid (∀ W : World, Below w.heap.size w W → Calls Tryd.prog 5 #[.string ⟨#[66, 49, 50]⟩] W (Ret (.tuple #[.int .i64 12, .bool true, .bool true]) W))) :
    Calls Tryd.prog 4 #[] w (Ret (.bool true) w) := by
  go_enter Tryd.func4, Tryd.ntmps4
  go_upto_region 2 with (refine store_new rfl 36 _ _ rfl rfl w #[.int .i64 1, .int .i64 0, .int .i64 0, .int .i64 1, .int .i64 1, .complex .f64 0 0, .string ⟨#[]⟩, .int .i64 0, .int .u32 0, .int .u64 0, .slice none 0 0, .slice none 0 0] _ 36 rfl rfl (by kernel_rfl) rfl (by kernel_rfl) ?_)
  have HX := Lib.hid (heap_alloc_last w (.cells #[.int .i64 1, .int .i64 0, .int .i64 0, .int .i64 1, .int .i64 1, .complex .f64 0 0, .string ⟨#[]⟩, .int .i64 0, .int .u32 0, .int .u64 0, .slice none 0 0, .slice none 0 0] 36))
  have HB := Lib.hid ((Below.refl w.heap.size w).alloc (Nat.le_refl _) (.cells #[.int .i64 1, .int .i64 0, .int .i64 0, .int .i64 1, .int .i64 1, .complex .f64 0 0, .string ⟨#[]⟩, .int .i64 0, .int .u32 0, .int .u64 0, .slice none 0 0, .slice none 0 0] 36))
  generalize w.alloc (.cells #[.int .i64 1, .int .i64 0, .int .i64 0, .int .i64 1, .int .i64 1, .complex .f64 0 0, .string ⟨#[]⟩, .int .i64 0, .int .u32 0, .int .u64 0, .slice none 0 0, .slice none 0 0] 36) = w0 at *
  obtain ⟨bx, hbx⟩ : ∃ b, b = w.heap.size := ⟨_, rfl⟩
  have HXC := Lib.hid (row_cells HX.out (o := 0) (cs := [.int .i64 1, .int .i64 0, .int .i64 0, .int .i64 1, .int .i64 1, .complex .f64 0 0, .string ⟨#[]⟩, .int .i64 0, .int .u32 0, .int .u64 0, .slice none 0 0, .slice none 0 0]) (fun _ _ h => by simpa using h))
  go_wp2_with (refine load_to rfl 36 _ rfl (some 18) rfl w.heap.size 0 (by simp [Act.eval]) [.int .i64 1, .int .i64 0, .int .i64 0, .int .i64 1, .int .i64 1, .complex .f64 0 0, .string ⟨#[]⟩, .int .i64 0, .int .u32 0, .int .u64 0, .slice none 0 0, .slice none 0 0] _ (fun j v hv => HXC.out j v hv) Tryd.underlying36 rfl (by kernel_rfl) ?_)
  have hz := lt_of_block HX.out
  refine (of_any w0.heap.size 2 _).mono ?_
  rintro e u0 ⟨lb0, rfl, hb, hlb, hl⟩
  have HI := Lib.hid (show ∀ j v, ([.int .i64 1, .int .i64 0, .int .i64 0, .int .i64 1, .int .i64 1, .complex .f64 0 0, .string ⟨#[]⟩, .int .i64 0, .int .u32 0, .int .u64 0, .slice none 0 0, .slice none 0 0, .int .i64 12, .int .i64 0, .int .i64 0, .int .i64 0, .int .i64 0, .complex .f64 0 0, .string ⟨#[]⟩, .int .i64 0, .int .u32 0, .int .u64 0, .slice none 0 0, .slice none 0 0] : List Value)[j]? = some v → u0.cell? ⟨w0.heap.size, 0 + j, none⟩ = some v from fun j v hv => by
    rw [hb.cell (p := ⟨w0.heap.size, 0 + j, none⟩) (by first | omega | (simp; done) | (simp; omega))]; exact row_cells (heap_alloc_last w0 (.cells #[.int .i64 1, .int .i64 0, .int .i64 0, .int .i64 1, .int .i64 1, .complex .f64 0 0, .string ⟨#[]⟩, .int .i64 0, .int .u32 0, .int .u64 0, .slice none 0 0, .slice none 0 0, .int .i64 12, .int .i64 0, .int .i64 0, .int .i64 0, .int .i64 0, .complex .f64 0 0, .string ⟨#[]⟩, .int .i64 0, .int .u32 0, .int .u64 0, .slice none 0 0, .slice none 0 0] 36)) (o := 0) (fun _ _ h => by simpa using h) j v hv)
  have HIB := Lib.hid (show w0.heap.size < u0.heap.size from by have := hb.size; simp at this; omega)
  have HX := Lib.hid ((hb.block w.heap.size (by first | omega | (simp; done) | (simp; omega))).trans ((Below.heap_alloc _ _ _ hz).trans HX.out))
  have HB := Lib.hid (Below.trans (HB.out.alloc HB.out.size (.cells #[.int .i64 1, .int .i64 0, .int .i64 0, .int .i64 1, .int .i64 1, .complex .f64 0 0, .string ⟨#[]⟩, .int .i64 0, .int .u32 0, .int .u64 0, .slice none 0 0, .slice none 0 0, .int .i64 12, .int .i64 0, .int .i64 0, .int .i64 0, .int .i64 0, .complex .f64 0 0, .string ⟨#[]⟩, .int .i64 0, .int .u32 0, .int .u64 0, .slice none 0 0, .slice none 0 0] 36)) (hb.mono (by have := HB.out.size; simp; omega)))
  have HL := Lib.hid hl
  have HLB := Lib.hid hlb
  clear hb hl hz hlb
  generalize w0.heap.size = ib0 at *
  go_wp2_with fail
  refine (ck1 lb0 ib0 _ HLB.out HIB.out HL HI).mono ?_
  rintro e v0 ⟨rfl, hb⟩
  have HX := Lib.hid ((hb.block w.heap.size (lt_of_block HX.out)).trans HX.out)
  have HB := Lib.hid (HB.out.trans (hb.mono HB.out.size))
  clear hb HI HIB HL HLB
  go_wp2_with fail
  have hz := lt_of_block HX.out
  refine (of_any v0.heap.size 1 _).mono ?_
  rintro e u1 ⟨lb1, rfl, hb, hlb, hl⟩
  have HI := Lib.hid (show ∀ j v, ([.int .i64 12, .int .i64 0, .int .i64 0, .int .i64 0, .int .i64 0, .complex .f64 0 0, .string ⟨#[]⟩, .int .i64 0, .int .u32 0, .int .u64 0, .slice none 0 0, .slice none 0 0] : List Value)[j]? = some v → u1.cell? ⟨v0.heap.size, 0 + j, none⟩ = some v from fun j v hv => by
    rw [hb.cell (p := ⟨v0.heap.size, 0 + j, none⟩) (by first | omega | (simp; done) | (simp; omega))]; exact row_cells (heap_alloc_last v0 (.cells #[.int .i64 12, .int .i64 0, .int .i64 0, .int .i64 0, .int .i64 0, .complex .f64 0 0, .string ⟨#[]⟩, .int .i64 0, .int .u32 0, .int .u64 0, .slice none 0 0, .slice none 0 0] 36)) (o := 0) (fun _ _ h => by simpa using h) j v hv)
  have HIB := Lib.hid (show v0.heap.size < u1.heap.size from by have := hb.size; simp at this; omega)
  have HX := Lib.hid ((hb.block w.heap.size (by first | omega | (simp; done) | (simp; omega))).trans ((Below.heap_alloc _ _ _ hz).trans HX.out))
  have HB := Lib.hid (Below.trans (HB.out.alloc HB.out.size (.cells #[.int .i64 12, .int .i64 0, .int .i64 0, .int .i64 0, .int .i64 0, .complex .f64 0 0, .string ⟨#[]⟩, .int .i64 0, .int .u32 0, .int .u64 0, .slice none 0 0, .slice none 0 0] 36)) (hb.mono (by have := HB.out.size; simp; omega)))
  have HL := Lib.hid hl
  have HLB := Lib.hid hlb
  clear hb hl hz hlb
  generalize v0.heap.size = ib1 at *
  go_wp2_with fail
  refine (ck2 lb1 ib1 _ HLB.out HIB.out HL HI).mono ?_
  rintro e v1 ⟨rfl, hb⟩
  have HX := Lib.hid ((hb.block w.heap.size (lt_of_block HX.out)).trans HX.out)
  have HB := Lib.hid (HB.out.trans (hb.mono HB.out.size))
  clear hb HI HIB HL HLB
  have HXC := Lib.hid (row_cells HX.out (o := 0) (cs := [.int .i64 1, .int .i64 0, .int .i64 0, .int .i64 1, .int .i64 1, .complex .f64 0 0, .string ⟨#[]⟩, .int .i64 0, .int .u32 0, .int .u64 0, .slice none 0 0, .slice none 0 0]) (fun _ _ h => by simpa using h))
  go_wp2_with (refine load_to rfl 36 _ rfl (some 35) rfl w.heap.size 0 (by simp [Act.eval]) [.int .i64 1, .int .i64 0, .int .i64 0, .int .i64 1, .int .i64 1, .complex .f64 0 0, .string ⟨#[]⟩, .int .i64 0, .int .u32 0, .int .u64 0, .slice none 0 0, .slice none 0 0] _ (fun j v hv => HXC.out j v hv) Tryd.underlying36 rfl (by kernel_rfl) ?_)
  have hz := lt_of_block HX.out
  refine (of_any v1.heap.size 2 _).mono ?_
  rintro e u2 ⟨lb2, rfl, hb, hlb, hl⟩
  have HI := Lib.hid (show ∀ j v, ([.int .i64 1, .int .i64 0, .int .i64 0, .int .i64 1, .int .i64 1, .complex .f64 0 0, .string ⟨#[]⟩, .int .i64 0, .int .u32 0, .int .u64 0, .slice none 0 0, .slice none 0 0, .int .i64 9, .int .i64 0, .int .i64 0, .int .i64 0, .int .i64 0, .complex .f64 0 0, .string ⟨#[]⟩, .int .i64 0, .int .u32 0, .int .u64 0, .slice none 0 0, .slice none 0 0] : List Value)[j]? = some v → u2.cell? ⟨v1.heap.size, 0 + j, none⟩ = some v from fun j v hv => by
    rw [hb.cell (p := ⟨v1.heap.size, 0 + j, none⟩) (by first | omega | (simp; done) | (simp; omega))]; exact row_cells (heap_alloc_last v1 (.cells #[.int .i64 1, .int .i64 0, .int .i64 0, .int .i64 1, .int .i64 1, .complex .f64 0 0, .string ⟨#[]⟩, .int .i64 0, .int .u32 0, .int .u64 0, .slice none 0 0, .slice none 0 0, .int .i64 9, .int .i64 0, .int .i64 0, .int .i64 0, .int .i64 0, .complex .f64 0 0, .string ⟨#[]⟩, .int .i64 0, .int .u32 0, .int .u64 0, .slice none 0 0, .slice none 0 0] 36)) (o := 0) (fun _ _ h => by simpa using h) j v hv)
  have HIB := Lib.hid (show v1.heap.size < u2.heap.size from by have := hb.size; simp at this; omega)
  have HX := Lib.hid ((hb.block w.heap.size (by first | omega | (simp; done) | (simp; omega))).trans ((Below.heap_alloc _ _ _ hz).trans HX.out))
  have HB := Lib.hid (Below.trans (HB.out.alloc HB.out.size (.cells #[.int .i64 1, .int .i64 0, .int .i64 0, .int .i64 1, .int .i64 1, .complex .f64 0 0, .string ⟨#[]⟩, .int .i64 0, .int .u32 0, .int .u64 0, .slice none 0 0, .slice none 0 0, .int .i64 9, .int .i64 0, .int .i64 0, .int .i64 0, .int .i64 0, .complex .f64 0 0, .string ⟨#[]⟩, .int .i64 0, .int .u32 0, .int .u64 0, .slice none 0 0, .slice none 0 0] 36)) (hb.mono (by have := HB.out.size; simp; omega)))
  have HL := Lib.hid hl
  have HLB := Lib.hid hlb
  clear hb hl hz hlb
  generalize v1.heap.size = ib2 at *
  go_wp2_with fail
  refine (ck3 lb2 ib2 _ HLB.out HIB.out HL HI).mono ?_
  rintro e v2 ⟨rfl, hb⟩
  have HX := Lib.hid ((hb.block w.heap.size (lt_of_block HX.out)).trans HX.out)
  have HB := Lib.hid (HB.out.trans (hb.mono HB.out.size))
  clear hb HI HIB HL HLB
  have HXC := Lib.hid (row_cells HX.out (o := 0) (cs := [.int .i64 1, .int .i64 0, .int .i64 0, .int .i64 1, .int .i64 1, .complex .f64 0 0, .string ⟨#[]⟩, .int .i64 0, .int .u32 0, .int .u64 0, .slice none 0 0, .slice none 0 0]) (fun _ _ h => by simpa using h))
  go_wp2_with (refine load_to rfl 36 _ rfl (some 43) rfl w.heap.size 0 (by simp [Act.eval]) [.int .i64 1, .int .i64 0, .int .i64 0, .int .i64 1, .int .i64 1, .complex .f64 0 0, .string ⟨#[]⟩, .int .i64 0, .int .u32 0, .int .u64 0, .slice none 0 0, .slice none 0 0] _ (fun j v hv => HXC.out j v hv) Tryd.underlying36 rfl (by kernel_rfl) ?_)
  have hz := lt_of_block HX.out
  refine (of_any v2.heap.size 2 _).mono ?_
  rintro e u3 ⟨lb3, rfl, hb, hlb, hl⟩
  have HI := Lib.hid (show ∀ j v, ([.int .i64 1, .int .i64 0, .int .i64 0, .int .i64 1, .int .i64 1, .complex .f64 0 0, .string ⟨#[]⟩, .int .i64 0, .int .u32 0, .int .u64 0, .slice none 0 0, .slice none 0 0, .int .i64 12, .int .i64 0, .int .i64 0, .int .i64 0, .int .i64 0, .complex .f64 0 0, .string ⟨#[]⟩, .int .i64 0, .int .u32 0, .int .u64 0, .slice none 0 0, .slice none 0 0] : List Value)[j]? = some v → u3.cell? ⟨v2.heap.size, 0 + j, none⟩ = some v from fun j v hv => by
    rw [hb.cell (p := ⟨v2.heap.size, 0 + j, none⟩) (by first | omega | (simp; done) | (simp; omega))]; exact row_cells (heap_alloc_last v2 (.cells #[.int .i64 1, .int .i64 0, .int .i64 0, .int .i64 1, .int .i64 1, .complex .f64 0 0, .string ⟨#[]⟩, .int .i64 0, .int .u32 0, .int .u64 0, .slice none 0 0, .slice none 0 0, .int .i64 12, .int .i64 0, .int .i64 0, .int .i64 0, .int .i64 0, .complex .f64 0 0, .string ⟨#[]⟩, .int .i64 0, .int .u32 0, .int .u64 0, .slice none 0 0, .slice none 0 0] 36)) (o := 0) (fun _ _ h => by simpa using h) j v hv)
  have HIB := Lib.hid (show v2.heap.size < u3.heap.size from by have := hb.size; simp at this; omega)
  have HX := Lib.hid ((hb.block w.heap.size (by first | omega | (simp; done) | (simp; omega))).trans ((Below.heap_alloc _ _ _ hz).trans HX.out))
  have HB := Lib.hid (Below.trans (HB.out.alloc HB.out.size (.cells #[.int .i64 1, .int .i64 0, .int .i64 0, .int .i64 1, .int .i64 1, .complex .f64 0 0, .string ⟨#[]⟩, .int .i64 0, .int .u32 0, .int .u64 0, .slice none 0 0, .slice none 0 0, .int .i64 12, .int .i64 0, .int .i64 0, .int .i64 0, .int .i64 0, .complex .f64 0 0, .string ⟨#[]⟩, .int .i64 0, .int .u32 0, .int .u64 0, .slice none 0 0, .slice none 0 0] 36)) (hb.mono (by have := HB.out.size; simp; omega)))
  have HL := Lib.hid hl
  have HLB := Lib.hid hlb
  clear hb hl hz hlb
  generalize v2.heap.size = ib3 at *
  go_wp2_with fail
  refine (heights1 lb3 ib3 _ HLB.out HIB.out HL HI).mono ?_
  rintro e v3 ⟨ha, rfl, hb, hha, hh1⟩
  have HX := Lib.hid ((hb.block w.heap.size (lt_of_block HX.out)).trans HX.out)
  have HB := Lib.hid (HB.out.trans (hb.mono HB.out.size))
  clear hb HI HIB HL HLB
  have HH := Lib.hid hh1
  have HHA := Lib.hid hha
  clear hh1 hha
  go_wp2_with fail
  refine (hslot.out _ HB.out).mono ?_
  rintro e w5 ⟨rfl, hb⟩
  have HH := Lib.hid (show w5.cell? ⟨ha, 1, none⟩ = some (.int .i64 1) from by rw [hb.cell (p := ⟨ha, 1, none⟩) HHA.out]; exact HH.out)
  have HX := Lib.hid ((hb.block w.heap.size (lt_of_block HX.out)).trans HX.out)
  have HB := Lib.hid (HB.out.trans (hb.mono HB.out.size))
  clear hb HHA
  have hh := HH.out
  obtain ⟨k0, k1, k2, k3, k4, k5, k6, k7, k8, k9, k10, k11⟩ := cells12 HX.out
  go_wp2_with fail
  clear k0 k1 k2 k3 k4 k5 k6 k7 k8 k9 k10 k11 hh
  refine (of_any w5.heap.size 1 _).mono ?_
  rintro e w6 ⟨lb, rfl, hb, hlb, hl⟩
  have HB := Lib.hid (Below.trans (HB.out.alloc HB.out.size (.cells #[.int .i64 1, .int .i64 0, .int .i64 0, .int .i64 1, .int .i64 1, .complex .f64 0 0, .string ⟨#[]⟩, .int .i64 0, .int .u32 0, .int .u64 0, .slice none 0 0, .slice none 0 0] 36)) (hb.mono (by have := HB.out.size; simp; omega)))
  have HL := Lib.hid hl
  clear hb hl
  go_wp2_with fail
  refine (find_f lb _ 1 _ HL).mono ?_
  rintro e w7 ⟨rfl, hb⟩
  have HB := Lib.hid (HB.out.trans (hb.mono HB.out.size))
  clear hb
  go_wp2
  go_ret
  exact Ret.mk rfl HB.out

end Go.Proofs.YtpffmndfanknaaaDoor
