/- The flow through instructions of numbers [1, 12]. -/
import Derived.Test.YtpffmndfanknaaaDoorFlow
import Derived.Deep.DeepCutAuto
namespace Go.Proofs.YtpffmndfanknaaaDoor
set_option linter.unusedVariables false
set_option linter.unusedSimpArgs false
open Go.RowKit

/-- Two heights come back, the second one 1. -/
def FlowR (w : World) (e : Ending) (w' : World) : Prop := ∃ ha, e = .returned (.tuple #[.slice (some ⟨ha, 0, none⟩) 2 2, .int .i64 (-1)]) ∧ Below w.heap.size w w' ∧ w.heap.size ≤ ha ∧ ha < w'.heap.size ∧ w'.cell? ⟨ha, 1, none⟩ = some (.int .i64 1)

set_option maxRecDepth 100000 in
set_option maxHeartbeats 8000000 in
theorem flow1 (ib : Nat) (w : World) (hib : ib < w.heap.size) (hins : Hid (∀ j v, ([.int .i64 1, .int .i64 0, .int .i64 0, .int .i64 1, .int .i64 1, .complex .f64 0 0, .string ⟨#[]⟩, .int .i64 0, .int .u32 0, .int .u64 0, .slice none 0 0, .slice none 0 0, .int .i64 12, .int .i64 0, .int .i64 0, .int .i64 0, .int .i64 0, .complex .f64 0 0, .string ⟨#[]⟩, .int .i64 0, .int .u32 0, .int .u64 0, .slice none 0 0, .slice none 0 0] : List Value)[j]? = some v → w.cell? ⟨ib, 0 + j, none⟩ = some v)) :
    Calls Tryd.prog 16 #[.agg #[.string ⟨#[102]⟩, .int .i64 0, .int .i64 0, .slice (some ⟨ib, 0, none⟩) 2 2]] w (FlowR w) := by
  have hmk : ∀ w : World, (Instr.makeSlice 42 (.int .i64 2) (.int .i64 2)).run Tryd.prog w = .ok (.slice (some ⟨w.heap.size, 0, none⟩) 2 2) (w.alloc (.cells #[.int .i64 0, .int .i64 0] 3)) := fun w => by kernel_rfl
  go_enter Tryd.func16, Tryd.ntmps16
  go_wp2
  refine wp_loop_rounds 3 ?_
  rw [rounds_succ]
  go_wp2
  rw [rounds_succ]
  go_wp2
  rw [rounds_succ]
  go_wp2_with fail
  have HS := Lib.hid (fst_start w ib 2 [0, -1] #[.int .i64 0, .int .i64 (-1)] rfl)
  clear hmk
  generalize ((((((w.alloc (.cells #[.string ⟨#[102]⟩, .int .i64 0, .int .i64 0, .slice (some ⟨ib, 0, none⟩) 2 2] 53)).alloc (.cells #[.int .i64 0, .int .i64 (-1)] 3)).alloc (.cells #[.slice (some ⟨w.heap.size + 1, 0, none⟩) 2 2] 42)).alloc (.cells #[.int .i64 0] 3)).alloc (.cells #[.slice (some ⟨w.heap.size + 1 + 1 + 1, 0, none⟩) 1 1] 70)).alloc (.cells #[.pointer (some ⟨w.heap.size + 1 + 1 + 1 + 1, 0, none⟩)] 69)) = w1 at *
  generalize w.heap.size + 1 + 1 + 1 + 1 + 1 = qv at *
  generalize w.heap.size + 1 + 1 + 1 + 1 = qb at *
  generalize w.heap.size + 1 + 1 + 1 = qa at *
  generalize w.heap.size + 1 + 1 = hv at *
  generalize w.heap.size + 1 = ha at *
  refine wp_loop_rounds 3 ?_
  rw [rounds_succ]
  obtain ⟨k1, k2, k3, k4⟩ := HS.out.cells
  go_wp2_with fail
  refine (qlen_any _ _ _ _).mono ?_
  rintro e wz ⟨rfl, rfl⟩
  go_wp2_with fail
  refine (heap_pop qb qa 0 _ HS.out.qs).mono ?_
  rintro e w2 ⟨rfl, hq, hu⟩
  have HS := Lib.hid (HS.out.queue hu hq)
  clear hq hu k1 k2 k3 k4
  obtain ⟨k1, k2, k3, k4⟩ := HS.out.cells
  have HI := Lib.hid (show ∀ j v, ([.int .i64 1, .int .i64 0, .int .i64 0, .int .i64 1, .int .i64 1, .complex .f64 0 0, .string ⟨#[]⟩, .int .i64 0, .int .u32 0, .int .u64 0, .slice none 0 0, .slice none 0 0] : List Value)[j]? = some v → w2.cell? ⟨ib, 0 + j, none⟩ = some v from fun j v hv => by
    rw [HS.out.below.cell (p := ⟨ib, 0 + j, none⟩) hib]
    have hj : j < 12 := by have := (List.getElem?_eq_some_iff.1 hv).1; simpa using this
    have := hins.out (0 + j) v (by match j, hj, hv with | 0, _, hv => exact hv | 1, _, hv => exact hv | 2, _, hv => exact hv | 3, _, hv => exact hv | 4, _, hv => exact hv | 5, _, hv => exact hv | 6, _, hv => exact hv | 7, _, hv => exact hv | 8, _, hv => exact hv | 9, _, hv => exact hv | 10, _, hv => exact hv | 11, _, hv => exact hv)
    simpa using this)
  go_upto_region 12 with (first | (refine load_to rfl 36 _ rfl (some 43) rfl ib 0 (by simp [Act.eval]) [.int .i64 1, .int .i64 0, .int .i64 0, .int .i64 1, .int .i64 1, .complex .f64 0 0, .string ⟨#[]⟩, .int .i64 0, .int .u32 0, .int .u64 0, .slice none 0 0, .slice none 0 0] _ (fun j v hv => HI.out j v hv) Tryd.underlying36 rfl (by kernel_rfl) ?_) | (refine store_new rfl 36 _ _ rfl rfl w2 #[.int .i64 1, .int .i64 0, .int .i64 0, .int .i64 1, .int .i64 1, .complex .f64 0 0, .string ⟨#[]⟩, .int .i64 0, .int .u32 0, .int .u64 0, .slice none 0 0, .slice none 0 0] _ 36 rfl rfl (by kernel_rfl) rfl (by kernel_rfl) ?_))
  have HX := Lib.hid (heap_alloc_last w2 (.cells #[.int .i64 1, .int .i64 0, .int .i64 0, .int .i64 1, .int .i64 1, .complex .f64 0 0, .string ⟨#[]⟩, .int .i64 0, .int .u32 0, .int .u64 0, .slice none 0 0, .slice none 0 0] 36))
  have hxq := HS.out.size
  have HS := Lib.hid (HS.out.alloc (.cells #[.int .i64 1, .int .i64 0, .int .i64 0, .int .i64 1, .int .i64 1, .complex .f64 0 0, .string ⟨#[]⟩, .int .i64 0, .int .u32 0, .int .u64 0, .slice none 0 0, .slice none 0 0] 36))
  clear k1 k2 k3 k4 HI
  generalize w2.alloc (.cells #[.int .i64 1, .int .i64 0, .int .i64 0, .int .i64 1, .int .i64 1, .complex .f64 0 0, .string ⟨#[]⟩, .int .i64 0, .int .u32 0, .int .u64 0, .slice none 0 0, .slice none 0 0] 36) = w3 at *
  generalize w2.heap.size = xb0 at *
  have hxl := lt_of_block HX.out
  have hx0 := (cells12 HX.out).1
  have hxn := World.new_ne w3 _ hx0
  go_cut [9] (fun s9 wx => ∃ rb : Nat, s9 = .pointer (some ⟨rb, 0, none⟩) ∧ xb0 < rb ∧ Hid (FSt w w.heap.size ha hv qa qb qv ib 2 [0, -1] 0 0 wx) ∧ Hid (wx.heap[xb0]? = some (.cells #[.int .i64 1, .int .i64 0, .int .i64 0, .int .i64 1, .int .i64 1, .complex .f64 0 0, .string ⟨#[]⟩, .int .i64 0, .int .u32 0, .int .u64 0, .slice none 0 0, .slice none 0 0] 36 (0, 0))) ∧ Hid (wx.heap[rb]? = some (.cells #[.int .i64 4, .int .i64 0, .int .i64 1] 62 (0, 0))))
  case first =>
    go_region_held3 (fun W => W.cell? ⟨xb0, 0, none⟩ = some (.int .i64 1)) (first | assumption | go_keep) (first | (go_at_call 20; refine (rows_any _).mono ?_; rintro e wr ⟨rfl, hb⟩; have HB := Lib.hid (show Below w3.heap.size w3 wr from Below.trans (by repeat (first | exact Below.refl _ _ | refine Below.drew ?_ | refine Below.alloc ?_ (by first | omega | (simp; done) | (simp; omega)) _)) (hb.mono (by first | omega | (simp; done) | (simp; omega)))); have hk0 : wr.cell? ⟨xb0, 0, none⟩ = some (.int .i64 1) := (by rw [HB.out.cell (p := ⟨xb0, 0, none⟩) hxl]; exact hx0); obtain ⟨hcz, hfz⟩ := bcell hb; have hzr := HB.out.size; have HBB := Lib.hid hb; clear hb))
    all_goals
      go_wp2_with fail
      go_meet
      first | exact ⟨_, rfl, by omega, Lib.hid (HS.out.to (HB.out.alloc hzr _) (Nat.le_refl _)), Lib.hid (((Below.heap_alloc _ _ _ (by omega)).trans (HB.out.block _ hxl)).trans HX.out), Lib.hid (heap_alloc_last _ _)⟩ | exact ⟨_, rfl, by omega, Lib.hid (HS.out.to (((HB.out.setCell (Nat.le_refl _) _).setCell (Nat.le_refl _) _).setCell (Nat.le_refl _) _) (Nat.le_refl _)), Lib.hid (((((HB.out.setCell (Nat.le_refl _) _).setCell (Nat.le_refl _) _).setCell (Nat.le_refl _) _).block _ hxl).trans HX.out), Lib.hid (three_set ((HBB.out.block _ (by first | omega | (simp; done) | (simp; omega))).trans (heap_alloc_last _ _)))⟩
  case rest =>
  obtain ⟨rb0, rfl, hxr, HS, HX, HR⟩ := hcut
  rename World => w4
  clear hx0 hxn hxl
  have hxl := lt_of_block HX.out
  have hrl := lt_of_block HR.out
  go_wp2_with fail
  go_region_held3 (fun W => W.cell? ⟨hv, 0, none⟩ = some (.slice (some ⟨ha, 0, none⟩) 2 2) ∧ W.cell? ⟨ha, 0, none⟩ = some (.int .i64 0) ∧ W.cell? ⟨xb0, 0, none⟩ = some (.int .i64 1) ∧ W.cell? ⟨xb0, 1, none⟩ = some (.int .i64 0) ∧ W.cell? ⟨xb0, 2, none⟩ = some (.int .i64 0) ∧ W.cell? ⟨xb0, 3, none⟩ = some (.int .i64 1) ∧ W.cell? ⟨xb0, 4, none⟩ = some (.int .i64 1) ∧ W.cell? ⟨xb0, 5, none⟩ = some (.complex .f64 0 0) ∧ W.cell? ⟨xb0, 6, none⟩ = some (.string ⟨#[]⟩) ∧ W.cell? ⟨xb0, 7, none⟩ = some (.int .i64 0) ∧ W.cell? ⟨xb0, 8, none⟩ = some (.int .u32 0) ∧ W.cell? ⟨xb0, 9, none⟩ = some (.int .u64 0) ∧ W.cell? ⟨xb0, 10, none⟩ = some (.slice none 0 0) ∧ W.cell? ⟨xb0, 11, none⟩ = some (.slice none 0 0)) (first | assumption | exact ⟨HS.out.cells.2.1, (by rw [HS.out.high]; rfl), cells12 HX.out⟩ | exact ⟨HS.out.drew.cells.2.1, (by rw [HS.out.drew.high]; rfl), cells12 (w := World.drew _) HX.out⟩) (first | (go_at_call 27; refine (takes1 _).mono ?_; rintro e wt ⟨rfl, hb⟩; have HX := Lib.hid ((hb.block xb0 hxl).trans HX.out); have HR := Lib.hid ((hb.block rb0 hrl).trans HR.out); have HS := Lib.hid (HS.out.drew.to hb (Nat.le_refl _)); clear hb))
  obtain ⟨k5, _, k7⟩ := cells3 HR.out

  go_wp2_with fail
  refine (reach_new w w.heap.size ha hv qa qb qv ib 0 _ HS.out).mono ?_
  rintro e wn ⟨rfl, hs, hu⟩
  have HR := Lib.hid ((hu.block rb0 (lt_of_block HR.out) (by have := HS.out.o; simp; omega)).trans HR.out)
  have HS := Lib.hid hs
  clear k5 k7 hs hu hxl hrl
  obtain ⟨k5, _, k7⟩ := cells3 HR.out
  go_wp2
  clear k5 k7 HR HX hxr hxq
  rw [rounds_succ]
  obtain ⟨k1, k2, k3, k4⟩ := HS.out.cells
  go_wp2_with fail
  refine (qlen_any _ _ _ _).mono ?_
  rintro e wz ⟨rfl, rfl⟩
  go_wp2_with fail
  refine (heap_pop qb qa 1 _ HS.out.qs).mono ?_
  rintro e w7 ⟨rfl, hq, hu⟩
  have HS := Lib.hid (HS.out.queue hu hq)
  clear hq hu k1 k2 k3 k4
  obtain ⟨k1, k2, k3, k4⟩ := HS.out.cells
  have HI := Lib.hid (show ∀ j v, ([.int .i64 12, .int .i64 0, .int .i64 0, .int .i64 0, .int .i64 0, .complex .f64 0 0, .string ⟨#[]⟩, .int .i64 0, .int .u32 0, .int .u64 0, .slice none 0 0, .slice none 0 0] : List Value)[j]? = some v → w7.cell? ⟨ib, 12 + j, none⟩ = some v from fun j v hv => by
    rw [HS.out.below.cell (p := ⟨ib, 12 + j, none⟩) hib]
    have hj : j < 12 := by have := (List.getElem?_eq_some_iff.1 hv).1; simpa using this
    have := hins.out (12 + j) v (by match j, hj, hv with | 0, _, hv => exact hv | 1, _, hv => exact hv | 2, _, hv => exact hv | 3, _, hv => exact hv | 4, _, hv => exact hv | 5, _, hv => exact hv | 6, _, hv => exact hv | 7, _, hv => exact hv | 8, _, hv => exact hv | 9, _, hv => exact hv | 10, _, hv => exact hv | 11, _, hv => exact hv)
    simpa using this)
  go_upto_region 12 with (first | (refine load_to rfl 36 _ rfl (some 43) rfl ib 12 (by simp [Act.eval]) [.int .i64 12, .int .i64 0, .int .i64 0, .int .i64 0, .int .i64 0, .complex .f64 0 0, .string ⟨#[]⟩, .int .i64 0, .int .u32 0, .int .u64 0, .slice none 0 0, .slice none 0 0] _ (fun j v hv => HI.out j v hv) Tryd.underlying36 rfl (by kernel_rfl) ?_) | (refine store_new rfl 36 _ _ rfl rfl w7 #[.int .i64 12, .int .i64 0, .int .i64 0, .int .i64 0, .int .i64 0, .complex .f64 0 0, .string ⟨#[]⟩, .int .i64 0, .int .u32 0, .int .u64 0, .slice none 0 0, .slice none 0 0] _ 36 rfl rfl (by kernel_rfl) rfl (by kernel_rfl) ?_))
  have HX := Lib.hid (heap_alloc_last w7 (.cells #[.int .i64 12, .int .i64 0, .int .i64 0, .int .i64 0, .int .i64 0, .complex .f64 0 0, .string ⟨#[]⟩, .int .i64 0, .int .u32 0, .int .u64 0, .slice none 0 0, .slice none 0 0] 36))
  have hxq := HS.out.size
  have HS := Lib.hid (HS.out.alloc (.cells #[.int .i64 12, .int .i64 0, .int .i64 0, .int .i64 0, .int .i64 0, .complex .f64 0 0, .string ⟨#[]⟩, .int .i64 0, .int .u32 0, .int .u64 0, .slice none 0 0, .slice none 0 0] 36))
  clear k1 k2 k3 k4 HI
  generalize w7.alloc (.cells #[.int .i64 12, .int .i64 0, .int .i64 0, .int .i64 0, .int .i64 0, .complex .f64 0 0, .string ⟨#[]⟩, .int .i64 0, .int .u32 0, .int .u64 0, .slice none 0 0, .slice none 0 0] 36) = w8 at *
  generalize w7.heap.size = xb1 at *
  have hxl := lt_of_block HX.out
  have hx0 := (cells12 HX.out).1
  have hxn := World.new_ne w8 _ hx0
  go_cut [9] (fun s9 wx => ∃ rb : Nat, s9 = .pointer (some ⟨rb, 0, none⟩) ∧ xb1 < rb ∧ Hid (FSt w w.heap.size ha hv qa qb qv ib 2 [0, 1] 0 1 wx) ∧ Hid (wx.heap[xb1]? = some (.cells #[.int .i64 12, .int .i64 0, .int .i64 0, .int .i64 0, .int .i64 0, .complex .f64 0 0, .string ⟨#[]⟩, .int .i64 0, .int .u32 0, .int .u64 0, .slice none 0 0, .slice none 0 0] 36 (0, 0))) ∧ Hid (wx.heap[rb]? = some (.cells #[.int .i64 32, .int .i64 1, .int .i64 0] 62 (0, 0))))
  case first =>
    go_region_held3 (fun W => W.cell? ⟨xb1, 0, none⟩ = some (.int .i64 12)) (first | assumption | go_keep) (first | (go_at_call 20; refine (rows_any _).mono ?_; rintro e wr ⟨rfl, hb⟩; have HB := Lib.hid (show Below w8.heap.size w8 wr from Below.trans (by repeat (first | exact Below.refl _ _ | refine Below.drew ?_ | refine Below.alloc ?_ (by first | omega | (simp; done) | (simp; omega)) _)) (hb.mono (by first | omega | (simp; done) | (simp; omega)))); have hk0 : wr.cell? ⟨xb1, 0, none⟩ = some (.int .i64 12) := (by rw [HB.out.cell (p := ⟨xb1, 0, none⟩) hxl]; exact hx0); obtain ⟨hcz, hfz⟩ := bcell hb; have hzr := HB.out.size; have HBB := Lib.hid hb; clear hb))
    all_goals
      go_wp2_with fail
      go_meet
      first | exact ⟨_, rfl, by omega, Lib.hid (HS.out.to (HB.out.alloc hzr _) (Nat.le_refl _)), Lib.hid (((Below.heap_alloc _ _ _ (by omega)).trans (HB.out.block _ hxl)).trans HX.out), Lib.hid (heap_alloc_last _ _)⟩ | exact ⟨_, rfl, by omega, Lib.hid (HS.out.to (((HB.out.setCell (Nat.le_refl _) _).setCell (Nat.le_refl _) _).setCell (Nat.le_refl _) _) (Nat.le_refl _)), Lib.hid (((((HB.out.setCell (Nat.le_refl _) _).setCell (Nat.le_refl _) _).setCell (Nat.le_refl _) _).block _ hxl).trans HX.out), Lib.hid (three_set ((HBB.out.block _ (by first | omega | (simp; done) | (simp; omega))).trans (heap_alloc_last _ _)))⟩
  case rest =>
  obtain ⟨rb1, rfl, hxr, HS, HX, HR⟩ := hcut
  rename World => w9
  clear hx0 hxn hxl
  have hxl := lt_of_block HX.out
  have hrl := lt_of_block HR.out
  go_wp2_with fail
  go_region_held3 (fun W => W.cell? ⟨hv, 0, none⟩ = some (.slice (some ⟨ha, 0, none⟩) 2 2) ∧ W.cell? ⟨ha, 1, none⟩ = some (.int .i64 1) ∧ W.cell? ⟨xb1, 0, none⟩ = some (.int .i64 12) ∧ W.cell? ⟨xb1, 1, none⟩ = some (.int .i64 0) ∧ W.cell? ⟨xb1, 2, none⟩ = some (.int .i64 0) ∧ W.cell? ⟨xb1, 3, none⟩ = some (.int .i64 0) ∧ W.cell? ⟨xb1, 4, none⟩ = some (.int .i64 0) ∧ W.cell? ⟨xb1, 5, none⟩ = some (.complex .f64 0 0) ∧ W.cell? ⟨xb1, 6, none⟩ = some (.string ⟨#[]⟩) ∧ W.cell? ⟨xb1, 7, none⟩ = some (.int .i64 0) ∧ W.cell? ⟨xb1, 8, none⟩ = some (.int .u32 0) ∧ W.cell? ⟨xb1, 9, none⟩ = some (.int .u64 0) ∧ W.cell? ⟨xb1, 10, none⟩ = some (.slice none 0 0) ∧ W.cell? ⟨xb1, 11, none⟩ = some (.slice none 0 0)) (first | assumption | exact ⟨HS.out.cells.2.1, (by rw [HS.out.high]; rfl), cells12 HX.out⟩ | exact ⟨HS.out.drew.cells.2.1, (by rw [HS.out.drew.high]; rfl), cells12 (w := World.drew _) HX.out⟩) (first | (go_at_call 27; refine (takes12 _).mono ?_; rintro e wt ⟨rfl, hb⟩; have HX := Lib.hid ((hb.block xb1 hxl).trans HX.out); have HR := Lib.hid ((hb.block rb1 hrl).trans HR.out); have HS := Lib.hid (HS.out.drew.to hb (Nat.le_refl _)); clear hb))
  obtain ⟨k5, _, k7⟩ := cells3 HR.out

  go_wp2
  clear k5 k7
  rw [rounds_succ]
  obtain ⟨k1, k2, k3, k4⟩ := HS.out.cells
  go_wp2_with fail
  refine (qlen_any _ _ _ _).mono ?_
  rintro e wz ⟨rfl, rfl⟩
  go_wp2
  go_ret2
  exact ⟨ha, rfl, HS.out.below, by have := HS.out.o; omega, lt_of_block HS.out.bha, by rw [HS.out.high]; rfl⟩

end Go.Proofs.YtpffmndfanknaaaDoor
