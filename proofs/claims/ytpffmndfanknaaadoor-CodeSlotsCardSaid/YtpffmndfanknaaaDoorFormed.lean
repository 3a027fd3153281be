/- Whether an instruction is formed, and leads somewhere. -/
import Derived.Test.YtpffmndfanknaaaDoorCRows
namespace Go.Proofs.YtpffmndfanknaaaDoor
set_option linter.unusedVariables false
set_option linter.unusedSimpArgs false
open Go.RowKit

theorem check_one : checkF (.mk 1 1 0 0 ⟨#[]⟩ 0 0 0 [] []) = 0 := by kernel_rfl

theorem one_at (w : World) (B : Nat) : LT.at w B (.mk 1 1 0 0 ⟨#[]⟩ 0 0 0 [] []) (tcells 1 1 0 0 ⟨#[]⟩ 0 0 0 none 0 0 none 0 0) := by
  unfold LT.at
  exact ⟨none, 0, none, 0, rfl, ⟨by simp, .inl rfl⟩, by simp, by unfold LT.ats; trivial⟩

set_option maxHeartbeats 400000 in
theorem term_one (w : World) : Calls Tryd.prog 22 #[.agg #[.int .i64 1, .int .i64 1, .complex .f64 0 0, .string ⟨#[]⟩, .int .i64 0, .int .u32 0, .int .u64 0, .slice none 0 0, .slice none 0 0]] w (Ret (.int .i64 0) w) := by
  have h := check_any (.mk 1 1 0 0 ⟨#[]⟩ 0 0 0 [] []) (tcells 1 1 0 0 ⟨#[]⟩ 0 0 0 none 0 0 none 0 0) w (by simp [LT.plain, LT.plains]) (one_at w _)
  rw [check_one] at h
  exact h

@[go_sem] theorem bits_4_1 : bits BinOp.and IntKind.i64 4 1 = 0 := by kernel_rfl
@[go_sem] theorem bits_4_2 : bits BinOp.and IntKind.i64 4 2 = 0 := by kernel_rfl
@[go_sem] theorem bits_4_4 : bits BinOp.and IntKind.i64 4 4 = 4 := by kernel_rfl
@[go_sem] theorem bits_4_8 : bits BinOp.and IntKind.i64 4 8 = 0 := by kernel_rfl
@[go_sem] theorem bits_4_16 : bits BinOp.and IntKind.i64 4 16 = 0 := by kernel_rfl
@[go_sem] theorem bits_4_32 : bits BinOp.and IntKind.i64 4 32 = 0 := by kernel_rfl
@[go_sem] theorem bits_4_64 : bits BinOp.and IntKind.i64 4 64 = 0 := by kernel_rfl
@[go_sem] theorem bits_73_1 : bits BinOp.and IntKind.i64 73 1 = 1 := by kernel_rfl
@[go_sem] theorem bits_73_2 : bits BinOp.and IntKind.i64 73 2 = 0 := by kernel_rfl
@[go_sem] theorem bits_73_4 : bits BinOp.and IntKind.i64 73 4 = 0 := by kernel_rfl
@[go_sem] theorem bits_73_8 : bits BinOp.and IntKind.i64 73 8 = 8 := by kernel_rfl
@[go_sem] theorem bits_73_16 : bits BinOp.and IntKind.i64 73 16 = 0 := by kernel_rfl
@[go_sem] theorem bits_73_32 : bits BinOp.and IntKind.i64 73 32 = 0 := by kernel_rfl
@[go_sem] theorem bits_73_64 : bits BinOp.and IntKind.i64 73 64 = 64 := by kernel_rfl
@[go_sem] theorem bits_32_1 : bits BinOp.and IntKind.i64 32 1 = 0 := by kernel_rfl
@[go_sem] theorem bits_32_2 : bits BinOp.and IntKind.i64 32 2 = 0 := by kernel_rfl
@[go_sem] theorem bits_32_4 : bits BinOp.and IntKind.i64 32 4 = 0 := by kernel_rfl
@[go_sem] theorem bits_32_8 : bits BinOp.and IntKind.i64 32 8 = 0 := by kernel_rfl
@[go_sem] theorem bits_32_16 : bits BinOp.and IntKind.i64 32 16 = 0 := by kernel_rfl
@[go_sem] theorem bits_32_32 : bits BinOp.and IntKind.i64 32 32 = 32 := by kernel_rfl
@[go_sem] theorem bits_32_64 : bits BinOp.and IntKind.i64 32 64 = 0 := by kernel_rfl

set_option maxRecDepth 100000 in
set_option maxHeartbeats 2000000 in
theorem formed1 (ib n : Nat) (w : World) : Calls Tryd.prog 14 #[.agg #[.int .i64 1, .int .i64 0, .int .i64 0, .int .i64 1, .int .i64 1, .complex .f64 0 0, .string ⟨#[]⟩, .int .i64 0, .int .u32 0, .int .u64 0, .slice none 0 0, .slice none 0 0], .agg #[.string ⟨#[102]⟩, .int .i64 0, .int .i64 0, .slice (some ⟨ib, 0, none⟩) n n]] w (Ret (.bool true) w) := by
  go_enter Tryd.func14, Tryd.ntmps14
  go_wp2
  go_region_held3 (fun W => W.cell? ⟨w.heap.size, 0, none⟩ = some (.int .i64 1)) (first | assumption | go_keep | go_simp) (first | (go_at_call 20; refine (rows_any _).mono ?_; rintro e w1 ⟨rfl, hb⟩; have hk : w1.cell? ⟨w.heap.size, 0, none⟩ = some (.int .i64 1) := (by rw [hb.cell (p := ⟨w.heap.size, 0, none⟩) (by first | omega | (simp; done) | (simp; omega))]; go_simp); have HW := Lib.hid (show Below w.heap.size w w1 from Below.trans (by repeat (first | exact Below.refl _ _ | refine Below.drew ?_ | refine Below.alloc ?_ (by first | omega | (simp; done) | (simp; omega)) _ | refine Below.setCell ?_ (by first | omega | (simp; done) | (simp; omega)) _)) (hb.mono (by first | omega | (simp; done) | (simp; omega)))); obtain ⟨hc1, hf1⟩ := bcell hb; have hz1 : w.heap.size + 1 < w1.heap.size := (by have := hb.size; simp at this; omega); have hz0 : w.heap.size < w1.heap.size := (by omega); clear hb))
  all_goals
    go_wp2_with fail
    refine (term_one _).mono ?_
    rintro e w2 ⟨rfl, hb⟩
    have HE := Lib.hid (show Below w.heap.size w w2 from Below.trans (by repeat (first | exact HW.out | refine Below.drew ?_ | refine Below.alloc ?_ (by first | omega | (simp; done) | (simp; omega)) _ | refine Below.setCell ?_ (by first | omega | (simp; done) | (simp; omega)) _)) (hb.mono (by first | omega | (simp; done) | (simp; omega))))
    obtain ⟨hc2, hf2⟩ := bcell hb
    clear hb
    go_wp2
    go_ret
    exact Ret.mk rfl HE.out


set_option maxRecDepth 100000 in
set_option maxHeartbeats 2000000 in
theorem formed9 (ib n : Nat) (w : World) : Calls Tryd.prog 14 #[.agg #[.int .i64 9, .int .i64 0, .int .i64 0, .int .i64 0, .int .i64 0, .complex .f64 0 0, .string ⟨#[]⟩, .int .i64 0, .int .u32 0, .int .u64 0, .slice none 0 0, .slice none 0 0], .agg #[.string ⟨#[102]⟩, .int .i64 0, .int .i64 0, .slice (some ⟨ib, 0, none⟩) n n]] w (Ret (.bool true) w) := by
  go_enter Tryd.func14, Tryd.ntmps14
  go_wp2
  go_region_held3 (fun W => W.cell? ⟨w.heap.size, 0, none⟩ = some (.int .i64 9)) (first | assumption | go_keep | go_simp) (first | (go_at_call 20; refine (rows_any _).mono ?_; rintro e w1 ⟨rfl, hb⟩; have hk : w1.cell? ⟨w.heap.size, 0, none⟩ = some (.int .i64 9) := (by rw [hb.cell (p := ⟨w.heap.size, 0, none⟩) (by first | omega | (simp; done) | (simp; omega))]; go_simp); have HW := Lib.hid (show Below w.heap.size w w1 from Below.trans (by repeat (first | exact Below.refl _ _ | refine Below.drew ?_ | refine Below.alloc ?_ (by first | omega | (simp; done) | (simp; omega)) _ | refine Below.setCell ?_ (by first | omega | (simp; done) | (simp; omega)) _)) (hb.mono (by first | omega | (simp; done) | (simp; omega)))); obtain ⟨hc1, hf1⟩ := bcell hb; have hz1 : w.heap.size + 1 < w1.heap.size := (by have := hb.size; simp at this; omega); have hz0 : w.heap.size < w1.heap.size := (by omega); clear hb))
  all_goals
    go_wp2_with fail
    refine (cempty_zero _).mono ?_
    rintro e w2 ⟨rfl, hb⟩
    have HE := Lib.hid (show Below w.heap.size w w2 from Below.trans (by repeat (first | exact HW.out | refine Below.drew ?_ | refine Below.alloc ?_ (by first | omega | (simp; done) | (simp; omega)) _ | refine Below.setCell ?_ (by first | omega | (simp; done) | (simp; omega)) _)) (hb.mono (by first | omega | (simp; done) | (simp; omega))))
    obtain ⟨hc2, hf2⟩ := bcell hb
    clear hb
    go_wp2
    go_ret
    exact Ret.mk rfl HE.out


set_option maxRecDepth 100000 in
set_option maxHeartbeats 2000000 in
theorem formed12 (ib n : Nat) (w : World) : Calls Tryd.prog 14 #[.agg #[.int .i64 12, .int .i64 0, .int .i64 0, .int .i64 0, .int .i64 0, .complex .f64 0 0, .string ⟨#[]⟩, .int .i64 0, .int .u32 0, .int .u64 0, .slice none 0 0, .slice none 0 0], .agg #[.string ⟨#[102]⟩, .int .i64 0, .int .i64 0, .slice (some ⟨ib, 0, none⟩) n n]] w (Ret (.bool true) w) := by
  go_enter Tryd.func14, Tryd.ntmps14
  go_wp2
  go_region_held3 (fun W => W.cell? ⟨w.heap.size, 0, none⟩ = some (.int .i64 12)) (first | assumption | go_keep | go_simp) (first | (go_at_call 20; refine (rows_any _).mono ?_; rintro e w1 ⟨rfl, hb⟩; have hk : w1.cell? ⟨w.heap.size, 0, none⟩ = some (.int .i64 12) := (by rw [hb.cell (p := ⟨w.heap.size, 0, none⟩) (by first | omega | (simp; done) | (simp; omega))]; go_simp); have HW := Lib.hid (show Below w.heap.size w w1 from Below.trans (by repeat (first | exact Below.refl _ _ | refine Below.drew ?_ | refine Below.alloc ?_ (by first | omega | (simp; done) | (simp; omega)) _ | refine Below.setCell ?_ (by first | omega | (simp; done) | (simp; omega)) _)) (hb.mono (by first | omega | (simp; done) | (simp; omega)))); obtain ⟨hc1, hf1⟩ := bcell hb; have hz1 : w.heap.size + 1 < w1.heap.size := (by have := hb.size; simp at this; omega); have hz0 : w.heap.size < w1.heap.size := (by omega); clear hb))
  all_goals
    go_wp2_with fail
    refine (cempty_zero _).mono ?_
    rintro e w2 ⟨rfl, hb⟩
    have HE := Lib.hid (show Below w.heap.size w w2 from Below.trans (by repeat (first | exact HW.out | refine Below.drew ?_ | refine Below.alloc ?_ (by first | omega | (simp; done) | (simp; omega)) _ | refine Below.setCell ?_ (by first | omega | (simp; done) | (simp; omega)) _)) (hb.mono (by first | omega | (simp; done) | (simp; omega))))
    obtain ⟨hc2, hf2⟩ := bcell hb
    clear hb
    go_wp2
    go_ret
    exact Ret.mk rfl HE.out


set_option maxRecDepth 100000 in
set_option maxHeartbeats 2000000 in
theorem led1 (ib n : Nat) (l : Value) (w : World) : Calls Tryd.prog 15 #[.agg #[.int .i64 1, .int .i64 0, .int .i64 0, .int .i64 1, .int .i64 1, .complex .f64 0 0, .string ⟨#[]⟩, .int .i64 0, .int .u32 0, .int .u64 0, .slice none 0 0, .slice none 0 0], .agg #[.string ⟨#[102]⟩, .int .i64 0, .int .i64 0, .slice (some ⟨ib, 0, none⟩) n n], l] w (Ret (.bool true) w) := by
  go_enter Tryd.func15, Tryd.ntmps15
  go_wp2
  go_region_held3 (fun W => W.cell? ⟨w.heap.size, 0, none⟩ = some (.int .i64 1)) (first | assumption | go_keep | go_simp) (first | (go_at_call 20; refine (rows_any _).mono ?_; rintro e w1 ⟨rfl, hb⟩; have hk : w1.cell? ⟨w.heap.size, 0, none⟩ = some (.int .i64 1) := (by rw [hb.cell (p := ⟨w.heap.size, 0, none⟩) (by first | omega | (simp; done) | (simp; omega))]; go_simp); have HW := Lib.hid (show Below w.heap.size w w1 from Below.trans (by repeat (first | exact Below.refl _ _ | refine Below.drew ?_ | refine Below.alloc ?_ (by first | omega | (simp; done) | (simp; omega)) _ | refine Below.setCell ?_ (by first | omega | (simp; done) | (simp; omega)) _)) (hb.mono (by first | omega | (simp; done) | (simp; omega)))); obtain ⟨hc1, hf1⟩ := bcell hb; have hz1 : w.heap.size + 1 < w1.heap.size := (by have := hb.size; simp at this; omega); have hz0 : w.heap.size < w1.heap.size := (by omega); clear hb))
  all_goals
    go_wp2
    go_ret
    exact Ret.mk rfl (by repeat (first | exact HW.out | refine Below.drew ?_ | refine Below.alloc ?_ (by first | omega | (simp; done) | (simp; omega)) _ | refine Below.setCell ?_ (by first | omega | (simp; done) | (simp; omega)) _))


set_option maxRecDepth 100000 in
set_option maxHeartbeats 2000000 in
theorem led9 (ib n : Nat) (l : Value) (w : World) : Calls Tryd.prog 15 #[.agg #[.int .i64 9, .int .i64 0, .int .i64 0, .int .i64 0, .int .i64 0, .complex .f64 0 0, .string ⟨#[]⟩, .int .i64 0, .int .u32 0, .int .u64 0, .slice none 0 0, .slice none 0 0], .agg #[.string ⟨#[102]⟩, .int .i64 0, .int .i64 0, .slice (some ⟨ib, 0, none⟩) 2 2], l] w (Ret (.bool true) w) := by
  go_enter Tryd.func15, Tryd.ntmps15
  go_wp2
  go_region_held3 (fun W => W.cell? ⟨w.heap.size, 0, none⟩ = some (.int .i64 9)) (first | assumption | go_keep | go_simp) (first | (go_at_call 20; refine (rows_any _).mono ?_; rintro e w1 ⟨rfl, hb⟩; have hk : w1.cell? ⟨w.heap.size, 0, none⟩ = some (.int .i64 9) := (by rw [hb.cell (p := ⟨w.heap.size, 0, none⟩) (by first | omega | (simp; done) | (simp; omega))]; go_simp); have HW := Lib.hid (show Below w.heap.size w w1 from Below.trans (by repeat (first | exact Below.refl _ _ | refine Below.drew ?_ | refine Below.alloc ?_ (by first | omega | (simp; done) | (simp; omega)) _ | refine Below.setCell ?_ (by first | omega | (simp; done) | (simp; omega)) _)) (hb.mono (by first | omega | (simp; done) | (simp; omega)))); obtain ⟨hc1, hf1⟩ := bcell hb; have hz1 : w.heap.size + 1 < w1.heap.size := (by have := hb.size; simp at this; omega); have hz0 : w.heap.size < w1.heap.size := (by omega); clear hb))
  all_goals
    go_wp2
    go_ret
    exact Ret.mk rfl (by repeat (first | exact HW.out | refine Below.drew ?_ | refine Below.alloc ?_ (by first | omega | (simp; done) | (simp; omega)) _ | refine Below.setCell ?_ (by first | omega | (simp; done) | (simp; omega)) _))


set_option maxRecDepth 100000 in
set_option maxHeartbeats 2000000 in
theorem led12 (ib n : Nat) (l : Value) (w : World) : Calls Tryd.prog 15 #[.agg #[.int .i64 12, .int .i64 0, .int .i64 0, .int .i64 0, .int .i64 0, .complex .f64 0 0, .string ⟨#[]⟩, .int .i64 0, .int .u32 0, .int .u64 0, .slice none 0 0, .slice none 0 0], .agg #[.string ⟨#[102]⟩, .int .i64 0, .int .i64 0, .slice (some ⟨ib, 0, none⟩) n n], l] w (Ret (.bool true) w) := by
  go_enter Tryd.func15, Tryd.ntmps15
  go_wp2
  go_region_held3 (fun W => W.cell? ⟨w.heap.size, 0, none⟩ = some (.int .i64 12)) (first | assumption | go_keep | go_simp) (first | (go_at_call 20; refine (rows_any _).mono ?_; rintro e w1 ⟨rfl, hb⟩; have hk : w1.cell? ⟨w.heap.size, 0, none⟩ = some (.int .i64 12) := (by rw [hb.cell (p := ⟨w.heap.size, 0, none⟩) (by first | omega | (simp; done) | (simp; omega))]; go_simp); have HW := Lib.hid (show Below w.heap.size w w1 from Below.trans (by repeat (first | exact Below.refl _ _ | refine Below.drew ?_ | refine Below.alloc ?_ (by first | omega | (simp; done) | (simp; omega)) _ | refine Below.setCell ?_ (by first | omega | (simp; done) | (simp; omega)) _)) (hb.mono (by first | omega | (simp; done) | (simp; omega)))); obtain ⟨hc1, hf1⟩ := bcell hb; have hz1 : w.heap.size + 1 < w1.heap.size := (by have := hb.size; simp at this; omega); have hz0 : w.heap.size < w1.heap.size := (by omega); clear hb))
  all_goals
    go_wp2
    go_ret
    exact Ret.mk rfl (by repeat (first | exact HW.out | refine Below.drew ?_ | refine Below.alloc ?_ (by first | omega | (simp; done) | (simp; omega)) _ | refine Below.setCell ?_ (by first | omega | (simp; done) | (simp; omega)) _))

end Go.Proofs.YtpffmndfanknaaaDoor
