/- A pattern with what stands for its names: a tuple of a variable and an atom. -/
import Derived.Test.YtgahfmnkkaacgaaFill
namespace Go.Proofs.Ytgahfmnkkaacgaa
set_option linter.unusedVariables false
set_option linter.unusedSimpArgs false
open Go.RowKit

theorem setCell_row {w : World} {g : Nat} {C : Array Value} {t : TypeId} (h : w.heap[g]? = some (.cells C t (0, 0))) (i : Nat) (v : Value) : (w.setCell ⟨g, i, none⟩ v).heap[g]? = some (.cells (C.setIfInBounds i v) t (0, 0)) := by
  have hlt : g < w.heap.size := (Array.getElem?_eq_some_iff.1 h).1
  rw [Array.getElem?_eq_getElem hlt] at h
  simp only [Option.some.injEq] at h
  have hlt' : g < (w.setCell ⟨g, i, none⟩ v).heap.size := by simpa [World.setCell] using hlt
  rw [Array.getElem?_eq_getElem hlt']
  simp only [World.setCell]
  rw [Array.getElem_modify_self, h]
  simp

theorem bare_at' (w : World) (B : Nat) (k : Int) (s : ByteArray) (A1 : Option Addr) (c1 : Nat) (A2 : Option Addr) (c2 : Nat) : LT.at w B (.mk k 0 0 0 s 0 0 0 [] []) (tcells k 0 0 0 s 0 0 0 A1 0 c1 A2 0 c2) := by
  unfold LT.at
  exact ⟨A1, c1, A2, c2, rfl, ⟨by simp, .inl rfl⟩, by simp, by unfold LT.ats; trivial⟩

/-- A term comes back, and 'true'. -/
def FilledT (w : World) (t : LT) (e : Ending) (w' : World) : Prop := ∃ vs, e = .returned (.tuple #[.agg vs.toArray, .bool true]) ∧ Below w.heap.size w w' ∧ ∀ (W : World) (B : Nat), w'.heap.size ≤ B → (∀ b, w.heap.size + 1 < b → b < w'.heap.size → W.heap[b]? = w'.heap[b]?) → LT.at W B t vs

set_option maxRecDepth 100000 in
set_option maxHeartbeats 4000000 in
theorem filled_tuple (s a : ByteArray) (V1 : Option Addr) (v1 : Nat) (V2 : Option Addr) (v2 : Nat) (U1 : Option Addr) (u1 : Nat) (U2 : Option Addr) (u2 : Nat) (A1 : Option Addr) (c1 pb po cP : Nat) (x : Int) (hx : Hid (intOk x)) (I1 : Option Addr) (i1 : Nat) (I2 : Option Addr) (i2 mb : Nat) (l : List (ByteArray × Value)) (w : World)
    (hpb : pb < w.heap.size) (hp : Hid (∀ j v, ([.int .i64 9, .int .i64 0, .complex .f64 0 0, .string s, .int .i64 0, .int .u32 0, .int .u64 0, .slice V1 0 v1, .slice V2 0 v2] : List Value)[j]? = some v → w.cell? ⟨pb, po + j, none⟩ = some v))
    (hq : Hid (∀ j v, ([.int .i64 3, .int .i64 0, .complex .f64 0 0, .string a, .int .i64 0, .int .u32 0, .int .u64 0, .slice U1 0 u1, .slice U2 0 u2] : List Value)[j]? = some v → w.cell? ⟨pb, po + 9 + j, none⟩ = some v))
    (hm : Hid (MapAt w mb l)) (hl : Hid (mlook l s = some (.agg #[.int .i64 1, .int .i64 x, .complex .f64 0 0, .string ⟨#[]⟩, .int .i64 0, .int .u32 0, .int .u64 0, .slice I1 0 i1, .slice I2 0 i2]))) :
    Calls Try.prog 19 #[.agg #[.int .i64 6, .int .i64 0, .complex .f64 0 0, .string ⟨#[]⟩, .int .i64 0, .int .u32 0, .int .u64 0, .slice A1 0 c1, .slice (some ⟨pb, po, none⟩) 2 cP], .map (some mb)] w (FilledT w (.mk 6 0 0 0 ⟨#[]⟩ 0 0 0 [] [.mk 1 x 0 0 ⟨#[]⟩ 0 0 0 [] [], .mk 3 0 0 0 a 0 0 0 [] []])) := by
  obtain ⟨i0, hi, hz0, hz1, hz2⟩ := info_parts infoByte
  have hmlt := hm.out.lt
  go_enter Try.func19, Try.ntmps19
  go_wp2_with (first | (refine store_new rfl 31 _ _ rfl rfl ((w.alloc (.cells #[.int .i64 6, .int .i64 0, .complex .f64 0 0, .string ⟨#[]⟩, .int .i64 0, .int .u32 0, .int .u64 0, .slice A1 0 c1, .slice (some ⟨pb, po, none⟩) 2 cP] 31)).alloc (.cells #[.int .i64 0, .int .i64 0, .complex .f64 0 0, .string ⟨#[]⟩, .int .i64 0, .int .u32 0, .int .u64 0, .slice none 0 0, .slice none 0 0] 31)) #[.int .i64 6, .int .i64 0, .complex .f64 0 0, .string ⟨#[]⟩, .int .i64 0, .int .u32 0, .int .u64 0, .slice A1 0 c1, .slice (some ⟨pb, po, none⟩) 2 cP] _ 31 (by simp [Act.eval]) rfl (by kernel_rfl) rfl (by kernel_rfl) ?_) | (at_builtin; refine wpList_app rfl _ _ 29 rfl (w.heap.size + 3) 5 i0 _ 1 1 Try.underlying29 hi hz0 hz1 hz2 rfl (by decide) _ 0 [] rfl (World.ownsRow_nil _ _ _ _) A1 0 c1 [] rfl rfl (.inl rfl) (by simp) (by decide) (by decide) ?c4 ?_))
  case c4 => simp
  intro v' w1 hown hgrow
  obtain ⟨A', cap', rfl, _, _⟩ := own_shape hown
  have hb := below_grown hgrow (Nat.le_refl _) (by intro k hk; simp [Value.ownBlock] at hk)
  have hz1' : w.heap.size + 2 < w1.heap.size := by have := hb.size; simp at this; omega
  have hy1 : w.heap.size < w1.heap.size := by omega
  have hx1 : w.heap.size + 1 < w1.heap.size := by omega
  have HB1 := Lib.hid (((((Below.refl w.heap.size w).alloc (Nat.le_refl _) _).alloc (by simp) _).alloc (by simp; omega) _).trans (hb.mono (by simp; omega)))
  obtain ⟨hc1, hf1⟩ := bcell hb
  have HBOX := Lib.hid ((hb.block (w.heap.size + 1) (by simp)).trans ((Below.heap_alloc _ _ _ (by simp)).trans (heap_alloc_two w _ _)))
  have HOUT := Lib.hid ((hb.block (w.heap.size + 2) (by simp)).trans (heap_alloc_three w _ _ _))
  have HPM := Lib.hid ((((hm.out.alloc _).alloc _).alloc _).below hb (by simp; omega))
  have hs7 : (w1.cell? ⟨w.heap.size + 2, 7, none⟩).isSome = true := by rw [hc1 _ _ (by simp)]; go_simp
  have hs8 : (w1.cell? ⟨w.heap.size + 2, 8, none⟩).isSome = true := by rw [hc1 _ _ (by simp)]; go_simp
  clear hown hgrow hb hi hz0 hz1 hz2
  go_wp2
  refine wp_loop_rounds 3 ?_
  rw [rounds_succ]
  have HOx0 := Lib.hid (show ((w1.setCell ⟨w.heap.size + 2, 7, none⟩ (.slice A' 0 cap')).setCell ⟨w.heap.size + 2, 8, none⟩ (.slice none 0 0)).heap[w.heap.size + 2]? = some (.cells #[.int .i64 6, .int .i64 0, .complex .f64 0 0, .string ⟨#[]⟩, .int .i64 0, .int .u32 0, .int .u64 0, .slice A' 0 cap', .slice none 0 0] 31 (0, 0)) from setCell_row (setCell_row HOUT.out 7 _) 8 _)
  have HXx0 := Lib.hid (show ((w1.setCell ⟨w.heap.size + 2, 7, none⟩ (.slice A' 0 cap')).setCell ⟨w.heap.size + 2, 8, none⟩ (.slice none 0 0)).heap[w.heap.size + 1]? = some (.cells #[.int .i64 0, .int .i64 0, .complex .f64 0 0, .string ⟨#[]⟩, .int .i64 0, .int .u32 0, .int .u64 0, .slice none 0 0, .slice none 0 0] 31 (0, 0)) from (Below.heap_setCell _ _ _ _ (by simp)).trans ((Below.heap_setCell _ _ _ _ (by simp)).trans HBOX.out))
  have HWx0 := Lib.hid (show Below w.heap.size w ((w1.setCell ⟨w.heap.size + 2, 7, none⟩ (.slice A' 0 cap')).setCell ⟨w.heap.size + 2, 8, none⟩ (.slice none 0 0)) from (HB1.out.setCell (by show _ ≤ w.heap.size + 2; omega) _).setCell (by show _ ≤ w.heap.size + 2; omega) _)
  have HMx0 := Lib.hid (show MapAt ((w1.setCell ⟨w.heap.size + 2, 7, none⟩ (.slice A' 0 cap')).setCell ⟨w.heap.size + 2, 8, none⟩ (.slice none 0 0)) mb l from (HPM.out.setCell _ _).setCell _ _)
  have HLx0 := Lib.hid (show ((w1.setCell ⟨w.heap.size + 2, 7, none⟩ (.slice A' 0 cap')).setCell ⟨w.heap.size + 2, 8, none⟩ (.slice none 0 0)).ownsRow (w.heap.size + 3) 31 9 (.slice none 0 0) 0 [] from World.ownsRow_nil _ _ _ _)
  have hsx0 : w.heap.size + 2 < ((w1.setCell ⟨w.heap.size + 2, 7, none⟩ (.slice A' 0 cap')).setCell ⟨w.heap.size + 2, 8, none⟩ (.slice none 0 0)).heap.size := by simpa [World.setCell] using hz1'
  generalize (w1.setCell ⟨w.heap.size + 2, 7, none⟩ (.slice A' 0 cap')).setCell ⟨w.heap.size + 2, 8, none⟩ (.slice none 0 0) = x0 at *
  clear hc1 hf1 hs7 hs8
  obtain ⟨j0, hj0, hr0, hr1, hr2⟩ := info_parts infoTerm
  have ho8 : x0.cell? ⟨w.heap.size + 1 + 1, 8, none⟩ = some (.slice none 0 0) := cell_of_row x0 _ 8 _ _ _ HOx0.out
  have hpq : ∀ j v, ([.int .i64 9, .int .i64 0, .complex .f64 0 0, .string s, .int .i64 0, .int .u32 0, .int .u64 0, .slice V1 0 v1, .slice V2 0 v2] : List Value)[j]? = some v → x0.cell? ⟨pb, po + j, none⟩ = some v := fun j v hv => by rw [HWx0.out.cell (p := ⟨pb, _, none⟩) hpb]; exact hp.out j v hv
  have HPQ := Lib.hid hpq
  clear hpq
  go_wp2_with (first | (refine load_to rfl 31 _ rfl (some 42) rfl pb (po) (by simp [Act.eval]) [.int .i64 9, .int .i64 0, .complex .f64 0 0, .string s, .int .i64 0, .int .u32 0, .int .u64 0, .slice V1 0 v1, .slice V2 0 v2] _ (fun j v hv => HPQ.out j v hv) Try.underlying31 rfl (by kernel_rfl) ?_) | (refine store_new rfl 31 _ _ rfl rfl x0 #[.int .i64 9, .int .i64 0, .complex .f64 0 0, .string s, .int .i64 0, .int .u32 0, .int .u64 0, .slice V1 0 v1, .slice V2 0 v2] _ 31 rfl rfl (by kernel_rfl) rfl (by kernel_rfl) ?_))
  refine (filled_var s V1 v1 V2 v2 x hx I1 i1 I2 i2 mb l _ (HMx0.out.alloc _) hl).mono ?_
  rintro e y0 ⟨D1, e1, D2, e2, rfl, hb⟩
  have hsy0 : x0.heap.size < y0.heap.size := by have := hb.size; simp at this; omega
  have hoY : y0.cell? ⟨w.heap.size + 1 + 1, 8, none⟩ = some (.slice none 0 0) := by
    rw [hb.cell (p := ⟨w.heap.size + 1 + 1, 8, none⟩) (by simp; omega), World.cell?_alloc_lt _ _ _ hsx0]; exact ho8
  have HBy0 := Lib.hid (show Below x0.heap.size x0 y0 from ((Below.refl _ _).alloc (Nat.le_refl _) _).trans (hb.mono (by simp)))
  have hoY2 : ∀ o, (y0.alloc o).cell? ⟨w.heap.size + 1 + 1, 8, none⟩ = some (.slice none 0 0) := fun o => by rw [World.cell?_alloc_lt _ _ _ (by show w.heap.size + 1 + 1 < _; omega)]; exact hoY
  clear hb ho8
  go_wp2_with (first | (refine store_new rfl 31 _ _ rfl rfl y0 #[.int .i64 1, .int .i64 x, .complex .f64 0 0, .string ⟨#[]⟩, .int .i64 0, .int .u32 0, .int .u64 0, .slice D1 0 e1, .slice D2 0 e2] _ 31 rfl rfl (by kernel_rfl) rfl (by kernel_rfl) ?_) | (at_builtin; refine wpList_app rfl _ _ 23 rfl (w.heap.size + 3) 31 j0 _ 9 120 Try.underlying23 hj0 hr0 hr1 hr2 rfl (by decide) (.slice none 0 0) 0 [] rfl (((own_below HLx0.out HBy0.out (Nat.le_refl _)).alloc _).alloc _) (some ⟨y0.heap.size + 1, 0, none⟩) 1 1 [.int .i64 1, .int .i64 x, .complex .f64 0 0, .string ⟨#[]⟩, .int .i64 0, .int .u32 0, .int .u64 0, .slice D1 0 e1, .slice D2 0 e2] rfl rfl (.inr ⟨_, rfl, fun j u hu => by rw [Addr.add_mid]; exact row_cells (heap_alloc_two y0 _ _) (o := 0) (fun _ _ h => by simpa using h) j u hu⟩) (by simp [Value.oneCell']) (by decide) (by decide) (by simp; omega) ?_))
  intro vl z0 hown hgrow
  obtain ⟨G0, g0, rfl, _, _⟩ := own_shape hown
  have hsz0 : y0.heap.size + 2 ≤ z0.heap.size := by have := hgrow.size; simp at this; omega
  have hzz : z0.heap[w.heap.size + 2]? = x0.heap[w.heap.size + 2]? := (hgrow.block (w.heap.size + 2) (by simp; omega) (fun e => by have := (HLx0.out.lt _ e.symm).1; omega)).trans ((Below.heap_alloc _ _ _ (by simp; omega)).trans ((Below.heap_alloc _ _ _ (by omega)).trans (HBy0.out.block _ (by omega))))
  have hzx : z0.heap[w.heap.size + 1]? = x0.heap[w.heap.size + 1]? := (hgrow.block (w.heap.size + 1) (by simp; omega) (fun e => by have := (HLx0.out.lt _ e.symm).1; omega)).trans ((Below.heap_alloc _ _ _ (by simp; omega)).trans ((Below.heap_alloc _ _ _ (by omega)).trans (HBy0.out.block _ (by omega))))
  have hz8 : (z0.cell? ⟨w.heap.size + 1 + 1, 8, none⟩).isSome = true := by rw [cell_of_row z0 _ 8 _ _ _ (hzz.trans HOx0.out)]; rfl
  have hz8e : z0.cell? ⟨w.heap.size + 1 + 1, 8, none⟩ = some (.slice none 0 0) := cell_of_row z0 _ 8 _ _ _ (hzz.trans HOx0.out)
  have hzf : z0.frozen? ⟨w.heap.size + 1 + 1, 8, none⟩ = false := by have h := hzz.trans HOx0.out; simp [World.frozen?, show w.heap.size + 1 + 1 = w.heap.size + 2 from rfl, h]
  have HGBz0 := Lib.hid (show Below w.heap.size w z0 from (((HWx0.out.trans (HBy0.out.mono (by omega))).alloc (by omega) _).alloc (by simp; omega) _).grown hgrow (by simp; omega) (fun k hk => by have := (HLx0.out.lt k hk).1; omega))
  have HZZ := Lib.hid (And.intro hzz hzx)
  have HZL := Lib.hid hown
  have HZM := Lib.hid (show MapAt z0 mb l from (((HMx0.out.below HBy0.out (by omega)).alloc _).alloc _).stays (hgrow.block mb (by simp; omega) (fun e => by have := (HLx0.out.lt _ e.symm).1; omega)))
  clear hown hgrow hzz hzx hoY hoY2
  go_wp2
  rw [rounds_succ]
  have HOx1 := Lib.hid (show (z0.setCell ⟨w.heap.size + 1 + 1, 8, none⟩ (.slice G0 (0 + 1) g0)).heap[w.heap.size + 2]? = some (.cells #[.int .i64 6, .int .i64 0, .complex .f64 0 0, .string ⟨#[]⟩, .int .i64 0, .int .u32 0, .int .u64 0, .slice A' 0 cap', .slice G0 (0 + 1) g0] 31 (0, 0)) from setCell_row (HZZ.out.1.trans HOx0.out) 8 _)
  have HXx1 := Lib.hid (show (z0.setCell ⟨w.heap.size + 1 + 1, 8, none⟩ (.slice G0 (0 + 1) g0)).heap[w.heap.size + 1]? = some (.cells #[.int .i64 0, .int .i64 0, .complex .f64 0 0, .string ⟨#[]⟩, .int .i64 0, .int .u32 0, .int .u64 0, .slice none 0 0, .slice none 0 0] 31 (0, 0)) from (Below.heap_setCell _ _ _ _ (by simp)).trans (HZZ.out.2.trans HXx0.out))
  have HWx1 := Lib.hid (show Below w.heap.size w (z0.setCell ⟨w.heap.size + 1 + 1, 8, none⟩ (.slice G0 (0 + 1) g0)) from HGBz0.out.setCell (by show _ ≤ w.heap.size + 1 + 1; omega) _)
  have HMx1 := Lib.hid (show MapAt (z0.setCell ⟨w.heap.size + 1 + 1, 8, none⟩ (.slice G0 (0 + 1) g0)) mb l from HZM.out.setCell _ _)
  have HLx1 := Lib.hid (show (z0.setCell ⟨w.heap.size + 1 + 1, 8, none⟩ (.slice G0 (0 + 1) g0)).ownsRow (w.heap.size + 3) 31 9 (.slice G0 (0 + 1) g0) (0 + 1) ([] ++ [.int .i64 1, .int .i64 x, .complex .f64 0 0, .string ⟨#[]⟩, .int .i64 0, .int .u32 0, .int .u64 0, .slice D1 0 e1, .slice D2 0 e2]) from own_setCell HZL.out (fun e => by have h := (HZL.out.lt _ e).1; have h2 : w.heap.size + 3 ≤ w.heap.size + 1 + 1 := h; omega) _)
  have hsx1 : w.heap.size + 2 < (z0.setCell ⟨w.heap.size + 1 + 1, 8, none⟩ (.slice G0 (0 + 1) g0)).heap.size := by simp only [World.setCell, Array.size_modify]; omega
  generalize z0.setCell ⟨w.heap.size + 1 + 1, 8, none⟩ (.slice G0 (0 + 1) g0) = x1 at *
  clear hz8 hz8e hzf
  have ho8 : x1.cell? ⟨w.heap.size + 1 + 1, 8, none⟩ = some (.slice G0 (0 + 1) g0) := cell_of_row x1 _ 8 _ _ _ HOx1.out
  have hpq : ∀ j v, ([.int .i64 3, .int .i64 0, .complex .f64 0 0, .string a, .int .i64 0, .int .u32 0, .int .u64 0, .slice U1 0 u1, .slice U2 0 u2] : List Value)[j]? = some v → x1.cell? ⟨pb, po + 9 + j, none⟩ = some v := fun j v hv => by rw [HWx1.out.cell (p := ⟨pb, _, none⟩) hpb]; exact hq.out j v hv
  have HPQ := Lib.hid hpq
  clear hpq
  go_wp2_with (first | (refine load_to rfl 31 _ rfl (some 42) rfl pb (po + 9) (by simp [Act.eval]) [.int .i64 3, .int .i64 0, .complex .f64 0 0, .string a, .int .i64 0, .int .u32 0, .int .u64 0, .slice U1 0 u1, .slice U2 0 u2] _ (fun j v hv => HPQ.out j v hv) Try.underlying31 rfl (by kernel_rfl) ?_) | (refine store_new rfl 31 _ _ rfl rfl x1 #[.int .i64 3, .int .i64 0, .complex .f64 0 0, .string a, .int .i64 0, .int .u32 0, .int .u64 0, .slice U1 0 u1, .slice U2 0 u2] _ 31 rfl rfl (by kernel_rfl) rfl (by kernel_rfl) ?_))
  refine (filled_atom a U1 u1 U2 u2 _ _).mono ?_
  rintro e y1 ⟨F1, f1, F2, f2, rfl, hb⟩
  have hsy1 : x1.heap.size < y1.heap.size := by have := hb.size; simp at this; omega
  have hoY : y1.cell? ⟨w.heap.size + 1 + 1, 8, none⟩ = some (.slice G0 (0 + 1) g0) := by
    rw [hb.cell (p := ⟨w.heap.size + 1 + 1, 8, none⟩) (by simp; omega), World.cell?_alloc_lt _ _ _ hsx1]; exact ho8
  have HBy1 := Lib.hid (show Below x1.heap.size x1 y1 from ((Below.refl _ _).alloc (Nat.le_refl _) _).trans (hb.mono (by simp)))
  have hoY2 : ∀ o, (y1.alloc o).cell? ⟨w.heap.size + 1 + 1, 8, none⟩ = some (.slice G0 (0 + 1) g0) := fun o => by rw [World.cell?_alloc_lt _ _ _ (by show w.heap.size + 1 + 1 < _; omega)]; exact hoY
  clear hb ho8
  go_wp2_with (first | (refine store_new rfl 31 _ _ rfl rfl y1 #[.int .i64 3, .int .i64 0, .complex .f64 0 0, .string a, .int .i64 0, .int .u32 0, .int .u64 0, .slice F1 0 f1, .slice F2 0 f2] _ 31 rfl rfl (by kernel_rfl) rfl (by kernel_rfl) ?_) | (at_builtin; refine wpList_app rfl _ _ 23 rfl (w.heap.size + 3) 31 j0 _ 9 120 Try.underlying23 hj0 hr0 hr1 hr2 rfl (by decide) (.slice G0 (0 + 1) g0) 1 [.int .i64 1, .int .i64 x, .complex .f64 0 0, .string ⟨#[]⟩, .int .i64 0, .int .u32 0, .int .u64 0, .slice D1 0 e1, .slice D2 0 e2] rfl (((own_below HLx1.out HBy1.out (Nat.le_refl _)).alloc _).alloc _) (some ⟨y1.heap.size + 1, 0, none⟩) 1 1 [.int .i64 3, .int .i64 0, .complex .f64 0 0, .string a, .int .i64 0, .int .u32 0, .int .u64 0, .slice F1 0 f1, .slice F2 0 f2] rfl rfl (.inr ⟨_, rfl, fun j u hu => by rw [Addr.add_mid]; exact row_cells (heap_alloc_two y1 _ _) (o := 0) (fun _ _ h => by simpa using h) j u hu⟩) (by simp [Value.oneCell']) (by decide) (by decide) (by simp; omega) ?_))
  intro vl z1 hown hgrow
  obtain ⟨G1, g1, rfl, _, _⟩ := own_shape hown
  have hsz1 : y1.heap.size + 2 ≤ z1.heap.size := by have := hgrow.size; simp at this; omega
  have hzz : z1.heap[w.heap.size + 2]? = x1.heap[w.heap.size + 2]? := (hgrow.block (w.heap.size + 2) (by simp; omega) (fun e => by have := (HLx1.out.lt _ e.symm).1; omega)).trans ((Below.heap_alloc _ _ _ (by simp; omega)).trans ((Below.heap_alloc _ _ _ (by omega)).trans (HBy1.out.block _ (by omega))))
  have hzx : z1.heap[w.heap.size + 1]? = x1.heap[w.heap.size + 1]? := (hgrow.block (w.heap.size + 1) (by simp; omega) (fun e => by have := (HLx1.out.lt _ e.symm).1; omega)).trans ((Below.heap_alloc _ _ _ (by simp; omega)).trans ((Below.heap_alloc _ _ _ (by omega)).trans (HBy1.out.block _ (by omega))))
  have hz8 : (z1.cell? ⟨w.heap.size + 1 + 1, 8, none⟩).isSome = true := by rw [cell_of_row z1 _ 8 _ _ _ (hzz.trans HOx1.out)]; rfl
  have hz8e : z1.cell? ⟨w.heap.size + 1 + 1, 8, none⟩ = some (.slice G0 (0 + 1) g0) := cell_of_row z1 _ 8 _ _ _ (hzz.trans HOx1.out)
  have hzf : z1.frozen? ⟨w.heap.size + 1 + 1, 8, none⟩ = false := by have h := hzz.trans HOx1.out; simp [World.frozen?, show w.heap.size + 1 + 1 = w.heap.size + 2 from rfl, h]
  have HGBz1 := Lib.hid (show Below w.heap.size w z1 from (((HWx1.out.trans (HBy1.out.mono (by omega))).alloc (by omega) _).alloc (by simp; omega) _).grown hgrow (by simp; omega) (fun k hk => by have := (HLx1.out.lt k hk).1; omega))
  have HZZ := Lib.hid (And.intro hzz hzx)
  have HZL := Lib.hid hown
  have HZM := Lib.hid (show MapAt z1 mb l from (((HMx1.out.below HBy1.out (by omega)).alloc _).alloc _).stays (hgrow.block mb (by simp; omega) (fun e => by have := (HLx1.out.lt _ e.symm).1; omega)))
  clear hown hgrow hzz hzx hoY hoY2
  go_wp2
  rw [rounds_succ]
  have HOx2 := Lib.hid (show (z1.setCell ⟨w.heap.size + 1 + 1, 8, none⟩ (.slice G1 (1 + 1) g1)).heap[w.heap.size + 2]? = some (.cells #[.int .i64 6, .int .i64 0, .complex .f64 0 0, .string ⟨#[]⟩, .int .i64 0, .int .u32 0, .int .u64 0, .slice A' 0 cap', .slice G1 (1 + 1) g1] 31 (0, 0)) from setCell_row (HZZ.out.1.trans HOx1.out) 8 _)
  have HXx2 := Lib.hid (show (z1.setCell ⟨w.heap.size + 1 + 1, 8, none⟩ (.slice G1 (1 + 1) g1)).heap[w.heap.size + 1]? = some (.cells #[.int .i64 0, .int .i64 0, .complex .f64 0 0, .string ⟨#[]⟩, .int .i64 0, .int .u32 0, .int .u64 0, .slice none 0 0, .slice none 0 0] 31 (0, 0)) from (Below.heap_setCell _ _ _ _ (by simp)).trans (HZZ.out.2.trans HXx1.out))
  have HWx2 := Lib.hid (show Below w.heap.size w (z1.setCell ⟨w.heap.size + 1 + 1, 8, none⟩ (.slice G1 (1 + 1) g1)) from HGBz1.out.setCell (by show _ ≤ w.heap.size + 1 + 1; omega) _)
  have HMx2 := Lib.hid (show MapAt (z1.setCell ⟨w.heap.size + 1 + 1, 8, none⟩ (.slice G1 (1 + 1) g1)) mb l from HZM.out.setCell _ _)
  have HLx2 := Lib.hid (show (z1.setCell ⟨w.heap.size + 1 + 1, 8, none⟩ (.slice G1 (1 + 1) g1)).ownsRow (w.heap.size + 3) 31 9 (.slice G1 (1 + 1) g1) (1 + 1) ([.int .i64 1, .int .i64 x, .complex .f64 0 0, .string ⟨#[]⟩, .int .i64 0, .int .u32 0, .int .u64 0, .slice D1 0 e1, .slice D2 0 e2] ++ [.int .i64 3, .int .i64 0, .complex .f64 0 0, .string a, .int .i64 0, .int .u32 0, .int .u64 0, .slice F1 0 f1, .slice F2 0 f2]) from own_setCell HZL.out (fun e => by have h := (HZL.out.lt _ e).1; have h2 : w.heap.size + 3 ≤ w.heap.size + 1 + 1 := h; omega) _)
  have hsx2 : w.heap.size + 2 < (z1.setCell ⟨w.heap.size + 1 + 1, 8, none⟩ (.slice G1 (1 + 1) g1)).heap.size := by simp only [World.setCell, Array.size_modify]; omega
  generalize z1.setCell ⟨w.heap.size + 1 + 1, 8, none⟩ (.slice G1 (1 + 1) g1) = x2 at *
  clear hz8 hz8e hzf
  go_wp2_with (first | (refine load_to rfl 31 _ rfl (some 59) rfl (w.heap.size + 2) 0 rfl [.int .i64 6, .int .i64 0, .complex .f64 0 0, .string ⟨#[]⟩, .int .i64 0, .int .u32 0, .int .u64 0, .slice A' 0 cap', .slice G1 (1 + 1) g1] _ (row_cells HOx2.out (o := 0) (fun _ _ h => by simpa using h)) Try.underlying31 rfl (by kernel_rfl) ?_) | (refine wpList_store_rowTo rfl 31 _ _ rfl rfl (w.heap.size + 1) #[.int .i64 6, .int .i64 0, .complex .f64 0 0, .string ⟨#[]⟩, .int .i64 0, .int .u32 0, .int .u64 0, .slice A' 0 cap', .slice G1 (1 + 1) g1] rfl rfl 31 _ HXx2.out (by kernel_rfl) rfl (by kernel_rfl) ?_))
  have hrow := setRow_heap _ (w.heap.size + 1) _ #[.int .i64 6, .int .i64 0, .complex .f64 0 0, .string ⟨#[]⟩, .int .i64 0, .int .u32 0, .int .u64 0, .slice A' 0 cap', .slice G1 (1 + 1) g1] _ _ HXx2.out
  refine bodyPost_ret (v := .tuple #[.agg #[.int .i64 6, .int .i64 0, .complex .f64 0 0, .string ⟨#[]⟩, .int .i64 0, .int .u32 0, .int .u64 0, .slice A' 0 cap', .slice G1 (1 + 1) g1], .bool true]) (results_cell_tmp Try.results19 _ _ (w.heap.size + 1) 31 _ (0, 0) _ _ rfl rfl hrow Try.underlying31 rfl (by kernel_rfl)) rfl ?_
  obtain ⟨GA, gc, hv, h0, h1⟩ := own_shape HLx2.out
  cases hv
  cases G1 with
  | none => have := (h0 rfl).1; omega
  | some ad =>
    obtain ⟨g, rfl, hg1, hg2, hgc⟩ := h1 ad rfl
    have hcc : ∀ j u, ([.int .i64 1, .int .i64 x, .complex .f64 0 0, .string ⟨#[]⟩, .int .i64 0, .int .u32 0, .int .u64 0, .slice D1 0 e1, .slice D2 0 e2, .int .i64 3, .int .i64 0, .complex .f64 0 0, .string a, .int .i64 0, .int .u32 0, .int .u64 0, .slice F1 0 f1, .slice F2 0 f2] : List Value)[j]? = some u → (x2.setRow (w.heap.size + 1) #[.int .i64 6, .int .i64 0, .complex .f64 0 0, .string ⟨#[]⟩, .int .i64 0, .int .u32 0, .int .u64 0, .slice A' 0 cap', .slice (some ⟨g, 0, none⟩) (1 + 1) g1]).cell? ⟨g, j, none⟩ = some u := fun j u hu => by
      rw [World.cell?_of_block (w := x2) (setRow_other x2 (w.heap.size + 1) g _ (by omega))]
      exact hgc j u hu
    refine ⟨tcells 6 0 0 0 ⟨#[]⟩ 0 0 0 A' 0 cap' (some ⟨g, 0, none⟩) 2 g1, rfl, HWx2.out.trans (below_setRow _ _ (by omega)), ?_⟩
    intro W B hB hW
    have hszW : g < B := by simp [World.setRow] at hB; omega
    have hcc : ∀ j u, ([.int .i64 1, .int .i64 x, .complex .f64 0 0, .string ⟨#[]⟩, .int .i64 0, .int .u32 0, .int .u64 0, .slice D1 0 e1, .slice D2 0 e2, .int .i64 3, .int .i64 0, .complex .f64 0 0, .string a, .int .i64 0, .int .u32 0, .int .u64 0, .slice F1 0 f1, .slice F2 0 f2] : List Value)[j]? = some u → W.cell? ⟨g, j, none⟩ = some u := fun j u hu => by
      rw [World.cell?_of_block (hW g (by omega) (by simp [World.setRow]; omega))]; exact hcc j u hu
    unfold LT.at
    refine ⟨A', cap', some ⟨g, 0, none⟩, g1, rfl, ⟨by simp, .inl rfl⟩, by simp, ?_⟩
    unfold LT.ats
    refine ⟨g, 0, [.int .i64 1, .int .i64 x, .complex .f64 0 0, .string ⟨#[]⟩, .int .i64 0, .int .u32 0, .int .u64 0, .slice D1 0 e1, .slice D2 0 e2], rfl, hszW, rfl, fun j v hv => ?_, ?_, ?_⟩
    · rw [Nat.zero_add]; exact hcc j v (by rw [show ([.int .i64 1, .int .i64 x, .complex .f64 0 0, .string ⟨#[]⟩, .int .i64 0, .int .u32 0, .int .u64 0, .slice D1 0 e1, .slice D2 0 e2, .int .i64 3, .int .i64 0, .complex .f64 0 0, .string a, .int .i64 0, .int .u32 0, .int .u64 0, .slice F1 0 f1, .slice F2 0 f2] : List Value) = [.int .i64 1, .int .i64 x, .complex .f64 0 0, .string ⟨#[]⟩, .int .i64 0, .int .u32 0, .int .u64 0, .slice D1 0 e1, .slice D2 0 e2] ++ [.int .i64 3, .int .i64 0, .complex .f64 0 0, .string a, .int .i64 0, .int .u32 0, .int .u64 0, .slice F1 0 f1, .slice F2 0 f2] from rfl, List.getElem?_append_left (List.getElem?_eq_some_iff.1 hv).1]; exact hv)
    · exact int_at _ _ x D1 e1 D2 e2
    · unfold LT.ats
      refine ⟨g, 0 + 9, [.int .i64 3, .int .i64 0, .complex .f64 0 0, .string a, .int .i64 0, .int .u32 0, .int .u64 0, .slice F1 0 f1, .slice F2 0 f2], rfl, hszW, rfl, fun j v hv => ?_, bare_at' _ _ 3 a F1 f1 F2 f2, by unfold LT.ats; trivial⟩
      refine hcc (0 + 9 + j) v ?_
      rw [show ([.int .i64 1, .int .i64 x, .complex .f64 0 0, .string ⟨#[]⟩, .int .i64 0, .int .u32 0, .int .u64 0, .slice D1 0 e1, .slice D2 0 e2, .int .i64 3, .int .i64 0, .complex .f64 0 0, .string a, .int .i64 0, .int .u32 0, .int .u64 0, .slice F1 0 f1, .slice F2 0 f2] : List Value) = [.int .i64 1, .int .i64 x, .complex .f64 0 0, .string ⟨#[]⟩, .int .i64 0, .int .u32 0, .int .u64 0, .slice D1 0 e1, .slice D2 0 e2] ++ [.int .i64 3, .int .i64 0, .complex .f64 0 0, .string a, .int .i64 0, .int .u32 0, .int .u64 0, .slice F1 0 f1, .slice F2 0 f2] from rfl, List.getElem?_append_right (by simp)]
      rw [show 0 + 9 + j - ([.int .i64 1, .int .i64 x, .complex .f64 0 0, .string ⟨#[]⟩, .int .i64 0, .int .u32 0, .int .u64 0, .slice D1 0 e1, .slice D2 0 e2] : List Value).length = j from by first | (simp; done) | (simp; omega)]
      exact hv

end Go.Proofs.Ytgahfmnkkaacgaa
