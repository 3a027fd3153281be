/- A copy of a term without parts. -/
import Derived.Test.YtgahfmnkkaacgaaCheck
import Derived.Test.YtgahfmnkkaacgaaTuple
import Derived.Great.BuildSlice
namespace Go.Proofs.Ytgahfmnkkaacgaa
set_option linter.unusedVariables false
set_option linter.unusedSimpArgs false
open Go.RowKit

theorem heap_alloc_two (w : World) (o o' : Obj) : ((w.alloc o).alloc o').heap[w.heap.size + 1]? = some o' := by
  have := heap_alloc_last (w.alloc o) o'
  rwa [show (w.alloc o).heap.size = w.heap.size + 1 from by simp] at this

/-- A struct comes back that is this term without parts. -/
def LeafR (w : World) (k n : Int) (re im : Nat) (s : ByteArray) (a b c : Int) (e : Ending) (w' : World) : Prop :=
  ∃ (D1 : Option Addr) (e1 : Nat) (D2 : Option Addr) (e2 : Nat), e = .returned (.agg #[.int .i64 k, .int .i64 n, .complex .f64 re im, .string s, .int .i64 a, .int .u32 b, .int .u64 c, .slice D1 0 e1, .slice D2 0 e2]) ∧ Below w.heap.size w w'

theorem infoByte : (Try.prog.info? 5).map (fun i => (i.zero, i.size, i.bytes)) = some (some (.int .u8 0), 1, 1) := by kernel_rfl

set_option maxRecDepth 100000 in
set_option maxHeartbeats 1000000 in
theorem copied_leaf (k n : Int) (re im : Nat) (s : ByteArray) (a b c : Int) (A1 : Option Addr) (c1 : Nat) (A2 : Option Addr) (c2 : Nat) (w : World) :
    Calls Try.prog 25 #[.agg #[.int .i64 k, .int .i64 n, .complex .f64 re im, .string s, .int .i64 a, .int .u32 b, .int .u64 c, .slice A1 0 c1, .slice A2 0 c2]] w (LeafR w k n re im s a b c) := by
  obtain ⟨i0, hi, hz0, hz1, hz2⟩ := info_parts infoByte
  go_enter Try.func25, Try.ntmps25
  go_wp2_with (at_builtin; refine wpList_app rfl _ _ 29 rfl (w.heap.size + 2) 5 i0 _ 1 1 Try.underlying29 hi hz0 hz1 hz2 rfl (by decide) _ 0 [] rfl (World.ownsRow_nil _ _ _ _) A1 0 c1 [] rfl rfl (.inl rfl) (by simp) (by decide) (by decide) ?c4 ?_)
  case c4 => simp
  intro v' w1 hown hgrow
  obtain ⟨A', cap', rfl, hA1, hA2⟩ := own_shape hown
  have hb := below_grown hgrow (Nat.le_refl _) (by intro k hk; simp [Value.ownBlock] at hk)
  have hy1 : w.heap.size < w1.heap.size := by have := hb.size; simp at this; omega
  have hz1' : w.heap.size + 1 < w1.heap.size := by have := hb.size; simp at this; omega
  have HB1 := Lib.hid ((((Below.refl w.heap.size w).alloc (Nat.le_refl _) _).alloc (by simp) _).trans (hb.mono (by simp; omega)))
  obtain ⟨hc1, hf1⟩ := bcell hb
  have hbox := (hb.block (w.heap.size + 1) (by simp)).trans (heap_alloc_two w _ _)
  have hs7 : (w1.cell? ⟨w.heap.size, 7, none⟩).isSome = true := by rw [hc1 _ _ (by simp; omega)]; go_simp
  have hs8 : (w1.cell? ⟨w.heap.size, 8, none⟩).isSome = true := by rw [hc1 _ _ (by simp; omega)]; go_simp
  have HBOX := Lib.hid hbox
  clear hown hgrow hA1 hA2 hb hi hz0 hz1 hz2 hbox
  go_wp2
  refine wp_loop_rounds 1 ?_
  rw [rounds_succ]
  have hbox2 : ((w1.setCell ⟨w.heap.size, 7, none⟩ (.slice A' 0 cap')).setCell ⟨w.heap.size, 8, none⟩ (.slice none 0 0)).heap[w.heap.size + 1]? = _ :=
    (Below.heap_setCell _ _ _ _ (by simp)).trans ((Below.heap_setCell _ _ _ _ (by simp)).trans HBOX.out)
  have HBOX2 := Lib.hid hbox2
  clear hbox2
  go_wp2_with (refine wpList_store_rowTo rfl 31 _ _ rfl rfl (w.heap.size + 1) #[.int .i64 k, .int .i64 n, .complex .f64 re im, .string s, .int .i64 a, .int .u32 b, .int .u64 c, .slice A' 0 cap', .slice none 0 0] rfl rfl 31 _ HBOX2.out (by kernel_rfl) rfl (by kernel_rfl) ?_)
  have hrow := setRow_heap _ (w.heap.size + 1) _ #[.int .i64 k, .int .i64 n, .complex .f64 re im, .string s, .int .i64 a, .int .u32 b, .int .u64 c, .slice A' 0 cap', .slice none 0 0] _ _ HBOX2.out
  refine bodyPost_ret (v := .agg #[.int .i64 k, .int .i64 n, .complex .f64 re im, .string s, .int .i64 a, .int .u32 b, .int .u64 c, .slice A' 0 cap', .slice none 0 0]) (results_cell_row Try.results25 _ _ (w.heap.size + 1) 31 _ (0, 0) _ rfl hrow Try.underlying31 rfl (by kernel_rfl)) rfl ?_
  exact ⟨A', cap', none, 0, rfl, ((HB1.out.setCell (Nat.le_refl _) _).setCell (Nat.le_refl _) _).trans (below_setRow _ _ (by omega))⟩

/-- What a copy of a right term without parts is. -/
theorem copy_leaf (k n : Int) (re im : Nat) (s : ByteArray) (a b c : Int) (hk : k ≠ 2) (hck : checkF (.mk k n re im s a b c [] []) = 0) (A1 : Option Addr) (c1 : Nat) (A2 : Option Addr) (c2 : Nat) (w : World) :
    Calls Try.prog 18 #[.agg #[.int .i64 k, .int .i64 n, .complex .f64 re im, .string s, .int .i64 a, .int .u32 b, .int .u64 c, .slice A1 0 c1, .slice A2 0 c2]] w (LeafR w k n re im s a b c) := by
  have HPL := Lib.hid (show LT.plain (.mk k n re im s a b c [] []) from by unfold LT.plain LT.plains; exact ⟨hk, trivial⟩)
  have HAT := Lib.hid (fun (W : World) => show LT.at W W.heap.size (.mk k n re im s a b c [] []) (tcells k n re im s a b c A1 0 c1 A2 0 c2) from by
    unfold LT.at; exact ⟨A1, c1, A2, c2, rfl, ⟨by simp, .inl rfl⟩, by simp, by unfold LT.ats; trivial⟩)
  have HCK := Lib.hid hck
  clear hk hck
  go_enter Try.func18, Try.ntmps18
  go_wp2_with fail
  refine (check_any (.mk k n re im s a b c [] []) (tcells k n re im s a b c A1 0 c1 A2 0 c2) _ HPL.out (HAT.out _)).mono ?_
  rw [HCK.out]
  rintro e w1 ⟨rfl, hb1⟩
  have hz1 : w.heap.size < w1.heap.size := by have := hb1.size; simp at this; omega
  have hy1 : w.heap.size + 1 < w1.heap.size := by have := hb1.size; simp at this; omega
  have HB1 := Lib.hid ((((Below.refl w.heap.size w).alloc (Nat.le_refl _) _).alloc (by simp) _).trans (hb1.mono (by simp; omega)))
  obtain ⟨hc1, hf1⟩ := bcell hb1
  have HBOX := Lib.hid ((hb1.block (w.heap.size + 1) (by simp)).trans (heap_alloc_two w _ _))
  clear hb1
  go_wp2_with fail
  refine (copied_leaf _ _ _ _ _ _ _ _ _ _ _ _ _).mono ?_
  rintro e w2 ⟨D1, e1, D2, e2, rfl, hb2⟩
  have HBOX2 := Lib.hid ((hb2.block (w.heap.size + 1) (by omega)).trans HBOX.out)
  have HB2 := Lib.hid (HB1.out.trans (hb2.mono (by omega)))
  clear hb2 hc1 hf1
  go_wp2_with (refine wpList_store_rowTo rfl 31 _ _ rfl rfl (w.heap.size + 1) #[.int .i64 k, .int .i64 n, .complex .f64 re im, .string s, .int .i64 a, .int .u32 b, .int .u64 c, .slice D1 0 e1, .slice D2 0 e2] rfl rfl 31 _ HBOX2.out (by kernel_rfl) rfl (by kernel_rfl) ?_)
  have hrow := setRow_heap _ (w.heap.size + 1) _ #[.int .i64 k, .int .i64 n, .complex .f64 re im, .string s, .int .i64 a, .int .u32 b, .int .u64 c, .slice D1 0 e1, .slice D2 0 e2] _ _ HBOX2.out
  refine bodyPost_ret (v := .agg #[.int .i64 k, .int .i64 n, .complex .f64 re im, .string s, .int .i64 a, .int .u32 b, .int .u64 c, .slice D1 0 e1, .slice D2 0 e2]) (results_cell_row Try.results18 _ _ (w.heap.size + 1) 31 _ (0, 0) _ rfl hrow Try.underlying31 rfl (by kernel_rfl)) rfl ?_
  exact ⟨D1, e1, D2, e2, rfl, HB2.out.trans (below_setRow _ _ (by omega))⟩

end Go.Proofs.Ytgahfmnkkaacgaa
