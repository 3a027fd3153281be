/- What is known, as a table: nothing, or one name. -/
import Derived.Test.YtgahfmnkkaacgaaSame
import Derived.Test.YtgahfmnkkaacgaaCopy
namespace Go.Proofs.Ytgahfmnkkaacgaa
set_option linter.unusedVariables false
set_option linter.unusedSimpArgs false
open Go.RowKit

set_option maxHeartbeats 400000 in
theorem v_any (s : ByteArray) (w : World) :
    Calls Try.prog 5 #[.string s] w (Ret (.agg #[.int .i64 9, .int .i64 0, .complex .f64 0 0, .string s, .int .i64 0, .int .u32 0, .int .u64 0, .slice none 0 0, .slice none 0 0]) w) := by
  go_enter Try.func5, Try.ntmps5
  go_wp2
  exact bodyPost_ret (v := .agg #[.int .i64 9, .int .i64 0, .complex .f64 0 0, .string s, .int .i64 0, .int .u32 0, .int .u64 0, .slice none 0 0, .slice none 0 0]) (by simp [results, Try.results5, go_sem]) rfl (Ret.mk rfl ((Below.refl _ _).alloc (Nat.le_refl _) _))

/-- A new map of these entries. -/
def TableR (w : World) (l : List (ByteArray × Value)) (e : Ending) (w' : World) : Prop := ∃ b, e = .returned (.tuple #[.map (some b), .bool true]) ∧ Below w.heap.size w w' ∧ MapAt w' b l ∧ w.heap.size ≤ b

set_option maxHeartbeats 1000000 in
theorem table_nil (A : Option Addr) (c : Nat) (w : World) : Calls Try.prog 16 #[.slice A 0 c] w (TableR w []) := by
  have hmm := @run_makeMap Try.prog
  go_enter Try.func16, Try.ntmps16
  go_wp2
  refine wp_loop_rounds 1 ?_
  rw [rounds_succ]
  go_wp2
  go_ret2
  exact ⟨_, rfl, (Below.refl _ _).alloc (Nat.le_refl _) _, MapAt.new w, Nat.le_refl _⟩

set_option maxRecDepth 100000 in
set_option maxHeartbeats 2000000 in
theorem table_one (nm : ByteArray) (hnm : mnameF nm = true) (k n : Int) (re im : Nat) (s : ByteArray) (a b c : Int) (hk : k ≠ 2) (hck : checkF (.mk k n re im s a b c [] []) = 0) (A1 : Option Addr) (c1 : Nat) (A2 : Option Addr) (c2 : Nat)
    (blk off cap : Nat) (w : World) (hblk : blk < w.heap.size)
    (hat : ∀ j v, (Value.string nm :: tcells k n re im s a b c A1 0 c1 A2 0 c2)[j]? = some v → w.cell? ⟨blk, off + j, none⟩ = some v) :
    Calls Try.prog 16 #[.slice (some ⟨blk, off, none⟩) 1 cap] w (TableR w [(nm, .agg #[.int .i64 k, .int .i64 n, .complex .f64 re im, .string s, .int .i64 a, .int .u32 b, .int .u64 c, .slice A1 0 c1, .slice A2 0 c2])]) := by
  have hmm := @run_makeMap Try.prog
  have g0 : w.cell? ⟨blk, off, none⟩ = some (.string nm) := hat 0 _ rfl
  have g1 : w.cell? ⟨blk, off + 1, none⟩ = some (.int .i64 k) := hat 1 _ rfl
  have g2 : w.cell? ⟨blk, off + 2, none⟩ = some (.int .i64 n) := hat 2 _ rfl
  have g3 : w.cell? ⟨blk, off + 3, none⟩ = some (.complex .f64 re im) := hat 3 _ rfl
  have g4 : w.cell? ⟨blk, off + 4, none⟩ = some (.string s) := hat 4 _ rfl
  have g5 : w.cell? ⟨blk, off + 5, none⟩ = some (.int .i64 a) := hat 5 _ rfl
  have g6 : w.cell? ⟨blk, off + 6, none⟩ = some (.int .u32 b) := hat 6 _ rfl
  have g7 : w.cell? ⟨blk, off + 7, none⟩ = some (.int .u64 c) := hat 7 _ rfl
  have g8 : w.cell? ⟨blk, off + 8, none⟩ = some (.slice A1 0 c1) := hat 8 _ rfl
  have g9 : w.cell? ⟨blk, off + 9, none⟩ = some (.slice A2 0 c2) := hat 9 _ rfl
  have hlook : ∀ W, MapAt W w.heap.size [] → (Instr.lookup 50 (.map (some w.heap.size)) (.string nm) true).run Try.prog W = .ok (.tuple #[.agg #[.int .i64 0, .int .i64 0, .complex .f64 0 0, .string ⟨#[]⟩, .int .i64 0, .int .u32 0, .int .u64 0, .slice none 0 0, .slice none 0 0], .bool false]) W := fun W hW =>
    run_look Try.underlying50 Try.underlying9 (z := .agg #[.int .i64 0, .int .i64 0, .complex .f64 0 0, .string ⟨#[]⟩, .int .i64 0, .int .u32 0, .int .u64 0, .slice none 0 0, .slice none 0 0]) (by kernel_rfl) hW nm true
  have hmap : MapAt (w.alloc (.map #[] 0)) w.heap.size [] := MapAt.new w
  have HPL := Lib.hid (show LT.plain (.mk k n re im s a b c [] []) from by unfold LT.plain LT.plains; exact ⟨hk, trivial⟩)
  have HAT := Lib.hid (fun (W : World) => show LT.at W W.heap.size (.mk k n re im s a b c [] []) (tcells k n re im s a b c A1 0 c1 A2 0 c2) from by
    unfold LT.at; exact ⟨A1, c1, A2, c2, rfl, ⟨by simp, .inl rfl⟩, by simp, by unfold LT.ats; trivial⟩)
  have HCK := Lib.hid hck
  have HNM := Lib.hid hnm
  clear hat hk hck hnm
  go_enter Try.func16, Try.ntmps16
  go_wp2
  refine wp_loop_rounds 2 ?_
  rw [rounds_succ]
  go_wp2_with fail
  refine (mname_any _ _).mono ?_
  rw [HNM.out]
  rintro e w1 ⟨rfl, hb⟩
  have hz1 : w.heap.size + 1 < w1.heap.size := by have := hb.size; simp at this; omega
  have hy1 : w.heap.size < w1.heap.size := by omega
  have hmap1 : MapAt w1 w.heap.size [] := (((MapAt.new w).alloc _).alloc _).below hb (by simp; omega)
  have HB1 := Lib.hid (((((Below.refl w.heap.size w).alloc (Nat.le_refl _) _).alloc (by simp) _).alloc (by simp; omega) _).trans (hb.mono (by simp; omega)))
  obtain ⟨hc1, hf1⟩ := bcell hb
  clear hb hf1 hmap
  go_wp2_with fail
  refine (check_any (.mk k n re im s a b c [] []) (tcells k n re im s a b c A1 0 c1 A2 0 c2) _ HPL.out (HAT.out _)).mono ?_
  rw [HCK.out]
  rintro e w2 ⟨rfl, hb⟩
  have hz2 : w.heap.size + 1 < w2.heap.size := by have := hb.size; omega
  have hmap2 : MapAt w2 w.heap.size [] := hmap1.below hb hy1
  have HB2 := Lib.hid (HB1.out.trans (hb.mono (by omega)))
  have HM2 := Lib.hid hmap2
  obtain ⟨hc2, hf2⟩ := bcell hb
  have hput : ∀ W v, MapAt W w.heap.size [] → (Instr.mapUpdate 50 (.map (some w.heap.size)) (.string nm) v).run Try.prog W = .ok () (World.mput W w.heap.size (.string nm) v) := fun W v hW =>
    run_put Try.underlying50 Try.underlying9 hW nm rfl v
  clear hb hf2 hmap1 hlook
  go_wp2
  rw [rounds_succ]
  go_wp2
  go_ret2
  exact ⟨_, rfl, HB2.out.trans (below_mput _ _ _ (Nat.le_refl _)), HM2.out.put nm _, Nat.le_refl _⟩

end Go.Proofs.Ytgahfmnkkaacgaa
