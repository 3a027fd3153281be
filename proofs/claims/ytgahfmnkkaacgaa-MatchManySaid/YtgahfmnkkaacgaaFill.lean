/- A pattern with what stands for its names: a variable, an atom; a tuple of the two. -/
import Derived.Test.YtgahfmnkkaacgaaMatchW
namespace Go.Proofs.Ytgahfmnkkaacgaa
set_option linter.unusedVariables false
set_option linter.unusedSimpArgs false
open Go.RowKit

theorem results_cell_tmp {P : Program} {fn : Func} {p q : Tmp} {ty : TypeId} (h : fn.results = #[.cell p ty, .tmp q]) (tmps : Array Value) (w : World) (g : Nat) (t : TypeId) (cs : Array Value) (fr : Nat × Nat) (d : TypeDesc) (u : Value)
    (hp : tmps.getD p undef = .pointer (some ⟨g, 0, none⟩)) (hq : tmps.getD q undef = u) (hg : w.heap[g]? = some (.cells cs t fr))
    (hu : P.underlying ty = some d) (hd : (match d with | .struct _ | .array _ _ => true | _ => false) = true) (hi : (P.info? ty).map (·.size) = some cs.size) :
    (results fn tmps).run P w = .ok (.tuple #[.agg cs, u]) w := by
  have hp' : tmps[p]?.getD undef = .pointer (some ⟨g, 0, none⟩) := by simpa using hp
  have hq' : tmps[q]?.getD undef = u := by simpa using hq
  simp [results, h, hp', hq', asAddr, run_loadVar_row w g t ty cs fr d hg hu hd hi]

/-- A leaf comes back, and 'true'. -/
def FilledR (w : World) (k n : Int) (s : ByteArray) (e : Ending) (w' : World) : Prop :=
  ∃ (D1 : Option Addr) (e1 : Nat) (D2 : Option Addr) (e2 : Nat), e = .returned (.tuple #[.agg #[.int .i64 k, .int .i64 n, .complex .f64 0 0, .string s, .int .i64 0, .int .u32 0, .int .u64 0, .slice D1 0 e1, .slice D2 0 e2], .bool true]) ∧ Below w.heap.size w w'

set_option maxRecDepth 100000 in
set_option maxHeartbeats 2000000 in
theorem filled_var (s : ByteArray) (V1 : Option Addr) (v1 : Nat) (V2 : Option Addr) (v2 : Nat) (x : Int) (hx : Hid (intOk x)) (I1 : Option Addr) (i1 : Nat) (I2 : Option Addr) (i2 mb : Nat) (l : List (ByteArray × Value)) (w : World)
    (hm : MapAt w mb l) (hl : Hid (mlook l s = some (.agg #[.int .i64 1, .int .i64 x, .complex .f64 0 0, .string ⟨#[]⟩, .int .i64 0, .int .u32 0, .int .u64 0, .slice I1 0 i1, .slice I2 0 i2]))) :
    Calls Try.prog 19 #[.agg #[.int .i64 9, .int .i64 0, .complex .f64 0 0, .string s, .int .i64 0, .int .u32 0, .int .u64 0, .slice V1 0 v1, .slice V2 0 v2], .map (some mb)] w (FilledR w 1 x ⟨#[]⟩) := by
  have hlook : ∀ W, MapAt W mb l → (Instr.lookup 50 (.map (some mb)) (.string s) true).run Try.prog W = .ok (.tuple #[.agg #[.int .i64 1, .int .i64 x, .complex .f64 0 0, .string ⟨#[]⟩, .int .i64 0, .int .u32 0, .int .u64 0, .slice I1 0 i1, .slice I2 0 i2], .bool true]) W := fun W hW => by
    rw [run_look Try.underlying50 Try.underlying9 (z := .agg #[.int .i64 0, .int .i64 0, .complex .f64 0 0, .string ⟨#[]⟩, .int .i64 0, .int .u32 0, .int .u64 0, .slice none 0 0, .slice none 0 0]) (by kernel_rfl) hW s true, hl.out]; rfl
  have hmlt := hm.lt
  have hlook2 := fun o1 o2 => hlook ((w.alloc o1).alloc o2) ((hm.alloc _).alloc _)
  clear hlook
  go_enter Try.func19, Try.ntmps19
  go_wp2_with fail
  refine (copy_leaf 1 x 0 0 ⟨#[]⟩ 0 0 0 (by decide) (check_int hx.out) I1 i1 I2 i2 _).mono ?_
  rintro e w1 ⟨D1, e1, D2, e2, rfl, hb⟩
  have HBOX := Lib.hid ((hb.block (w.heap.size + 1) (by simp)).trans ((Below.heap_alloc _ _ _ (by simp)).trans (heap_alloc_two w _ _)))
  have hz1 : w.heap.size + 2 < w1.heap.size := by have := hb.size; simp at this; omega
  have HB1 := Lib.hid (((((Below.refl w.heap.size w).alloc (Nat.le_refl _) _).alloc (by simp) _).alloc (by simp; omega) _).trans (hb.mono (by simp; omega)))
  clear hb hlook2
  go_wp2_with (refine wpList_store_rowTo rfl 31 _ _ rfl rfl (w.heap.size + 1) #[.int .i64 1, .int .i64 x, .complex .f64 0 0, .string ⟨#[]⟩, .int .i64 0, .int .u32 0, .int .u64 0, .slice D1 0 e1, .slice D2 0 e2] rfl rfl 31 _ HBOX.out (by kernel_rfl) rfl (by kernel_rfl) ?_)
  have hrow := setRow_heap _ (w.heap.size + 1) _ #[.int .i64 1, .int .i64 x, .complex .f64 0 0, .string ⟨#[]⟩, .int .i64 0, .int .u32 0, .int .u64 0, .slice D1 0 e1, .slice D2 0 e2] _ _ HBOX.out
  refine bodyPost_ret (v := .tuple #[.agg #[.int .i64 1, .int .i64 x, .complex .f64 0 0, .string ⟨#[]⟩, .int .i64 0, .int .u32 0, .int .u64 0, .slice D1 0 e1, .slice D2 0 e2], .bool true]) (results_cell_tmp Try.results19 _ _ (w.heap.size + 1) 31 _ (0, 0) _ _ rfl rfl hrow Try.underlying31 rfl (by kernel_rfl)) rfl ?_
  exact ⟨D1, e1, D2, e2, rfl, HB1.out.trans (below_setRow _ _ (by omega))⟩

set_option maxRecDepth 100000 in
set_option maxHeartbeats 2000000 in
theorem filled_atom (s : ByteArray) (V1 : Option Addr) (v1 : Nat) (V2 : Option Addr) (v2 : Nat) (mv : Value) (w : World) :
    Calls Try.prog 19 #[.agg #[.int .i64 3, .int .i64 0, .complex .f64 0 0, .string s, .int .i64 0, .int .u32 0, .int .u64 0, .slice V1 0 v1, .slice V2 0 v2], mv] w (FilledR w 3 0 s) := by
  obtain ⟨i0, hi, hz0, hz1, hz2⟩ := info_parts infoByte
  go_enter Try.func19, Try.ntmps19
  go_wp2_with (first | (refine store_new rfl 31 _ _ rfl rfl ((w.alloc (.cells #[.int .i64 3, .int .i64 0, .complex .f64 0 0, .string s, .int .i64 0, .int .u32 0, .int .u64 0, .slice V1 0 v1, .slice V2 0 v2] 31)).alloc (.cells #[.int .i64 0, .int .i64 0, .complex .f64 0 0, .string ⟨#[]⟩, .int .i64 0, .int .u32 0, .int .u64 0, .slice none 0 0, .slice none 0 0] 31)) #[.int .i64 3, .int .i64 0, .complex .f64 0 0, .string s, .int .i64 0, .int .u32 0, .int .u64 0, .slice V1 0 v1, .slice V2 0 v2] _ 31 (by simp [Act.eval]) rfl (by kernel_rfl) rfl (by kernel_rfl) ?_) | (at_builtin; refine wpList_app rfl _ _ 29 rfl (w.heap.size + 3) 5 i0 _ 1 1 Try.underlying29 hi hz0 hz1 hz2 rfl (by decide) _ 0 [] rfl (World.ownsRow_nil _ _ _ _) V1 0 v1 [] rfl rfl (.inl rfl) (by simp) (by decide) (by decide) ?c4 ?_))
  case c4 => simp
  intro v' w1 hown hgrow
  obtain ⟨A', cap', rfl, _, _⟩ := own_shape hown
  have hb := below_grown hgrow (Nat.le_refl _) (by intro k hk; simp [Value.ownBlock] at hk)
  have hz1' : w.heap.size + 2 < w1.heap.size := by have := hb.size; simp at this; omega
  have hy1 : w.heap.size < w1.heap.size := by omega
  have hx1 : w.heap.size + 1 < w1.heap.size := by omega
  have HB1 := Lib.hid (((((Below.refl w.heap.size w).alloc (Nat.le_refl _) _).alloc (by simp) _).alloc (by simp; omega) _).trans (hb.mono (by simp; omega)))
  obtain ⟨hc1, hf1⟩ := bcell hb
  have hbox := (hb.block (w.heap.size + 1) (by simp)).trans ((Below.heap_alloc _ _ _ (by simp)).trans (heap_alloc_two w _ _))
  have hs7 : (w1.cell? ⟨w.heap.size + 2, 7, none⟩).isSome = true := by rw [hc1 _ _ (by simp)]; go_simp
  have hs8 : (w1.cell? ⟨w.heap.size + 2, 8, none⟩).isSome = true := by rw [hc1 _ _ (by simp)]; go_simp
  have HBOX := Lib.hid hbox
  clear hown hgrow hb hi hz0 hz1 hz2 hbox
  go_wp2
  refine wp_loop_rounds 1 ?_
  rw [rounds_succ]
  have hbox2 : ((w1.setCell ⟨w.heap.size + 2, 7, none⟩ (.slice A' 0 cap')).setCell ⟨w.heap.size + 2, 8, none⟩ (.slice none 0 0)).heap[w.heap.size + 1]? = _ :=
    (Below.heap_setCell _ _ _ _ (by simp)).trans ((Below.heap_setCell _ _ _ _ (by simp)).trans HBOX.out)
  have HBOX2 := Lib.hid hbox2
  clear hbox2
  go_wp2_with (refine wpList_store_rowTo rfl 31 _ _ rfl rfl (w.heap.size + 1) #[.int .i64 3, .int .i64 0, .complex .f64 0 0, .string s, .int .i64 0, .int .u32 0, .int .u64 0, .slice A' 0 cap', .slice none 0 0] rfl rfl 31 _ HBOX2.out (by kernel_rfl) rfl (by kernel_rfl) ?_)
  have hrow := setRow_heap _ (w.heap.size + 1) _ #[.int .i64 3, .int .i64 0, .complex .f64 0 0, .string s, .int .i64 0, .int .u32 0, .int .u64 0, .slice A' 0 cap', .slice none 0 0] _ _ HBOX2.out
  refine bodyPost_ret (v := .tuple #[.agg #[.int .i64 3, .int .i64 0, .complex .f64 0 0, .string s, .int .i64 0, .int .u32 0, .int .u64 0, .slice A' 0 cap', .slice none 0 0], .bool true]) (results_cell_tmp Try.results19 _ _ (w.heap.size + 1) 31 _ (0, 0) _ _ rfl rfl hrow Try.underlying31 rfl (by kernel_rfl)) rfl ?_
  exact ⟨A', cap', none, 0, rfl, ((HB1.out.setCell (by show _ ≤ w.heap.size + 2; omega) _).setCell (by show _ ≤ w.heap.size + 2; omega) _).trans (below_setRow _ _ (by omega))⟩

end Go.Proofs.Ytgahfmnkkaacgaa
