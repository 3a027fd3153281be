/- Fill, for alive's one case: a tuple of a variable and an atom, the variable known as an int. -/
import Derived.Test.YtgahfmnkkaacgaaFillT
import Derived.Test.YtgahfmnkkaacgaaManyW
namespace Go.Proofs.Ytgahfmnkkaacgaa
set_option linter.unusedVariables false
set_option linter.unusedSimpArgs false
open Go.RowKit

/-- A term comes back, and nothing is wrong. -/
def FillR (w : World) (t : LT) (e : Ending) (w' : World) : Prop := ∃ vs, e = .returned (.tuple #[.agg vs.toArray, .int .i64 0]) ∧ Below w.heap.size w w' ∧ LT.at w' w'.heap.size t vs

set_option maxRecDepth 100000 in
set_option maxHeartbeats 4000000 in
theorem fill_case (s a : ByteArray) (hs : Hid (mnameF s = true)) (ha : Hid (nameF a = true)) (V1 : Option Addr) (v1 : Nat) (V2 : Option Addr) (v2 : Nat) (U1 : Option Addr) (u1 : Nat) (U2 : Option Addr) (u2 : Nat) (A1 : Option Addr) (c1 pb po cP : Nat) (x : Int) (hx : Hid (intOk x)) (I1 : Option Addr) (i1 : Nat) (I2 : Option Addr) (i2 kb ko kcap : Nat) (w : World)
    (hpb : pb < w.heap.size) (hp : Hid (∀ j v, ([.int .i64 9, .int .i64 0, .complex .f64 0 0, .string s, .int .i64 0, .int .u32 0, .int .u64 0, .slice V1 0 v1, .slice V2 0 v2] : List Value)[j]? = some v → w.cell? ⟨pb, po + j, none⟩ = some v))
    (hq : Hid (∀ j v, ([.int .i64 3, .int .i64 0, .complex .f64 0 0, .string a, .int .i64 0, .int .u32 0, .int .u64 0, .slice U1 0 u1, .slice U2 0 u2] : List Value)[j]? = some v → w.cell? ⟨pb, po + 9 + j, none⟩ = some v))
    (hkb : kb < w.heap.size) (hk : Hid (∀ j v, ([.string s, .int .i64 1, .int .i64 x, .complex .f64 0 0, .string ⟨#[]⟩, .int .i64 0, .int .u32 0, .int .u64 0, .slice I1 0 i1, .slice I2 0 i2] : List Value)[j]? = some v → w.cell? ⟨kb, ko + j, none⟩ = some v)) :
    Calls Try.prog 11 #[.agg #[.int .i64 6, .int .i64 0, .complex .f64 0 0, .string ⟨#[]⟩, .int .i64 0, .int .u32 0, .int .u64 0, .slice A1 0 c1, .slice (some ⟨pb, po, none⟩) 2 cP], .slice (some ⟨kb, ko, none⟩) 1 kcap] w
      (FillR w (.mk 6 0 0 0 ⟨#[]⟩ 0 0 0 [] [.mk 1 x 0 0 ⟨#[]⟩ 0 0 0 [] [], .mk 3 0 0 0 a 0 0 0 [] []])) := by
  have hats : LT.ats w w.heap.size [lfT (.var s), lfT (.atom a)] (some ⟨pb, po, none⟩) := by
    unfold LT.ats
    refine ⟨pb, po, _, rfl, hpb, rfl, hp.out, bare_at' _ _ 9 s V1 v1 V2 v2, ?_⟩
    unfold LT.ats
    exact ⟨pb, po + 9, _, rfl, hpb, rfl, hq.out, bare_at' _ _ 3 a U1 u1 U2 u2, by unfold LT.ats; trivial⟩
  have HPN := Lib.hid (fun (W : World) (B : Nat) (hW : Below w.heap.size w W) (hB : w.heap.size ≤ B) => show LT.at W B (nodeT 6 [.var s, .atom a]) (tcells 6 0 0 0 ⟨#[]⟩ 0 0 0 A1 0 c1 (some ⟨pb, po, none⟩) 2 cP) from
    at_mono hB _ _ (at_stays (w := w) (fun a ha => hW.cell ha) _ _ (node_at _ _ _ _ _ _ _ rfl (by decide) hats)))
  have HTOP := Lib.hid (node_top 6 (by decide) [.var s, .atom a] (by simp) (fun f hf => by
    simp only [List.mem_cons, List.not_mem_nil, or_false] at hf
    rcases hf with rfl | rfl
    · exact hs.out
    · exact ha.out))
  clear hats
  go_enter Try.func11, Try.ntmps11
  go_wp2_with fail
  have HW0 := Lib.hid (((Below.refl w.heap.size w).alloc (Nat.le_refl _) (.cells #[.int .i64 6, .int .i64 0, .complex .f64 0 0, .string ⟨#[]⟩, .int .i64 0, .int .u32 0, .int .u64 0, .slice A1 0 c1, .slice (some ⟨pb, po, none⟩) 2 cP] 31)).alloc (by simp) (.cells #[.int .i64 0, .int .i64 0, .complex .f64 0 0, .string ⟨#[]⟩, .int .i64 0, .int .u32 0, .int .u64 0, .slice none 0 0, .slice none 0 0] 31))
  refine (mcheck_any _ 0 _ _ HTOP.out (tcells 6 0 0 0 ⟨#[]⟩ 0 0 0 A1 0 c1 (some ⟨pb, po, none⟩) 2 cP) _ (HPN.out _ _ HW0.out (by simp; omega))).mono ?_
  rintro e w1 ⟨rfl, hb⟩
  have hz1 : w.heap.size + 1 < w1.heap.size := by have := hb.size; simp at this; omega
  have hy1 : w.heap.size < w1.heap.size := by omega
  have HB1 := Lib.hid (HW0.out.trans (hb.mono (by simp; omega)))
  have HX1 := Lib.hid ((hb.block (w.heap.size + 1) (by simp)).trans (heap_alloc_two w _ _))
  obtain ⟨hc1, hf1⟩ := bcell hb
  clear hb hf1
  go_wp2_with fail
  refine (table_one s hs.out 1 x 0 0 ⟨#[]⟩ 0 0 0 (by decide) (check_int hx.out) I1 i1 I2 i2 kb ko kcap _ (by omega) (fun j v hv => by rw [HB1.out.cell (p := ⟨kb, ko + j, none⟩) hkb]; exact hk.out j v hv)).mono ?_
  rintro e w2 ⟨mb, rfl, hb, hm, hmb⟩
  have hz2 : w1.heap.size ≤ w2.heap.size := hb.size
  have HB2 := Lib.hid (HB1.out.trans (hb.mono (by omega)))
  have HX2 := Lib.hid ((hb.block (w.heap.size + 1) (by omega)).trans HX1.out)
  have HM2 := Lib.hid hm
  obtain ⟨hc2, hf2⟩ := bcell hb
  clear hb hf2 hm
  go_wp2_with fail
  refine (filled_tuple s a V1 v1 V2 v2 U1 u1 U2 u2 A1 c1 pb po cP x hx I1 i1 I2 i2 mb _ w2 (by omega) (Lib.hid (fun j v hv => by rw [HB2.out.cell (p := ⟨pb, po + j, none⟩) hpb]; exact hp.out j v hv)) (Lib.hid (fun j v hv => by rw [HB2.out.cell (p := ⟨pb, po + 9 + j, none⟩) hpb]; exact hq.out j v hv)) HM2 (Lib.hid (by simp [mlook]))).mono ?_
  rintro e w3 ⟨vs, rfl, hb, hat⟩
  have hz3 : w2.heap.size ≤ w3.heap.size := hb.size
  have HB3 := Lib.hid (HB2.out.trans (hb.mono (by omega)))
  have HX3 := Lib.hid ((hb.block (w.heap.size + 1) (by omega)).trans HX2.out)
  have HAT3 := Lib.hid hat
  obtain ⟨R1, r1, R2, r2, hvs, hats⟩ := node_shape (n := 2) rfl (hat w3 _ (Nat.le_refl _) (fun _ _ _ => rfl))
  subst hvs
  clear hb hat hats
  go_wp2_with (refine store_new rfl 31 _ _ rfl rfl w3 #[.int .i64 6, .int .i64 0, .complex .f64 0 0, .string ⟨#[]⟩, .int .i64 0, .int .u32 0, .int .u64 0, .slice R1 0 r1, .slice R2 2 r2] _ 31 rfl rfl (by kernel_rfl) rfl (by kernel_rfl) ?_)
  have hck : checkF (.mk 6 0 0 0 ⟨#[]⟩ 0 0 0 [] [.mk 1 x 0 0 ⟨#[]⟩ 0 0 0 [] [], .mk 3 0 0 0 a 0 0 0 [] []]) = 0 := by
    unfold checkF partF partsF partF partsF partF partsF
    simp [bareEmpty, goodF, emptyF, zeroC_zero, right_int hx.out, ha.out, partsF]
  have hpl : LT.plain (.mk 6 0 0 0 ⟨#[]⟩ 0 0 0 [] [.mk 1 x 0 0 ⟨#[]⟩ 0 0 0 [] [], .mk 3 0 0 0 a 0 0 0 [] []]) := by
    simp [LT.plain, LT.plains]
  have HAT4 := Lib.hid (HAT3.out (w3.alloc (.cells #[.int .i64 6, .int .i64 0, .complex .f64 0 0, .string ⟨#[]⟩, .int .i64 0, .int .u32 0, .int .u64 0, .slice R1 0 r1, .slice R2 2 r2] 31)) (w3.alloc (.cells #[.int .i64 6, .int .i64 0, .complex .f64 0 0, .string ⟨#[]⟩, .int .i64 0, .int .u32 0, .int .u64 0, .slice R1 0 r1, .slice R2 2 r2] 31)).heap.size (by simp) (fun b _ hb => Below.heap_alloc _ _ _ hb))
  refine (check_any _ (tcells 6 0 0 0 ⟨#[]⟩ 0 0 0 R1 0 r1 R2 2 r2) _ hpl HAT4.out).mono ?_
  rw [hck]
  rintro e w4 ⟨rfl, hb⟩
  have HB4 := Lib.hid ((HB3.out.alloc (by omega) _).trans (hb.mono (by simp; omega)))
  have HX4 := Lib.hid ((hb.block (w.heap.size + 1) (by simp; omega)).trans ((Below.heap_alloc _ _ _ (by omega)).trans HX3.out))
  have HBK := Lib.hid (fun (b : Nat) (hb1 : b < w3.heap.size) => (hb.block b (by simp; omega)).trans (Below.heap_alloc _ _ _ hb1))
  have HR4 := Lib.hid ((hb.block w3.heap.size (by simp)).trans (heap_alloc_last w3 _))
  have hz4 : w3.heap.size < w4.heap.size := by have := hb.size; simp at this; omega
  clear hb hck hpl hc1 hc2
  go_wp2_with (first | (refine load_to rfl 31 _ rfl (some 40) rfl w3.heap.size 0 rfl [.int .i64 6, .int .i64 0, .complex .f64 0 0, .string ⟨#[]⟩, .int .i64 0, .int .u32 0, .int .u64 0, .slice R1 0 r1, .slice R2 2 r2] _ (row_cells HR4.out (o := 0) (fun _ _ h => by simpa using h)) Try.underlying31 rfl (by kernel_rfl) ?_) | (refine wpList_store_rowTo rfl 31 _ _ rfl rfl (w.heap.size + 1) #[.int .i64 6, .int .i64 0, .complex .f64 0 0, .string ⟨#[]⟩, .int .i64 0, .int .u32 0, .int .u64 0, .slice R1 0 r1, .slice R2 2 r2] rfl rfl 31 _ HX4.out (by kernel_rfl) rfl (by kernel_rfl) ?_))
  have hrow := setRow_heap _ (w.heap.size + 1) _ #[.int .i64 6, .int .i64 0, .complex .f64 0 0, .string ⟨#[]⟩, .int .i64 0, .int .u32 0, .int .u64 0, .slice R1 0 r1, .slice R2 2 r2] _ _ HX4.out
  refine bodyPost_ret (v := .tuple #[.agg #[.int .i64 6, .int .i64 0, .complex .f64 0 0, .string ⟨#[]⟩, .int .i64 0, .int .u32 0, .int .u64 0, .slice R1 0 r1, .slice R2 2 r2], .int .i64 0]) (results_cell_tmp Try.results11 _ _ (w.heap.size + 1) 31 _ (0, 0) _ _ rfl rfl hrow Try.underlying31 rfl (by kernel_rfl)) rfl ?_
  refine ⟨tcells 6 0 0 0 ⟨#[]⟩ 0 0 0 R1 0 r1 R2 2 r2, rfl, HB4.out.trans (below_setRow _ _ (by omega)), ?_⟩
  exact HAT3.out _ _ (by simp [World.setRow]; omega) (fun b hb1 hb2 => (setRow_other w4 (w.heap.size + 1) b _ (by omega)).trans (HBK.out b hb2))

end Go.Proofs.Ytgahfmnkkaacgaa
