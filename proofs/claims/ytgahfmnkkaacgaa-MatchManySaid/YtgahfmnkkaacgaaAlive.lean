/- The law's guard: alive, walked. -/
import Derived.Test.YtgahfmnkkaacgaaAliveW
namespace Go.Proofs.Ytgahfmnkkaacgaa
set_option linter.unusedVariables false
set_option linter.unusedSimpArgs false
open Go.RowKit

set_option maxRecDepth 100000 in
set_option maxHeartbeats 8000000 in
theorem alive_any (w : World) : Calls Try.prog 4 #[] w (Ret (.bool true) w) := by
  go_enter Try.func4, Try.ntmps4
  go_wp2_with fail
  refine (v_any _ _).mono ?_
  rintro e w1 ⟨rfl, hb1⟩
  go_wp2_with fail
  refine (v_any _ _).mono ?_
  rintro e w2 ⟨rfl, hb2⟩
  have HB2 := Lib.hid (hb1.trans (hb2.mono hb1.size))
  have hs2 : w.heap.size ≤ w2.heap.size := Nat.le_trans hb1.size hb2.size
  clear hb1 hb2
  go_wp2_with fail
  refine (tuple_any XX _ 2 _ (by simp) (by exact two_ats _ _ _ (vcells nmX nilS) (vcells nmX nilS) _ rfl rfl rfl (bare_at' _ _ 9 _ none 0 none 0) (bare_at' _ _ 9 _ none 0 none 0))).mono ?_
  rintro e w3 ⟨vs, rfl, hb, hvs⟩
  obtain ⟨A1, c1, P, cP, rfl, hP⟩ := node_shape (n := 2) rfl hvs
  have hs3 : w2.heap.size < w3.heap.size := by have := hb.size; simp at this; omega
  have HB3 := Lib.hid ((HB2.out.alloc (by omega) _).trans (hb.mono (by simp; omega)))
  have HP3 := Lib.hid hP
  clear hb hvs hP HB2
  go_wp2_with (refine store_new rfl 31 _ _ rfl rfl w3 #[.int .i64 6, .int .i64 0, .complex .f64 0 0, .string ⟨#[]⟩, .int .i64 0, .int .u32 0, .int .u64 0, .slice A1 0 c1, .slice P 2 cP] _ 31 rfl rfl (by kernel_rfl) rfl (by kernel_rfl) ?_)
  have HSt := Lib.hid (show St w w3.heap.size (pnC A1 c1 P cP) XX P (w3.alloc (.cells #[.int .i64 6, .int .i64 0, .complex .f64 0 0, .string ⟨#[]⟩, .int .i64 0, .int .u32 0, .int .u64 0, .slice A1 0 c1, .slice P 2 cP] 31)) from
    ⟨HB3.out.alloc (by omega) _, by simp, heap_alloc_last _ _, ats_stays (fun a ha => World.cell?_alloc_lt _ _ _ ha) _ _ HP3.out⟩)
  clear HB3 HP3
  generalize w3.alloc (.cells #[.int .i64 6, .int .i64 0, .complex .f64 0 0, .string ⟨#[]⟩, .int .i64 0, .int .u32 0, .int .u64 0, .slice A1 0 c1, .slice P 2 cP] 31) = w0 at *
  generalize w3.heap.size = b at *
  clear hs3 hs2
  go_region_held3 (fun W => W.cell? ⟨b, 0, none⟩ = some (.int .i64 6) ∧ W.cell? ⟨b, 1, none⟩ = some (.int .i64 0) ∧ W.cell? ⟨b, 2, none⟩ = some (.complex .f64 0 0) ∧ W.cell? ⟨b, 3, none⟩ = some (.string ⟨#[]⟩) ∧ W.cell? ⟨b, 4, none⟩ = some (.int .i64 0) ∧ W.cell? ⟨b, 5, none⟩ = some (.int .u32 0) ∧ W.cell? ⟨b, 6, none⟩ = some (.int .u64 0) ∧ W.cell? ⟨b, 7, none⟩ = some (.slice A1 0 c1) ∧ W.cell? ⟨b, 8, none⟩ = some (.slice P 2 cP)) (first | exact HSt.out.cells | exact HSt.out.drew.cells | exact (HSt.out.alloc _).cells) (first | (go_at_call 6; refine (int_any _ _).mono ?_; rintro e wn ⟨rfl, hb⟩; have HSt := Lib.hid (by first | exact HSt.out.below hb (Nat.le_refl _) | exact HSt.out.drew.below hb (Nat.le_refl _) | exact (HSt.out.alloc _).below hb (Nat.le_refl _) : St w b (pnC A1 c1 P cP) XX P wn); clear hb) | (go_at_call 10; refine (tuple_any [intT 1, intT 1] _ 2 _ (by simp) (by exact two_ats _ _ _ (icells 1 nilS) (icells 1 nilS) _ rfl rfl rfl (int_at _ _ 1 none 0 none 0) (int_at _ _ 1 none 0 none 0))).mono ?_; rintro e wn ⟨vs, rfl, hb, hvs⟩; obtain ⟨B1, d1, T, cT, rfl, hT⟩ := node_shape (n := 2) rfl hvs; have HSt := Lib.hid (by first | exact HSt.out.below hb (Nat.le_refl _) | exact HSt.out.drew.below hb (Nat.le_refl _) | exact (HSt.out.alloc _).below hb (Nat.le_refl _) : St w b (pnC A1 c1 P cP) XX P wn); have HT := Lib.hid hT; clear hb hvs hT) | (go_at_call 8; refine (match_yes _ _ _ _ _ _ _ _ _ (Lib.hid HSt.out.parts) HT).mono ?_; rintro e wn ⟨g, c, q, rfl, hb, hg, hgl, hgc⟩; have HSt := Lib.hid (by first | exact HSt.out.below hb (Nat.le_refl _) | exact HSt.out.drew.below hb (Nat.le_refl _) | exact (HSt.out.alloc _).below hb (Nat.le_refl _) : St w b (pnC A1 c1 P cP) XX P wn); have HG := Lib.hid hgc; clear hb hgc))
  have HB := Lib.hid HSt.out.1
  have HSt := Lib.hid HSt.out.new
  clear HT
  rename World => wa
  go_wp2_with fail
  go_region_held3 (fun W => W.cell? ⟨b, 0, none⟩ = some (.int .i64 6) ∧ W.cell? ⟨b, 1, none⟩ = some (.int .i64 0) ∧ W.cell? ⟨b, 2, none⟩ = some (.complex .f64 0 0) ∧ W.cell? ⟨b, 3, none⟩ = some (.string ⟨#[]⟩) ∧ W.cell? ⟨b, 4, none⟩ = some (.int .i64 0) ∧ W.cell? ⟨b, 5, none⟩ = some (.int .u32 0) ∧ W.cell? ⟨b, 6, none⟩ = some (.int .u64 0) ∧ W.cell? ⟨b, 7, none⟩ = some (.slice A1 0 c1) ∧ W.cell? ⟨b, 8, none⟩ = some (.slice P 2 cP)) (first | exact HSt.out.cells | exact HSt.out.drew.cells | exact (HSt.out.alloc _).cells) (first | (go_at_call 6; refine (int_any _ _).mono ?_; rintro e wn ⟨rfl, hb⟩; have HSt := Lib.hid (by first | exact HSt.out.below hb (Nat.le_refl _) | exact HSt.out.drew.below hb (Nat.le_refl _) | exact (HSt.out.alloc _).below hb (Nat.le_refl _) : St wa b (pnC A1 c1 P cP) XX P wn); clear hb) | (go_at_call 10; refine (tuple_any [intT 1, intT 2] _ 2 _ (by simp) (by exact two_ats _ _ _ (icells 1 nilS) (icells 2 nilS) _ rfl rfl rfl (int_at _ _ 1 none 0 none 0) (int_at _ _ 2 none 0 none 0))).mono ?_; rintro e wn ⟨vs, rfl, hb, hvs⟩; obtain ⟨B1, d1, T, cT, rfl, hT⟩ := node_shape (n := 2) rfl hvs; have HSt := Lib.hid (by first | exact HSt.out.below hb (Nat.le_refl _) | exact HSt.out.drew.below hb (Nat.le_refl _) | exact (HSt.out.alloc _).below hb (Nat.le_refl _) : St wa b (pnC A1 c1 P cP) XX P wn); have HT := Lib.hid hT; clear hb hvs hT) | (go_at_call 8; refine (match_no _ _ _ _ _ _ _ _ _ (Lib.hid HSt.out.parts) HT).mono ?_; rintro e wn ⟨rfl, hb⟩; have HSt := Lib.hid (by first | exact HSt.out.below hb (Nat.le_refl _) | exact HSt.out.drew.below hb (Nat.le_refl _) | exact (HSt.out.alloc _).below hb (Nat.le_refl _) : St wa b (pnC A1 c1 P cP) XX P wn); clear hb))
  clear HT
  go_wp2_with fail
  refine (v_any _ _).mono ?_
  rintro e w4 ⟨rfl, hb⟩
  have HSt := Lib.hid (HSt.out.below hb (Nat.le_refl _))
  clear hb
  go_wp2_with fail
  refine (atom_any _ _).mono ?_
  rintro e w5 ⟨rfl, hb⟩
  have HSt := Lib.hid (HSt.out.below hb (Nat.le_refl _))
  clear hb
  go_wp2_with fail
  refine (tuple_any [lfT (.var nmX), lfT (.atom nmA)] _ 2 _ (by simp) (by exact two_ats _ _ _ (vcells nmX nilS) (acells nmA) _ rfl rfl rfl (bare_at' _ _ 9 _ none 0 none 0) (bare_at' _ _ 3 _ none 0 none 0))).mono ?_
  rintro e w6 ⟨vs, rfl, hb, hvs⟩
  obtain ⟨D1, d1, Q, cQ, rfl, hQ⟩ := node_shape (n := 2) rfl hvs
  have HSt := Lib.hid ((HSt.out.alloc _).below hb (Nat.le_refl _))
  obtain ⟨qb, qo, V1, v1, V2, v2, U1, u1, U2, u2, rfl, hqb, hq1, hq2⟩ := two_leaves hQ
  have HQ1 := Lib.hid hq1
  have HQ2 := Lib.hid hq2
  have HGL := Lib.hid (show g < w6.heap.size from Nat.lt_of_lt_of_le hg HSt.out.1.size)
  have HG6 := Lib.hid (show ∀ j u, (bcells (nmX, 1, q))[j]? = some u → w6.cell? ⟨g, j, none⟩ = some u from fun j u hu => by rw [HSt.out.1.cell (p := ⟨g, j, none⟩) hg]; exact HG.out j u hu)
  clear hb hvs hQ hq1 hq2
  go_wp2_with fail
  obtain ⟨I1, i1, I2, i2⟩ := q
  refine (fill_case nmX nmA (Lib.hid nmX_ok) (Lib.hid nmA_ok) V1 v1 V2 v2 U1 u1 U2 u2 D1 d1 qb qo cQ 1 (Lib.hid ⟨by decide, by decide⟩) I1 i1 I2 i2 g 0 c _ hqb HQ1 HQ2 HGL.out (Lib.hid (fun j u hu => by rw [Nat.zero_add]; exact HG6.out j u hu))).mono ?_
  rintro e w7 ⟨vs, rfl, hb, hvs⟩
  obtain ⟨E1, e1, R, cR, rfl, hR⟩ := node_shape (n := 2) rfl hvs
  have HSt := Lib.hid (HSt.out.below hb (Nat.le_refl _))
  have HG7 := Lib.hid (show w7.cell? ⟨g, 0, none⟩ = some (.string nmX) from by rw [hb.cell (p := ⟨g, 0, none⟩) HGL.out]; exact HG6.out 0 _ rfl)
  obtain ⟨rb, ro, rvs, rfl, hrb, _, hrc, hrt⟩ := ats_get _ _ hR 0 _ rfl
  unfold LT.at at hrt
  obtain ⟨Y1, y1, Y2, y2, rfl, _⟩ := hrt
  have HR7 := Lib.hid (show w7.cell? ⟨rb, ro + 1, none⟩ = some (.int .i64 1) from by have := hrc 1 _ rfl; simpa using this)
  have HGL7 := Lib.hid (show g < w7.heap.size from Nat.lt_of_lt_of_le HGL.out hb.size)
  clear hb hvs hR hrc HQ1 HQ2 HG6 HG hqb
  have hG8 : ∀ o, (w7.alloc o).cell? ⟨g, 0, none⟩ = some (.string nmX) := fun o => by rw [World.cell?_alloc_lt _ _ _ HGL7.out]; exact HG7.out
  have hR8 : ∀ o, (w7.alloc o).cell? ⟨rb, ro + 1, none⟩ = some (.int .i64 1) := fun o => by rw [World.cell?_alloc_lt _ _ _ hrb]; exact HR7.out
  go_wp2_with (refine store_new rfl 31 _ _ rfl rfl w7 #[.int .i64 6, .int .i64 0, .complex .f64 0 0, .string ⟨#[]⟩, .int .i64 0, .int .u32 0, .int .u64 0, .slice E1 0 e1, .slice (some ⟨rb, ro, none⟩) 2 cR] _ 31 rfl rfl (by kernel_rfl) rfl (by kernel_rfl) ?_)
  clear hG8 hR8
  refine (v_any _ _).mono ?_
  rintro e w8 ⟨rfl, hb⟩
  have HSt := Lib.hid ((HSt.out.alloc _).below hb (Nat.le_refl _))
  clear hb
  go_wp2_with fail
  refine (mcheck_any (lfT (.var nmU)) 50 1 [] (var_top nmU nmU_no) (vcells nmU nilS) _ (bare_at' _ _ 9 _ none 0 none 0)).mono ?_
  rintro e w9 ⟨rfl, hb⟩
  have HSt := Lib.hid (HSt.out.below hb (Nat.le_refl _))
  clear hb
  obtain ⟨k0, k1, k2, k3, k4, k5, k6, k7, k8⟩ := HSt.out.cells
  go_wp2_with fail
  clear k0 k1 k2 k3 k4 k5 k6 k7 k8
  refine (mvars_any (nodeT 6 [.var nmX, .var nmX]) 3 [nmX] XX_top (tcells 6 0 0 0 ⟨#[]⟩ 0 0 0 A1 0 c1 P 2 cP) _ (node_at _ _ _ _ _ _ 2 rfl (by decide) HSt.out.parts)).mono ?_
  rintro e wz ⟨v, rfl, hb, hown⟩
  obtain ⟨VA, vc, rfl, _, _⟩ := own_shape hown
  have HSt := Lib.hid (HSt.out.below hb (Nat.le_refl _))
  clear hb hown
  go_wp2
  go_ret
  exact Ret.mk rfl (HB.out.trans (HSt.out.1.mono HB.out.size))

end Go.Proofs.Ytgahfmnkkaacgaa
