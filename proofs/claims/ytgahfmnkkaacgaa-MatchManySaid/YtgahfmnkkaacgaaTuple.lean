/- A tuple, a list. -/
import Derived.Test.YtgahfmnkkaacgaaCheck
import Derived.Test.YtgahfmnkkaacgaaApp
import Derived.Great.BuildSlice
namespace Go.Proofs.Ytgahfmnkkaacgaa
set_option linter.unusedVariables false
set_option linter.unusedSimpArgs false
open Go.RowKit

theorem infoTerm : (Try.prog.info? 31).map (fun i => (i.zero, i.size, i.bytes)) = some (some (.agg #[.int .i64 0, .int .i64 0, .complex .f64 0 0, .string ⟨#[]⟩, .int .i64 0, .int .u32 0, .int .u64 0, .slice none 0 0, .slice none 0 0]), 9, 120) := by kernel_rfl

set_option maxHeartbeats 1000000 in
theorem tuple_any (l : List LT) (A : Option Addr) (c : Nat) (w : World) (hl : l.length ≤ 1000000) (hat : LT.ats w w.heap.size l A) :
    Calls Try.prog 10 #[.slice A l.length c] w (TermR w (.mk 6 0 0 0 ⟨#[]⟩ 0 0 0 [] l)) := by
  obtain ⟨i0, hi, hz0, hz1, hz2⟩ := info_parts infoTerm
  obtain ⟨news, hnl, hn1, hnc, hback⟩ := ats_flat l A hat
  have HAT := Lib.hid hat
  have HB := Lib.hid hback
  generalize hn : l.length = n at *
  have HN := Lib.hid hn
  have hnc' : n = 0 ∨ ∃ ad, A = some ad ∧ ∀ j u, news[j]? = some u → w.cell? (ad.add j) = some u ∧ ad.block < w.heap.size := by
    cases l with
    | nil => exact .inl (by simpa using hn.symm)
    | cons t r =>
      obtain ⟨blk, off, hp, hblk, hc⟩ := hnc (by simp)
      exact .inr ⟨_, hp, fun j u hu => ⟨by rw [Addr.add_lit]; exact hc j u hu, hblk⟩⟩
  have HNC := Lib.hid hnc'
  have HNL := Lib.hid hnl
  clear hnc hnc' hat hback hn hnl
  go_enter Try.func10, Try.ntmps10
  go_wp2_with (at_builtin; refine wpList_app rfl _ _ 23 rfl (w.heap.size + 1) 31 i0 _ 9 120 Try.underlying23 hi hz0 hz1 hz2 rfl (by decide) _ 0 [] rfl (World.ownsRow_nil _ _ _ _) A n c news rfl HNL.out ?c1 hn1 ?c2 ?c3 ?c4 ?_)
  case c1 =>
    rcases HNC.out with h | ⟨ad, had, hc⟩
    · exact .inl h
    · exact .inr ⟨ad, had, fun j u hu => by rw [World.cell?_alloc_lt _ _ _ (by rw [add_block]; exact (hc j u hu).2)]; exact (hc j u hu).1⟩
  case c2 => unfold maxLen; omega
  case c3 => omega
  case c4 => simp
  intro v' w1 hown hgrow
  obtain ⟨A', cap', rfl, hA1, hA2⟩ := own_shape hown
  have HB1 := Lib.hid (below_grown hgrow (Nat.le_refl _) (by intro k hk; simp [Value.ownBlock] at hk))
  have hbox := (HB1.out.block w.heap.size (by simp)).trans (heap_alloc_last w _)
  have HA1 := Lib.hid hA1
  have HA2 := Lib.hid hA2
  clear hown hgrow hA1 hA2
  go_wp2_with (refine wpList_store_rowTo rfl 31 _ _ rfl rfl w.heap.size #[.int .i64 6, .int .i64 0, .complex .f64 0 0, .string ⟨#[]⟩, .int .i64 0, .int .u32 0, .int .u64 0, .slice none 0 0, .slice A' n cap'] rfl rfl 31 _ hbox (by kernel_rfl) rfl (by kernel_rfl) ?_)
  have hrow := setRow_heap w1 w.heap.size _ #[.int .i64 6, .int .i64 0, .complex .f64 0 0, .string ⟨#[]⟩, .int .i64 0, .int .u32 0, .int .u64 0, .slice none 0 0, .slice A' n cap'] _ _ hbox
  have hbl1 : Below w.heap.size w w1 := ((Below.refl w.heap.size w).alloc (Nat.le_refl _) _).trans (HB1.out.mono (by simp))
  have hbl : Below w.heap.size w (w1.setRow w.heap.size #[.int .i64 6, .int .i64 0, .complex .f64 0 0, .string ⟨#[]⟩, .int .i64 0, .int .u32 0, .int .u64 0, .slice none 0 0, .slice A' n cap']) := hbl1.trans (below_setRow w1 _ (Nat.le_refl _))
  refine bodyPost_ret (v := .agg #[.int .i64 6, .int .i64 0, .complex .f64 0 0, .string ⟨#[]⟩, .int .i64 0, .int .u32 0, .int .u64 0, .slice none 0 0, .slice A' n cap']) (results_cell_row Try.results10 _ _ w.heap.size 31 _ (0, 0) _ rfl hrow Try.underlying31 rfl (by kernel_rfl)) rfl ?_
  refine ⟨tcells 6 0 0 0 ⟨#[]⟩ 0 0 0 none 0 0 A' n cap', rfl, hbl, ?_⟩
  unfold LT.at
  refine ⟨none, 0, A', cap', by rw [HN.out]; rfl, ⟨by simp, .inl rfl⟩, by rw [HN.out]; omega, ?_⟩
  cases A' with
  | none =>
    have h0 := (HA1.out rfl).1
    have : l = [] := List.eq_nil_of_length_eq_zero (by have := HN.out; omega)
    subst this
    unfold LT.ats
    trivial
  | some ad =>
    obtain ⟨g, rfl, hg1, hg2, hgc⟩ := HA2.out ad rfl
    refine HB.out _ _ g 0 (fun x hx => hbl.cell hx) hbl.size (by simpa [World.setRow] using hg2) fun j u hu => ?_
    rw [Nat.zero_add]
    have hne : g ≠ w.heap.size := by omega
    rw [World.cell?_of_block (setRow_other w1 w.heap.size g _ hne)]
    exact hgc j u (by simpa using hu)

set_option maxHeartbeats 1000000 in
theorem list_any (l : List LT) (A : Option Addr) (c : Nat) (w : World) (hl : l.length ≤ 1000000) (hat : LT.ats w w.heap.size l A) :
    Calls Try.prog 9 #[.slice A l.length c] w (TermR w (.mk 7 0 0 0 ⟨#[]⟩ 0 0 0 [] l)) := by
  obtain ⟨i0, hi, hz0, hz1, hz2⟩ := info_parts infoTerm
  obtain ⟨news, hnl, hn1, hnc, hback⟩ := ats_flat l A hat
  have HAT := Lib.hid hat
  have HB := Lib.hid hback
  generalize hn : l.length = n at *
  have HN := Lib.hid hn
  have hnc' : n = 0 ∨ ∃ ad, A = some ad ∧ ∀ j u, news[j]? = some u → w.cell? (ad.add j) = some u ∧ ad.block < w.heap.size := by
    cases l with
    | nil => exact .inl (by simpa using hn.symm)
    | cons t r =>
      obtain ⟨blk, off, hp, hblk, hc⟩ := hnc (by simp)
      exact .inr ⟨_, hp, fun j u hu => ⟨by rw [Addr.add_lit]; exact hc j u hu, hblk⟩⟩
  have HNC := Lib.hid hnc'
  have HNL := Lib.hid hnl
  clear hnc hnc' hat hback hn hnl
  go_enter Try.func9, Try.ntmps9
  go_wp2_with (at_builtin; refine wpList_app rfl _ _ 23 rfl (w.heap.size + 1) 31 i0 _ 9 120 Try.underlying23 hi hz0 hz1 hz2 rfl (by decide) _ 0 [] rfl (World.ownsRow_nil _ _ _ _) A n c news rfl HNL.out ?c1 hn1 ?c2 ?c3 ?c4 ?_)
  case c1 =>
    rcases HNC.out with h | ⟨ad, had, hc⟩
    · exact .inl h
    · exact .inr ⟨ad, had, fun j u hu => by rw [World.cell?_alloc_lt _ _ _ (by rw [add_block]; exact (hc j u hu).2)]; exact (hc j u hu).1⟩
  case c2 => unfold maxLen; omega
  case c3 => omega
  case c4 => simp
  intro v' w1 hown hgrow
  obtain ⟨A', cap', rfl, hA1, hA2⟩ := own_shape hown
  have HB1 := Lib.hid (below_grown hgrow (Nat.le_refl _) (by intro k hk; simp [Value.ownBlock] at hk))
  have hbox := (HB1.out.block w.heap.size (by simp)).trans (heap_alloc_last w _)
  have HA1 := Lib.hid hA1
  have HA2 := Lib.hid hA2
  clear hown hgrow hA1 hA2
  go_wp2_with (refine wpList_store_rowTo rfl 31 _ _ rfl rfl w.heap.size #[.int .i64 7, .int .i64 0, .complex .f64 0 0, .string ⟨#[]⟩, .int .i64 0, .int .u32 0, .int .u64 0, .slice none 0 0, .slice A' n cap'] rfl rfl 31 _ hbox (by kernel_rfl) rfl (by kernel_rfl) ?_)
  have hrow := setRow_heap w1 w.heap.size _ #[.int .i64 7, .int .i64 0, .complex .f64 0 0, .string ⟨#[]⟩, .int .i64 0, .int .u32 0, .int .u64 0, .slice none 0 0, .slice A' n cap'] _ _ hbox
  have hbl1 : Below w.heap.size w w1 := ((Below.refl w.heap.size w).alloc (Nat.le_refl _) _).trans (HB1.out.mono (by simp))
  have hbl : Below w.heap.size w (w1.setRow w.heap.size #[.int .i64 7, .int .i64 0, .complex .f64 0 0, .string ⟨#[]⟩, .int .i64 0, .int .u32 0, .int .u64 0, .slice none 0 0, .slice A' n cap']) := hbl1.trans (below_setRow w1 _ (Nat.le_refl _))
  refine bodyPost_ret (v := .agg #[.int .i64 7, .int .i64 0, .complex .f64 0 0, .string ⟨#[]⟩, .int .i64 0, .int .u32 0, .int .u64 0, .slice none 0 0, .slice A' n cap']) (results_cell_row Try.results9 _ _ w.heap.size 31 _ (0, 0) _ rfl hrow Try.underlying31 rfl (by kernel_rfl)) rfl ?_
  refine ⟨tcells 7 0 0 0 ⟨#[]⟩ 0 0 0 none 0 0 A' n cap', rfl, hbl, ?_⟩
  unfold LT.at
  refine ⟨none, 0, A', cap', by rw [HN.out]; rfl, ⟨by simp, .inl rfl⟩, by rw [HN.out]; omega, ?_⟩
  cases A' with
  | none =>
    have h0 := (HA1.out rfl).1
    have : l = [] := List.eq_nil_of_length_eq_zero (by have := HN.out; omega)
    subst this
    unfold LT.ats
    trivial
  | some ad =>
    obtain ⟨g, rfl, hg1, hg2, hgc⟩ := HA2.out ad rfl
    refine HB.out _ _ g 0 (fun x hx => hbl.cell hx) hbl.size (by simpa [World.setRow] using hg2) fun j u hu => ?_
    rw [Nat.zero_add]
    have hne : g ≠ w.heap.size := by omega
    rw [World.cell?_of_block (setRow_other w1 w.heap.size g _ hne)]
    exact hgc j u (by simpa using hu)

end Go.Proofs.Ytgahfmnkkaacgaa
