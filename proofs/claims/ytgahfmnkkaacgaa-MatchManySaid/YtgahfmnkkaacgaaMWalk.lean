/- A walk through a whole pattern; its check; its names. -/
import Derived.Test.YtgahfmnkkaacgaaMNode
namespace Go.Proofs.Ytgahfmnkkaacgaa
set_option linter.unusedVariables false
set_option linter.unusedSimpArgs false
open Go.RowKit

/-- The contract of the walk at a whole pattern. -/
def TopOk (t : LT) (r m : Int) (ns : List ByteArray) : Prop := ∀ (vs : List Value) (Lo Mb sb : Nat) (w : World), LT.at w Lo t vs → LookM w Lo Mb sb 0 [] →
  Calls Try.prog 20 #[.pointer (some ⟨Mb, 0, none⟩), .agg vs.toArray, .int .i64 1] w (MPartR Lo Mb sb w r m ns)

def nodeT (k : Int) (l : List Lf) : LT := .mk k 0 0 0 ⟨#[]⟩ 0 0 0 [] (l.map lfT)

theorem node_top (k : Int) (hk : k = 6 ∨ k = 7) (l : List Lf) (hl : l.length ≤ 256) (hok : ∀ f ∈ l, lfOk f) : TopOk (nodeT k l) 0 (1 + l.length) (lfsN l []) := by
  intro vs Lo Mb sb w hat hL
  unfold nodeT LT.at at hat
  obtain ⟨A1, c1, A2, c2, rfl, _, _, hs⟩ := hat
  have IH := Lib.hid (fun f hf => lf_ok f (hok f hf))
  rcases hk with rfl | rfl
  · have := mnode6 ⟨#[]⟩ A1 c1 l A2 c2 1 0 Lo Mb sb [] w check_tuple hl IH (Lib.hid hs) (by decide) (by decide) (by decide) (by decide) (by decide) hL
    simpa using this
  · have := mnode7 ⟨#[]⟩ A1 c1 l A2 c2 1 0 Lo Mb sb [] w check_list hl IH (Lib.hid hs) (by decide) (by decide) (by decide) (by decide) (by decide) hL
    simpa using this

theorem var_top (s : ByteArray) (h : mnameF s = false) : TopOk (lfT (.var s)) 50 1 [] := by
  intro vs Lo Mb sb w hat hL
  obtain ⟨A1, c1, A2, c2, rfl⟩ := nils_at hat
  have := mvar_any s A1 c1 A2 c2 1 0 Lo Mb sb [] w (by decide) (by decide) (by decide) (by decide) (by decide) hL
  rw [h] at this
  exact this

def WalkedR (w : World) (r m : Int) (ns : List ByteArray) (e : Ending) (w' : World) : Prop :=
  ∃ Mb sb, e = .returned (.tuple #[.pointer (some ⟨Mb, 0, none⟩), .int .i64 r]) ∧ Below w.heap.size w w' ∧ LookM w' w.heap.size Mb sb m ns

theorem LookM.new (w : World) (o : Obj) :
    LookM (((w.alloc o).alloc (.map #[] 0)).alloc (.cells #[.int .i64 0, .slice none 0 0, .map (some (w.heap.size + 1))] 57)) w.heap.size (w.heap.size + 1 + 1) (w.heap.size + 1) 0 [] ∧
      Below w.heap.size w (((w.alloc o).alloc (.map #[] 0)).alloc (.cells #[.int .i64 0, .slice none 0 0, .map (some (w.heap.size + 1))] 57)) := by
  constructor
  · refine ⟨.slice none 0 0, ?_, World.ownsRow_nil _ _ _ _, by simp [Value.ownBlock], ?_, by omega, by omega⟩
    · have := heap_alloc_last ((w.alloc o).alloc (.map #[] 0)) (.cells #[.int .i64 0, .slice none 0 0, .map (some (w.heap.size + 1))] 57)
      simpa using this
    · have := (MapAt.new (w.alloc o)).alloc (.cells #[.int .i64 0, .slice none 0 0, .map (some (w.heap.size + 1))] 57)
      simpa using this
  · exact (((Below.refl w.heap.size w).alloc (Nat.le_refl _) _).alloc (by simp) _).alloc (by simp; omega) _

set_option maxRecDepth 100000 in
set_option maxHeartbeats 1000000 in
theorem walked_any (t : LT) (r m : Int) (ns : List ByteArray) (ht : TopOk t r m ns) (vs : List Value) (w : World) (hat : LT.at w w.heap.size t vs) :
    Calls Try.prog 14 #[.agg vs.toArray] w (WalkedR w r m ns) := by
  obtain ⟨kk, nn, rre, iim, ss, aa, bb, cc, bbs, ll⟩ := t
  have hat0 := Lib.hid hat
  have HT := Lib.hid ht
  unfold LT.at at hat
  obtain ⟨D1, e1, D2, e2, hvs, hb1, hb2, hb3⟩ := hat
  subst hvs
  clear hb1 hb2 hb3 ht
  show Calls Try.prog 14 #[.agg #[.int .i64 kk, .int .i64 nn, .complex .f64 rre iim, .string ss, .int .i64 aa, .int .u32 bb, .int .u64 cc, .slice D1 bbs.length e1, .slice D2 ll.length e2]] w _
  have hmm := @run_makeMap Try.prog
  go_enter Try.func14, Try.ntmps14
  go_wp2_with fail
  have hnew := LookM.new w (.cells #[.int .i64 kk, .int .i64 nn, .complex .f64 rre iim, .string ss, .int .i64 aa, .int .u32 bb, .int .u64 cc, .slice D1 bbs.length e1, .slice D2 ll.length e2] 31)
  refine (HT.out (tcells kk nn rre iim ss aa bb cc D1 bbs.length e1 D2 ll.length e2) w.heap.size (w.heap.size + 1 + 1) (w.heap.size + 1) _ (at_below hnew.2 hat0.out) hnew.1).mono ?_
  rintro e w4 ⟨rfl, hb4, hL4⟩
  have HB4 := Lib.hid (hnew.2.trans hb4)
  have HL4 := Lib.hid hL4
  clear hnew hb4 hL4
  go_wp2
  go_ret2
  exact ⟨_, _, rfl, HB4.out, HL4.out⟩

set_option maxRecDepth 100000 in
set_option maxHeartbeats 1000000 in
theorem mcheck_any (t : LT) (r m : Int) (ns : List ByteArray) (ht : TopOk t r m ns) (vs : List Value) (w : World) (hat : LT.at w w.heap.size t vs) :
    Calls Try.prog 12 #[.agg vs.toArray] w (Ret (.int .i64 r) w) := by
  obtain ⟨kk, nn, rre, iim, ss, aa, bb, cc, bbs, ll⟩ := t
  have hat0 := Lib.hid hat
  have HT := Lib.hid ht
  unfold LT.at at hat
  obtain ⟨D1, e1, D2, e2, hvs, hb1, hb2, hb3⟩ := hat
  subst hvs
  clear hb1 hb2 hb3 ht
  show Calls Try.prog 12 #[.agg #[.int .i64 kk, .int .i64 nn, .complex .f64 rre iim, .string ss, .int .i64 aa, .int .u32 bb, .int .u64 cc, .slice D1 bbs.length e1, .slice D2 ll.length e2]] w _
  go_enter Try.func12, Try.ntmps12
  go_wp2_with fail
  refine (walked_any _ r m ns HT.out (tcells kk nn rre iim ss aa bb cc D1 bbs.length e1 D2 ll.length e2) _ (at_mono (by simp) _ _ (at_below ((Below.refl w.heap.size w).alloc (Nat.le_refl _) _) hat0.out))).mono ?_
  rintro e w4 ⟨Mb, sb, rfl, hb4, _⟩
  have HB4 := Lib.hid (((Below.refl w.heap.size w).alloc (Nat.le_refl _) _).trans (hb4.mono (by simp)))
  clear hb4
  go_wp2
  go_ret
  exact Ret.mk rfl HB4.out

/-- A slice of strings of the call's own. -/
def StrsR (w : World) (ns : List ByteArray) (e : Ending) (w' : World) : Prop :=
  ∃ v, e = .returned v ∧ Below w.heap.size w w' ∧ w'.ownsRow w.heap.size 9 1 v ns.length (ns.map Value.string)

set_option maxRecDepth 100000 in
set_option maxHeartbeats 1000000 in
theorem mvars_any (t : LT) (m : Int) (ns : List ByteArray) (ht : TopOk t 0 m ns) (vs : List Value) (w : World) (hat : LT.at w w.heap.size t vs) :
    Calls Try.prog 13 #[.agg vs.toArray] w (StrsR w ns) := by
  obtain ⟨kk, nn, rre, iim, ss, aa, bb, cc, bbs, ll⟩ := t
  have hat0 := Lib.hid hat
  have HT := Lib.hid ht
  unfold LT.at at hat
  obtain ⟨D1, e1, D2, e2, hvs, hb1, hb2, hb3⟩ := hat
  subst hvs
  clear hb1 hb2 hb3 ht
  show Calls Try.prog 13 #[.agg #[.int .i64 kk, .int .i64 nn, .complex .f64 rre iim, .string ss, .int .i64 aa, .int .u32 bb, .int .u64 cc, .slice D1 bbs.length e1, .slice D2 ll.length e2]] w _
  go_enter Try.func13, Try.ntmps13
  go_wp2_with fail
  refine (walked_any _ 0 m ns HT.out (tcells kk nn rre iim ss aa bb cc D1 bbs.length e1 D2 ll.length e2) _ (at_mono (by simp) _ _ (at_below ((Below.refl w.heap.size w).alloc (Nat.le_refl _) _) hat0.out))).mono ?_
  rintro e w4 ⟨Mb, sb, rfl, hb4, hL4⟩
  have HB4 := Lib.hid (((Below.refl w.heap.size w).alloc (Nat.le_refl _) _).trans (hb4.mono (by simp)))
  obtain ⟨nv, h1, h2, _⟩ := hL4
  have hc1 : w4.cell? ⟨Mb, 1, none⟩ = some nv := cell_of_row w4 Mb 1 _ _ _ h1
  have H2 := Lib.hid h2
  clear hb4 h1 h2
  go_wp2
  go_ret
  obtain ⟨q1, q2⟩ := H2.out
  refine ⟨nv, rfl, HB4.out, q1, ?_⟩
  rcases q2 with q2 | ⟨g, cap, cur, hv, hg, r⟩
  · exact .inl q2
  · exact .inr ⟨g, cap, cur, hv, by simp at hg; omega, r⟩

end Go.Proofs.Ytgahfmnkkaacgaa
