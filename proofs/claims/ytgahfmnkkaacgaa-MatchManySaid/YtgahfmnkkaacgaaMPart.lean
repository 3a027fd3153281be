/- The walk through a pattern: a variable. -/
import Derived.Test.YtgahfmnkkaacgaaMName
import Derived.Test.YtgahfmnkkaacgaaMap
import Derived.BigRegion
namespace Go.Proofs.Ytgahfmnkkaacgaa
set_option linter.unusedVariables false
set_option linter.unusedSimpArgs false
open Go.RowKit

/-- A pattern's walk in block Mb: so much counted, these names met. -/
def LookM (w : World) (Lo Mb sb : Nat) (m : Int) (ns : List ByteArray) : Prop :=
  ∃ nv, w.heap[Mb]? = some (.cells #[.int .i64 m, nv, .map (some sb)] 57 (0, 0)) ∧ w.ownsRow Lo 9 1 nv ns.length (ns.map Value.string) ∧ nv.ownBlock ≠ some Mb ∧ MapAt w sb (ns.map fun s => (s, Value.int .i64 1)) ∧ Lo ≤ Mb ∧ Lo ≤ sb

def hasB (ns : List ByteArray) (s : ByteArray) : Bool := ns.any fun x => decide (s = x)
def addB (ns : List ByteArray) (s : ByteArray) : List ByteArray := if hasB ns s = true then ns else ns ++ [s]

theorem mlook_ones (s : ByteArray) : ∀ ns : List ByteArray, mlook (ns.map fun s => (s, Value.int .i64 1)) s = if hasB ns s = true then some (.int .i64 1) else none
  | [] => rfl
  | x :: r => by
    have ih := mlook_ones s r
    unfold hasB at ih ⊢
    simp only [List.map_cons, mlook, List.any_cons]
    by_cases h : s = x
    · simp [h]
    · simp only [h, if_false, decide_false, Bool.false_or]
      exact ih

theorem zero_cx : FloatKind.f64.format.order 0 0 = some .eq := by kernel_rfl
theorem infoStr : (Try.prog.info? 9).map (fun i => (i.zero, i.size, i.bytes)) = some (some (.string ⟨#[]⟩), 1, 16) := by kernel_rfl


/-- A pattern's walk comes to an end. -/
def MPartR (Lo Mb sb : Nat) (w : World) (r m : Int) (ns : List ByteArray) (e : Ending) (w' : World) : Prop := e = .returned (.int .i64 r) ∧ Below Lo w w' ∧ LookM w' Lo Mb sb m ns

theorem LookM.lt {w : World} {Lo Mb sb : Nat} {m : Int} {ns : List ByteArray} (h : LookM w Lo Mb sb m ns) : Mb < w.heap.size := by
  obtain ⟨nv, h, _⟩ := h
  exact (Array.getElem?_eq_some_iff.1 h).1

theorem LookM.below {w w' : World} {Lo Mb sb B : Nat} {m : Int} {ns : List ByteArray} (h : LookM w Lo Mb sb m ns) (hb : Below B w w') (hB : w.heap.size ≤ B) : LookM w' Lo Mb sb m ns := by
  have hlt := h.lt
  obtain ⟨nv, h1, h2, h3, h4, h5, h6⟩ := h
  exact ⟨nv, (hb.block Mb (by omega)).trans h1, own_below h2 hb hB, h3, h4.below hb (by have := h4.lt; omega), h5, h6⟩

theorem LookM.count {w : World} {Lo Mb sb : Nat} {m : Int} {ns : List ByteArray} (h : LookM w Lo Mb sb m ns) (m' : Int) : LookM (w.setCell ⟨Mb, 0, none⟩ (.int .i64 m')) Lo Mb sb m' ns := by
  have hlt := h.lt
  obtain ⟨nv, h1, h2, h3, h4, h5, h6⟩ := h
  refine ⟨nv, ?_, own_setCell h2 h3 _, h3, h4.setCell _ _, h5, h6⟩
  rw [Array.getElem?_eq_getElem hlt] at h1
  simp only [Option.some.injEq] at h1
  have hlt' : Mb < (w.setCell ⟨Mb, 0, none⟩ (.int .i64 m')).heap.size := by simpa [World.setCell] using hlt
  rw [Array.getElem?_eq_getElem hlt']
  simp only [World.setCell]
  rw [Array.getElem_modify_self, h1]
  simp

theorem own_ne {w : World} {base : Nat} {e : TypeId} {size : Nat} {v : Value} {n : Nat} {xs : List Value} (h : w.ownsRow base e size v n xs) {b : Nat} (hb : ∀ cur, w.heap[b]? ≠ some (.cells cur e (0, 0))) : v.ownBlock ≠ some b := by
  intro hv
  rcases h.2 with ⟨rfl, _⟩ | ⟨g, cap, cur, rfl, _, hh, _⟩
  · simp [Value.ownBlock] at hv
  · simp only [Value.ownBlock, Option.some.injEq] at hv
    subst hv
    exact hb cur hh

/-- A name that is new has been put into the set and behind the list. -/
theorem LookM.added {w1 w' : World} {Lo Mb sb : Nat} {m : Int} {ns : List ByteArray} {s : ByteArray} {nv v' : Value}
    (Q2 : w1.ownsRow Lo 9 1 nv ns.length (ns.map Value.string)) (Q4 : MapAt w1 sb (ns.map fun s => (s, Value.int .i64 1))) (h5 : Lo ≤ Mb) (h6 : Lo ≤ sb)
    (HO : w'.ownsRow Lo 9 1 v' (ns.length + 1) (ns.map Value.string ++ [.string s])) (HG : ((World.mput w1.drew.drew sb (.string s) (.int .i64 1)).drew.alloc (.cells #[.string s] 9)).grownBy w' nv.ownBlock)
    (HROW : w'.heap[Mb]? = some (.cells #[.int .i64 m, nv, .map (some sb)] 57 (0, 0))) :
    LookM (w'.setCell ⟨Mb, 1, none⟩ v') Lo Mb sb m (ns ++ [s]) ∧ Below Lo w1 (w'.setCell ⟨Mb, 1, none⟩ v') := by
  have hlt : Mb < w'.heap.size := (Array.getElem?_eq_some_iff.1 HROW).1
  have hne : v'.ownBlock ≠ some Mb := own_ne HO fun cur e => by rw [HROW] at e; cases e
  have hns : nv.ownBlock ≠ some sb := own_ne Q2 fun cur e => by obtain ⟨es, he, _⟩ := Q4; rw [he] at e; cases e
  have hsb := Q4.lt
  have hm1 : MapAt w' sb ((ns ++ [s]).map fun s => (s, Value.int .i64 1)) := by
    have h1 : MapAt ((World.mput w1.drew.drew sb (.string s) (.int .i64 1)).drew.alloc (.cells #[.string s] 9)) sb (ns.map (fun s => (s, Value.int .i64 1)) ++ [(s, .int .i64 1)]) := (MapAt.put (w := w1.drew.drew) Q4 s (.int .i64 1)).drew.alloc _
    rw [List.map_append]
    exact h1.stays (HG.block sb (by simp [mput_size]; omega) (fun e => hns e.symm))
  refine ⟨⟨v', ?_, ?_, hne, hm1.setCell _ _, h5, h6⟩, ?_⟩
  · have hlt' : Mb < (w'.setCell ⟨Mb, 1, none⟩ v').heap.size := by simpa [World.setCell] using hlt
    rw [Array.getElem?_eq_getElem hlt] at HROW
    simp only [Option.some.injEq] at HROW
    rw [Array.getElem?_eq_getElem hlt']
    simp only [World.setCell]
    rw [Array.getElem_modify_self, HROW]
    simp
  · have := own_setCell HO (a := ⟨Mb, 1, none⟩) hne v'
    simpa using this
  · have hb1 : Below Lo w1 ((World.mput w1.drew.drew sb (.string s) (.int .i64 1)).drew.alloc (.cells #[.string s] 9)) := Below.trans (b := World.mput w1.drew.drew sb (.string s) (.int .i64 1)) (((Below.refl Lo w1).drew.drew).trans (below_mput _ _ _ h6)) (((Below.refl Lo _).drew).alloc (by simp [mput_size]; omega) _)
    refine (hb1.trans (below_grown HG (by simp [mput_size]; omega) ?_)).setCell h5 _
    intro k hk
    rcases Q2.2 with ⟨rfl, _⟩ | ⟨g, cap, cur, rfl, hg, _⟩
    · simp [Value.ownBlock] at hk
    · simp only [Value.ownBlock, Option.some.injEq] at hk
      omega

set_option maxRecDepth 100000 in
set_option maxHeartbeats 2000000 in
theorem mvar_any (s : ByteArray) (A1 : Option Addr) (c1 : Nat) (A2 : Option Addr) (c2 : Nat) (deep m : Int) (Lo Mb sb : Nat) (ns : List ByteArray) (w : World) (hd0 : 0 ≤ deep) (hd : deep ≤ 24) (hm0 : 0 ≤ m) (hm1 : m ≤ 4095) (hns : ns.length ≤ 100000) (hL : LookM w Lo Mb sb m ns) :
    Calls Try.prog 20 #[.pointer (some ⟨Mb, 0, none⟩), .agg #[.int .i64 9, .int .i64 0, .complex .f64 0 0, .string s, .int .i64 0, .int .u32 0, .int .u64 0, .slice A1 0 c1, .slice A2 0 c2], .int .i64 deep] w
      (MPartR Lo Mb sb w (if mnameF s = true then 0 else 50) (m + 1) (if mnameF s = true then addB ns s else ns)) := by
  have hz := zero_cx
  have hlt := hL.lt
  have HL := Lib.hid hL
  obtain ⟨nv, h1, h2, h3, h4, h5, h6⟩ := hL
  obtain ⟨nA, nc, rfl, hnA, hnB⟩ := own_shape h2
  have hcell := fun i => cell_of_row w Mb i _ _ _ h1
  have h0 : w.cell? ⟨Mb, 0, none⟩ = some (.int .i64 m) := hcell 0
  have hf0 : w.frozen? ⟨Mb, 0, none⟩ = false := by simp [World.frozen?, h1]
  have H3 := Lib.hid h3
  have H5 := Lib.hid (And.intro h5 h6)
  generalize hR : (if mnameF s = true then (0 : Int) else 50) = R
  generalize hN : (if mnameF s = true then addB ns s else ns) = N
  have HR := Lib.hid hR
  have HN := Lib.hid hN
  clear h1 h2 h3 h4 h5 h6 hnA hnB hcell hR hN
  go_enter Try.func20, Try.ntmps20
  go_wp2
  go_region
  go_wp2_with fail
  refine (mname_any _ _).mono ?_
  rintro e w1 ⟨rfl, hb⟩
  have hy1 : w.heap.size < w1.heap.size := by have := hb.size; simp at this; omega
  have hBW : Below w.heap.size (w.setCell ⟨Mb, 0, none⟩ (.int .i64 (m + 1))) w1 := by
    refine Below.trans ?_ (hb.mono (by first | (simp; done) | (simp; omega)))
    repeat (first | exact Below.refl _ _ | refine Below.drew ?_ | refine Below.alloc ?_ (by first | (simp; done) | (simp; omega)) _ | refine Below.setCell ?_ (by first | (simp; done) | (simp; omega)) _)
  have hLo := H5.out
  have HL1 := Lib.hid ((HL.out.count (m + 1)).below hBW (by simp))
  have HB1 := Lib.hid (((Below.refl Lo w).setCell (p := ⟨Mb, 0, none⟩) hLo.1 (.int .i64 (m + 1))).trans (hBW.mono (by omega)))
  have hbx : w1.cell? ⟨w.heap.size, 3, none⟩ = some (.string s) := by
    rw [(bcell hb).1 _ _ (by simp; omega)]; go_simp
  clear hb hBW hLo h0 hf0
  cases hnm : mnameF s with
  | false =>
    rw [hnm] at HR HN
    go_wp2
    go_ret
    rw [← HR.out, ← HN.out]
    exact ⟨rfl, HB1.out, HL1.out⟩
  | true =>
    rw [hnm] at HR HN
    obtain ⟨nv1, q1, q2, q3, q4, q5, q6⟩ := HL1.out
    obtain ⟨nA1, nc1, rfl, _, _⟩ := own_shape q2
    have qcell := fun i => cell_of_row w1 Mb i _ _ _ q1
    have g1 : w1.cell? ⟨Mb, 1, none⟩ = some (.slice nA1 ns.length nc1) := qcell 1
    have g2 : w1.cell? ⟨Mb, 2, none⟩ = some (.map (some sb)) := qcell 2
    have gf1 : w1.frozen? ⟨Mb, 1, none⟩ = false := by simp [World.frozen?, q1]
    have hmap := q4
    generalize hLs : (ns.map fun s => (s, Value.int .i64 1)) = Ls at hmap
    have HLs := Lib.hid hLs
    have Q1 := Lib.hid q1
    have Q2 := Lib.hid q2
    have Q3 := Lib.hid q3
    have Q4 := Lib.hid q4
    clear q1 q2 q3 q4 q5 q6 qcell hLs
    by_cases hin : hasB ns s = true
    · have hlook : ∀ W, MapAt W sb Ls → (Instr.lookup 53 (.map (some sb)) (.string s) false).run Try.prog W = .ok (.int .i64 1) W := fun W hW => by
        rw [run_look Try.underlying53 Try.underlying9 (z := .int .i64 0) (by kernel_rfl) hW s false, ← HLs.out, mlook_ones, if_pos hin]; rfl
      have HIN := Lib.hid hin
      clear hin
      go_wp2
      go_region
      go_wp2
      go_ret
      rw [← HR.out, ← HN.out]
      refine ⟨rfl, HB1.out.drew, ?_⟩
      simp only [if_true, addB, HIN.out]
      exact HL1.out
    · have hnone : mlook Ls s = none := by rw [← HLs.out, mlook_ones, if_neg hin]
      have hlook : ∀ W, MapAt W sb Ls → (Instr.lookup 53 (.map (some sb)) (.string s) false).run Try.prog W = .ok (.int .i64 0) W := fun W hW => by
        rw [run_look Try.underlying53 Try.underlying9 (z := .int .i64 0) (by kernel_rfl) hW s false, hnone]; rfl
      have hput : ∀ W, MapAt W sb Ls → (Instr.mapUpdate 53 (.map (some sb)) (.string s) (.int .i64 1)).run Try.prog W = .ok () (World.mput W sb (.string s) (.int .i64 1)) := fun W hW =>
        run_put Try.underlying53 Try.underlying9 hW s hnone _
      have HIN := Lib.hid hin
      clear hin hnone
      go_wp2
      go_region
      go_wp2
      go_region
      go_wp2
      obtain ⟨i0, hi, hz0, hz1, hz2⟩ := info_parts infoStr
      have hMb1 : Mb < w1.heap.size := (Array.getElem?_eq_some_iff.1 Q1.out).1
      have hLo1 : Lo ≤ w1.heap.size := by have := H5.out.1; omega
      have hnews : ∀ (W : World) (j : Nat) (u : Value), W.cell? ⟨w1.heap.size, 0, none⟩ = some (.string s) → ([Value.string s] : List Value)[j]? = some u → W.cell? ((⟨w1.heap.size, 0, none⟩ : Addr).add j) = some u := by
        intro W j u hW hu
        cases j with
        | zero => simp only [List.getElem?_cons_zero, Option.some.injEq] at hu; subst hu; exact hW
        | succ j => simp at hu
      have HNEWS := Lib.hid hnews
      have hQ := Lib.hid (((own_mput (Q2.out.drew.drew) sb (.string s) (.int .i64 1)).drew).alloc (.cells #[.string s] 9))
      have hafter : ∀ W' : World, ((World.mput w1.drew.drew sb (.string s) (.int .i64 1)).drew.alloc (.cells #[.string s] 9)).grownBy W' (Value.slice nA1 ns.length nc1).ownBlock → W'.heap[Mb]? = some (.cells #[.int .i64 (m + 1), .slice nA1 ns.length nc1, .map (some sb)] 57 (0, 0)) := by
        intro W' hg
        rw [hg.block Mb (by simp [mput_size]; omega) (fun e => Q3.out e.symm)]
        rw [Below.heap_alloc _ _ _ (by simp [mput_size]; omega)]
        show (World.mput w1.drew.drew sb (.string s) (.int .i64 1)).heap[Mb]? = _
        by_cases hne : Mb = sb
        · subst hne
          obtain ⟨es, he, _⟩ := Q4.out
          rw [Q1.out] at he
          cases he
        · rw [mput_other _ _ _ _ _ hne]
          exact Q1.out
      have hcells : ∀ W' : World, W'.heap[Mb]? = some (.cells #[.int .i64 (m + 1), .slice nA1 ns.length nc1, .map (some sb)] 57 (0, 0)) → W'.cell? ⟨Mb, 1, none⟩ = some (.slice nA1 ns.length nc1) ∧ W'.frozen? ⟨Mb, 1, none⟩ = false :=
        fun W' h => ⟨cell_of_row W' Mb 1 _ _ _ h, by simp [World.frozen?, h]⟩
      have HAFTER := Lib.hid hafter
      have HCELLS := Lib.hid hcells
      clear hnews hafter hcells
      go_region_law (refine step_app rfl _ _ 45 rfl Lo 9 i0 _ 1 16 Try.underlying45 hi hz0 hz1 hz2 rfl (by decide) (.slice nA1 ns.length nc1) ns.length (ns.map Value.string) (by simp [Act.eval]) hQ.out ⟨w1.heap.size, 0, none⟩ 1 1 [.string s] (by simp [Act.eval]) rfl (fun j u hu => HNEWS.out _ j u (by go_simp) hu) (by simp [Value.oneCell']) (by unfold maxLen; omega) (by omega) (by simp [mput_size]; omega) ?_; intro v' w' hown' hgrow'; obtain ⟨A', c', rfl, hA', hA''⟩ := own_shape hown'; have hrow := HAFTER.out w' hgrow'; obtain ⟨gq1, gq2⟩ := HCELLS.out w' hrow; have HO := Lib.hid hown'; have HG := Lib.hid hgrow'; have HROW := Lib.hid hrow; clear hown' hgrow' hrow hA' hA'')
      all_goals
        go_wp2
        go_ret
        obtain ⟨r1, r2⟩ := LookM.added Q2.out Q4.out H5.out.1 H5.out.2 HO.out HG.out HROW.out
        rw [← HR.out, ← HN.out]
        refine ⟨rfl, HB1.out.trans r2, ?_⟩
        simp only [if_true, addB, HIN.out, if_false]
        exact r1
end Go.Proofs.Ytgahfmnkkaacgaa
