/- The walk through a pattern: an atom, a tuple or list of atoms and variables. -/
import Derived.Test.YtgahfmnkkaacgaaMPart
namespace Go.Proofs.Ytgahfmnkkaacgaa
set_option linter.unusedVariables false
set_option linter.unusedSimpArgs false
open Go.RowKit

/-- A pattern's part without parts. -/
inductive Lf where
  | var (s : ByteArray)
  | atom (s : ByteArray)

def lfK : Lf → Int
  | .var _ => 9
  | .atom _ => 3
def lfS : Lf → ByteArray
  | .var s => s
  | .atom s => s
def lfT (f : Lf) : LT := .mk (lfK f) 0 0 0 (lfS f) 0 0 0 [] []
def lfOk : Lf → Prop
  | .var s => mnameF s = true
  | .atom s => nameF s = true
def lfN : Lf → List ByteArray → List ByteArray
  | .var s, ns => addB ns s
  | .atom _, ns => ns
def lfsN (l : List Lf) (ns : List ByteArray) : List ByteArray := l.foldl (fun ns f => lfN f ns) ns

theorem lfN_len (f : Lf) (ns : List ByteArray) : (lfN f ns).length ≤ ns.length + 1 := by
  cases f with
  | var s => show (addB ns s).length ≤ _; unfold addB; split <;> simp
  | atom s => show ns.length ≤ _; omega
theorem lfsN_len : ∀ (l : List Lf) (ns : List ByteArray), (lfsN l ns).length ≤ ns.length + l.length
  | [], ns => by simp [lfsN]
  | f :: r, ns => by
    have h1 := lfsN_len r (lfN f ns)
    have h2 := lfN_len f ns
    have e : lfsN (f :: r) ns = lfsN r (lfN f ns) := rfl
    rw [e, List.length_cons]; omega

theorem lfsN_snoc (l : List Lf) (j : Nat) (f : Lf) (hf : l[j]? = some f) (ns : List ByteArray) : lfsN (l.take (j + 1)) ns = lfN f (lfsN (l.take j) ns) := by
  have hlt : j < l.length := (List.getElem?_eq_some_iff.1 hf).1
  have he : l[j] = f := (List.getElem?_eq_some_iff.1 hf).2
  unfold lfsN
  rw [List.take_succ_eq_append_getElem hlt, List.foldl_append, he]
  rfl

/-- The contract at such a part. -/
def LfOk (f : Lf) : Prop := ∀ (vs : List Value) (deep m : Int) (Lo Mb sb : Nat) (ns : List ByteArray) (w : World), LT.at w Lo (lfT f) vs → 0 ≤ deep → deep ≤ 24 → 0 ≤ m → m ≤ 4095 → ns.length ≤ 100000 → LookM w Lo Mb sb m ns →
  Calls Try.prog 20 #[.pointer (some ⟨Mb, 0, none⟩), .agg vs.toArray, .int .i64 deep] w (MPartR Lo Mb sb w 0 (m + 1) (lfN f ns))

theorem bare_at (w : World) (B : Nat) (k : Int) (s : ByteArray) (A1 : Option Addr) (c1 : Nat) : LT.at w B (.mk k 0 0 0 s 0 0 0 [] []) (tcells k 0 0 0 s 0 0 0 A1 0 c1 none 0 0) := by
  unfold LT.at
  exact ⟨A1, c1, none, 0, rfl, ⟨by simp, .inl rfl⟩, by simp, by unfold LT.ats; trivial⟩

set_option maxRecDepth 100000 in
set_option maxHeartbeats 4000000 in
theorem mnode3 (s : ByteArray) (A1 : Option Addr) (c1 : Nat) (A2 : Option Addr) (c2 : Nat) (deep m : Int) (Lo Mb sb : Nat) (ns : List ByteArray) (w : World)
    (hck : checkF (.mk 3 0 0 0 s 0 0 0 [] []) = 0) (hd0 : 0 ≤ deep) (hd : deep ≤ 24) (hm0 : 0 ≤ m) (hm1 : m ≤ 4095) (hL : LookM w Lo Mb sb m ns) :
    Calls Try.prog 20 #[.pointer (some ⟨Mb, 0, none⟩), .agg #[.int .i64 3, .int .i64 0, .complex .f64 0 0, .string s, .int .i64 0, .int .u32 0, .int .u64 0, .slice A1 0 c1, .slice A2 0 c2], .int .i64 deep] w
      (MPartR Lo Mb sb w 0 (m + 1) ns) := by
  have hz := zero_cx
  have hlt := hL.lt
  have HL := Lib.hid hL
  obtain ⟨nv, h1, h2, h3, h4, h5, h6⟩ := hL
  have hcell := fun i => cell_of_row w Mb i _ _ _ h1
  have h0 : w.cell? ⟨Mb, 0, none⟩ = some (.int .i64 m) := hcell 0
  have hf0 : w.frozen? ⟨Mb, 0, none⟩ = false := by simp [World.frozen?, h1]
  have H5 := Lib.hid (And.intro h5 h6)
  have HCK := Lib.hid hck
  clear h1 h2 h3 h4 h5 h6 hcell hck
  have hpl : LT.plain (.mk 3 0 0 0 s 0 0 0 [] []) := by
    unfold LT.plain LT.plains; exact ⟨by omega, trivial⟩
  have HPL := Lib.hid hpl
  clear hpl
  go_enter Try.func20, Try.ntmps20
  go_wp2
  go_region
  go_wp2_with fail
  refine (check_any (.mk _ 0 0 0 s 0 0 0 [] []) (tcells _ 0 0 0 s 0 0 0 A1 0 c1 none 0 0) _ HPL.out (bare_at _ _ _ s A1 c1)).mono ?_
  rw [HCK.out]
  rintro e w1 ⟨rfl, hb⟩
  have hBW : Below w.heap.size (w.setCell ⟨Mb, 0, none⟩ (.int .i64 (m + 1))) w1 := by
    refine Below.trans ?_ (hb.mono (by first | (simp; done) | (simp; omega)))
    repeat (first | exact Below.refl _ _ | refine Below.drew ?_ | refine Below.alloc ?_ (by first | (simp; done) | (simp; omega)) _ | refine Below.setCell ?_ (by first | (simp; done) | (simp; omega)) _)
  have hLo := H5.out
  have HL1 := Lib.hid ((HL.out.count (m + 1)).below hBW (by simp))
  have HB1 := Lib.hid (((Below.refl Lo w).setCell (p := ⟨Mb, 0, none⟩) hLo.1 (.int .i64 (m + 1))).trans (hBW.mono (by omega)))
  have hbx : w1.cell? ⟨w.heap.size, 8, none⟩ = some (.slice A2 0 c2) := by
    rw [(bcell hb).1 _ _ (by simp; omega)]; go_simp
  have hbx0 : w1.cell? ⟨w.heap.size, 0, none⟩ = some (.int .i64 3) := by
    rw [(bcell hb).1 _ _ (by simp; omega)]; go_simp
  have hy1 : w.heap.size < w1.heap.size := by have := hBW.size; simp at this; have := hb.size; simp at this; omega
  clear hb hBW hLo h0 hf0
  go_wp2
  refine wp_loop_rounds 1 ?_
  rw [rounds_succ]
  go_wp2
  go_ret
  exact ⟨rfl, HB1.out, HL1.out⟩

set_option maxRecDepth 100000 in
set_option maxHeartbeats 4000000 in
theorem mnode6 (s : ByteArray) (A1 : Option Addr) (c1 : Nat) (l : List Lf) (A2 : Option Addr) (c2 : Nat) (deep m : Int) (Lo Mb sb : Nat) (ns : List ByteArray) (w : World)
    (hck : checkF (.mk 6 0 0 0 s 0 0 0 [] []) = 0) (hl : l.length ≤ 256) (IH : Hid (∀ f ∈ l, LfOk f))
    (hat : Hid (LT.ats w Lo (l.map lfT) A2)) (hd0 : 0 ≤ deep) (hd : deep ≤ 23) (hm0 : 0 ≤ m) (hm1 : m ≤ 3000) (hns : ns.length ≤ 90000) (hL : LookM w Lo Mb sb m ns) :
    Calls Try.prog 20 #[.pointer (some ⟨Mb, 0, none⟩), .agg #[.int .i64 6, .int .i64 0, .complex .f64 0 0, .string s, .int .i64 0, .int .u32 0, .int .u64 0, .slice A1 0 c1, .slice A2 l.length c2], .int .i64 deep] w
      (MPartR Lo Mb sb w 0 (m + 1 + l.length) (lfsN l ns)) := by
  have hz := zero_cx
  have hlt := hL.lt
  have HL := Lib.hid hL
  obtain ⟨nv, h1, h2, h3, h4, h5, h6⟩ := hL
  have hcell := fun i => cell_of_row w Mb i _ _ _ h1
  have h0 : w.cell? ⟨Mb, 0, none⟩ = some (.int .i64 m) := hcell 0
  have hf0 : w.frozen? ⟨Mb, 0, none⟩ = false := by simp [World.frozen?, h1]
  have H5 := Lib.hid (And.intro h5 h6)
  have HCK := Lib.hid hck
  generalize hn : l.length = n at *
  have HNL := Lib.hid hn
  clear hn
  clear h1 h2 h3 h4 h5 h6 hcell hck
  have hpl : LT.plain (.mk 6 0 0 0 s 0 0 0 [] []) := by
    unfold LT.plain LT.plains; exact ⟨by omega, trivial⟩
  have HPL := Lib.hid hpl
  clear hpl
  go_enter Try.func20, Try.ntmps20
  go_wp2
  go_region
  go_wp2_with fail
  refine (check_any (.mk _ 0 0 0 s 0 0 0 [] []) (tcells _ 0 0 0 s 0 0 0 A1 0 c1 none 0 0) _ HPL.out (bare_at _ _ _ s A1 c1)).mono ?_
  rw [HCK.out]
  rintro e w1 ⟨rfl, hb⟩
  have hBW : Below w.heap.size (w.setCell ⟨Mb, 0, none⟩ (.int .i64 (m + 1))) w1 := by
    refine Below.trans ?_ (hb.mono (by first | (simp; done) | (simp; omega)))
    repeat (first | exact Below.refl _ _ | refine Below.drew ?_ | refine Below.alloc ?_ (by first | (simp; done) | (simp; omega)) _ | refine Below.setCell ?_ (by first | (simp; done) | (simp; omega)) _)
  have hLo := H5.out
  have HL1 := Lib.hid ((HL.out.count (m + 1)).below hBW (by simp))
  have HB1 := Lib.hid (((Below.refl Lo w).setCell (p := ⟨Mb, 0, none⟩) hLo.1 (.int .i64 (m + 1))).trans (hBW.mono (by omega)))
  have hbx : w1.cell? ⟨w.heap.size, 8, none⟩ = some (.slice A2 n c2) := by
    rw [(bcell hb).1 _ _ (by simp; omega)]; go_simp
  have hbx0 : w1.cell? ⟨w.heap.size, 0, none⟩ = some (.int .i64 6) := by
    rw [(bcell hb).1 _ _ (by simp; omega)]; go_simp
  have hy1 : w.heap.size < w1.heap.size := by have := hBW.size; simp at this; have := hb.size; simp at this; omega
  clear hb hBW hLo h0 hf0
  have hn256 : (n : Int) ≤ 256 := by omega
  by_cases hn0 : n = 0
  · subst hn0
    have hl0 : l = [] := List.eq_nil_of_length_eq_zero HNL.out
    subst hl0
    go_wp2
    refine wp_loop_rounds 1 ?_
    rw [rounds_succ]
    go_wp2
    go_ret
    exact ⟨rfl, HB1.out, by simpa [lfsN] using HL1.out⟩
  · have hn1 : (0 : Int) < (n : Int) := by omega
    clear hn0
    go_wp2
    clear hbx hbx0 hy1 HL hz
    go_loopw [143] (fun i wr => ∃ j : Nat, j ≤ n ∧ i = .int .i64 j ∧ Hid (LookM wr Lo Mb sb (m + 1 + j) (lfsN (l.take j) ns) ∧ Below Lo w wr)) (fun i _ => n - (intOf i).toNat)
    case atStart => exact ⟨0, Nat.zero_le _, rfl, Lib.hid ⟨by simpa [lfsN] using HL1.out, HB1.out⟩⟩
    case round =>
      obtain ⟨j, hj, rfl, hr⟩ := hrel
      by_cases hlt2 : j < n
      · obtain ⟨f, hf⟩ : ∃ f, l[j]? = some f := ⟨l[j]'(by rw [HNL.out]; exact hlt2), List.getElem?_eq_getElem _⟩
        have IHf := IH.out f (List.mem_of_getElem? hf)
        obtain ⟨blk, off, vs, rfl, hblk, h9, hcl, hatt⟩ := ats_get (l.map lfT) A2 hat.out j (lfT f) (by simp [hf])
        have hcl' : ∀ i v, vs[i]? = some v → wr.cell? ⟨blk, off + j * 9 + i, none⟩ = some v := fun i v hv => by rw [hr.out.2.cell (p := ⟨blk, _, none⟩) hblk]; exact hcl i v hv
        have hatt0 := Lib.hid hatt
        unfold lfT LT.at at hatt
        obtain ⟨D1, e1, D2, e2, hvs, _, _, _⟩ := hatt
        subst hvs
        have g0 : wr.cell? ⟨blk, off + j * 9, none⟩ = some (.int .i64 (lfK f)) := hcl' 0 _ rfl
        have g1 : wr.cell? ⟨blk, off + j * 9 + 1, none⟩ = some (.int .i64 0) := hcl' 1 _ rfl
        have g2 : wr.cell? ⟨blk, off + j * 9 + 2, none⟩ = some (.complex .f64 0 0) := hcl' 2 _ rfl
        have g3 : wr.cell? ⟨blk, off + j * 9 + 3, none⟩ = some (.string (lfS f)) := hcl' 3 _ rfl
        have g4 : wr.cell? ⟨blk, off + j * 9 + 4, none⟩ = some (.int .i64 0) := hcl' 4 _ rfl
        have g5 : wr.cell? ⟨blk, off + j * 9 + 5, none⟩ = some (.int .u32 0) := hcl' 5 _ rfl
        have g6 : wr.cell? ⟨blk, off + j * 9 + 6, none⟩ = some (.int .u64 0) := hcl' 6 _ rfl
        have g7 : wr.cell? ⟨blk, off + j * 9 + 7, none⟩ = some (.slice D1 0 e1) := hcl' 7 _ rfl
        have g8 : wr.cell? ⟨blk, off + j * 9 + 8, none⟩ = some (.slice D2 0 e2) := hcl' 8 _ rfl
        have HLT := Lib.hid hlt2
        have HF := Lib.hid hf
        have IHF := Lib.hid IHf
        have hLoM : Lo ≤ wr.heap.size := by have := hr.out.1.lt; have := H5.out.1; omega
        have hlen := Lib.hid (lfsN_len (l.take j) ns)
        clear hcl hcl' h9 hf IHf
        go_wp2_with fail
        refine (IHF.out (tcells (lfK f) 0 0 0 (lfS f) 0 0 0 D1 0 e1 D2 0 e2) (deep + 1) (m + 1 + j) Lo Mb sb (lfsN (l.take j) ns) _
          (at_stays (fun x hx => (Below.cell ((Below.refl wr.heap.size wr).alloc (Nat.le_refl _) _) (by omega))) _ _ (at_stays (fun x hx => hr.out.2.cell hx) _ _ hatt0.out))
          (by omega) (by omega) (by omega) (by omega) (by have := hlen.out; simp at this; omega) (hr.out.1.below ((Below.refl wr.heap.size wr).alloc (Nat.le_refl _) _) (Nat.le_refl _))).mono ?_
        rintro e w4 ⟨rfl, hb4, hL4⟩
        rw [← lfsN_snoc l j f HF.out ns] at hL4
        have HB4 := Lib.hid (hr.out.2.trans (Below.trans ((Below.refl Lo wr).alloc hLoM _) hb4))
        have HL4 := Lib.hid hL4
        clear hb4 hL4 g0 g1 g2 g3 g4 g5 g6 g7 g8 hr
        have hlt2 := HLT.out
        go_wp2
        go_roundw
        case rel => exact ⟨j + 1, by omega, by go_num, Lib.hid ⟨by have := HL4.out; rwa [show m + 1 + (j : Int) + 1 = m + 1 + ((j + 1 : Nat) : Int) from by omega] at this, HB4.out⟩⟩
        case measure => simp [intOf]; omega
      · have hjn : j = n := by omega
        subst hjn
        go_wp2
        go_ret
        have hr' := hr.out
        rw [List.take_of_length_le (by rw [HNL.out]; exact Nat.le_refl _)] at hr'
        exact ⟨rfl, hr'.2, hr'.1⟩

set_option maxRecDepth 100000 in
set_option maxHeartbeats 4000000 in
theorem mnode7 (s : ByteArray) (A1 : Option Addr) (c1 : Nat) (l : List Lf) (A2 : Option Addr) (c2 : Nat) (deep m : Int) (Lo Mb sb : Nat) (ns : List ByteArray) (w : World)
    (hck : checkF (.mk 7 0 0 0 s 0 0 0 [] []) = 0) (hl : l.length ≤ 256) (IH : Hid (∀ f ∈ l, LfOk f))
    (hat : Hid (LT.ats w Lo (l.map lfT) A2)) (hd0 : 0 ≤ deep) (hd : deep ≤ 23) (hm0 : 0 ≤ m) (hm1 : m ≤ 3000) (hns : ns.length ≤ 90000) (hL : LookM w Lo Mb sb m ns) :
    Calls Try.prog 20 #[.pointer (some ⟨Mb, 0, none⟩), .agg #[.int .i64 7, .int .i64 0, .complex .f64 0 0, .string s, .int .i64 0, .int .u32 0, .int .u64 0, .slice A1 0 c1, .slice A2 l.length c2], .int .i64 deep] w
      (MPartR Lo Mb sb w 0 (m + 1 + l.length) (lfsN l ns)) := by
  have hz := zero_cx
  have hlt := hL.lt
  have HL := Lib.hid hL
  obtain ⟨nv, h1, h2, h3, h4, h5, h6⟩ := hL
  have hcell := fun i => cell_of_row w Mb i _ _ _ h1
  have h0 : w.cell? ⟨Mb, 0, none⟩ = some (.int .i64 m) := hcell 0
  have hf0 : w.frozen? ⟨Mb, 0, none⟩ = false := by simp [World.frozen?, h1]
  have H5 := Lib.hid (And.intro h5 h6)
  have HCK := Lib.hid hck
  generalize hn : l.length = n at *
  have HNL := Lib.hid hn
  clear hn
  clear h1 h2 h3 h4 h5 h6 hcell hck
  have hpl : LT.plain (.mk 7 0 0 0 s 0 0 0 [] []) := by
    unfold LT.plain LT.plains; exact ⟨by omega, trivial⟩
  have HPL := Lib.hid hpl
  clear hpl
  go_enter Try.func20, Try.ntmps20
  go_wp2
  go_region
  go_wp2_with fail
  refine (check_any (.mk _ 0 0 0 s 0 0 0 [] []) (tcells _ 0 0 0 s 0 0 0 A1 0 c1 none 0 0) _ HPL.out (bare_at _ _ _ s A1 c1)).mono ?_
  rw [HCK.out]
  rintro e w1 ⟨rfl, hb⟩
  have hBW : Below w.heap.size (w.setCell ⟨Mb, 0, none⟩ (.int .i64 (m + 1))) w1 := by
    refine Below.trans ?_ (hb.mono (by first | (simp; done) | (simp; omega)))
    repeat (first | exact Below.refl _ _ | refine Below.drew ?_ | refine Below.alloc ?_ (by first | (simp; done) | (simp; omega)) _ | refine Below.setCell ?_ (by first | (simp; done) | (simp; omega)) _)
  have hLo := H5.out
  have HL1 := Lib.hid ((HL.out.count (m + 1)).below hBW (by simp))
  have HB1 := Lib.hid (((Below.refl Lo w).setCell (p := ⟨Mb, 0, none⟩) hLo.1 (.int .i64 (m + 1))).trans (hBW.mono (by omega)))
  have hbx : w1.cell? ⟨w.heap.size, 8, none⟩ = some (.slice A2 n c2) := by
    rw [(bcell hb).1 _ _ (by simp; omega)]; go_simp
  have hbx0 : w1.cell? ⟨w.heap.size, 0, none⟩ = some (.int .i64 7) := by
    rw [(bcell hb).1 _ _ (by simp; omega)]; go_simp
  have hy1 : w.heap.size < w1.heap.size := by have := hBW.size; simp at this; have := hb.size; simp at this; omega
  clear hb hBW hLo h0 hf0
  have hn256 : (n : Int) ≤ 256 := by omega
  by_cases hn0 : n = 0
  · subst hn0
    have hl0 : l = [] := List.eq_nil_of_length_eq_zero HNL.out
    subst hl0
    go_wp2
    refine wp_loop_rounds 1 ?_
    rw [rounds_succ]
    go_wp2
    go_ret
    exact ⟨rfl, HB1.out, by simpa [lfsN] using HL1.out⟩
  · have hn1 : (0 : Int) < (n : Int) := by omega
    clear hn0
    go_wp2
    clear hbx hbx0 hy1 HL hz
    go_loopw [143] (fun i wr => ∃ j : Nat, j ≤ n ∧ i = .int .i64 j ∧ Hid (LookM wr Lo Mb sb (m + 1 + j) (lfsN (l.take j) ns) ∧ Below Lo w wr)) (fun i _ => n - (intOf i).toNat)
    case atStart => exact ⟨0, Nat.zero_le _, rfl, Lib.hid ⟨by simpa [lfsN] using HL1.out, HB1.out⟩⟩
    case round =>
      obtain ⟨j, hj, rfl, hr⟩ := hrel
      by_cases hlt2 : j < n
      · obtain ⟨f, hf⟩ : ∃ f, l[j]? = some f := ⟨l[j]'(by rw [HNL.out]; exact hlt2), List.getElem?_eq_getElem _⟩
        have IHf := IH.out f (List.mem_of_getElem? hf)
        obtain ⟨blk, off, vs, rfl, hblk, h9, hcl, hatt⟩ := ats_get (l.map lfT) A2 hat.out j (lfT f) (by simp [hf])
        have hcl' : ∀ i v, vs[i]? = some v → wr.cell? ⟨blk, off + j * 9 + i, none⟩ = some v := fun i v hv => by rw [hr.out.2.cell (p := ⟨blk, _, none⟩) hblk]; exact hcl i v hv
        have hatt0 := Lib.hid hatt
        unfold lfT LT.at at hatt
        obtain ⟨D1, e1, D2, e2, hvs, _, _, _⟩ := hatt
        subst hvs
        have g0 : wr.cell? ⟨blk, off + j * 9, none⟩ = some (.int .i64 (lfK f)) := hcl' 0 _ rfl
        have g1 : wr.cell? ⟨blk, off + j * 9 + 1, none⟩ = some (.int .i64 0) := hcl' 1 _ rfl
        have g2 : wr.cell? ⟨blk, off + j * 9 + 2, none⟩ = some (.complex .f64 0 0) := hcl' 2 _ rfl
        have g3 : wr.cell? ⟨blk, off + j * 9 + 3, none⟩ = some (.string (lfS f)) := hcl' 3 _ rfl
        have g4 : wr.cell? ⟨blk, off + j * 9 + 4, none⟩ = some (.int .i64 0) := hcl' 4 _ rfl
        have g5 : wr.cell? ⟨blk, off + j * 9 + 5, none⟩ = some (.int .u32 0) := hcl' 5 _ rfl
        have g6 : wr.cell? ⟨blk, off + j * 9 + 6, none⟩ = some (.int .u64 0) := hcl' 6 _ rfl
        have g7 : wr.cell? ⟨blk, off + j * 9 + 7, none⟩ = some (.slice D1 0 e1) := hcl' 7 _ rfl
        have g8 : wr.cell? ⟨blk, off + j * 9 + 8, none⟩ = some (.slice D2 0 e2) := hcl' 8 _ rfl
        have HLT := Lib.hid hlt2
        have HF := Lib.hid hf
        have IHF := Lib.hid IHf
        have hLoM : Lo ≤ wr.heap.size := by have := hr.out.1.lt; have := H5.out.1; omega
        have hlen := Lib.hid (lfsN_len (l.take j) ns)
        clear hcl hcl' h9 hf IHf
        go_wp2_with fail
        refine (IHF.out (tcells (lfK f) 0 0 0 (lfS f) 0 0 0 D1 0 e1 D2 0 e2) (deep + 1) (m + 1 + j) Lo Mb sb (lfsN (l.take j) ns) _
          (at_stays (fun x hx => (Below.cell ((Below.refl wr.heap.size wr).alloc (Nat.le_refl _) _) (by omega))) _ _ (at_stays (fun x hx => hr.out.2.cell hx) _ _ hatt0.out))
          (by omega) (by omega) (by omega) (by omega) (by have := hlen.out; simp at this; omega) (hr.out.1.below ((Below.refl wr.heap.size wr).alloc (Nat.le_refl _) _) (Nat.le_refl _))).mono ?_
        rintro e w4 ⟨rfl, hb4, hL4⟩
        rw [← lfsN_snoc l j f HF.out ns] at hL4
        have HB4 := Lib.hid (hr.out.2.trans (Below.trans ((Below.refl Lo wr).alloc hLoM _) hb4))
        have HL4 := Lib.hid hL4
        clear hb4 hL4 g0 g1 g2 g3 g4 g5 g6 g7 g8 hr
        have hlt2 := HLT.out
        go_wp2
        go_roundw
        case rel => exact ⟨j + 1, by omega, by go_num, Lib.hid ⟨by have := HL4.out; rwa [show m + 1 + (j : Int) + 1 = m + 1 + ((j + 1 : Nat) : Int) from by omega] at this, HB4.out⟩⟩
        case measure => simp [intOf]; omega
      · have hjn : j = n := by omega
        subst hjn
        go_wp2
        go_ret
        have hr' := hr.out
        rw [List.take_of_length_le (by rw [HNL.out]; exact Nat.le_refl _)] at hr'
        exact ⟨rfl, hr'.2, hr'.1⟩

theorem zeroC_zero : zeroC 0 0 = true := by unfold zeroC; rw [zero_cx]; rfl

theorem check_atom {s : ByteArray} (h : nameF s = true) : checkF (.mk 3 0 0 0 s 0 0 0 [] []) = 0 := by
  unfold checkF partF partsF
  simp [bareEmpty, goodF, emptyF, zeroC_zero, h]
theorem check_tuple : checkF (.mk 6 0 0 0 ⟨#[]⟩ 0 0 0 [] []) = 0 := by
  unfold checkF partF partsF
  simp [bareEmpty, goodF, emptyF, zeroC_zero]
theorem check_list : checkF (.mk 7 0 0 0 ⟨#[]⟩ 0 0 0 [] []) = 0 := by
  unfold checkF partF partsF
  simp [bareEmpty, goodF, emptyF, zeroC_zero]

theorem nils_at {w : World} {B : Nat} {k : Int} {s : ByteArray} {vs : List Value} (h : LT.at w B (.mk k 0 0 0 s 0 0 0 [] []) vs) : ∃ A1 c1 A2 c2, vs = tcells k 0 0 0 s 0 0 0 A1 0 c1 A2 0 c2 := by
  unfold LT.at at h
  obtain ⟨A1, c1, A2, c2, hv, _⟩ := h
  exact ⟨A1, c1, A2, c2, hv⟩

theorem lf_ok : ∀ f : Lf, lfOk f → LfOk f
  | .var s, h => fun vs deep m Lo Mb sb ns w hat hd0 hd hm0 hm1 hns hL => by
    obtain ⟨A1, c1, A2, c2, rfl⟩ := nils_at hat
    have := mvar_any s A1 c1 A2 c2 deep m Lo Mb sb ns w hd0 hd hm0 hm1 hns hL
    unfold lfOk at h
    rw [if_pos h, if_pos h] at this
    exact this
  | .atom s, h => fun vs deep m Lo Mb sb ns w hat hd0 hd hm0 hm1 _ hL => by
    obtain ⟨A1, c1, A2, c2, rfl⟩ := nils_at hat
    exact mnode3 s A1 c1 A2 c2 deep m Lo Mb sb ns w (check_atom h) hd0 hd hm0 hm1 hL

end Go.Proofs.Ytgahfmnkkaacgaa
