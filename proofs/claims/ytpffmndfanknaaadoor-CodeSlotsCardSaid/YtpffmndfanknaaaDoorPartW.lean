/- The term package's check of a part: the walk. -/
import Derived.Test.YtpffmndfanknaaaDoorPart
namespace Go.Proofs.YtpffmndfanknaaaDoor
set_option linter.unusedVariables false
set_option linter.unusedSimpArgs false
open Go.RowKit

/-- What a part's check comes to. -/
def PartR (Lb : Nat) (w : World) (r : Int × Int) (e : Ending) (w' : World) : Prop := e = .returned (.int .i64 r.1) ∧ Below Lb w w' ∧ LookAt w' Lb r.2

/-- The contract of the check of a term. -/
def PartOk (t : LT) : Prop := ∀ (vs : List Value) (deep m : Int) (Lb : Nat) (w : World), LT.plain t → LT.at w Lb t vs → 0 ≤ m → m ≤ 4096 → 0 ≤ deep → deep ≤ 1000 → LookAt w Lb m →
  Calls Tryd.prog 37 #[.pointer (some ⟨Lb, 0, none⟩), .agg vs.toArray, .int .i64 deep] w (PartR Lb w (partF t deep m))

theorem bcell {B : Nat} {W w1 : World} (hb : Below B W w1) : (∀ b o, b < B → w1.cell? ⟨b, o, none⟩ = W.cell? ⟨b, o, none⟩) ∧ (∀ b o, b < B → w1.frozen? ⟨b, o, none⟩ = W.frozen? ⟨b, o, none⟩) :=
  ⟨fun b o h => hb.cell (p := ⟨b, o, none⟩) h, fun b o h => hb.frozen (p := ⟨b, o, none⟩) h⟩

theorem cells9 {w : World} {b : Nat} {T : TypeId} {fr : Nat × Nat} {x0 x1 x2 x3 x4 x5 x6 x7 x8 : Value} (h : w.heap[b]? = some (.cells #[x0, x1, x2, x3, x4, x5, x6, x7, x8] T fr)) :
    w.cell? ⟨b, 0, none⟩ = some x0 ∧ w.cell? ⟨b, 1, none⟩ = some x1 ∧ w.cell? ⟨b, 2, none⟩ = some x2 ∧ w.cell? ⟨b, 3, none⟩ = some x3 ∧ w.cell? ⟨b, 4, none⟩ = some x4 ∧ w.cell? ⟨b, 5, none⟩ = some x5 ∧
      w.cell? ⟨b, 6, none⟩ = some x6 ∧ w.cell? ⟨b, 7, none⟩ = some x7 ∧ w.cell? ⟨b, 8, none⟩ = some x8 :=
  ⟨cell_of_row w b 0 _ _ _ h, cell_of_row w b 1 _ _ _ h, cell_of_row w b 2 _ _ _ h, cell_of_row w b 3 _ _ _ h, cell_of_row w b 4 _ _ _ h, cell_of_row w b 5 _ _ _ h, cell_of_row w b 6 _ _ _ h, cell_of_row w b 7 _ _ _ h, cell_of_row w b 8 _ _ _ h⟩
theorem cells2 {w : World} {b : Nat} {T : TypeId} {fr : Nat × Nat} {x0 x1 : Value} (h : w.heap[b]? = some (.cells #[x0, x1] T fr)) :
    w.cell? ⟨b, 0, none⟩ = some x0 ∧ w.cell? ⟨b, 1, none⟩ = some x1 := ⟨cell_of_row w b 0 _ _ _ h, cell_of_row w b 1 _ _ _ h⟩
theorem heap_alloc_old {w : World} {o o' : Obj} {b : Nat} (h : w.heap[b]? = some o) : (w.alloc o').heap[b]? = some o := by
  have hlt : b < w.heap.size := by
    rcases Nat.lt_or_ge b w.heap.size with h' | h'
    · exact h'
    · simp [Array.getElem?_eq_none h'] at h
  rw [Below.heap_alloc _ _ _ hlt, h]

def partOut (E G : Bool) (m : Int) (n : Nat) (r : Int × Int) : Int × Int := if E = false then (23, m) else if G = false then (24, m) else if 256 < n then (25, m) else r

set_option maxRecDepth 100000 in
set_option maxHeartbeats 2000000 in
theorem part_main (k : Nat) (n : Int) (re im : Nat) (s : ByteArray) (a b c : Int) (bs : List UInt8) (l : List LT) (A1 A2 : Option Addr) (c1 c2 : Nat) (deep m : Int) (Lb : Nat) (w : World)
   (IH : Hid (∀ t ∈ l, PartOk t)) (hpl : Hid (LT.plains l)) (hat : Hid (LT.ats w Lb l A2)) (hk2 : k ≠ 2)
   (hm0 : 0 ≤ m) (hm1 : m ≤ 4096) (hd : ¬ 24 < deep) (hd0 : 0 ≤ deep) (hn1 : bs.length ≤ 281474976710656) (hn2 : l.length ≤ 281474976710656) (hm2 : ¬ 4096 < m + (1 + (bs.length : Int))) (hk1 : 1 ≤ k) (hk8 : k ≤ 8)
   (hL : Hid (LookAt w Lb m)) (E G : Bool) (hE : Hid (bareEmpty k n re im s a b c bs.length l.length = E)) (hG : Hid (goodF k n re im s a b c bs.length l.length = G)) :
    Calls Tryd.prog 37 #[.pointer (some ⟨Lb, 0, none⟩), .agg #[.int .i64 k, .int .i64 n, .complex .f64 re im, .string s, .int .i64 a, .int .u32 b, .int .u64 c, .slice A1 bs.length c1, .slice A2 l.length c2], .int .i64 deep] w
      (PartR Lb w (partOut E G (m + (1 + bs.length)) l.length (partsF l (deep + 1) (m + (1 + bs.length))))) := by
  have hlt : Lb < w.heap.size := hL.out.lt
  have h0 : w.cell? ⟨Lb, 0, none⟩ = some (.int .i64 m) := hL.out.cell0
  have hf0 : w.frozen? ⟨Lb, 0, none⟩ = false := hL.out.frozen 0
  have hf := hL.out.bare hk1 hk8
  have hg := hL.out.good hk1 hk8
  have hcb := bare_enters hk1 hk8
  have hcg := good_enters hk1 hk8
  have hk1' : ¬ (k : Int) < 1 := by omega
  have hk8' : ¬ (8 : Int) < (k : Int) := by omega
  generalize hL1 : bs.length = n1 at *
  generalize hL2 : l.length = n2 at *
  have HL1 := Lib.hid hL1
  have HL2 := Lib.hid hL2
  have HK := Lib.hid (And.intro hk1 (And.intro hk8 hk2))
  clear hL1 hL2 hk1 hk8 hk2
  go_enter Tryd.func37, Tryd.ntmps37
  go_wp2
  go_region
  go_wp2
  go_region
  go_wp2_with fail
  refine (bare_any k HK.out.1 HK.out.2.1 _ _ _ _ _ _ _ _ _ _ _ _ _ _).mono ?_
  rintro e w1 ⟨k', n', re', im', s', a', b', c', B1, m1, d1, B2, m2, d2, rfl, hEm, hb⟩
  have hz1 : w.heap.size + 1 < w1.heap.size := by have := hb.size; simp at this; omega
  have hy1 : w.heap.size < w1.heap.size := by omega
  have HL := Lib.hid ((((hL.out.set (m + (1 + (n1 : Int)))).alloc (.cells #[.int .i64 k, .int .i64 n, .complex .f64 re im, .string s, .int .i64 a, .int .u32 b, .int .u64 c, .slice A1 n1 c1, .slice A2 n2 c2] 34)).alloc (.cells #[.func (.func (bareId k)) #[] #[], .func (.func (goodId k)) #[] #[]] 85)).drew.drew.below hb (by simp; omega))
  have hbl1 : Below Lb w w1 := by
    refine Below.trans ?_ (hb.mono (by simp; omega))
    repeat (first | exact Below.refl _ _ | refine Below.drew ?_ | refine Below.alloc ?_ (by simp; omega) _ | refine Below.setCell ?_ (by simp) _)
  have HB1 := Lib.hid hbl1
  obtain ⟨hc1, hf1⟩ := bcell hb
  clear hb hf1 hbl1
  go_wp2_with fail
  refine (empty_any _ _ _ _ _ _ _ _ _ _ _ _ _ _ _).mono ?_
  rintro e w2 ⟨rfl, hb2⟩
  have hz2 : w.heap.size + 1 < w2.heap.size := by have := hb2.size; omega
  have hy2 : w.heap.size < w2.heap.size := by omega
  have HL2' := Lib.hid (HL.out.below hb2 (by omega))
  have HB2 := Lib.hid (HB1.out.trans (hb2.mono (by omega)))
  obtain ⟨hc2, hf2⟩ := bcell hb2
  clear hb2 hf2 HL HB1
  have hEm' := hEm.trans hE.out
  clear hEm hE
  cases E with
  | false =>
    go_wp2
    go_ret
    exact ⟨rfl, HB2.out, HL2'.out⟩
  | true =>
    go_wp2_with fail
    refine (good_any k HK.out.1 HK.out.2.1 HK.out.2.2 _ _ _ _ _ _ _ _ _ _ _ _ _ _).mono ?_
    rintro e w3 ⟨rfl, hb3⟩
    have hz3 : w.heap.size + 1 < w3.heap.size := by have := hb3.size; omega
    have hy3 : w.heap.size < w3.heap.size := by omega
    have HL3 := Lib.hid (HL2'.out.below hb3 (by omega))
    have HB3 := Lib.hid (HB2.out.trans (hb3.mono (by omega)))
    obtain ⟨hc3, hf3⟩ := bcell hb3
    clear hb3 hf3 HL2' HB2
    have hG' := hG.out
    cases G with
    | false =>
      go_wp2
      go_ret
      exact ⟨rfl, HB3.out, HL3.out⟩
    | true =>
      by_cases hbig : 256 < n2
      · have hbig' : (256 : Int) < (n2 : Int) := by omega
        have HR := Lib.hid (show partOut true true (m + (1 + (n1 : Int))) n2 (partsF l (deep + 1) (m + (1 + (n1 : Int)))) = (25, m + (1 + (n1 : Int))) from by unfold partOut; simp [hbig])
        clear hbig
        go_wp2
        go_ret
        rw [HR.out]
        exact ⟨rfl, HB3.out, HL3.out⟩
      · have hbig' : ¬ (256 : Int) < (n2 : Int) := by omega
        have HR := Lib.hid (show partOut true true (m + (1 + (n1 : Int))) n2 (partsF l (deep + 1) (m + (1 + (n1 : Int)))) = partsF l (deep + 1) (m + (1 + (n1 : Int))) from by unfold partOut; simp [hbig])
        have HBIG := Lib.hid hbig
        have HM := Lib.hid (show 0 ≤ m + (1 + (n1 : Int)) ∧ m + (1 + (n1 : Int)) ≤ 4096 from ⟨by omega, by omega⟩)
        clear hbig
        go_wp2
        clear h0 hf0 hf hg hcb hcg hc1 hc2 hc3 hz1 hy1 hz2 hy2 hz3 hy3 hEm' hG' hL
        go_loopw [62] (fun i wr => ∃ (j : Nat) (mj : Int), j ≤ n2 ∧ i = .int .i64 j ∧ Hid (0 ≤ mj ∧ mj ≤ 4096 ∧ LookAt wr Lb mj ∧ Below Lb w wr ∧ partsF (l.drop j) (deep + 1) mj = partsF l (deep + 1) (m + (1 + (n1 : Int))))) (fun i _ => n2 - (intOf i).toNat)
        case atStart => exact ⟨0, _, Nat.zero_le _, rfl, Lib.hid ⟨HM.out.1, HM.out.2, HL3.out, HB3.out, rfl⟩⟩
        case round =>
          obtain ⟨j, mj, hj, rfl, hr⟩ := hrel
          by_cases hlt2 : j < n2
          · obtain ⟨t, ht⟩ : ∃ t, l[j]? = some t := ⟨l[j]'(by rw [HL2.out]; exact hlt2), List.getElem?_eq_getElem _⟩
            have IHt := IH.out t (List.mem_of_getElem? ht)
            have hplt := plains_get l hpl.out j t ht
            have hdrop := Lib.hid (partsF_drop l (deep + 1) mj j t ht _ hr.out.2.2.2.2)
            obtain ⟨blk, off, vs, rfl, hblk, h9, hcl, hatt⟩ := ats_get l A2 hat.out j t ht
            have hcl' : ∀ i v, vs[i]? = some v → wr.cell? ⟨blk, off + j * 9 + i, none⟩ = some v := fun i v hv => by rw [hr.out.2.2.2.1.cell (p := ⟨blk, _, none⟩) hblk]; exact hcl i v hv
            obtain ⟨kk, nn, rre, iim, ss, aa, bb, cc, bbs, ll⟩ := t
            have hatt0 := Lib.hid hatt
            unfold LT.at at hatt
            obtain ⟨D1, e1, D2, e2, hvs, hb1, hb2, hb3⟩ := hatt
            subst hvs
            have g0 : wr.cell? ⟨blk, off + j * 9, none⟩ = some (.int .i64 kk) := hcl' 0 _ rfl
            have g1 : wr.cell? ⟨blk, off + j * 9 + 1, none⟩ = some (.int .i64 nn) := hcl' 1 _ rfl
            have g2 : wr.cell? ⟨blk, off + j * 9 + 2, none⟩ = some (.complex .f64 rre iim) := hcl' 2 _ rfl
            have g3 : wr.cell? ⟨blk, off + j * 9 + 3, none⟩ = some (.string ss) := hcl' 3 _ rfl
            have g4 : wr.cell? ⟨blk, off + j * 9 + 4, none⟩ = some (.int .i64 aa) := hcl' 4 _ rfl
            have g5 : wr.cell? ⟨blk, off + j * 9 + 5, none⟩ = some (.int .u32 bb) := hcl' 5 _ rfl
            have g6 : wr.cell? ⟨blk, off + j * 9 + 6, none⟩ = some (.int .u64 cc) := hcl' 6 _ rfl
            have g7 : wr.cell? ⟨blk, off + j * 9 + 7, none⟩ = some (.slice D1 bbs.length e1) := hcl' 7 _ rfl
            have g8 : wr.cell? ⟨blk, off + j * 9 + 8, none⟩ = some (.slice D2 ll.length e2) := hcl' 8 _ rfl
            have HLT := Lib.hid hlt2
            have HT := Lib.hid ht
            have HPL := Lib.hid hplt
            have IHT := Lib.hid IHt
            clear hcl hcl' hb1 hb2 hb3 h9 ht hplt IHt
            go_wp2_with fail
            refine (IHT.out (tcells kk nn rre iim ss aa bb cc D1 bbs.length e1 D2 ll.length e2) (deep + 1) mj Lb _ HPL.out
              (at_stays (fun x hx => (Below.cell ((Below.refl wr.heap.size wr).alloc (Nat.le_refl _) _) (Nat.lt_trans hx hr.out.2.2.1.lt))) _ _ (at_stays (fun x hx => hr.out.2.2.2.1.cell hx) _ _ hatt0.out))
              hr.out.1 hr.out.2.1 (by omega) (by omega) (hr.out.2.2.1.alloc _)).mono ?_
            rintro e w4 ⟨rfl, hb4, hL4⟩
            have hle := partF_le (.mk kk nn rre iim ss aa bb cc bbs ll) (deep + 1) mj hr.out.1 hr.out.2.1
            generalize hpf : partF (.mk kk nn rre iim ss aa bb cc bbs ll) (deep + 1) mj = r at *
            obtain ⟨ev, mv⟩ := r
            have HB4 := Lib.hid (hr.out.2.2.2.1.trans (Below.trans ((Below.refl Lb wr).alloc (Nat.le_of_lt hr.out.2.2.1.lt) _) hb4))
            have HL4 := Lib.hid hL4
            have HLE := Lib.hid hle
            have HR0 := Lib.hid hr.out.1
            clear hpf hb4 hL4 hle g0 g1 g2 g3 g4 g5 g6 g7 g8 hr
            by_cases hev : ev = 0
            · subst hev
              have hlt2 := HLT.out
              go_wp2
              go_roundw
              case rel => exact ⟨j + 1, mv, by omega, by go_num, Lib.hid ⟨Int.le_trans HR0.out HLE.out.1, HLE.out.2 (by simp), HL4.out, HB4.out, by have := hdrop.out; simpa using this⟩⟩
              case measure => simp [intOf]; omega
            · have hev' : (ev != 0) = true := by simpa using hev
              have HEV := Lib.hid hev
              clear hev
              go_wp2
              go_ret
              rw [HR.out, ← hdrop.out]
              simp only [HEV.out, if_false]
              exact ⟨rfl, HB4.out, HL4.out⟩
          · have hjn : j = n2 := by omega
            subst hjn
            go_wp2
            go_ret
            have hr' := hr.out
            rw [List.drop_of_length_le (by rw [HL2.out]; exact Nat.le_refl _)] at hr'
            rw [HR.out, ← hr'.2.2.2.2]
            unfold partsF
            exact ⟨rfl, hr'.2.2.2.1, hr'.2.2.1⟩

theorem part_step (k n : Int) (re im : Nat) (s : ByteArray) (a b c : Int) (bs : List UInt8) (l : List LT) (IH : ∀ t ∈ l, PartOk t) : PartOk (.mk k n re im s a b c bs l) := by
  intro vs deep m Lb w hpl hat hm0 hm1 hd0 hd1 hL
  unfold LT.plain at hpl
  unfold LT.at at hat
  obtain ⟨A1, c1, A2, c2, rfl, hb, hl, hs⟩ := hat
  have hIH := Lib.hid IH
  have HS := Lib.hid hs
  have HL := Lib.hid hL
  have HP := Lib.hid hpl
  clear IH hs hL hpl
  by_cases hd : 24 < deep
  · have HR := Lib.hid (show partF (.mk k n re im s a b c bs l) deep m = (20, m) from by unfold partF; simp [hd])
    have hlt := HL.out.lt
    have hn1 := hb.1
    clear hb hIH HP HS
    go_enter Tryd.func37, Tryd.ntmps37
    go_wp2
    go_ret
    rw [HR.out]
    exact ⟨rfl, (Below.refl _ _).alloc (Nat.le_of_lt hlt) _, HL.out.alloc _⟩
  by_cases hm2 : 4096 < m + (1 + (bs.length : Int))
  · have HR := Lib.hid (show partF (.mk k n re im s a b c bs l) deep m = (21, m + (1 + (bs.length : Int))) from by unfold partF; simp [hd, hm2])
    have hlt := HL.out.lt
    have hn1 := hb.1
    have h0 : w.cell? ⟨Lb, 0, none⟩ = some (.int .i64 m) := HL.out.cell0
    have hf0 : w.frozen? ⟨Lb, 0, none⟩ = false := HL.out.frozen 0
    clear hb hIH HP HS
    go_enter Tryd.func37, Tryd.ntmps37
    go_wp2
    go_region
    go_wp2
    go_ret
    rw [HR.out]
    refine ⟨rfl, ?_, ((HL.out.set _).alloc _).drew⟩
    repeat (first | exact Below.refl _ _ | refine Below.drew ?_ | refine Below.alloc ?_ (by simp; omega) _ | refine Below.setCell ?_ (by simp) _)
  by_cases hk : k < 1 ∨ 8 < k
  · have HR := Lib.hid (show partF (.mk k n re im s a b c bs l) deep m = (22, m + (1 + (bs.length : Int))) from by unfold partF; simp [hd, hm2, hk])
    have hlt := HL.out.lt
    have hn1 := hb.1
    have h0 : w.cell? ⟨Lb, 0, none⟩ = some (.int .i64 m) := HL.out.cell0
    have hf0 : w.frozen? ⟨Lb, 0, none⟩ = false := HL.out.frozen 0
    clear hb hIH HP HS
    rcases hk with hk | hk
    all_goals
      go_enter Tryd.func37, Tryd.ntmps37
      go_wp2
      go_region
      go_wp2
      go_ret
      rw [HR.out]
      refine ⟨rfl, ?_, ((HL.out.set _).alloc _).drew⟩
      repeat (first | exact Below.refl _ _ | refine Below.drew ?_ | refine Below.alloc ?_ (by simp; omega) _ | refine Below.setCell ?_ (by simp) _)
  obtain ⟨k, rfl⟩ := Int.eq_ofNat_of_zero_le (show 0 ≤ k by omega)
  have e : partF (.mk k n re im s a b c bs l) deep m = partOut (bareEmpty k n re im s a b c bs.length l.length) (goodF k n re im s a b c bs.length l.length) (m + (1 + bs.length)) l.length (partsF l (deep + 1) (m + (1 + bs.length))) := by
    unfold partF partOut; rw [if_neg hd, if_neg hm2, if_neg hk]
  rw [e]
  exact part_main k n re im s a b c bs l A1 A2 c1 c2 deep m Lb w hIH (Lib.hid HP.out.2) HS (by have := HP.out.1; omega) hm0 hm1 hd hd0 hb.1 hl hm2 (by omega) (by omega) HL _ _ (Lib.hid rfl) (Lib.hid rfl)

mutual
theorem part_ok : ∀ t : LT, PartOk t
  | .mk k n re im s a b c bs l => part_step k n re im s a b c bs l (parts_ok l)
theorem parts_ok : ∀ (l : List LT), ∀ t ∈ l, PartOk t
  | [], t, h => by cases h
  | t0 :: r, t, h => by
    rcases List.mem_cons.1 h with e | h
    · rw [e]; exact part_ok t0
    · exact parts_ok r t h
end

end Go.Proofs.YtpffmndfanknaaaDoor
