/- Whether ints fit a tuple or list of variables. -/
import Derived.Test.YtgahfmnkkaacgaaFitW
namespace Go.Proofs.Ytgahfmnkkaacgaa
set_option linter.unusedVariables false
set_option linter.unusedSimpArgs false
open Go.RowKit

set_option maxRecDepth 100000 in
set_option maxHeartbeats 8000000 in
theorem fits6 (ps : List Pr) (P T : Option Addr) (A1 : Option Addr) (c1 cP : Nat) (B1 : Option Addr) (d1 cT : Nat) (mb : Nat) (base : List (ByteArray × Value)) (Lo : Nat) (w : World)
    (hlen : ps.length ≤ 256) (hat : Hid (PairsAt w Lo ps P T)) (hm : Hid (MapAt w mb base)) (hLo : Lo ≤ mb) (hLw : Lo ≤ w.heap.size) (hbase : Hid (∀ p ∈ ps, mlook base p.s = none)) (hint : Hid (∀ p ∈ ps, intOk p.x)) :
    Calls Try.prog 17 #[.agg #[.int .i64 6, .int .i64 0, .complex .f64 0 0, .string ⟨#[]⟩, .int .i64 0, .int .u32 0, .int .u64 0, .slice A1 0 c1, .slice P ps.length cP], .agg #[.int .i64 6, .int .i64 0, .complex .f64 0 0, .string ⟨#[]⟩, .int .i64 0, .int .u32 0, .int .u64 0, .slice B1 0 d1, .slice T ps.length cT], .map (some mb)] w (FitR w Lo mb base (fitS ps [])) := by
  generalize hn : ps.length = n at *
  generalize hR : fitS ps [] = R
  have HN := Lib.hid hn
  have HR := Lib.hid hR
  have hmb := hm.out.lt
  have HLO := Lib.hid (And.intro hLo hLw)
  clear hn hR hLo hLw
  go_enter Try.func17, Try.ntmps17
  go_wp2
  go_step3
  go_wp2
  go_step3
  go_wp2
  generalize (Value.agg #[.int .i64 6, .int .i64 0, .complex .f64 0 0, .string ⟨#[]⟩, .int .i64 0, .int .u32 0, .int .u64 0, .slice A1 0 c1, .slice P n cP]) = pv
  generalize (Value.agg #[.int .i64 6, .int .i64 0, .complex .f64 0 0, .string ⟨#[]⟩, .int .i64 0, .int .u32 0, .int .u64 0, .slice B1 0 d1, .slice T n cT]) = tv
  go_loopg [7] (n + 2) (fun k v wr => ∃ A len cap, v = .slice A len cap ∧ mb < wr.heap.size ∧ Hid (
      (k = n + 2 ∧ len = 1 ∧ wr.ownsRow (w.heap.size + 2) 70 18 v 1 (topC 6 A1 c1 P n cP B1 d1 T cT) ∧ MapAt wr mb base ∧ w.grownBy wr (some mb))
      ∨ ∃ rest ents, k = rest.length + 1 ∧ len = rest.length ∧ FitSt ps mb base Lo (w.heap.size + 2) w wr v rest ents))
  case atStart =>
    refine ⟨_, _, _, rfl, by simp; omega, Lib.hid (.inl ⟨rfl, rfl, ?_, ?_, ?_⟩)⟩
    · exact own_new rfl (by simp) (heap_alloc_three _ _ _ _) rfl rfl (by unfold maxLen; omega)
    · exact ((hm.out.alloc _).alloc _).alloc _
    · exact gb_alloc (gb_alloc (gb_alloc (World.grownBy.refl w _) _) _) _
  case round =>
    obtain ⟨A, len, cap, rfl, hmbr, hr⟩ := hrel
    rcases hr.out with ⟨hk, rfl, hown, hmap, hbel⟩ | ⟨rest, ents, hk, rfl, hst⟩
    · obtain ⟨A', c', hv, hA1, hA2⟩ := own_shape hown
      cases hv
      have hA0 : A ≠ none := fun h => by have := (hA1 h).1; omega
      obtain ⟨ad, rfl⟩ := Option.ne_none_iff_exists'.1 hA0
      obtain ⟨g, rfl, hg1, hg2, hgc⟩ := hA2 ad rfl
      have HGC := Lib.hid hgc
      have HOWN := Lib.hid hown
      have HMAP := Lib.hid hmap
      have HBEL := Lib.hid hbel
      have HK := Lib.hid hk
      have HG := Lib.hid (And.intro hg1 hg2)
      clear hown hmap hbel hA1 hA2 hA0 hgc hr hk hg1 hg2
      go_wp2_with (first | (refine load_to rfl 70 _ rfl (some 24) rfl g 0 rfl [.int .i64 6, .int .i64 0, .complex .f64 0 0, .string ⟨#[]⟩, .int .i64 0, .int .u32 0, .int .u64 0, .slice A1 0 c1, .slice P n cP, .int .i64 6, .int .i64 0, .complex .f64 0 0, .string ⟨#[]⟩, .int .i64 0, .int .u32 0, .int .u64 0, .slice B1 0 d1, .slice T n cT] _ (fun j v hv => by rw [Nat.zero_add]; exact HGC.out j v hv) Try.underlying70 rfl (by kernel_rfl) ?_) | (refine store_new rfl 70 _ _ rfl rfl wr #[.int .i64 6, .int .i64 0, .complex .f64 0 0, .string ⟨#[]⟩, .int .i64 0, .int .u32 0, .int .u64 0, .slice A1 0 c1, .slice P n cP, .int .i64 6, .int .i64 0, .complex .f64 0 0, .string ⟨#[]⟩, .int .i64 0, .int .u32 0, .int .u64 0, .slice B1 0 d1, .slice T n cT] _ 70 rfl rfl (by kernel_rfl) rfl (by kernel_rfl) ?_))
      rename World => w0
      go_loopg [11, 7] n (fun k vi vt wr => ∃ A cap, k ≤ n ∧ vi = .int .i64 ((k : Int) - 1) ∧ vt = .slice A (n - k) cap ∧ mb < wr.heap.size ∧ w0.heap.size < wr.heap.size ∧ Hid (
        wr.ownsRow (w.heap.size + 2) 70 18 (.slice A (n - k) cap) (n - k) (stk (ps.drop k)) ∧ vt.ownBlock ≠ some w0.heap.size ∧ MapAt wr mb base ∧ w.grownBy wr (some mb) ∧
        wr.heap[w0.heap.size]? = some (.cells #[.int .i64 6, .int .i64 0, .complex .f64 0 0, .string ⟨#[]⟩, .int .i64 0, .int .u32 0, .int .u64 0, .slice A1 0 c1, .slice P n cP, .int .i64 6, .int .i64 0, .complex .f64 0 0, .string ⟨#[]⟩, .int .i64 0, .int .u32 0, .int .u64 0, .slice B1 0 d1, .slice T n cT] 70 (0, 0))))
      case atStart =>
        refine ⟨_, _, Nat.le_refl _, rfl, (by rw [Nat.sub_self]), by simp; omega, by simp, Lib.hid ⟨?_, ?_, HMAP.out.alloc _, gb_alloc HBEL.out _, heap_alloc_last _ _⟩⟩
        · rw [Nat.sub_self, List.drop_eq_nil_of_le (by rw [HN.out]; exact Nat.le_refl _)]
          exact (ownsRow_pop (xs := []) rfl HOWN.out).alloc _
        · have := HG.out
          simp [Value.ownBlock]; omega
      case round =>
        obtain ⟨A', cap', hkn, rfl, rfl, hmbr, hwri, hri⟩ := hrel
        obtain ⟨hown, hobl, hmap, hbel, hbox⟩ := hri.out
        have bcell := fun i => cell_of_row wr w0.heap.size i _ _ _ hbox
        have b8 : wr.cell? ⟨w0.heap.size, 8, none⟩ = some (.slice P n cP) := bcell 8
        have b17 : wr.cell? ⟨w0.heap.size, 17, none⟩ = some (.slice T n cT) := bcell 17
        clear bcell hown hobl hmap hbel hbox
        rcases Nat.eq_zero_or_pos gk with rfl | hgk
        · go_wp2
          have hd := HK.out
          go_roundg (n + 1)
          case measure => omega
          case rel =>
            refine ⟨A', n, cap', rfl, hmbr, Lib.hid (.inr ⟨ps, [], by rw [HN.out], by rw [HN.out], ?_⟩)⟩
            obtain ⟨hown, _, hmap, hbel, _⟩ := hri.out
            refine ⟨fun _ h => h, by rw [HN.out]; omega, by rw [HN.out]; exact hown, by simpa using hmap, hbel, rfl, by simp⟩
        · obtain ⟨j, rfl⟩ : ∃ j, gk = j + 1 := ⟨gk - 1, by omega⟩
          obtain ⟨p, hp⟩ : ∃ p, ps[j]? = some p := ⟨ps[j]'(by have := HN.out; omega), List.getElem?_eq_getElem _⟩
          have hat1 := pairs_stay (fun a ha => (gb_to hri.out.2.2.2.1 HLO.out.1 HLO.out.2).cell ha) hat.out
          rcases hat1 with rfl | ⟨pb, po, tb, to_, rfl, rfl, hpb, htb, hall⟩
          · simp at hp
          obtain ⟨hv, hi⟩ := hall _ _ hp
          obtain ⟨s, ⟨V1, v1, V2, v2⟩, x, I1, i1, I2, i2⟩ := p
          have hjv : ((j + 1 : Nat) : Int) - 1 = (j : Int) := by omega
          have hj0 : (0 : Int) ≤ (j : Int) := by omega
          have hj1 : (j : Int) < (n : Int) := by omega
          simp only [hjv]
          have cv0 : wr.cell? ⟨pb, po + j * 9, none⟩ = some (.int .i64 9) := hv 0 _ rfl
          have cv1 : wr.cell? ⟨pb, po + j * 9 + 1, none⟩ = some (.int .i64 0) := hv 1 _ rfl
          have cv2 : wr.cell? ⟨pb, po + j * 9 + 2, none⟩ = some (.complex .f64 0 0) := hv 2 _ rfl
          have cv3 : wr.cell? ⟨pb, po + j * 9 + 3, none⟩ = some (.string s) := hv 3 _ rfl
          have cv4 : wr.cell? ⟨pb, po + j * 9 + 4, none⟩ = some (.int .i64 0) := hv 4 _ rfl
          have cv5 : wr.cell? ⟨pb, po + j * 9 + 5, none⟩ = some (.int .u32 0) := hv 5 _ rfl
          have cv6 : wr.cell? ⟨pb, po + j * 9 + 6, none⟩ = some (.int .u64 0) := hv 6 _ rfl
          have cv7 : wr.cell? ⟨pb, po + j * 9 + 7, none⟩ = some (.slice V1 0 v1) := hv 7 _ rfl
          have cv8 : wr.cell? ⟨pb, po + j * 9 + 8, none⟩ = some (.slice V2 0 v2) := hv 8 _ rfl
          have ci0 : wr.cell? ⟨tb, to_ + j * 9, none⟩ = some (.int .i64 1) := hi 0 _ rfl
          have ci1 : wr.cell? ⟨tb, to_ + j * 9 + 1, none⟩ = some (.int .i64 x) := hi 1 _ rfl
          have ci2 : wr.cell? ⟨tb, to_ + j * 9 + 2, none⟩ = some (.complex .f64 0 0) := hi 2 _ rfl
          have ci3 : wr.cell? ⟨tb, to_ + j * 9 + 3, none⟩ = some (.string ⟨#[]⟩) := hi 3 _ rfl
          have ci4 : wr.cell? ⟨tb, to_ + j * 9 + 4, none⟩ = some (.int .i64 0) := hi 4 _ rfl
          have ci5 : wr.cell? ⟨tb, to_ + j * 9 + 5, none⟩ = some (.int .u32 0) := hi 5 _ rfl
          have ci6 : wr.cell? ⟨tb, to_ + j * 9 + 6, none⟩ = some (.int .u64 0) := hi 6 _ rfl
          have ci7 : wr.cell? ⟨tb, to_ + j * 9 + 7, none⟩ = some (.slice I1 0 i1) := hi 7 _ rfl
          have ci8 : wr.cell? ⟨tb, to_ + j * 9 + 8, none⟩ = some (.slice I2 0 i2) := hi 8 _ rfl
          have hfar : ∀ (W' : World), ((wr.drew).alloc (.cells #[.int .i64 9, .int .i64 0, .complex .f64 0 0, .string s, .int .i64 0, .int .u32 0, .int .u64 0, .slice V1 0 v1, .slice V2 0 v2, .int .i64 1, .int .i64 x, .complex .f64 0 0, .string ⟨#[]⟩, .int .i64 0, .int .u32 0, .int .u64 0, .slice I1 0 i1, .slice I2 0 i2] 70)).grownBy W' (Value.slice A' (n - (j + 1)) cap').ownBlock → ∀ (a : Addr) (u : Value), wr.cell? a = some u → (a.block < Lo ∨ a.block = w0.heap.size) → W'.cell? a = some u := by
            intro W' hg a u hu ha
            have hlt := World.block_lt_of_cell? wr a hu
            rw [hg.cell_far a (by simp; omega) (fun e => by
              rcases ha with ha | ha
              · have hb := (hri.out.1.lt _ e.symm).1
                have := HLO.out
                omega
              · rw [ha] at e; exact hri.out.2.1 e.symm)]
            rw [World.cell?_alloc_lt _ _ _ (by simpa using hlt)]
            exact hu
          have hS := fun (W' : World) (hg : ((wr.drew).alloc (.cells #[.int .i64 9, .int .i64 0, .complex .f64 0 0, .string s, .int .i64 0, .int .u32 0, .int .u64 0, .slice V1 0 v1, .slice V2 0 v2, .int .i64 1, .int .i64 x, .complex .f64 0 0, .string ⟨#[]⟩, .int .i64 0, .int .u32 0, .int .u64 0, .slice I1 0 i1, .slice I2 0 i2] 70)).grownBy W' (Value.slice A' (n - (j + 1)) cap').ownBlock) => (show W'.cell? ⟨w0.heap.size, 8, none⟩ = some (.slice (some ⟨pb, po, none⟩) n cP) ∧ W'.cell? ⟨w0.heap.size, 17, none⟩ = some (.slice (some ⟨tb, to_, none⟩) n cT) ∧ W'.cell? ⟨pb, po + j * 9, none⟩ = some (.int .i64 9) ∧ W'.cell? ⟨pb, po + j * 9 + 1, none⟩ = some (.int .i64 0) ∧ W'.cell? ⟨pb, po + j * 9 + 2, none⟩ = some (.complex .f64 0 0) ∧ W'.cell? ⟨pb, po + j * 9 + 3, none⟩ = some (.string s) ∧ W'.cell? ⟨pb, po + j * 9 + 4, none⟩ = some (.int .i64 0) ∧ W'.cell? ⟨pb, po + j * 9 + 5, none⟩ = some (.int .u32 0) ∧ W'.cell? ⟨pb, po + j * 9 + 6, none⟩ = some (.int .u64 0) ∧ W'.cell? ⟨pb, po + j * 9 + 7, none⟩ = some (.slice V1 0 v1) ∧ W'.cell? ⟨pb, po + j * 9 + 8, none⟩ = some (.slice V2 0 v2) ∧ W'.cell? ⟨tb, to_ + j * 9, none⟩ = some (.int .i64 1) ∧ W'.cell? ⟨tb, to_ + j * 9 + 1, none⟩ = some (.int .i64 x) ∧ W'.cell? ⟨tb, to_ + j * 9 + 2, none⟩ = some (.complex .f64 0 0) ∧ W'.cell? ⟨tb, to_ + j * 9 + 3, none⟩ = some (.string ⟨#[]⟩) ∧ W'.cell? ⟨tb, to_ + j * 9 + 4, none⟩ = some (.int .i64 0) ∧ W'.cell? ⟨tb, to_ + j * 9 + 5, none⟩ = some (.int .u32 0) ∧ W'.cell? ⟨tb, to_ + j * 9 + 6, none⟩ = some (.int .u64 0) ∧ W'.cell? ⟨tb, to_ + j * 9 + 7, none⟩ = some (.slice I1 0 i1) ∧ W'.cell? ⟨tb, to_ + j * 9 + 8, none⟩ = some (.slice I2 0 i2) from ⟨hfar W' hg _ _ b8 (.inr rfl), hfar W' hg _ _ b17 (.inr rfl), hfar W' hg _ _ cv0 (.inl hpb), hfar W' hg _ _ cv1 (.inl hpb), hfar W' hg _ _ cv2 (.inl hpb), hfar W' hg _ _ cv3 (.inl hpb), hfar W' hg _ _ cv4 (.inl hpb), hfar W' hg _ _ cv5 (.inl hpb), hfar W' hg _ _ cv6 (.inl hpb), hfar W' hg _ _ cv7 (.inl hpb), hfar W' hg _ _ cv8 (.inl hpb), hfar W' hg _ _ ci0 (.inl htb), hfar W' hg _ _ ci1 (.inl htb), hfar W' hg _ _ ci2 (.inl htb), hfar W' hg _ _ ci3 (.inl htb), hfar W' hg _ _ ci4 (.inl htb), hfar W' hg _ _ ci5 (.inl htb), hfar W' hg _ _ ci6 (.inl htb), hfar W' hg _ _ ci7 (.inl htb), hfar W' hg _ _ ci8 (.inl htb)⟩)
          have hws : w.heap.size + 2 ≤ wr.heap.size := by have := HG.out; omega
          have HP := Lib.hid hp
          have HPT := Lib.hid (And.intro hpb htb)
          have HS := Lib.hid hS
          clear hv hi hall hp hpb htb hS hfar
          obtain ⟨i0, hi0, hz0, hz1, hz2⟩ := info_parts infoPair
          go_wp2
          go_region_held3 (fun W => W.cell? ⟨w0.heap.size, 8, none⟩ = some (.slice (some ⟨pb, po, none⟩) n cP) ∧ W.cell? ⟨w0.heap.size, 17, none⟩ = some (.slice (some ⟨tb, to_, none⟩) n cT) ∧ W.cell? ⟨pb, po + j * 9, none⟩ = some (.int .i64 9) ∧ W.cell? ⟨pb, po + j * 9 + 1, none⟩ = some (.int .i64 0) ∧ W.cell? ⟨pb, po + j * 9 + 2, none⟩ = some (.complex .f64 0 0) ∧ W.cell? ⟨pb, po + j * 9 + 3, none⟩ = some (.string s) ∧ W.cell? ⟨pb, po + j * 9 + 4, none⟩ = some (.int .i64 0) ∧ W.cell? ⟨pb, po + j * 9 + 5, none⟩ = some (.int .u32 0) ∧ W.cell? ⟨pb, po + j * 9 + 6, none⟩ = some (.int .u64 0) ∧ W.cell? ⟨pb, po + j * 9 + 7, none⟩ = some (.slice V1 0 v1) ∧ W.cell? ⟨pb, po + j * 9 + 8, none⟩ = some (.slice V2 0 v2) ∧ W.cell? ⟨tb, to_ + j * 9, none⟩ = some (.int .i64 1) ∧ W.cell? ⟨tb, to_ + j * 9 + 1, none⟩ = some (.int .i64 x) ∧ W.cell? ⟨tb, to_ + j * 9 + 2, none⟩ = some (.complex .f64 0 0) ∧ W.cell? ⟨tb, to_ + j * 9 + 3, none⟩ = some (.string ⟨#[]⟩) ∧ W.cell? ⟨tb, to_ + j * 9 + 4, none⟩ = some (.int .i64 0) ∧ W.cell? ⟨tb, to_ + j * 9 + 5, none⟩ = some (.int .u32 0) ∧ W.cell? ⟨tb, to_ + j * 9 + 6, none⟩ = some (.int .u64 0) ∧ W.cell? ⟨tb, to_ + j * 9 + 7, none⟩ = some (.slice I1 0 i1) ∧ W.cell? ⟨tb, to_ + j * 9 + 8, none⟩ = some (.slice I2 0 i2)) (first | assumption | go_keep) (first | (refine step_app rfl _ _ 71 rfl (w.heap.size + 2) 70 i0 _ 18 240 Try.underlying71 hi0 hz0 hz1 hz2 rfl (by decide) (.slice A' (n - (j + 1)) cap') (n - (j + 1)) (stk (ps.drop (j + 1))) rfl ((hri.out.1).drew.alloc _) ⟨wr.heap.size, 0, none⟩ 1 1 [.int .i64 9, .int .i64 0, .complex .f64 0 0, .string s, .int .i64 0, .int .u32 0, .int .u64 0, .slice V1 0 v1, .slice V2 0 v2, .int .i64 1, .int .i64 x, .complex .f64 0 0, .string ⟨#[]⟩, .int .i64 0, .int .u32 0, .int .u64 0, .slice I1 0 i1, .slice I2 0 i2] rfl rfl (fun i u hu => by rw [Addr.add_mid]; exact row_cells (heap_alloc_last wr.drew _) (o := 0) (fun _ _ h => by simpa using h) i u hu) (by simp [Value.oneCell']) (by unfold maxLen; omega) (by omega) (by simp; omega) ?_; intro v' w' hown' hgrow'; have hkeep := HS.out w' hgrow'; obtain ⟨A'', c'', rfl, hA', hA''⟩ := own_shape hown'; have HO := Lib.hid hown'; have HGW := Lib.hid hgrow'; clear hown' hgrow' hA' hA''))
          go_wp2
          have hnj : n - (j + 1) + 1 = n - j := by omega
          have hdrop : ps.drop j = ⟨s, (V1, v1, V2, v2), x, (I1, i1, I2, i2)⟩ :: ps.drop (j + 1) := by
            have hlt : j < ps.length := by rw [HN.out]; omega
            rw [List.drop_eq_getElem_cons hlt]
            have := HP.out
            rw [List.getElem?_eq_getElem hlt] at this
            rw [Option.some.inj this]
          go_roundg j
          case measure => omega
          case rel =>
            have hb1 : w.grownBy w' (some mb) := by
              refine gb_grown (gb_drew (gb_alloc hri.out.2.2.2.1 _)) HGW.out (fun k hk => ?_)
              have := (hri.out.1.lt _ hk).1
              omega
            have hrow : w'.heap[w0.heap.size]? = some (.cells #[.int .i64 6, .int .i64 0, .complex .f64 0 0, .string ⟨#[]⟩, .int .i64 0, .int .u32 0, .int .u64 0, .slice A1 0 c1, .slice (some ⟨pb, po, none⟩) n cP, .int .i64 6, .int .i64 0, .complex .f64 0 0, .string ⟨#[]⟩, .int .i64 0, .int .u32 0, .int .u64 0, .slice B1 0 d1, .slice (some ⟨tb, to_, none⟩) n cT] 70 (0, 0)) := by
              rw [HGW.out.block w0.heap.size (by simp; omega) (fun e => hri.out.2.1 e.symm)]
              show (wr.alloc _).heap[w0.heap.size]? = _
              rw [Below.heap_alloc _ _ _ (by simpa using hwri)]
              exact hri.out.2.2.2.2
            have hmap : MapAt w' mb base := by
              refine MapAt.stays (w := (wr.drew).alloc (.cells #[.int .i64 9, .int .i64 0, .complex .f64 0 0, .string s, .int .i64 0, .int .u32 0, .int .u64 0, .slice V1 0 v1, .slice V2 0 v2, .int .i64 1, .int .i64 x, .complex .f64 0 0, .string ⟨#[]⟩, .int .i64 0, .int .u32 0, .int .u64 0, .slice I1 0 i1, .slice I2 0 i2] 70)) ((hri.out.2.2.1).drew.alloc _) (HGW.out.block mb (by simp; omega) (fun e => ?_))
              have := (hri.out.1.lt _ e.symm).1
              omega
            have hsz : wr.heap.size ≤ w'.heap.size := by have := HGW.out.size; simp at this; omega
            have hO := HO.out
            rw [hnj] at hO
            refine ⟨A'', c'', by omega, by go_num, by rw [hnj], by omega, by omega, Lib.hid ⟨?_, ?_, hmap, hb1, hrow⟩⟩
            · rw [hdrop]
              exact hO
            · rw [hnj]
              refine own_ne_at hO hrow (x := .int .i64 9) (y := .int .i64 6) ?_ rfl (by simp)
              by_cases hl : ps.drop (j + 1) = []
              · rw [hl]; rfl
              · rw [List.getElem?_append_left (by rw [stk_len]; have := List.length_pos_iff.2 hl; omega)]
                exact stk_head _ hl
    · have HST := Lib.hid hst
      have HK := Lib.hid hk
      clear hst hk hr
      rcases rest with _ | ⟨⟨s, ⟨V1, v1, V2, v2⟩, x, I1, i1, I2, i2⟩, rest⟩
      · go_wp2
        rw [Exit.noGoto_ret]
        go_ret
        have hfit : R = (true, ents) := by rw [← HR.out, ← HST.out.fit]; rfl
        rw [hfit]
        exact ⟨rfl, HST.out.below, fun _ => HST.out.map⟩
      · have hown := HST.out.own
        rcases hown.2 with ⟨hv, _⟩ | ⟨g, cap', cur, hv, hg1, hh, hnc, _, _, _⟩
        · simp at hv
        simp only [Value.slice.injEq] at hv
        obtain ⟨rfl, _, rfl⟩ := hv
        have hg2 : g < wr.heap.size := (Array.getElem?_eq_some_iff.1 hh).1
        have hcells : ∀ j u, (stk (⟨s, (V1, v1, V2, v2), x, (I1, i1, I2, i2)⟩ :: rest))[j]? = some u → wr.cell? ⟨g, j, none⟩ = some u := fun j u hu => by
          have := World.ownsRow.cells (g := g) hown rfl j u hu
          rwa [Addr.add_lit, Nat.zero_add] at this
        have hlen0 := HST.out.len
        simp only [List.length_cons] at *
        generalize hm0 : rest.length = m at *
        have hm256 : m + 1 ≤ 256 := hlen0
        have HC := Lib.hid (show ∀ j u, ([.int .i64 9, .int .i64 0, .complex .f64 0 0, .string s, .int .i64 0, .int .u32 0, .int .u64 0, .slice V1 0 v1, .slice V2 0 v2, .int .i64 1, .int .i64 x, .complex .f64 0 0, .string ⟨#[]⟩, .int .i64 0, .int .u32 0, .int .u64 0, .slice I1 0 i1, .slice I2 0 i2] : List Value)[j]? = some u → wr.cell? ⟨g, m * 18 + j, none⟩ = some u from fun j u hu => by
          rw [← hm0]; exact hcells _ _ (stk_top _ _ _ _ hu))
        have hmv : ((m + 1 : Nat) : Int) - 1 = (m : Int) := by omega
        have HM0 := Lib.hid hm0
        have HOWN := Lib.hid hown
        have HG := Lib.hid (And.intro hg1 hg2)
        have hmap := HST.out.map
        have hbn : mlook base s = none := hbase.out _ (HST.out.sub _ (List.mem_cons_self ..))
        clear hown hh hcells hm0 hg1 hg2
        generalize hLs : base ++ ents.map entV = Ls at hmap
        have HLs := Lib.hid hLs
        rcases hfe : findE ents s with _ | ⟨y, J1, j1, J2, j2⟩
        · have hnone : mlook Ls s = none := by rw [← hLs, mlook_both hbn, hfe]; rfl
          have hlook : ∀ W, MapAt W mb Ls → (Instr.lookup 50 (.map (some mb)) (.string s) true).run Try.prog W = .ok (.tuple #[.agg #[.int .i64 0, .int .i64 0, .complex .f64 0 0, .string ⟨#[]⟩, .int .i64 0, .int .u32 0, .int .u64 0, .slice none 0 0, .slice none 0 0], .bool false]) W := fun W hW => by
            rw [run_look Try.underlying50 Try.underlying9 (z := .agg #[.int .i64 0, .int .i64 0, .complex .f64 0 0, .string ⟨#[]⟩, .int .i64 0, .int .u32 0, .int .u64 0, .slice none 0 0, .slice none 0 0]) (by kernel_rfl) hW s true, hnone]; rfl
          have hput : ∀ W, MapAt W mb Ls → (Instr.mapUpdate 50 (.map (some mb)) (.string s) (.agg #[.int .i64 1, .int .i64 x, .complex .f64 0 0, .string ⟨#[]⟩, .int .i64 0, .int .u32 0, .int .u64 0, .slice I1 0 i1, .slice I2 0 i2])).run Try.prog W = .ok () (World.mput W mb (.string s) (.agg #[.int .i64 1, .int .i64 x, .complex .f64 0 0, .string ⟨#[]⟩, .int .i64 0, .int .u32 0, .int .u64 0, .slice I1 0 i1, .slice I2 0 i2])) := fun W hW =>
            run_put Try.underlying50 Try.underlying9 hW s hnone _
          have hput2 := fun o1 o2 => hput ((wr.alloc o1).alloc o2) ((hmap.alloc _).alloc _)
          clear hput
          have HFE := Lib.hid hfe
          clear hLs hbn hfe hnone
          go_wp2_with (first | (refine load_to rfl 70 _ rfl (some 24) rfl g (m * 18) rfl [.int .i64 9, .int .i64 0, .complex .f64 0 0, .string s, .int .i64 0, .int .u32 0, .int .u64 0, .slice V1 0 v1, .slice V2 0 v2, .int .i64 1, .int .i64 x, .complex .f64 0 0, .string ⟨#[]⟩, .int .i64 0, .int .u32 0, .int .u64 0, .slice I1 0 i1, .slice I2 0 i2] _ (fun j v hv => HC.out j v hv) Try.underlying70 rfl (by kernel_rfl) ?_) | (refine store_new rfl 70 _ _ rfl rfl wr #[.int .i64 9, .int .i64 0, .complex .f64 0 0, .string s, .int .i64 0, .int .u32 0, .int .u64 0, .slice V1 0 v1, .slice V2 0 v2, .int .i64 1, .int .i64 x, .complex .f64 0 0, .string ⟨#[]⟩, .int .i64 0, .int .u32 0, .int .u64 0, .slice I1 0 i1, .slice I2 0 i2] _ 70 rfl rfl (by kernel_rfl) rfl (by kernel_rfl) ?_))
          go_roundg (m + 1)
          case measure => have := HK.out; omega
          case rel =>
            have hst := HST.out
            have hlo := HLO.out
            have hls : w.heap.size ≤ wr.heap.size := hst.below.size
            refine ⟨some ⟨g, 0, none⟩, m, cap, rfl, by simp [mput_size]; omega, Lib.hid (.inr ⟨rest, ents ++ [(s, x, (I1, i1, I2, i2))], by rw [HM0.out], HM0.out.symm, ?_⟩)⟩
            refine ⟨fun p hp => hst.sub p (List.mem_cons_of_mem _ hp), by rw [HM0.out]; omega, ?_, ?_, ?_, ?_, ?_⟩
            · rw [HM0.out]
              exact own_mput (((ownsRow_pop (by rw [stk_len, HM0.out]) HOWN.out).alloc _).alloc _) _ _ _
            · rw [List.map_append, ← List.append_assoc, HLs.out]
              exact MapAt.put ((hmap.alloc _).alloc _) s _
            · exact gb_mput (gb_alloc (gb_alloc hst.below _) _) _ _
            · rw [← hst.fit]
              show fitS rest _ = fitS (_ :: rest) ents
              simp only [fitS, HFE.out]
            · intro e he
              rcases List.mem_append.1 he with he | he
              · exact hst.ok e he
              · simp only [List.mem_singleton] at he
                rw [he]
                exact hint.out _ (hst.sub _ (List.mem_cons_self ..))
        · have hsome : mlook Ls s = some (.agg #[.int .i64 1, .int .i64 y, .complex .f64 0 0, .string ⟨#[]⟩, .int .i64 0, .int .u32 0, .int .u64 0, .slice J1 0 j1, .slice J2 0 j2]) := by rw [← hLs, mlook_both hbn, hfe]; rfl
          have hlook : ∀ W, MapAt W mb Ls → (Instr.lookup 50 (.map (some mb)) (.string s) true).run Try.prog W = .ok (.tuple #[.agg #[.int .i64 1, .int .i64 y, .complex .f64 0 0, .string ⟨#[]⟩, .int .i64 0, .int .u32 0, .int .u64 0, .slice J1 0 j1, .slice J2 0 j2], .bool true]) W := fun W hW => by
            rw [run_look Try.underlying50 Try.underlying9 (z := .agg #[.int .i64 0, .int .i64 0, .complex .f64 0 0, .string ⟨#[]⟩, .int .i64 0, .int .u32 0, .int .u64 0, .slice none 0 0, .slice none 0 0]) (by kernel_rfl) hW s true, hsome]; rfl
          have HFE := Lib.hid hfe
          have HXO := Lib.hid (hint.out _ (HST.out.sub _ (List.mem_cons_self ..)))
          have HYO := Lib.hid (findE_ok HST.out.ok hfe)
          clear hLs hbn hfe hsome
          go_wp2_with (first | (refine load_to rfl 70 _ rfl (some 24) rfl g (m * 18) rfl [.int .i64 9, .int .i64 0, .complex .f64 0 0, .string s, .int .i64 0, .int .u32 0, .int .u64 0, .slice V1 0 v1, .slice V2 0 v2, .int .i64 1, .int .i64 x, .complex .f64 0 0, .string ⟨#[]⟩, .int .i64 0, .int .u32 0, .int .u64 0, .slice I1 0 i1, .slice I2 0 i2] _ (fun j v hv => HC.out j v hv) Try.underlying70 rfl (by kernel_rfl) ?_) | (refine store_new rfl 70 _ _ rfl rfl wr #[.int .i64 9, .int .i64 0, .complex .f64 0 0, .string s, .int .i64 0, .int .u32 0, .int .u64 0, .slice V1 0 v1, .slice V2 0 v2, .int .i64 1, .int .i64 x, .complex .f64 0 0, .string ⟨#[]⟩, .int .i64 0, .int .u32 0, .int .u64 0, .slice I1 0 i1, .slice I2 0 i2] _ 70 rfl rfl (by kernel_rfl) rfl (by kernel_rfl) ?_))
          refine (same_int _ _ HYO.out HXO.out _ _ _ _ _ _ _ _ _).mono ?_
          rintro e w2 ⟨rfl, hb⟩
          have HB2 := Lib.hid hb
          have hls : w.heap.size ≤ wr.heap.size := HST.out.below.size
          have hsz : wr.heap.size < w2.heap.size := by have := hb.size; simp at this; omega
          have HBE := Lib.hid (show w.grownBy w2 (some mb) from gb_below (gb_alloc (gb_alloc HST.out.below _) _) hb (by simp; omega))
          clear hb
          by_cases hxy : y = x
          · have hdec : decide (y = x) = true := decide_eq_true hxy
            rw [hdec]
            go_wp2
            go_roundg (m + 1)
            case measure => have := HK.out; omega
            case rel =>
              have hst := HST.out
              have hb2 := HB2.out
              refine ⟨some ⟨g, 0, none⟩, m, cap, rfl, by omega, Lib.hid (.inr ⟨rest, ents, by rw [HM0.out], HM0.out.symm, ?_⟩)⟩
              refine ⟨fun p hp => hst.sub p (List.mem_cons_of_mem _ hp), by rw [HM0.out]; omega, ?_, ?_, HBE.out, ?_, hst.ok⟩
              · rw [HM0.out]
                exact own_below (((ownsRow_pop (by rw [stk_len, HM0.out]) HOWN.out).alloc _).alloc _) hb2 (Nat.le_refl _)
              · rw [HLs.out]
                exact MapAt.below ((hmap.alloc _).alloc _) hb2 (by simp; omega)
              · rw [← hst.fit]
                show fitS rest _ = fitS (_ :: rest) ents
                simp only [fitS, HFE.out, hxy, if_true]
          · have hdec : decide (y = x) = false := decide_eq_false hxy
            rw [hdec]
            go_wp2
            rw [Exit.noGoto_ret]
            go_ret
            have hfit : R = (false, ents) := by
              rw [← HR.out, ← HST.out.fit]
              simp only [fitS, HFE.out, hxy, if_false]
            rw [hfit]
            exact ⟨rfl, HBE.out, fun h => by cases h⟩

set_option maxRecDepth 100000 in
set_option maxHeartbeats 8000000 in
theorem fits7 (ps : List Pr) (P T : Option Addr) (A1 : Option Addr) (c1 cP : Nat) (B1 : Option Addr) (d1 cT : Nat) (mb : Nat) (base : List (ByteArray × Value)) (Lo : Nat) (w : World)
    (hlen : ps.length ≤ 256) (hat : Hid (PairsAt w Lo ps P T)) (hm : Hid (MapAt w mb base)) (hLo : Lo ≤ mb) (hLw : Lo ≤ w.heap.size) (hbase : Hid (∀ p ∈ ps, mlook base p.s = none)) (hint : Hid (∀ p ∈ ps, intOk p.x)) :
    Calls Try.prog 17 #[.agg #[.int .i64 7, .int .i64 0, .complex .f64 0 0, .string ⟨#[]⟩, .int .i64 0, .int .u32 0, .int .u64 0, .slice A1 0 c1, .slice P ps.length cP], .agg #[.int .i64 7, .int .i64 0, .complex .f64 0 0, .string ⟨#[]⟩, .int .i64 0, .int .u32 0, .int .u64 0, .slice B1 0 d1, .slice T ps.length cT], .map (some mb)] w (FitR w Lo mb base (fitS ps [])) := by
  generalize hn : ps.length = n at *
  generalize hR : fitS ps [] = R
  have HN := Lib.hid hn
  have HR := Lib.hid hR
  have hmb := hm.out.lt
  have HLO := Lib.hid (And.intro hLo hLw)
  clear hn hR hLo hLw
  go_enter Try.func17, Try.ntmps17
  go_wp2
  go_step3
  go_wp2
  go_step3
  go_wp2
  generalize (Value.agg #[.int .i64 7, .int .i64 0, .complex .f64 0 0, .string ⟨#[]⟩, .int .i64 0, .int .u32 0, .int .u64 0, .slice A1 0 c1, .slice P n cP]) = pv
  generalize (Value.agg #[.int .i64 7, .int .i64 0, .complex .f64 0 0, .string ⟨#[]⟩, .int .i64 0, .int .u32 0, .int .u64 0, .slice B1 0 d1, .slice T n cT]) = tv
  go_loopg [7] (n + 2) (fun k v wr => ∃ A len cap, v = .slice A len cap ∧ mb < wr.heap.size ∧ Hid (
      (k = n + 2 ∧ len = 1 ∧ wr.ownsRow (w.heap.size + 2) 70 18 v 1 (topC 7 A1 c1 P n cP B1 d1 T cT) ∧ MapAt wr mb base ∧ w.grownBy wr (some mb))
      ∨ ∃ rest ents, k = rest.length + 1 ∧ len = rest.length ∧ FitSt ps mb base Lo (w.heap.size + 2) w wr v rest ents))
  case atStart =>
    refine ⟨_, _, _, rfl, by simp; omega, Lib.hid (.inl ⟨rfl, rfl, ?_, ?_, ?_⟩)⟩
    · exact own_new rfl (by simp) (heap_alloc_three _ _ _ _) rfl rfl (by unfold maxLen; omega)
    · exact ((hm.out.alloc _).alloc _).alloc _
    · exact gb_alloc (gb_alloc (gb_alloc (World.grownBy.refl w _) _) _) _
  case round =>
    obtain ⟨A, len, cap, rfl, hmbr, hr⟩ := hrel
    rcases hr.out with ⟨hk, rfl, hown, hmap, hbel⟩ | ⟨rest, ents, hk, rfl, hst⟩
    · obtain ⟨A', c', hv, hA1, hA2⟩ := own_shape hown
      cases hv
      have hA0 : A ≠ none := fun h => by have := (hA1 h).1; omega
      obtain ⟨ad, rfl⟩ := Option.ne_none_iff_exists'.1 hA0
      obtain ⟨g, rfl, hg1, hg2, hgc⟩ := hA2 ad rfl
      have HGC := Lib.hid hgc
      have HOWN := Lib.hid hown
      have HMAP := Lib.hid hmap
      have HBEL := Lib.hid hbel
      have HK := Lib.hid hk
      have HG := Lib.hid (And.intro hg1 hg2)
      clear hown hmap hbel hA1 hA2 hA0 hgc hr hk hg1 hg2
      go_wp2_with (first | (refine load_to rfl 70 _ rfl (some 24) rfl g 0 rfl [.int .i64 7, .int .i64 0, .complex .f64 0 0, .string ⟨#[]⟩, .int .i64 0, .int .u32 0, .int .u64 0, .slice A1 0 c1, .slice P n cP, .int .i64 7, .int .i64 0, .complex .f64 0 0, .string ⟨#[]⟩, .int .i64 0, .int .u32 0, .int .u64 0, .slice B1 0 d1, .slice T n cT] _ (fun j v hv => by rw [Nat.zero_add]; exact HGC.out j v hv) Try.underlying70 rfl (by kernel_rfl) ?_) | (refine store_new rfl 70 _ _ rfl rfl wr #[.int .i64 7, .int .i64 0, .complex .f64 0 0, .string ⟨#[]⟩, .int .i64 0, .int .u32 0, .int .u64 0, .slice A1 0 c1, .slice P n cP, .int .i64 7, .int .i64 0, .complex .f64 0 0, .string ⟨#[]⟩, .int .i64 0, .int .u32 0, .int .u64 0, .slice B1 0 d1, .slice T n cT] _ 70 rfl rfl (by kernel_rfl) rfl (by kernel_rfl) ?_))
      rename World => w0
      go_loopg [11, 7] n (fun k vi vt wr => ∃ A cap, k ≤ n ∧ vi = .int .i64 ((k : Int) - 1) ∧ vt = .slice A (n - k) cap ∧ mb < wr.heap.size ∧ w0.heap.size < wr.heap.size ∧ Hid (
        wr.ownsRow (w.heap.size + 2) 70 18 (.slice A (n - k) cap) (n - k) (stk (ps.drop k)) ∧ vt.ownBlock ≠ some w0.heap.size ∧ MapAt wr mb base ∧ w.grownBy wr (some mb) ∧
        wr.heap[w0.heap.size]? = some (.cells #[.int .i64 7, .int .i64 0, .complex .f64 0 0, .string ⟨#[]⟩, .int .i64 0, .int .u32 0, .int .u64 0, .slice A1 0 c1, .slice P n cP, .int .i64 7, .int .i64 0, .complex .f64 0 0, .string ⟨#[]⟩, .int .i64 0, .int .u32 0, .int .u64 0, .slice B1 0 d1, .slice T n cT] 70 (0, 0))))
      case atStart =>
        refine ⟨_, _, Nat.le_refl _, rfl, (by rw [Nat.sub_self]), by simp; omega, by simp, Lib.hid ⟨?_, ?_, HMAP.out.alloc _, gb_alloc HBEL.out _, heap_alloc_last _ _⟩⟩
        · rw [Nat.sub_self, List.drop_eq_nil_of_le (by rw [HN.out]; exact Nat.le_refl _)]
          exact (ownsRow_pop (xs := []) rfl HOWN.out).alloc _
        · have := HG.out
          simp [Value.ownBlock]; omega
      case round =>
        obtain ⟨A', cap', hkn, rfl, rfl, hmbr, hwri, hri⟩ := hrel
        obtain ⟨hown, hobl, hmap, hbel, hbox⟩ := hri.out
        have bcell := fun i => cell_of_row wr w0.heap.size i _ _ _ hbox
        have b8 : wr.cell? ⟨w0.heap.size, 8, none⟩ = some (.slice P n cP) := bcell 8
        have b17 : wr.cell? ⟨w0.heap.size, 17, none⟩ = some (.slice T n cT) := bcell 17
        clear bcell hown hobl hmap hbel hbox
        rcases Nat.eq_zero_or_pos gk with rfl | hgk
        · go_wp2
          have hd := HK.out
          go_roundg (n + 1)
          case measure => omega
          case rel =>
            refine ⟨A', n, cap', rfl, hmbr, Lib.hid (.inr ⟨ps, [], by rw [HN.out], by rw [HN.out], ?_⟩)⟩
            obtain ⟨hown, _, hmap, hbel, _⟩ := hri.out
            refine ⟨fun _ h => h, by rw [HN.out]; omega, by rw [HN.out]; exact hown, by simpa using hmap, hbel, rfl, by simp⟩
        · obtain ⟨j, rfl⟩ : ∃ j, gk = j + 1 := ⟨gk - 1, by omega⟩
          obtain ⟨p, hp⟩ : ∃ p, ps[j]? = some p := ⟨ps[j]'(by have := HN.out; omega), List.getElem?_eq_getElem _⟩
          have hat1 := pairs_stay (fun a ha => (gb_to hri.out.2.2.2.1 HLO.out.1 HLO.out.2).cell ha) hat.out
          rcases hat1 with rfl | ⟨pb, po, tb, to_, rfl, rfl, hpb, htb, hall⟩
          · simp at hp
          obtain ⟨hv, hi⟩ := hall _ _ hp
          obtain ⟨s, ⟨V1, v1, V2, v2⟩, x, I1, i1, I2, i2⟩ := p
          have hjv : ((j + 1 : Nat) : Int) - 1 = (j : Int) := by omega
          have hj0 : (0 : Int) ≤ (j : Int) := by omega
          have hj1 : (j : Int) < (n : Int) := by omega
          simp only [hjv]
          have cv0 : wr.cell? ⟨pb, po + j * 9, none⟩ = some (.int .i64 9) := hv 0 _ rfl
          have cv1 : wr.cell? ⟨pb, po + j * 9 + 1, none⟩ = some (.int .i64 0) := hv 1 _ rfl
          have cv2 : wr.cell? ⟨pb, po + j * 9 + 2, none⟩ = some (.complex .f64 0 0) := hv 2 _ rfl
          have cv3 : wr.cell? ⟨pb, po + j * 9 + 3, none⟩ = some (.string s) := hv 3 _ rfl
          have cv4 : wr.cell? ⟨pb, po + j * 9 + 4, none⟩ = some (.int .i64 0) := hv 4 _ rfl
          have cv5 : wr.cell? ⟨pb, po + j * 9 + 5, none⟩ = some (.int .u32 0) := hv 5 _ rfl
          have cv6 : wr.cell? ⟨pb, po + j * 9 + 6, none⟩ = some (.int .u64 0) := hv 6 _ rfl
          have cv7 : wr.cell? ⟨pb, po + j * 9 + 7, none⟩ = some (.slice V1 0 v1) := hv 7 _ rfl
          have cv8 : wr.cell? ⟨pb, po + j * 9 + 8, none⟩ = some (.slice V2 0 v2) := hv 8 _ rfl
          have ci0 : wr.cell? ⟨tb, to_ + j * 9, none⟩ = some (.int .i64 1) := hi 0 _ rfl
          have ci1 : wr.cell? ⟨tb, to_ + j * 9 + 1, none⟩ = some (.int .i64 x) := hi 1 _ rfl
          have ci2 : wr.cell? ⟨tb, to_ + j * 9 + 2, none⟩ = some (.complex .f64 0 0) := hi 2 _ rfl
          have ci3 : wr.cell? ⟨tb, to_ + j * 9 + 3, none⟩ = some (.string ⟨#[]⟩) := hi 3 _ rfl
          have ci4 : wr.cell? ⟨tb, to_ + j * 9 + 4, none⟩ = some (.int .i64 0) := hi 4 _ rfl
          have ci5 : wr.cell? ⟨tb, to_ + j * 9 + 5, none⟩ = some (.int .u32 0) := hi 5 _ rfl
          have ci6 : wr.cell? ⟨tb, to_ + j * 9 + 6, none⟩ = some (.int .u64 0) := hi 6 _ rfl
          have ci7 : wr.cell? ⟨tb, to_ + j * 9 + 7, none⟩ = some (.slice I1 0 i1) := hi 7 _ rfl
          have ci8 : wr.cell? ⟨tb, to_ + j * 9 + 8, none⟩ = some (.slice I2 0 i2) := hi 8 _ rfl
          have hfar : ∀ (W' : World), ((wr.drew).alloc (.cells #[.int .i64 9, .int .i64 0, .complex .f64 0 0, .string s, .int .i64 0, .int .u32 0, .int .u64 0, .slice V1 0 v1, .slice V2 0 v2, .int .i64 1, .int .i64 x, .complex .f64 0 0, .string ⟨#[]⟩, .int .i64 0, .int .u32 0, .int .u64 0, .slice I1 0 i1, .slice I2 0 i2] 70)).grownBy W' (Value.slice A' (n - (j + 1)) cap').ownBlock → ∀ (a : Addr) (u : Value), wr.cell? a = some u → (a.block < Lo ∨ a.block = w0.heap.size) → W'.cell? a = some u := by
            intro W' hg a u hu ha
            have hlt := World.block_lt_of_cell? wr a hu
            rw [hg.cell_far a (by simp; omega) (fun e => by
              rcases ha with ha | ha
              · have hb := (hri.out.1.lt _ e.symm).1
                have := HLO.out
                omega
              · rw [ha] at e; exact hri.out.2.1 e.symm)]
            rw [World.cell?_alloc_lt _ _ _ (by simpa using hlt)]
            exact hu
          have hS := fun (W' : World) (hg : ((wr.drew).alloc (.cells #[.int .i64 9, .int .i64 0, .complex .f64 0 0, .string s, .int .i64 0, .int .u32 0, .int .u64 0, .slice V1 0 v1, .slice V2 0 v2, .int .i64 1, .int .i64 x, .complex .f64 0 0, .string ⟨#[]⟩, .int .i64 0, .int .u32 0, .int .u64 0, .slice I1 0 i1, .slice I2 0 i2] 70)).grownBy W' (Value.slice A' (n - (j + 1)) cap').ownBlock) => (show W'.cell? ⟨w0.heap.size, 8, none⟩ = some (.slice (some ⟨pb, po, none⟩) n cP) ∧ W'.cell? ⟨w0.heap.size, 17, none⟩ = some (.slice (some ⟨tb, to_, none⟩) n cT) ∧ W'.cell? ⟨pb, po + j * 9, none⟩ = some (.int .i64 9) ∧ W'.cell? ⟨pb, po + j * 9 + 1, none⟩ = some (.int .i64 0) ∧ W'.cell? ⟨pb, po + j * 9 + 2, none⟩ = some (.complex .f64 0 0) ∧ W'.cell? ⟨pb, po + j * 9 + 3, none⟩ = some (.string s) ∧ W'.cell? ⟨pb, po + j * 9 + 4, none⟩ = some (.int .i64 0) ∧ W'.cell? ⟨pb, po + j * 9 + 5, none⟩ = some (.int .u32 0) ∧ W'.cell? ⟨pb, po + j * 9 + 6, none⟩ = some (.int .u64 0) ∧ W'.cell? ⟨pb, po + j * 9 + 7, none⟩ = some (.slice V1 0 v1) ∧ W'.cell? ⟨pb, po + j * 9 + 8, none⟩ = some (.slice V2 0 v2) ∧ W'.cell? ⟨tb, to_ + j * 9, none⟩ = some (.int .i64 1) ∧ W'.cell? ⟨tb, to_ + j * 9 + 1, none⟩ = some (.int .i64 x) ∧ W'.cell? ⟨tb, to_ + j * 9 + 2, none⟩ = some (.complex .f64 0 0) ∧ W'.cell? ⟨tb, to_ + j * 9 + 3, none⟩ = some (.string ⟨#[]⟩) ∧ W'.cell? ⟨tb, to_ + j * 9 + 4, none⟩ = some (.int .i64 0) ∧ W'.cell? ⟨tb, to_ + j * 9 + 5, none⟩ = some (.int .u32 0) ∧ W'.cell? ⟨tb, to_ + j * 9 + 6, none⟩ = some (.int .u64 0) ∧ W'.cell? ⟨tb, to_ + j * 9 + 7, none⟩ = some (.slice I1 0 i1) ∧ W'.cell? ⟨tb, to_ + j * 9 + 8, none⟩ = some (.slice I2 0 i2) from ⟨hfar W' hg _ _ b8 (.inr rfl), hfar W' hg _ _ b17 (.inr rfl), hfar W' hg _ _ cv0 (.inl hpb), hfar W' hg _ _ cv1 (.inl hpb), hfar W' hg _ _ cv2 (.inl hpb), hfar W' hg _ _ cv3 (.inl hpb), hfar W' hg _ _ cv4 (.inl hpb), hfar W' hg _ _ cv5 (.inl hpb), hfar W' hg _ _ cv6 (.inl hpb), hfar W' hg _ _ cv7 (.inl hpb), hfar W' hg _ _ cv8 (.inl hpb), hfar W' hg _ _ ci0 (.inl htb), hfar W' hg _ _ ci1 (.inl htb), hfar W' hg _ _ ci2 (.inl htb), hfar W' hg _ _ ci3 (.inl htb), hfar W' hg _ _ ci4 (.inl htb), hfar W' hg _ _ ci5 (.inl htb), hfar W' hg _ _ ci6 (.inl htb), hfar W' hg _ _ ci7 (.inl htb), hfar W' hg _ _ ci8 (.inl htb)⟩)
          have hws : w.heap.size + 2 ≤ wr.heap.size := by have := HG.out; omega
          have HP := Lib.hid hp
          have HPT := Lib.hid (And.intro hpb htb)
          have HS := Lib.hid hS
          clear hv hi hall hp hpb htb hS hfar
          obtain ⟨i0, hi0, hz0, hz1, hz2⟩ := info_parts infoPair
          go_wp2
          go_region_held3 (fun W => W.cell? ⟨w0.heap.size, 8, none⟩ = some (.slice (some ⟨pb, po, none⟩) n cP) ∧ W.cell? ⟨w0.heap.size, 17, none⟩ = some (.slice (some ⟨tb, to_, none⟩) n cT) ∧ W.cell? ⟨pb, po + j * 9, none⟩ = some (.int .i64 9) ∧ W.cell? ⟨pb, po + j * 9 + 1, none⟩ = some (.int .i64 0) ∧ W.cell? ⟨pb, po + j * 9 + 2, none⟩ = some (.complex .f64 0 0) ∧ W.cell? ⟨pb, po + j * 9 + 3, none⟩ = some (.string s) ∧ W.cell? ⟨pb, po + j * 9 + 4, none⟩ = some (.int .i64 0) ∧ W.cell? ⟨pb, po + j * 9 + 5, none⟩ = some (.int .u32 0) ∧ W.cell? ⟨pb, po + j * 9 + 6, none⟩ = some (.int .u64 0) ∧ W.cell? ⟨pb, po + j * 9 + 7, none⟩ = some (.slice V1 0 v1) ∧ W.cell? ⟨pb, po + j * 9 + 8, none⟩ = some (.slice V2 0 v2) ∧ W.cell? ⟨tb, to_ + j * 9, none⟩ = some (.int .i64 1) ∧ W.cell? ⟨tb, to_ + j * 9 + 1, none⟩ = some (.int .i64 x) ∧ W.cell? ⟨tb, to_ + j * 9 + 2, none⟩ = some (.complex .f64 0 0) ∧ W.cell? ⟨tb, to_ + j * 9 + 3, none⟩ = some (.string ⟨#[]⟩) ∧ W.cell? ⟨tb, to_ + j * 9 + 4, none⟩ = some (.int .i64 0) ∧ W.cell? ⟨tb, to_ + j * 9 + 5, none⟩ = some (.int .u32 0) ∧ W.cell? ⟨tb, to_ + j * 9 + 6, none⟩ = some (.int .u64 0) ∧ W.cell? ⟨tb, to_ + j * 9 + 7, none⟩ = some (.slice I1 0 i1) ∧ W.cell? ⟨tb, to_ + j * 9 + 8, none⟩ = some (.slice I2 0 i2)) (first | assumption | go_keep) (first | (refine step_app rfl _ _ 71 rfl (w.heap.size + 2) 70 i0 _ 18 240 Try.underlying71 hi0 hz0 hz1 hz2 rfl (by decide) (.slice A' (n - (j + 1)) cap') (n - (j + 1)) (stk (ps.drop (j + 1))) rfl ((hri.out.1).drew.alloc _) ⟨wr.heap.size, 0, none⟩ 1 1 [.int .i64 9, .int .i64 0, .complex .f64 0 0, .string s, .int .i64 0, .int .u32 0, .int .u64 0, .slice V1 0 v1, .slice V2 0 v2, .int .i64 1, .int .i64 x, .complex .f64 0 0, .string ⟨#[]⟩, .int .i64 0, .int .u32 0, .int .u64 0, .slice I1 0 i1, .slice I2 0 i2] rfl rfl (fun i u hu => by rw [Addr.add_mid]; exact row_cells (heap_alloc_last wr.drew _) (o := 0) (fun _ _ h => by simpa using h) i u hu) (by simp [Value.oneCell']) (by unfold maxLen; omega) (by omega) (by simp; omega) ?_; intro v' w' hown' hgrow'; have hkeep := HS.out w' hgrow'; obtain ⟨A'', c'', rfl, hA', hA''⟩ := own_shape hown'; have HO := Lib.hid hown'; have HGW := Lib.hid hgrow'; clear hown' hgrow' hA' hA''))
          go_wp2
          have hnj : n - (j + 1) + 1 = n - j := by omega
          have hdrop : ps.drop j = ⟨s, (V1, v1, V2, v2), x, (I1, i1, I2, i2)⟩ :: ps.drop (j + 1) := by
            have hlt : j < ps.length := by rw [HN.out]; omega
            rw [List.drop_eq_getElem_cons hlt]
            have := HP.out
            rw [List.getElem?_eq_getElem hlt] at this
            rw [Option.some.inj this]
          go_roundg j
          case measure => omega
          case rel =>
            have hb1 : w.grownBy w' (some mb) := by
              refine gb_grown (gb_drew (gb_alloc hri.out.2.2.2.1 _)) HGW.out (fun k hk => ?_)
              have := (hri.out.1.lt _ hk).1
              omega
            have hrow : w'.heap[w0.heap.size]? = some (.cells #[.int .i64 7, .int .i64 0, .complex .f64 0 0, .string ⟨#[]⟩, .int .i64 0, .int .u32 0, .int .u64 0, .slice A1 0 c1, .slice (some ⟨pb, po, none⟩) n cP, .int .i64 7, .int .i64 0, .complex .f64 0 0, .string ⟨#[]⟩, .int .i64 0, .int .u32 0, .int .u64 0, .slice B1 0 d1, .slice (some ⟨tb, to_, none⟩) n cT] 70 (0, 0)) := by
              rw [HGW.out.block w0.heap.size (by simp; omega) (fun e => hri.out.2.1 e.symm)]
              show (wr.alloc _).heap[w0.heap.size]? = _
              rw [Below.heap_alloc _ _ _ (by simpa using hwri)]
              exact hri.out.2.2.2.2
            have hmap : MapAt w' mb base := by
              refine MapAt.stays (w := (wr.drew).alloc (.cells #[.int .i64 9, .int .i64 0, .complex .f64 0 0, .string s, .int .i64 0, .int .u32 0, .int .u64 0, .slice V1 0 v1, .slice V2 0 v2, .int .i64 1, .int .i64 x, .complex .f64 0 0, .string ⟨#[]⟩, .int .i64 0, .int .u32 0, .int .u64 0, .slice I1 0 i1, .slice I2 0 i2] 70)) ((hri.out.2.2.1).drew.alloc _) (HGW.out.block mb (by simp; omega) (fun e => ?_))
              have := (hri.out.1.lt _ e.symm).1
              omega
            have hsz : wr.heap.size ≤ w'.heap.size := by have := HGW.out.size; simp at this; omega
            have hO := HO.out
            rw [hnj] at hO
            refine ⟨A'', c'', by omega, by go_num, by rw [hnj], by omega, by omega, Lib.hid ⟨?_, ?_, hmap, hb1, hrow⟩⟩
            · rw [hdrop]
              exact hO
            · rw [hnj]
              refine own_ne_at hO hrow (x := .int .i64 9) (y := .int .i64 7) ?_ rfl (by simp)
              by_cases hl : ps.drop (j + 1) = []
              · rw [hl]; rfl
              · rw [List.getElem?_append_left (by rw [stk_len]; have := List.length_pos_iff.2 hl; omega)]
                exact stk_head _ hl
    · have HST := Lib.hid hst
      have HK := Lib.hid hk
      clear hst hk hr
      rcases rest with _ | ⟨⟨s, ⟨V1, v1, V2, v2⟩, x, I1, i1, I2, i2⟩, rest⟩
      · go_wp2
        rw [Exit.noGoto_ret]
        go_ret
        have hfit : R = (true, ents) := by rw [← HR.out, ← HST.out.fit]; rfl
        rw [hfit]
        exact ⟨rfl, HST.out.below, fun _ => HST.out.map⟩
      · have hown := HST.out.own
        rcases hown.2 with ⟨hv, _⟩ | ⟨g, cap', cur, hv, hg1, hh, hnc, _, _, _⟩
        · simp at hv
        simp only [Value.slice.injEq] at hv
        obtain ⟨rfl, _, rfl⟩ := hv
        have hg2 : g < wr.heap.size := (Array.getElem?_eq_some_iff.1 hh).1
        have hcells : ∀ j u, (stk (⟨s, (V1, v1, V2, v2), x, (I1, i1, I2, i2)⟩ :: rest))[j]? = some u → wr.cell? ⟨g, j, none⟩ = some u := fun j u hu => by
          have := World.ownsRow.cells (g := g) hown rfl j u hu
          rwa [Addr.add_lit, Nat.zero_add] at this
        have hlen0 := HST.out.len
        simp only [List.length_cons] at *
        generalize hm0 : rest.length = m at *
        have hm256 : m + 1 ≤ 256 := hlen0
        have HC := Lib.hid (show ∀ j u, ([.int .i64 9, .int .i64 0, .complex .f64 0 0, .string s, .int .i64 0, .int .u32 0, .int .u64 0, .slice V1 0 v1, .slice V2 0 v2, .int .i64 1, .int .i64 x, .complex .f64 0 0, .string ⟨#[]⟩, .int .i64 0, .int .u32 0, .int .u64 0, .slice I1 0 i1, .slice I2 0 i2] : List Value)[j]? = some u → wr.cell? ⟨g, m * 18 + j, none⟩ = some u from fun j u hu => by
          rw [← hm0]; exact hcells _ _ (stk_top _ _ _ _ hu))
        have hmv : ((m + 1 : Nat) : Int) - 1 = (m : Int) := by omega
        have HM0 := Lib.hid hm0
        have HOWN := Lib.hid hown
        have HG := Lib.hid (And.intro hg1 hg2)
        have hmap := HST.out.map
        have hbn : mlook base s = none := hbase.out _ (HST.out.sub _ (List.mem_cons_self ..))
        clear hown hh hcells hm0 hg1 hg2
        generalize hLs : base ++ ents.map entV = Ls at hmap
        have HLs := Lib.hid hLs
        rcases hfe : findE ents s with _ | ⟨y, J1, j1, J2, j2⟩
        · have hnone : mlook Ls s = none := by rw [← hLs, mlook_both hbn, hfe]; rfl
          have hlook : ∀ W, MapAt W mb Ls → (Instr.lookup 50 (.map (some mb)) (.string s) true).run Try.prog W = .ok (.tuple #[.agg #[.int .i64 0, .int .i64 0, .complex .f64 0 0, .string ⟨#[]⟩, .int .i64 0, .int .u32 0, .int .u64 0, .slice none 0 0, .slice none 0 0], .bool false]) W := fun W hW => by
            rw [run_look Try.underlying50 Try.underlying9 (z := .agg #[.int .i64 0, .int .i64 0, .complex .f64 0 0, .string ⟨#[]⟩, .int .i64 0, .int .u32 0, .int .u64 0, .slice none 0 0, .slice none 0 0]) (by kernel_rfl) hW s true, hnone]; rfl
          have hput : ∀ W, MapAt W mb Ls → (Instr.mapUpdate 50 (.map (some mb)) (.string s) (.agg #[.int .i64 1, .int .i64 x, .complex .f64 0 0, .string ⟨#[]⟩, .int .i64 0, .int .u32 0, .int .u64 0, .slice I1 0 i1, .slice I2 0 i2])).run Try.prog W = .ok () (World.mput W mb (.string s) (.agg #[.int .i64 1, .int .i64 x, .complex .f64 0 0, .string ⟨#[]⟩, .int .i64 0, .int .u32 0, .int .u64 0, .slice I1 0 i1, .slice I2 0 i2])) := fun W hW =>
            run_put Try.underlying50 Try.underlying9 hW s hnone _
          have hput2 := fun o1 o2 => hput ((wr.alloc o1).alloc o2) ((hmap.alloc _).alloc _)
          clear hput
          have HFE := Lib.hid hfe
          clear hLs hbn hfe hnone
          go_wp2_with (first | (refine load_to rfl 70 _ rfl (some 24) rfl g (m * 18) rfl [.int .i64 9, .int .i64 0, .complex .f64 0 0, .string s, .int .i64 0, .int .u32 0, .int .u64 0, .slice V1 0 v1, .slice V2 0 v2, .int .i64 1, .int .i64 x, .complex .f64 0 0, .string ⟨#[]⟩, .int .i64 0, .int .u32 0, .int .u64 0, .slice I1 0 i1, .slice I2 0 i2] _ (fun j v hv => HC.out j v hv) Try.underlying70 rfl (by kernel_rfl) ?_) | (refine store_new rfl 70 _ _ rfl rfl wr #[.int .i64 9, .int .i64 0, .complex .f64 0 0, .string s, .int .i64 0, .int .u32 0, .int .u64 0, .slice V1 0 v1, .slice V2 0 v2, .int .i64 1, .int .i64 x, .complex .f64 0 0, .string ⟨#[]⟩, .int .i64 0, .int .u32 0, .int .u64 0, .slice I1 0 i1, .slice I2 0 i2] _ 70 rfl rfl (by kernel_rfl) rfl (by kernel_rfl) ?_))
          go_roundg (m + 1)
          case measure => have := HK.out; omega
          case rel =>
            have hst := HST.out
            have hlo := HLO.out
            have hls : w.heap.size ≤ wr.heap.size := hst.below.size
            refine ⟨some ⟨g, 0, none⟩, m, cap, rfl, by simp [mput_size]; omega, Lib.hid (.inr ⟨rest, ents ++ [(s, x, (I1, i1, I2, i2))], by rw [HM0.out], HM0.out.symm, ?_⟩)⟩
            refine ⟨fun p hp => hst.sub p (List.mem_cons_of_mem _ hp), by rw [HM0.out]; omega, ?_, ?_, ?_, ?_, ?_⟩
            · rw [HM0.out]
              exact own_mput (((ownsRow_pop (by rw [stk_len, HM0.out]) HOWN.out).alloc _).alloc _) _ _ _
            · rw [List.map_append, ← List.append_assoc, HLs.out]
              exact MapAt.put ((hmap.alloc _).alloc _) s _
            · exact gb_mput (gb_alloc (gb_alloc hst.below _) _) _ _
            · rw [← hst.fit]
              show fitS rest _ = fitS (_ :: rest) ents
              simp only [fitS, HFE.out]
            · intro e he
              rcases List.mem_append.1 he with he | he
              · exact hst.ok e he
              · simp only [List.mem_singleton] at he
                rw [he]
                exact hint.out _ (hst.sub _ (List.mem_cons_self ..))
        · have hsome : mlook Ls s = some (.agg #[.int .i64 1, .int .i64 y, .complex .f64 0 0, .string ⟨#[]⟩, .int .i64 0, .int .u32 0, .int .u64 0, .slice J1 0 j1, .slice J2 0 j2]) := by rw [← hLs, mlook_both hbn, hfe]; rfl
          have hlook : ∀ W, MapAt W mb Ls → (Instr.lookup 50 (.map (some mb)) (.string s) true).run Try.prog W = .ok (.tuple #[.agg #[.int .i64 1, .int .i64 y, .complex .f64 0 0, .string ⟨#[]⟩, .int .i64 0, .int .u32 0, .int .u64 0, .slice J1 0 j1, .slice J2 0 j2], .bool true]) W := fun W hW => by
            rw [run_look Try.underlying50 Try.underlying9 (z := .agg #[.int .i64 0, .int .i64 0, .complex .f64 0 0, .string ⟨#[]⟩, .int .i64 0, .int .u32 0, .int .u64 0, .slice none 0 0, .slice none 0 0]) (by kernel_rfl) hW s true, hsome]; rfl
          have HFE := Lib.hid hfe
          have HXO := Lib.hid (hint.out _ (HST.out.sub _ (List.mem_cons_self ..)))
          have HYO := Lib.hid (findE_ok HST.out.ok hfe)
          clear hLs hbn hfe hsome
          go_wp2_with (first | (refine load_to rfl 70 _ rfl (some 24) rfl g (m * 18) rfl [.int .i64 9, .int .i64 0, .complex .f64 0 0, .string s, .int .i64 0, .int .u32 0, .int .u64 0, .slice V1 0 v1, .slice V2 0 v2, .int .i64 1, .int .i64 x, .complex .f64 0 0, .string ⟨#[]⟩, .int .i64 0, .int .u32 0, .int .u64 0, .slice I1 0 i1, .slice I2 0 i2] _ (fun j v hv => HC.out j v hv) Try.underlying70 rfl (by kernel_rfl) ?_) | (refine store_new rfl 70 _ _ rfl rfl wr #[.int .i64 9, .int .i64 0, .complex .f64 0 0, .string s, .int .i64 0, .int .u32 0, .int .u64 0, .slice V1 0 v1, .slice V2 0 v2, .int .i64 1, .int .i64 x, .complex .f64 0 0, .string ⟨#[]⟩, .int .i64 0, .int .u32 0, .int .u64 0, .slice I1 0 i1, .slice I2 0 i2] _ 70 rfl rfl (by kernel_rfl) rfl (by kernel_rfl) ?_))
          refine (same_int _ _ HYO.out HXO.out _ _ _ _ _ _ _ _ _).mono ?_
          rintro e w2 ⟨rfl, hb⟩
          have HB2 := Lib.hid hb
          have hls : w.heap.size ≤ wr.heap.size := HST.out.below.size
          have hsz : wr.heap.size < w2.heap.size := by have := hb.size; simp at this; omega
          have HBE := Lib.hid (show w.grownBy w2 (some mb) from gb_below (gb_alloc (gb_alloc HST.out.below _) _) hb (by simp; omega))
          clear hb
          by_cases hxy : y = x
          · have hdec : decide (y = x) = true := decide_eq_true hxy
            rw [hdec]
            go_wp2
            go_roundg (m + 1)
            case measure => have := HK.out; omega
            case rel =>
              have hst := HST.out
              have hb2 := HB2.out
              refine ⟨some ⟨g, 0, none⟩, m, cap, rfl, by omega, Lib.hid (.inr ⟨rest, ents, by rw [HM0.out], HM0.out.symm, ?_⟩)⟩
              refine ⟨fun p hp => hst.sub p (List.mem_cons_of_mem _ hp), by rw [HM0.out]; omega, ?_, ?_, HBE.out, ?_, hst.ok⟩
              · rw [HM0.out]
                exact own_below (((ownsRow_pop (by rw [stk_len, HM0.out]) HOWN.out).alloc _).alloc _) hb2 (Nat.le_refl _)
              · rw [HLs.out]
                exact MapAt.below ((hmap.alloc _).alloc _) hb2 (by simp; omega)
              · rw [← hst.fit]
                show fitS rest _ = fitS (_ :: rest) ents
                simp only [fitS, HFE.out, hxy, if_true]
          · have hdec : decide (y = x) = false := decide_eq_false hxy
            rw [hdec]
            go_wp2
            rw [Exit.noGoto_ret]
            go_ret
            have hfit : R = (false, ents) := by
              rw [← HR.out, ← HST.out.fit]
              simp only [fitS, HFE.out, hxy, if_false]
            rw [hfit]
            exact ⟨rfl, HBE.out, fun h => by cases h⟩

end Go.Proofs.Ytgahfmnkkaacgaa
