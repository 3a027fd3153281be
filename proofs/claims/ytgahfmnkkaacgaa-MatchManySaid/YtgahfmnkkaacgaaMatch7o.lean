/- A match, walked. -/
import Derived.Test.YtgahfmnkkaacgaaMatchW
namespace Go.Proofs.Ytgahfmnkkaacgaa
set_option linter.unusedVariables false
set_option linter.unusedSimpArgs false
open Go.RowKit

set_option maxRecDepth 100000 in
set_option maxHeartbeats 8000000 in
theorem match7o (nm ks : ByteArray) (hkn : Hid (mnameF nm = true)) (hks : Hid (nameF ks = true)) (X1 : Option Addr) (x1 : Nat) (X2 : Option Addr) (x2 : Nat) (kb ko kcap : Nat) (l : List (ByteArray × Int)) (P T : Option Addr) (A1 : Option Addr) (c1 cP : Nat) (B1 : Option Addr) (d1 cT : Nat) (w : World)
    (hkb : kb < w.heap.size) (hkat : Hid (∀ j v, ([.string nm, .int .i64 3, .int .i64 0, .complex .f64 0 0, .string ks, .int .i64 0, .int .u32 0, .int .u64 0, .slice X1 0 x1, .slice X2 0 x2] : List Value)[j]? = some v → w.cell? ⟨kb, ko + j, none⟩ = some v)) (hfresh : Hid (∀ p ∈ l, p.1 ≠ nm))
    (hlen : l.length ≤ 256) (hnm : Hid (∀ p ∈ l, mnameF p.1 = true)) (hint : Hid (∀ p ∈ l, intOk p.2)) (hP : Hid (LT.ats w w.heap.size (l.map fun p => lfT (.var p.1)) P)) (hT : Hid (LT.ats w w.heap.size (l.map fun p => intT p.2) T)) :
    Calls Try.prog 8 #[.agg #[.int .i64 7, .int .i64 0, .complex .f64 0 0, .string ⟨#[]⟩, .int .i64 0, .int .u32 0, .int .u64 0, .slice A1 0 c1, .slice P l.length cP], .agg #[.int .i64 7, .int .i64 0, .complex .f64 0 0, .string ⟨#[]⟩, .int .i64 0, .int .u32 0, .int .u64 0, .slice B1 0 d1, .slice T l.length cT], .slice (some ⟨kb, ko, none⟩) 1 kcap] w (MatchR w l [.int .i64 0] 1) := by
  generalize hn : l.length = n at *
  have HN := Lib.hid hn
  have HTOP := Lib.hid (node_top 7 (by decide) (l.map fun p => Lf.var p.1) (by rw [List.length_map, hn]; exact hlen) (fun f hf => by
    obtain ⟨p, hp, rfl⟩ := List.mem_map.1 hf
    exact hnm.out p hp))
  have HPN := Lib.hid (fun (W : World) (B : Nat) (hW : Below w.heap.size w W) (hB : w.heap.size ≤ B) => show LT.at W B (nodeT 7 (l.map fun p => Lf.var p.1)) (tcells 7 0 0 0 ⟨#[]⟩ 0 0 0 A1 0 c1 P n cP) from by
    refine at_mono hB _ _ (at_stays (w := w) (fun a ha => hW.cell ha) _ _ (node_at _ _ _ _ _ _ _ (by simp [hn]) hlen ?_))
    rw [← map_lfT]; exact hP.out)
  have HTN := Lib.hid (fun (W : World) (B : Nat) (hW : Below w.heap.size w W) (hB : w.heap.size ≤ B) => show LT.at W B (.mk 7 0 0 0 ⟨#[]⟩ 0 0 0 [] ((l.map (·.2)).map intT)) (tcells 7 0 0 0 ⟨#[]⟩ 0 0 0 B1 0 d1 T n cT) from by
    refine at_mono hB _ _ (at_stays (w := w) (fun a ha => hW.cell ha) _ _ (node_at _ _ _ _ _ _ _ (by simp [hn]) hlen ?_))
    rw [← map_intT]; exact hT.out)
  have HCK := Lib.hid (check_ints 7 (by decide) (l.map (·.2)) (fun x hx => by obtain ⟨p, hp, rfl⟩ := List.mem_map.1 hx; exact hint.out p hp) (by rw [List.length_map, hn]; exact hlen))
  have HPL := Lib.hid (plain_ints 7 (by decide) (l.map (·.2)))
  have hmm := @run_makeMap Try.prog
  clear hn
  go_enter Try.func8, Try.ntmps8
  go_wp2_with fail
  have HW0 := Lib.hid (((Below.refl w.heap.size w).alloc (Nat.le_refl _) (.cells #[.int .i64 7, .int .i64 0, .complex .f64 0 0, .string ⟨#[]⟩, .int .i64 0, .int .u32 0, .int .u64 0, .slice A1 0 c1, .slice P n cP] 31)).alloc (by simp) (.cells #[.int .i64 7, .int .i64 0, .complex .f64 0 0, .string ⟨#[]⟩, .int .i64 0, .int .u32 0, .int .u64 0, .slice B1 0 d1, .slice T n cT] 31))
  refine (walked_any _ 0 _ _ HTOP.out (tcells 7 0 0 0 ⟨#[]⟩ 0 0 0 A1 0 c1 P n cP) _ (HPN.out _ _ HW0.out (by simp; omega))).mono ?_
  rintro e w1 ⟨Mb, sb, rfl, hb, hL⟩
  have hz1 : w.heap.size + 1 < w1.heap.size := by have := hb.size; simp at this; omega
  have hy1 : w.heap.size < w1.heap.size := by omega
  have HB1 := Lib.hid (HW0.out.trans (hb.mono (by simp; omega)))
  have HL1 := Lib.hid hL
  obtain ⟨hc1, hf1⟩ := bcell hb
  clear hb hf1 hL
  go_wp2_with fail
  refine (check_any _ (tcells 7 0 0 0 ⟨#[]⟩ 0 0 0 B1 0 d1 T n cT) _ HPL.out (HTN.out _ _ HB1.out (by omega))).mono ?_
  rw [HCK.out]
  rintro e w2 ⟨rfl, hb⟩
  have hz2 : w.heap.size + 1 < w2.heap.size := by have := hb.size; omega
  have hy2 : w.heap.size < w2.heap.size := by omega
  have hs2 : w1.heap.size ≤ w2.heap.size := hb.size
  have HB2 := Lib.hid (HB1.out.trans (hb.mono (by omega)))
  have HC2 := Lib.hid hb
  obtain ⟨hc2, hf2⟩ := bcell hb
  clear hb hf2
  go_wp2_with fail
  refine (table_one nm hkn.out 3 0 0 0 ks 0 0 0 (by decide) (check_atom hks.out) X1 x1 X2 x2 kb ko kcap _ (by omega) (fun j v hv => by rw [HB2.out.cell (p := ⟨kb, ko + j, none⟩) hkb]; exact hkat.out j v hv)).mono ?_
  rintro e w3 ⟨mb, rfl, hb, hm3, hmb⟩
  have hz3 : w.heap.size + 1 < w3.heap.size := by have := hb.size; omega
  have hy3 : w.heap.size < w3.heap.size := by omega
  have hs3 : w2.heap.size ≤ w3.heap.size := hb.size
  have HB3 := Lib.hid (HB2.out.trans (hb.mono (by omega)))
  have HC3 := Lib.hid (HC2.out.trans (hb.mono hs2))
  have HM3 := Lib.hid hm3
  have hml := hm3.lt
  obtain ⟨hc3, hf3⟩ := bcell hb
  clear hb hf3 hm3
  have hrange : (Instr.range 50 (.map (some mb))).run Try.prog (w3.alloc (.map #[] 0)) = .ok (.pointer (some ⟨w3.heap.size + 1, 0, none⟩)) ((w3.alloc (.map #[] 0)).alloc (.mapIter (some mb) 1 #[] 1)) := by
    have := run_range_map (P := Try.prog) (w3.alloc (.map #[] 0)) 50 _ _ mb _ 1 Try.underlying50 (mapAt_one (HM3.out.alloc _))
    simpa using this
  have hr0 : ((w3.alloc (.map #[] 0)).alloc (.mapIter (some mb) 1 #[] 1)).heap[w3.heap.size + 1]? = some (.mapIter (some mb) 1 #[] 1) := by have := heap_alloc_last (w3.alloc (.map #[] 0)) (.mapIter (some mb) 1 #[] 1); simpa using this
  obtain ⟨wn, hnext1, hnr, hno, hns, hn1, hn2, hn3⟩ := next_one (P := Try.prog) hr0 (mapAt_one ((HM3.out.alloc (.map #[] 0)).alloc (.mapIter (some mb) 1 #[] 1)))
  simp only [World.size_alloc] at hns
  have HMN := Lib.hid (((HM3.out.alloc (.map #[] 0)).alloc (.mapIter (some mb) 1 #[] 1)).stays (w' := wn) (hno mb (by omega)))
  have HON := Lib.hid (((MapAt.new w3).alloc (.mapIter (some mb) 1 #[] 1)).stays (w' := wn) (hno _ (by omega)))
  have hoff : ∀ B, B ≤ w3.heap.size → Below B ((w3.alloc (.map #[] 0)).alloc (.mapIter (some mb) 1 #[] 1)) wn := fun B hB => ⟨hn1, hn2, hn3, by rw [hns]; simp, fun k hk => hno k (by omega)⟩
  have hentry := run_entry_at (P := Try.prog) wn (w3.heap.size + 1) mb 1 #[] #[⟨.string nm, .agg #[.int .i64 3, .int .i64 0, .complex .f64 0 0, .string ks, .int .i64 0, .int .u32 0, .int .u64 0, .slice X1 0 x1, .slice X2 0 x2], 0⟩] 1 ⟨.string nm, .agg #[.int .i64 3, .int .i64 0, .complex .f64 0 0, .string ks, .int .i64 0, .int .u32 0, .int .u64 0, .slice X1 0 x1, .slice X2 0 x2], 0⟩ hnr (mapAt_one HMN.out) (by simp) (by simp)
  have hput : (Instr.mapUpdate 53 (.map (some w3.heap.size)) (.string nm) (.int .i64 1)).run Try.prog wn = .ok () (World.mput wn w3.heap.size (.string nm) (.int .i64 1)) :=
    run_put Try.underlying53 Try.underlying9 HON.out nm rfl _
  have hnext2 := next_done (P := Try.prog) (w := World.mput wn w3.heap.size (.string nm) (.int .i64 1)) (r := w3.heap.size + 1) ((mput_other _ _ _ _ _ (by omega)).trans hnr) ((mput_other _ _ _ _ mb (by omega)).trans (mapAt_one HMN.out)) (by simp) (Nat.le_refl _) (by simp [leftOf])
  have hcw : ∀ b o : Nat, b < w3.heap.size → wn.cell? ⟨b, o, none⟩ = w3.cell? ⟨b, o, none⟩ := fun b o hb => by
    rw [(hoff _ (Nat.le_refl _)).cell (p := ⟨b, o, none⟩) hb, World.cell?_alloc_lt _ _ _ (by simp; omega), World.cell?_alloc_lt _ _ _ (by simpa using hb)]
  have HNS := Lib.hid hns
  have HOFF := Lib.hid hoff
  clear hnr hno hns hn1 hn2 hn3 hoff hr0
  go_wp2
  refine wp_loop_rounds 2 ?_
  rw [rounds_succ]
  go_wp2
  rw [rounds_succ]
  go_wp2_with fail
  clear hentry hput hnext1 hnext2
  clear hrange
  obtain ⟨ps, hps, hat⟩ := pairs_of l P T hP.out hT.out
  have hpsl : ps.length = n := by have := congrArg List.length hps; simp only [List.length_map] at this; rw [this]; exact HN.out
  have HPS := Lib.hid hps
  have hbn : ∀ B, B ≤ w3.heap.size → Below B w3 (World.mput wn w3.heap.size (.string nm) (.int .i64 1)) := fun B hB =>
    ((((Below.refl B w3).alloc hB _).alloc (by simp; omega) _).trans (HOFF.out B hB)).trans (below_mput _ _ _ hB)
  have HAT4 := Lib.hid (pairs_stay (w' := World.mput wn w3.heap.size (.string nm) (.int .i64 1)) (fun a ha => (HB3.out.trans (hbn _ (by omega))).cell ha) hat)
  have HM4 := Lib.hid (HMN.out.stays (w' := World.mput wn w3.heap.size (.string nm) (.int .i64 1)) (mput_other _ _ _ _ _ (by omega)))
  have HO4 := Lib.hid (HON.out.put nm (.int .i64 1))
  have HB4 := Lib.hid (HB3.out.trans (hbn _ (by omega)))
  have HC4 := Lib.hid (HC3.out.trans (hbn _ (by omega)))
  have hs4 : (World.mput wn w3.heap.size (.string nm) (.int .i64 1)).heap.size = w3.heap.size + 2 := by rw [mput_size, HNS.out]
  have hc4 : ∀ b o : Nat, b < w3.heap.size → (World.mput wn w3.heap.size (.string nm) (.int .i64 1)).cell? ⟨b, o, none⟩ = w3.cell? ⟨b, o, none⟩ := fun b o hb => (hbn _ (Nat.le_refl _)).cell (p := ⟨b, o, none⟩) hb
  clear hbn hcw
  generalize World.mput wn w3.heap.size (.string nm) (.int .i64 1) = w4 at *
  have hfit := fits7 ps P T A1 c1 cP B1 d1 cT mb [(nm, Value.agg #[.int .i64 3, .int .i64 0, .complex .f64 0 0, .string ks, .int .i64 0, .int .u32 0, .int .u64 0, .slice X1 0 x1, .slice X2 0 x2])] w.heap.size w4 (by omega) HAT4 HM4 (by omega) (by omega) (Lib.hid (fun p hp => if_neg (hfresh.out (p.s, p.x) (by rw [← HPS.out]; exact List.mem_map_of_mem (f := fun p => (p.s, p.x)) hp)))) (Lib.hid (fun p hp => hint.out (p.s, p.x) (by rw [← HPS.out]; exact List.mem_map_of_mem (f := fun p => (p.s, p.x)) hp)))
  rw [hpsl] at hfit
  generalize hR : fitS ps [] = R at hfit
  have HR := Lib.hid hR
  clear hR hps hat
  refine hfit.mono ?_
  clear hfit
  rintro e w5 ⟨rfl, hg5, hm5⟩
  have HB5 := Lib.hid (HB4.out.trans (gb_to hg5 (by omega) (by omega)))
  have HC5 := Lib.hid (HC4.out.trans (gb_to hg5 (by omega) (by omega)))
  have HO5 := Lib.hid (HO4.out.stays (hg5.block _ (by omega) (fun e => by injection e; omega)))
  have hs5 : w4.heap.size ≤ w5.heap.size := hg5.size
  clear hg5
  obtain ⟨rb, ents⟩ := R
  cases rb with
  | false =>
    clear hm5
    go_wp2
    refine bodyPost_ret (v := .tuple #[.slice none 0 0, .bool false, .int .i64 0]) (by simp [results, Try.results8, go_sem]) rfl ?_
    exact ⟨ps, HPS.out, HB5.out, .inl ⟨by rw [HR.out], rfl⟩⟩
  | true =>
    have hm5 : MapAt w5 mb ([(nm, Value.agg #[.int .i64 3, .int .i64 0, .complex .f64 0 0, .string ks, .int .i64 0, .int .u32 0, .int .u64 0, .slice X1 0 x1, .slice X2 0 x2])] ++ ents.map entV) := hm5 rfl
    have hlm : ∀ W ty, MapAt W mb ([(nm, Value.agg #[.int .i64 3, .int .i64 0, .complex .f64 0 0, .string ks, .int .i64 0, .int .u32 0, .int .u64 0, .slice X1 0 x1, .slice X2 0 x2])] ++ ents.map entV) → (Builtin.len_ #[50] ty #[.map (some mb)]).run Try.prog W = .ok (.int .i64 ((ents.length : Int) + 1)) W := fun W ty hW => by
      rw [run_mlen Try.underlying50 hW ty]; simp
    have HM5 := Lib.hid hm5
    have HLM := Lib.hid hlm
    clear hlm
    have hlm5 := fun ty => HLM.out w5 ty hm5
    rcases Nat.lt_or_ge 64 (1 + ents.length) with hgt | hle
    · go_wp2
      refine bodyPost_ret (v := .tuple #[.slice none 0 0, .bool false, .int .i64 52]) (by simp [results, Try.results8, go_sem]) rfl ?_
      exact ⟨ps, HPS.out, HB5.out, .inr (.inl ⟨by rw [HR.out], by rw [HR.out]; simpa using hgt, rfl⟩)⟩
    · have hnames := fit_names ps [] (by rw [HR.out])
      rw [HR.out] at hnames
      have hvars : (l.map fun p => Lf.var p.1) = ps.map fun p => Lf.var p.s := by rw [← HPS.out, List.map_map]; rfl
      have hL5 := HL1.out.below HC5.out (Nat.le_refl _)
      rw [hvars, show lfsN (ps.map fun p => Lf.var p.s) [] = ents.map (·.1) from hnames] at hL5
      obtain ⟨nv, hl1, hl2, _⟩ := hL5
      obtain ⟨nA, nc, hnv, hnA0, hnA1⟩ := own_shape hl2
      rw [List.length_map] at hnv
      subst hnv
      have hcn : w5.cell? ⟨Mb, 1, none⟩ = some (.slice nA ents.length nc) := cell_of_row w5 Mb 1 _ _ _ hl1
      have HNA := Lib.hid hnA1
      have HNN := Lib.hid hnA0
      have hOwn := fit_own ps [] (fun i e he => by simp at he)
      rw [HR.out] at hOwn
      have HOWN := Lib.hid hOwn
      have hEntOk := fit_ok ps [] (fun p hp => hint.out (p.s, p.x) (by rw [← HPS.out]; exact List.mem_map_of_mem (f := fun p => (p.s, p.x)) hp)) (fun e he => by simp at he)
      rw [HR.out] at hEntOk
      have HEO := Lib.hid hEntOk
      have hlook0 : ∀ W k, k ≠ nm → MapAt W w3.heap.size [(nm, .int .i64 1)] → (Instr.lookup 53 (.map (some w3.heap.size)) (.string k) false).run Try.prog W = .ok (.int .i64 0) W := fun W k hkn hW => by
        rw [run_look Try.underlying53 Try.underlying9 (z := .int .i64 0) (by kernel_rfl) hW k false]; simp [mlook, hkn]
      have HLOOK0 := Lib.hid hlook0
      clear hl1 hl2 hnA0 hnA1 hnames hvars hOwn hlook0 hEntOk
      have hk5 : ∀ j v, ([.string nm, .int .i64 3, .int .i64 0, .complex .f64 0 0, .string ks, .int .i64 0, .int .u32 0, .int .u64 0, .slice X1 0 x1, .slice X2 0 x2] : List Value)[j]? = some v → w5.cell? ⟨kb, ko + j, none⟩ = some v := fun j v hv => by rw [HB5.out.cell (p := ⟨kb, ko + j, none⟩) hkb]; exact hkat.out j v hv
      have g0 : w5.cell? ⟨kb, ko, none⟩ = some (.string nm) := hk5 0 _ rfl
      have g1 : w5.cell? ⟨kb, ko + 1, none⟩ = some (.int .i64 3) := hk5 1 _ rfl
      have g2 : w5.cell? ⟨kb, ko + 2, none⟩ = some (.int .i64 0) := hk5 2 _ rfl
      have g3 : w5.cell? ⟨kb, ko + 3, none⟩ = some (.complex .f64 0 0) := hk5 3 _ rfl
      have g4 : w5.cell? ⟨kb, ko + 4, none⟩ = some (.string ks) := hk5 4 _ rfl
      have g5 : w5.cell? ⟨kb, ko + 5, none⟩ = some (.int .i64 0) := hk5 5 _ rfl
      have g6 : w5.cell? ⟨kb, ko + 6, none⟩ = some (.int .u32 0) := hk5 6 _ rfl
      have g7 : w5.cell? ⟨kb, ko + 7, none⟩ = some (.int .u64 0) := hk5 7 _ rfl
      have g8 : w5.cell? ⟨kb, ko + 8, none⟩ = some (.slice X1 0 x1) := hk5 8 _ rfl
      have g9 : w5.cell? ⟨kb, ko + 9, none⟩ = some (.slice X2 0 x2) := hk5 9 _ rfl
      clear hk5
      go_wp2
      refine wp_loop_rounds 2 ?_
      rw [rounds_succ]
      go_wp2_with (refine store_new rfl 36 _ _ rfl rfl w5 #[.string nm, .int .i64 3, .int .i64 0, .complex .f64 0 0, .string ks, .int .i64 0, .int .u32 0, .int .u64 0, .slice X1 0 x1, .slice X2 0 x2] _ 36 rfl rfl (by kernel_rfl) rfl (by kernel_rfl) ?_)
      have hsk : ∀ W' : World, (∀ b o : Nat, b < w5.heap.size + 1 → W'.cell? ⟨b, o, none⟩ = (w5.alloc (.cells #[.string nm, .int .i64 3, .int .i64 0, .complex .f64 0 0, .string ks, .int .i64 0, .int .u32 0, .int .u64 0, .slice X1 0 x1, .slice X2 0 x2] 36)).cell? ⟨b, o, none⟩) → W'.cell? ⟨w5.heap.size, 0, none⟩ = some (.string nm) ∧ W'.cell? ⟨w5.heap.size, 1, none⟩ = some (.int .i64 3) ∧ W'.cell? ⟨w5.heap.size, 2, none⟩ = some (.int .i64 0) ∧ W'.cell? ⟨w5.heap.size, 3, none⟩ = some (.complex .f64 0 0) ∧ W'.cell? ⟨w5.heap.size, 4, none⟩ = some (.string ks) ∧ W'.cell? ⟨w5.heap.size, 5, none⟩ = some (.int .i64 0) ∧ W'.cell? ⟨w5.heap.size, 6, none⟩ = some (.int .u32 0) ∧ W'.cell? ⟨w5.heap.size, 7, none⟩ = some (.int .u64 0) ∧ W'.cell? ⟨w5.heap.size, 8, none⟩ = some (.slice X1 0 x1) ∧ W'.cell? ⟨w5.heap.size, 9, none⟩ = some (.slice X2 0 x2) := fun W' h => ⟨(h w5.heap.size 0 (by omega)).trans (cell_of_row _ _ 0 _ _ _ (heap_alloc_last w5 _)), (h w5.heap.size 1 (by omega)).trans (cell_of_row _ _ 1 _ _ _ (heap_alloc_last w5 _)), (h w5.heap.size 2 (by omega)).trans (cell_of_row _ _ 2 _ _ _ (heap_alloc_last w5 _)), (h w5.heap.size 3 (by omega)).trans (cell_of_row _ _ 3 _ _ _ (heap_alloc_last w5 _)), (h w5.heap.size 4 (by omega)).trans (cell_of_row _ _ 4 _ _ _ (heap_alloc_last w5 _)), (h w5.heap.size 5 (by omega)).trans (cell_of_row _ _ 5 _ _ _ (heap_alloc_last w5 _)), (h w5.heap.size 6 (by omega)).trans (cell_of_row _ _ 6 _ _ _ (heap_alloc_last w5 _)), (h w5.heap.size 7 (by omega)).trans (cell_of_row _ _ 7 _ _ _ (heap_alloc_last w5 _)), (h w5.heap.size 8 (by omega)).trans (cell_of_row _ _ 8 _ _ _ (heap_alloc_last w5 _)), (h w5.heap.size 9 (by omega)).trans (cell_of_row _ _ 9 _ _ _ (heap_alloc_last w5 _))⟩
      have HSK := Lib.hid hsk
      have hmlt : mb < w5.heap.size := by omega
      obtain ⟨i0, hi0, hq0, hq1, hq2⟩ := info_parts infoBind
      clear hsk
      go_region_held3 (fun W => W.cell? ⟨w5.heap.size, 0, none⟩ = some (.string nm) ∧ W.cell? ⟨w5.heap.size, 1, none⟩ = some (.int .i64 3) ∧ W.cell? ⟨w5.heap.size, 2, none⟩ = some (.int .i64 0) ∧ W.cell? ⟨w5.heap.size, 3, none⟩ = some (.complex .f64 0 0) ∧ W.cell? ⟨w5.heap.size, 4, none⟩ = some (.string ks) ∧ W.cell? ⟨w5.heap.size, 5, none⟩ = some (.int .i64 0) ∧ W.cell? ⟨w5.heap.size, 6, none⟩ = some (.int .u32 0) ∧ W.cell? ⟨w5.heap.size, 7, none⟩ = some (.int .u64 0) ∧ W.cell? ⟨w5.heap.size, 8, none⟩ = some (.slice X1 0 x1) ∧ W.cell? ⟨w5.heap.size, 9, none⟩ = some (.slice X2 0 x2)) (first | assumption | go_keep) (first | (go_at_call 18; refine (copy_leaf 3 0 0 0 ks 0 0 0 (by decide) (check_atom hks.out) X1 x1 X2 x2 _).mono ?_; rintro e w6 ⟨Y1, y1, Y2, y2, rfl, hb⟩; have hz6 : w5.heap.size < w6.heap.size := (by have := hb.size; simp at this; omega); have hbc6 := (fun (b o : Nat) (hbo : b < w5.heap.size + 1) => (bcell hb).1 b o (by simp; omega)); have hk6 := HSK.out w6 hbc6; have HK6 := Lib.hid hbc6; clear hbc6; have HB6 := Lib.hid (show Below w5.heap.size w5 w6 from (((Below.refl w5.heap.size w5).alloc (Nat.le_refl _) _).drew).trans (hb.mono (by simp))); clear hb) | (refine step_app rfl _ _ 34 rfl w5.heap.size 36 i0 _ 10 136 Try.underlying34 hi0 hq0 hq1 hq2 rfl (by decide) (.slice none 0 0) 0 [] rfl ⟨rfl, .inl ⟨rfl, rfl⟩⟩ ⟨w6.heap.size, 0, none⟩ 1 1 [.string nm, .int .i64 3, .int .i64 0, .complex .f64 0 0, .string ks, .int .i64 0, .int .u32 0, .int .u64 0, .slice Y1 0 y1, .slice Y2 0 y2] rfl rfl (fun i u hu => by rw [Addr.add_mid]; exact row_cells (heap_alloc_last w6 _) (o := 0) (fun _ _ h => by simpa using h) i u hu) (by simp [Value.oneCell']) (by unfold maxLen; omega) (by omega) (by simp; omega) ?_; intro v7 w7 hown7 hgrow7; have hk7 := HSK.out w7 (fun b o hbo => by rw [hgrow7.cell_far ⟨b, o, none⟩ (by simp; omega) (by simp [Value.ownBlock])]; show (w6.alloc _).cell? _ = _; rw [World.cell?_alloc_lt _ _ _ (by show b < _; omega)]; exact HK6.out b o hbo); obtain ⟨A7, c7, rfl, _, _⟩ := own_shape hown7; have HO7 := Lib.hid hown7; have HG7 := Lib.hid hgrow7; clear hown7 hgrow7))
      have hz7 : w6.heap.size < w7.heap.size := by have := HG7.out.size; simp at this; omega
      have HB7 := Lib.hid (show Below w5.heap.size w5 w7 from (HB6.out.alloc (by omega) _).grown HG7.out (by simp; omega) (fun k hk => by simp [Value.ownBlock] at hk))
      have hc7 : w7.cell? ⟨Mb, 1, none⟩ = some (.slice nA ents.length nc) := by
        rw [HB7.out.cell (p := ⟨Mb, 1, none⟩) (World.block_lt_of_cell? w5 _ hcn)]; exact hcn
      clear hk6 hk7
      go_wp2
      rw [rounds_succ]
      go_wp2
      go_loopg [79, 16] ents.length (fun k vi vo wr => ∃ i out A cap, k + i = ents.length ∧ vi = .int .i64 (i : Nat) ∧ vo = .slice A (1 + i) cap ∧ w5.heap.size ≤ wr.heap.size ∧ Hid (
        wr.ownsRow w5.heap.size 36 10 vo (1 + i) ([.string nm, .int .i64 3, .int .i64 0, .complex .f64 0 0, .string ks, .int .i64 0, .int .u32 0, .int .u64 0, .slice Y1 0 y1, .slice Y2 0 y2] ++ brow out) ∧ Below w5.heap.size w5 wr ∧ out.map (fun e => (e.1, e.2.1)) = (ents.take i).map (fun e => (e.1, e.2.1))))
      case atStart =>
        exact ⟨0, [], A7, c7, rfl, rfl, rfl, by omega, Lib.hid ⟨HO7.out, HB7.out, rfl⟩⟩
      case round =>
        obtain ⟨i, out, A, cap, hk, rfl, rfl, hsr, hr⟩ := hrel
        rcases Nat.lt_or_ge i ents.length with hi | hi
        · have hno : nA ≠ none := fun e => by have := (HNN.out e).1; simp at this; subst this; simp at hi
          obtain ⟨ad, hnad⟩ := Option.ne_none_iff_exists'.1 hno
          obtain ⟨ng, rfl, hng1, hng2, hngc⟩ := HNA.out ad hnad
          subst hnad
          obtain ⟨⟨s, x, I1, i1, I2, i2⟩, he⟩ : ∃ e, ents[i]? = some e := ⟨ents[i], List.getElem?_eq_getElem hi⟩
          obtain ⟨hown, hb5, hout⟩ := hr.out
          have hm5r : MapAt wr mb ([(nm, Value.agg #[.int .i64 3, .int .i64 0, .complex .f64 0 0, .string ks, .int .i64 0, .int .u32 0, .int .u64 0, .slice X1 0 x1, .slice X2 0 x2])] ++ ents.map entV) := HM5.out.below hb5 (by omega)
          have hnc0 : wr.cell? ⟨ng, i, none⟩ = some (.string s) := by
            rw [hb5.cell (p := ⟨ng, i, none⟩) hng2]
            exact hngc i _ (by simp [he])
          have hsn : s ≠ nm := by
            rcases fit_src ps [] (s, x, I1, i1, I2, i2) (by rw [HR.out]; exact List.mem_of_getElem? he) with h | ⟨p, hp, hs⟩
            · simp at h
            · rw [show s = p.s from hs.symm]; exact hfresh.out (p.s, p.x) (by rw [← HPS.out]; exact List.mem_map_of_mem (f := fun p => (p.s, p.x)) hp)
          have hl0 := HLOOK0.out wr s hsn (HO5.out.below hb5 (by omega))
          have hl1 : (Instr.lookup 50 (.map (some mb)) (.string s) false).run Try.prog wr = .ok (.agg #[.int .i64 1, .int .i64 x, .complex .f64 0 0, .string ⟨#[]⟩, .int .i64 0, .int .u32 0, .int .u64 0, .slice I1 0 i1, .slice I2 0 i2]) wr := by
            rw [run_look Try.underlying50 Try.underlying9 (z := .agg #[.int .i64 0, .int .i64 0, .complex .f64 0 0, .string ⟨#[]⟩, .int .i64 0, .int .u32 0, .int .u64 0, .slice none 0 0, .slice none 0 0]) (by kernel_rfl) hm5r s false, mlook_both (base := [(nm, Value.agg #[.int .i64 3, .int .i64 0, .complex .f64 0 0, .string ks, .int .i64 0, .int .u32 0, .int .u64 0, .slice X1 0 x1, .slice X2 0 x2])]) (if_neg hsn), HOWN.out i _ he]; rfl
          have HE := Lib.hid he
          have HR5 := Lib.hid hown
          have HB5R := Lib.hid hb5
          have HOUT := Lib.hid hout
          have HXO := Lib.hid (HEO.out _ (List.mem_of_getElem? he))
          have hik : (i : Int) < (ents.length : Int) := by omega
          have hi64 : (i : Int) < 64 := by omega
          clear he hown hb5 hout hngc hng1 hm5r
          go_wp2_with fail
          refine (copy_leaf 1 x 0 0 ⟨#[]⟩ 0 0 0 (by decide) (check_int HXO.out) I1 i1 I2 i2 _).mono ?_
          rintro e w6 ⟨D1, e1, D2, e2, rfl, hb⟩
          have hz6 : w5.heap.size ≤ w6.heap.size := by have := hb.size; omega
          have HB6 := Lib.hid hb
          clear hb
          obtain ⟨i0, hi0, hq0, hq1, hq2⟩ := info_parts infoBind
          go_wp2_with (refine wpList_app rfl _ _ 34 rfl w5.heap.size 36 i0 _ 10 136 Try.underlying34 hi0 hq0 hq1 hq2 rfl (by decide) (.slice A (1 + i) cap) (1 + i) ([.string nm, .int .i64 3, .int .i64 0, .complex .f64 0 0, .string ks, .int .i64 0, .int .u32 0, .int .u64 0, .slice Y1 0 y1, .slice Y2 0 y2] ++ brow out) rfl ((own_below HR5.out HB6.out (Nat.le_refl _)).alloc _) (some ⟨w6.heap.size, 0, none⟩) 1 1 [.string s, .int .i64 1, .int .i64 x, .complex .f64 0 0, .string ⟨#[]⟩, .int .i64 0, .int .u32 0, .int .u64 0, .slice D1 0 e1, .slice D2 0 e2] rfl rfl (.inr ⟨_, rfl, fun j u hu => by rw [Addr.add_mid]; exact row_cells (heap_alloc_last w6 _) (o := 0) (fun _ _ h => by simpa using h) j u hu⟩) (by simp [Value.oneCell']) (by unfold maxLen; omega) (by omega) (by simp; omega) ?_)
          intro v' w' hown' hgrow'
          obtain ⟨A'', c'', rfl, _, _⟩ := own_shape hown'
          have HO := Lib.hid hown'
          have HGW := Lib.hid hgrow'
          clear hown' hgrow'
          go_wp2
          go_roundg (ents.length - (i + 1))
          case measure => omega
          case rel =>
            have hs := HGW.out.size
            simp at hs
            refine ⟨i + 1, out ++ [(s, x, D1, e1, D2, e2)], A'', c'', by omega, by go_num, rfl, by omega, Lib.hid ⟨?_, ?_, ?_⟩⟩
            · have h := HO.out
              rw [brow_app, ← List.append_assoc]
              exact h
            · refine (HB5R.out.trans (((HB6.out.mono (by omega)).alloc (by omega) _).grown HGW.out (by simp; omega) (fun k hk => (HR5.out.lt k hk).1)))
            · rw [List.map_append, HOUT.out, List.take_add_one, HE.out]
              simp
        · have hie : i = ents.length := by omega
          subst hie
          have hlt : ¬ ((ents.length : Int) < (ents.length : Int)) := by omega
          go_wp2
          refine bodyPost_ret (v := .tuple #[.slice A (1 + ents.length) cap, .bool true, .int .i64 0]) (by simp [results, Try.results8, go_sem]) rfl ?_
          obtain ⟨hown, hb5, hout⟩ := hr.out
          rw [List.take_length] at hout
          have hol : out.length = ents.length := by have := congrArg List.length hout; simpa using this
          refine ⟨ps, HPS.out, HB5.out.trans (hb5.mono (by omega)), .inr (.inr ⟨by rw [HR.out], by rw [HR.out]; simpa using hle, _, out, by rw [HR.out]; exact hout, rfl, [.string nm, .int .i64 3, .int .i64 0, .complex .f64 0 0, .string ks, .int .i64 0, .int .u32 0, .int .u64 0, .slice Y1 0 y1, .slice Y2 0 y2], (fun h => by cases h), rfl, ?_⟩)⟩
          rw [hol]
          exact own_base hown (by omega)

end Go.Proofs.Ytgahfmnkkaacgaa

