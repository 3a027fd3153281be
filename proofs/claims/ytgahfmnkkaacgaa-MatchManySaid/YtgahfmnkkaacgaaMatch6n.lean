/- A match, walked. -/
import Derived.Test.YtgahfmnkkaacgaaMatchW
namespace Go.Proofs.Ytgahfmnkkaacgaa
set_option linter.unusedVariables false
set_option linter.unusedSimpArgs false
open Go.RowKit

set_option maxRecDepth 100000 in
set_option maxHeartbeats 8000000 in
theorem match6n (l : List (ByteArray × Int)) (P T : Option Addr) (A1 : Option Addr) (c1 cP : Nat) (B1 : Option Addr) (d1 cT : Nat) (w : World)
    (hlen : l.length ≤ 256) (hnm : Hid (∀ p ∈ l, mnameF p.1 = true)) (hint : Hid (∀ p ∈ l, intOk p.2)) (hP : Hid (LT.ats w w.heap.size (l.map fun p => lfT (.var p.1)) P)) (hT : Hid (LT.ats w w.heap.size (l.map fun p => intT p.2) T)) :
    Calls Try.prog 8 #[.agg #[.int .i64 6, .int .i64 0, .complex .f64 0 0, .string ⟨#[]⟩, .int .i64 0, .int .u32 0, .int .u64 0, .slice A1 0 c1, .slice P l.length cP], .agg #[.int .i64 6, .int .i64 0, .complex .f64 0 0, .string ⟨#[]⟩, .int .i64 0, .int .u32 0, .int .u64 0, .slice B1 0 d1, .slice T l.length cT], .slice none 0 0] w (MatchR w l [] 0) := by
  generalize hn : l.length = n at *
  have HN := Lib.hid hn
  have HTOP := Lib.hid (node_top 6 (by decide) (l.map fun p => Lf.var p.1) (by rw [List.length_map, hn]; exact hlen) (fun f hf => by
    obtain ⟨p, hp, rfl⟩ := List.mem_map.1 hf
    exact hnm.out p hp))
  have HPN := Lib.hid (fun (W : World) (B : Nat) (hW : Below w.heap.size w W) (hB : w.heap.size ≤ B) => show LT.at W B (nodeT 6 (l.map fun p => Lf.var p.1)) (tcells 6 0 0 0 ⟨#[]⟩ 0 0 0 A1 0 c1 P n cP) from by
    refine at_mono hB _ _ (at_stays (w := w) (fun a ha => hW.cell ha) _ _ (node_at _ _ _ _ _ _ _ (by simp [hn]) hlen ?_))
    rw [← map_lfT]; exact hP.out)
  have HTN := Lib.hid (fun (W : World) (B : Nat) (hW : Below w.heap.size w W) (hB : w.heap.size ≤ B) => show LT.at W B (.mk 6 0 0 0 ⟨#[]⟩ 0 0 0 [] ((l.map (·.2)).map intT)) (tcells 6 0 0 0 ⟨#[]⟩ 0 0 0 B1 0 d1 T n cT) from by
    refine at_mono hB _ _ (at_stays (w := w) (fun a ha => hW.cell ha) _ _ (node_at _ _ _ _ _ _ _ (by simp [hn]) hlen ?_))
    rw [← map_intT]; exact hT.out)
  have HCK := Lib.hid (check_ints 6 (by decide) (l.map (·.2)) (fun x hx => by obtain ⟨p, hp, rfl⟩ := List.mem_map.1 hx; exact hint.out p hp) (by rw [List.length_map, hn]; exact hlen))
  have HPL := Lib.hid (plain_ints 6 (by decide) (l.map (·.2)))
  have hmm := @run_makeMap Try.prog
  clear hn
  go_enter Try.func8, Try.ntmps8
  go_wp2_with fail
  have HW0 := Lib.hid (((Below.refl w.heap.size w).alloc (Nat.le_refl _) (.cells #[.int .i64 6, .int .i64 0, .complex .f64 0 0, .string ⟨#[]⟩, .int .i64 0, .int .u32 0, .int .u64 0, .slice A1 0 c1, .slice P n cP] 31)).alloc (by simp) (.cells #[.int .i64 6, .int .i64 0, .complex .f64 0 0, .string ⟨#[]⟩, .int .i64 0, .int .u32 0, .int .u64 0, .slice B1 0 d1, .slice T n cT] 31))
  refine (walked_any _ 0 _ _ HTOP.out (tcells 6 0 0 0 ⟨#[]⟩ 0 0 0 A1 0 c1 P n cP) _ (HPN.out _ _ HW0.out (by simp; omega))).mono ?_
  rintro e w1 ⟨Mb, sb, rfl, hb, hL⟩
  have hz1 : w.heap.size + 1 < w1.heap.size := by have := hb.size; simp at this; omega
  have hy1 : w.heap.size < w1.heap.size := by omega
  have HB1 := Lib.hid (HW0.out.trans (hb.mono (by simp; omega)))
  have HL1 := Lib.hid hL
  obtain ⟨hc1, hf1⟩ := bcell hb
  clear hb hf1 hL
  go_wp2_with fail
  refine (check_any _ (tcells 6 0 0 0 ⟨#[]⟩ 0 0 0 B1 0 d1 T n cT) _ HPL.out (HTN.out _ _ HB1.out (by omega))).mono ?_
  rw [HCK.out]
  rintro e w2 ⟨rfl, hb⟩
  have hz2 : w.heap.size + 1 < w2.heap.size := by have := hb.size; omega
  have hy2 : w.heap.size < w2.heap.size := by omega
  have hs2 : w1.heap.size ≤ w2.heap.size := hb.size
  have HB2 := Lib.hid (HB1.out.trans (hb.mono (by omega)))
  have HC2 := Lib.hid hb
  obtain ⟨hc2, hf2⟩ := bcell hb
  clear hb hf2
  go_wp2_with fail
  refine (table_nil _ _ _).mono ?_
  rintro e w3 ⟨mb, rfl, hb, hm3, hmb⟩
  have hz3 : w.heap.size + 1 < w3.heap.size := by have := hb.size; omega
  have hy3 : w.heap.size < w3.heap.size := by omega
  have hs3 : w2.heap.size ≤ w3.heap.size := hb.size
  have HB3 := Lib.hid (HB2.out.trans (hb.mono (by omega)))
  have HC3 := Lib.hid (HC2.out.trans (hb.mono hs2))
  have HM3 := Lib.hid hm3
  have hml := hm3.lt
  obtain ⟨hc3, hf3⟩ := bcell hb
  clear hb hf3 hm3
  have hrange : (Instr.range 50 (.map (some mb))).run Try.prog (w3.alloc (.map #[] 0)) = .ok (.pointer (some ⟨w3.heap.size + 1, 0, none⟩)) ((w3.alloc (.map #[] 0)).alloc (.mapIter (some mb) 0 #[] 0)) := by
    have := run_range_map (P := Try.prog) (w3.alloc (.map #[] 0)) 50 _ _ mb #[] 0 Try.underlying50 (mapAt_nil (HM3.out.alloc _))
    simpa using this
  have hnext := next_done (P := Try.prog) (w := (w3.alloc (.map #[] 0)).alloc (.mapIter (some mb) 0 #[] 0)) (r := w3.heap.size + 1) (by have := heap_alloc_last (w3.alloc (.map #[] 0)) (.mapIter (some mb) 0 #[] 0); simpa using this) (mapAt_nil ((HM3.out.alloc _).alloc _)) (by simp) (Nat.le_refl _) rfl
  go_wp2
  refine wp_loop_rounds 1 ?_
  rw [rounds_succ]
  go_wp2_with fail
  clear hrange hnext
  obtain ⟨ps, hps, hat⟩ := pairs_of l P T hP.out hT.out
  have hpsl : ps.length = n := by have := congrArg List.length hps; simp only [List.length_map] at this; rw [this]; exact HN.out
  have HPS := Lib.hid hps
  have HAT4 := Lib.hid (pairs_stay (w' := (w3.alloc (.map #[] 0)).alloc (.mapIter (some mb) 0 #[] 0)) (fun a ha => ((HB3.out.alloc (by omega) _).alloc (by simp; omega) _).cell ha) hat)
  have HM4 := Lib.hid ((HM3.out.alloc (.map #[] 0)).alloc (.mapIter (some mb) 0 #[] 0))
  have HO4 := Lib.hid ((MapAt.new w3).alloc (.mapIter (some mb) 0 #[] 0))
  have HB4 := Lib.hid ((HB3.out.alloc (by omega) (.map #[] 0)).alloc (by simp; omega) (.mapIter (some mb) 0 #[] 0))
  have HC4 := Lib.hid ((HC3.out.alloc (by omega) (.map #[] 0)).alloc (by simp; omega) (.mapIter (some mb) 0 #[] 0))
  have hs4 : ((w3.alloc (.map #[] 0)).alloc (.mapIter (some mb) 0 #[] 0)).heap.size = w3.heap.size + 2 := by simp
  have hc4 : ∀ b o : Nat, b < w3.heap.size → ((w3.alloc (.map #[] 0)).alloc (.mapIter (some mb) 0 #[] 0)).cell? ⟨b, o, none⟩ = w3.cell? ⟨b, o, none⟩ := fun b o hb => by
    rw [World.cell?_alloc_lt _ _ _ (by simp; omega), World.cell?_alloc_lt _ _ _ (by simpa using hb)]
  generalize (w3.alloc (.map #[] 0)).alloc (.mapIter (some mb) 0 #[] 0) = w4 at *
  have hfit := fits6 ps P T A1 c1 cP B1 d1 cT mb [] w.heap.size w4 (by omega) HAT4 HM4 (by omega) (by omega) (Lib.hid (fun _ _ => rfl)) (Lib.hid (fun p hp => hint.out (p.s, p.x) (by rw [← HPS.out]; exact List.mem_map_of_mem (f := fun p => (p.s, p.x)) hp)))
  rw [hpsl] at hfit
  generalize hR : fitS ps [] = R at hfit
  have HR := Lib.hid hR
  clear hR hps hat
  refine hfit.mono ?_
  clear hfit
  rintro e w5 ⟨rfl, hg5, hm5⟩
  have HB5 := Lib.hid (HB4.out.trans (gb_to hg5 (by omega) (by omega)))
  have HC5 := Lib.hid (HC4.out.trans (gb_to hg5 (by omega) (by omega)))
  have HO5 := Lib.hid (HO4.out.stays (hg5.block _ (by omega) (fun e => by injection e; omega)))
  have hs5 : w4.heap.size ≤ w5.heap.size := hg5.size
  clear hg5
  obtain ⟨rb, ents⟩ := R
  cases rb with
  | false =>
    clear hm5
    go_wp2
    refine bodyPost_ret (v := .tuple #[.slice none 0 0, .bool false, .int .i64 0]) (by simp [results, Try.results8, go_sem]) rfl ?_
    exact ⟨ps, HPS.out, HB5.out, .inl ⟨by rw [HR.out], rfl⟩⟩
  | true =>
    have hm5 : MapAt w5 mb (ents.map entV) := hm5 rfl
    have hlm : ∀ W ty, MapAt W mb (ents.map entV) → (Builtin.len_ #[50] ty #[.map (some mb)]).run Try.prog W = .ok (.int .i64 ents.length) W := fun W ty hW => by
      rw [run_mlen Try.underlying50 hW ty]; simp
    have HM5 := Lib.hid hm5
    have HLM := Lib.hid hlm
    clear hlm
    have hlm5 := fun ty => HLM.out w5 ty hm5
    rcases Nat.lt_or_ge 64 ents.length with hgt | hle
    · go_wp2
      refine bodyPost_ret (v := .tuple #[.slice none 0 0, .bool false, .int .i64 52]) (by simp [results, Try.results8, go_sem]) rfl ?_
      exact ⟨ps, HPS.out, HB5.out, .inr (.inl ⟨by rw [HR.out], by rw [HR.out]; simpa using hgt, rfl⟩)⟩
    · have hnames := fit_names ps [] (by rw [HR.out])
      rw [HR.out] at hnames
      have hvars : (l.map fun p => Lf.var p.1) = ps.map fun p => Lf.var p.s := by rw [← HPS.out, List.map_map]; rfl
      have hL5 := HL1.out.below HC5.out (Nat.le_refl _)
      rw [hvars, show lfsN (ps.map fun p => Lf.var p.s) [] = ents.map (·.1) from hnames] at hL5
      obtain ⟨nv, hl1, hl2, _⟩ := hL5
      obtain ⟨nA, nc, hnv, hnA0, hnA1⟩ := own_shape hl2
      rw [List.length_map] at hnv
      subst hnv
      have hcn : w5.cell? ⟨Mb, 1, none⟩ = some (.slice nA ents.length nc) := cell_of_row w5 Mb 1 _ _ _ hl1
      have HNA := Lib.hid hnA1
      have HNN := Lib.hid hnA0
      have hOwn := fit_own ps [] (fun i e he => by simp at he)
      rw [HR.out] at hOwn
      have HOWN := Lib.hid hOwn
      have hEntOk := fit_ok ps [] (fun p hp => hint.out (p.s, p.x) (by rw [← HPS.out]; exact List.mem_map_of_mem (f := fun p => (p.s, p.x)) hp)) (fun e he => by simp at he)
      rw [HR.out] at hEntOk
      have HEO := Lib.hid hEntOk
      have hlook0 : ∀ W k, MapAt W w3.heap.size [] → (Instr.lookup 53 (.map (some w3.heap.size)) (.string k) false).run Try.prog W = .ok (.int .i64 0) W := fun W k hW => by
        rw [run_look Try.underlying53 Try.underlying9 (z := .int .i64 0) (by kernel_rfl) hW k false]; rfl
      have HLOOK0 := Lib.hid hlook0
      clear hl1 hl2 hnA0 hnA1 hnames hvars hOwn hlook0 hEntOk
      go_wp2
      refine wp_loop_rounds 1 ?_
      rw [rounds_succ]
      go_wp2
      go_loopg [79, 16] ents.length (fun k vi vo wr => ∃ i out A cap, k + i = ents.length ∧ vi = .int .i64 (i : Nat) ∧ vo = .slice A i cap ∧ w5.heap.size ≤ wr.heap.size ∧ Hid (
        wr.ownsRow w5.heap.size 36 10 vo i (brow out) ∧ Below w5.heap.size w5 wr ∧ out.map (fun e => (e.1, e.2.1)) = (ents.take i).map (fun e => (e.1, e.2.1))))
      case atStart =>
        exact ⟨0, [], none, 0, rfl, rfl, rfl, Nat.le_refl _, Lib.hid ⟨⟨rfl, .inl ⟨rfl, rfl⟩⟩, Below.refl _ _, rfl⟩⟩
      case round =>
        obtain ⟨i, out, A, cap, hk, rfl, rfl, hsr, hr⟩ := hrel
        rcases Nat.lt_or_ge i ents.length with hi | hi
        · have hno : nA ≠ none := fun e => by have := (HNN.out e).1; simp at this; subst this; simp at hi
          obtain ⟨ad, hnad⟩ := Option.ne_none_iff_exists'.1 hno
          obtain ⟨ng, rfl, hng1, hng2, hngc⟩ := HNA.out ad hnad
          subst hnad
          obtain ⟨⟨s, x, I1, i1, I2, i2⟩, he⟩ : ∃ e, ents[i]? = some e := ⟨ents[i], List.getElem?_eq_getElem hi⟩
          obtain ⟨hown, hb5, hout⟩ := hr.out
          have hm5r : MapAt wr mb (ents.map entV) := HM5.out.below hb5 (by omega)
          have hnc0 : wr.cell? ⟨ng, i, none⟩ = some (.string s) := by
            rw [hb5.cell (p := ⟨ng, i, none⟩) hng2]
            exact hngc i _ (by simp [he])
          have hl0 := HLOOK0.out wr s (HO5.out.below hb5 (by omega))
          have hl1 : (Instr.lookup 50 (.map (some mb)) (.string s) false).run Try.prog wr = .ok (.agg #[.int .i64 1, .int .i64 x, .complex .f64 0 0, .string ⟨#[]⟩, .int .i64 0, .int .u32 0, .int .u64 0, .slice I1 0 i1, .slice I2 0 i2]) wr := by
            rw [run_look Try.underlying50 Try.underlying9 (z := .agg #[.int .i64 0, .int .i64 0, .complex .f64 0 0, .string ⟨#[]⟩, .int .i64 0, .int .u32 0, .int .u64 0, .slice none 0 0, .slice none 0 0]) (by kernel_rfl) hm5r s false, mlook_ents, HOWN.out i _ he]; rfl
          have HE := Lib.hid he
          have HR5 := Lib.hid hown
          have HB5R := Lib.hid hb5
          have HOUT := Lib.hid hout
          have HXO := Lib.hid (HEO.out _ (List.mem_of_getElem? he))
          have hik : (i : Int) < (ents.length : Int) := by omega
          have hi64 : (i : Int) < 64 := by omega
          clear he hown hb5 hout hngc hng1 hm5r
          go_wp2_with fail
          refine (copy_leaf 1 x 0 0 ⟨#[]⟩ 0 0 0 (by decide) (check_int HXO.out) I1 i1 I2 i2 _).mono ?_
          rintro e w6 ⟨D1, e1, D2, e2, rfl, hb⟩
          have hz6 : w5.heap.size ≤ w6.heap.size := by have := hb.size; omega
          have HB6 := Lib.hid hb
          clear hb
          obtain ⟨i0, hi0, hq0, hq1, hq2⟩ := info_parts infoBind
          go_wp2_with (refine wpList_app rfl _ _ 34 rfl w5.heap.size 36 i0 _ 10 136 Try.underlying34 hi0 hq0 hq1 hq2 rfl (by decide) (.slice A i cap) i (brow out) rfl ((own_below HR5.out HB6.out (Nat.le_refl _)).alloc _) (some ⟨w6.heap.size, 0, none⟩) 1 1 [.string s, .int .i64 1, .int .i64 x, .complex .f64 0 0, .string ⟨#[]⟩, .int .i64 0, .int .u32 0, .int .u64 0, .slice D1 0 e1, .slice D2 0 e2] rfl rfl (.inr ⟨_, rfl, fun j u hu => by rw [Addr.add_mid]; exact row_cells (heap_alloc_last w6 _) (o := 0) (fun _ _ h => by simpa using h) j u hu⟩) (by simp [Value.oneCell']) (by unfold maxLen; omega) (by omega) (by simp; omega) ?_)
          intro v' w' hown' hgrow'
          obtain ⟨A'', c'', rfl, _, _⟩ := own_shape hown'
          have HO := Lib.hid hown'
          have HGW := Lib.hid hgrow'
          clear hown' hgrow'
          go_wp2
          go_roundg (ents.length - (i + 1))
          case measure => omega
          case rel =>
            have hs := HGW.out.size
            simp at hs
            refine ⟨i + 1, out ++ [(s, x, D1, e1, D2, e2)], A'', c'', by omega, by go_num, rfl, by omega, Lib.hid ⟨?_, ?_, ?_⟩⟩
            · have h := HO.out
              rw [brow_app]
              exact h
            · refine (HB5R.out.trans (((HB6.out.mono (by omega)).alloc (by omega) _).grown HGW.out (by simp; omega) (fun k hk => (HR5.out.lt k hk).1)))
            · rw [List.map_append, HOUT.out, List.take_add_one, HE.out]
              simp
        · have hie : i = ents.length := by omega
          subst hie
          have hlt : ¬ ((ents.length : Int) < (ents.length : Int)) := by omega
          go_wp2
          refine bodyPost_ret (v := .tuple #[.slice A ents.length cap, .bool true, .int .i64 0]) (by simp [results, Try.results8, go_sem]) rfl ?_
          obtain ⟨hown, hb5, hout⟩ := hr.out
          rw [List.take_length] at hout
          have hol : out.length = ents.length := by have := congrArg List.length hout; simpa using this
          refine ⟨ps, HPS.out, HB5.out.trans (hb5.mono (by omega)), .inr (.inr ⟨by rw [HR.out], by rw [HR.out]; simpa using hle, _, out, by rw [HR.out]; exact hout, rfl, [], fun _ => rfl, rfl, ?_⟩)⟩
          rw [hol, Nat.zero_add]
          exact own_base hown (by omega)

end Go.Proofs.Ytgahfmnkkaacgaa
