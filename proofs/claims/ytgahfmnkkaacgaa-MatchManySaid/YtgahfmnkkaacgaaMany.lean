/- The law itself, walked. -/
import Derived.Test.YtgahfmnkkaacgaaManyW
import Derived.Laws.IdiomStrings
import Derived.Laws.Concat
namespace Go.Proofs.Ytgahfmnkkaacgaa
set_option linter.unusedVariables false
set_option linter.unusedSimpArgs false
open Go.RowKit

set_option maxRecDepth 100000 in
set_option maxHeartbeats 8000000 in
theorem many_run (alive : Hid (∀ w : World, Calls Try.prog 4 #[] w (Ret (.bool true) w))) (n : Nat) (hn : n ≤ 200) (kn : Bool) (w : World) :
    Calls Try.prog 3 #[.int .i64 n, .bool kn] w (Ret (.bool true) w) := by
  go_enter Try.func3, Try.ntmps3
  have hn0 : (0 : Int) ≤ n := by omega
  have hn1 : (n : Int) ≤ 200 := by omega
  go_wp2_with fail
  refine (alive.out _).mono ?_
  rintro e w0 ⟨rfl, hb⟩
  have HB0 := Lib.hid hb
  clear hb
  go_wp2
  go_loopg [7, 5, 6] n (fun k vi vn vt wr => ∃ i A c B d, k + i = n ∧ vi = .int .i64 (i : Nat) ∧ vn = .slice A i c ∧ vt = .slice B i d ∧ w.heap.size ≤ wr.heap.size ∧ Hid (
    wr.ownsRow w.heap.size 31 9 vn i (vrow i) ∧ wr.ownsRow w.heap.size 31 9 vt i (irow i) ∧ (i = 0 → A = none ∧ B = none) ∧ Below w.heap.size w wr))
  case atStart =>
    exact ⟨0, none, 0, none, 0, rfl, rfl, rfl, rfl, HB0.out.size, Lib.hid ⟨⟨rfl, .inl ⟨rfl, rfl⟩⟩, ⟨rfl, .inl ⟨rfl, rfl⟩⟩, fun _ => ⟨rfl, rfl⟩, HB0.out⟩⟩
  case round =>
    obtain ⟨i, A, c, B, d, hk, rfl, rfl, rfl, hsr, hr⟩ := hrel
    rcases Nat.lt_or_ge i n with hi | hi
    · have hi0 : (0 : Int) ≤ (i : Int) := by omega
      have hi1 : (i : Int) < (n : Int) := by omega
      have hi2 : (i : Int) < 200 := by omega
      have hconv : (convert 29 9 (.slice (some ⟨wr.heap.size, 0, none⟩) 2 2)).run Try.prog (wr.alloc (.cells #[.int .u8 (97 + (i : Int) % 26), .int .u8 (97 + (i : Int) / 26)] 5)) = .ok (.string ⟨#[UInt8.ofNat (97 + i % 26), UInt8.ofNat (97 + i / 26)]⟩) (wr.alloc (.cells #[.int .u8 (97 + (i : Int) % 26), .int .u8 (97 + (i : Int) / 26)] 5)) := by
        refine run_convert_bytes_back (P := Try.prog) _ _ _ 5 ⟨wr.heap.size, 0, none⟩ 2 [UInt8.ofNat (97 + i % 26), UInt8.ofNat (97 + i / 26)] Try.underlying29 Try.underlying5 Try.underlying9 (fun j hj => ?_)
        rw [Addr.add_mid, cell_of_row _ _ _ _ _ _ (heap_alloc_last wr _)]
        match j, hj with
        | 0, _ => simp; omega
        | 1, _ => simp; omega
      have hname : (⟨#[86]⟩ : ByteArray) ++ ⟨#[UInt8.ofNat (97 + i % 26), UInt8.ofNat (97 + i / 26)]⟩ = nmB i := by rw [ByteArray.mk_append_mk]; rfl
      have hsz2 : (⟨#[UInt8.ofNat (97 + i % 26), UInt8.ofNat (97 + i / 26)]⟩ : ByteArray).size = 2 := rfl
      generalize (⟨#[UInt8.ofNat (97 + i % 26), UInt8.ofNat (97 + i / 26)]⟩ : ByteArray) = b2 at hconv hname hsz2
      go_wp2_with fail
      clear hconv hname
      refine (v_any _ _).mono ?_
      rintro e w1 ⟨rfl, hb⟩
      obtain ⟨i0, hi0', hq0, hq1, hq2⟩ := info_parts infoTerm
      have hz1 : wr.heap.size < w1.heap.size := by have := hb.size; simp at this; omega
      have HB1 := Lib.hid (show Below wr.heap.size wr w1 from ((Below.refl wr.heap.size wr).alloc (Nat.le_refl _) _).trans (hb.mono (by simp)))
      clear hb
      have HN1 := Lib.hid (own_below hr.out.1 HB1.out (Nat.le_refl _))
      have HT1 := Lib.hid (own_below hr.out.2.1 HB1.out (Nat.le_refl _))
      have HI1 := Lib.hid (And.intro hr.out.2.2.1 (hr.out.2.2.2.trans (HB1.out.mono hsr)))
      go_wp2_with (refine wpList_app rfl _ _ 23 rfl w.heap.size 31 i0 _ 9 120 Try.underlying23 hi0' hq0 hq1 hq2 rfl (by decide) (.slice A i c) i (vrow i) rfl (HN1.out.alloc _) (some ⟨w1.heap.size, 0, none⟩) 1 1 (vcells (nmB i) nilS) rfl rfl (.inr ⟨_, rfl, fun j u hu => by rw [Addr.add_mid]; exact row_cells (heap_alloc_last w1 _) (o := 0) (fun _ _ h => by simpa using h) j u hu⟩) (by simp [Value.oneCell']) (by unfold maxLen; omega) (by omega) (by simp; omega) ?_)
      intro v2 w2 hown2 hgrow2
      obtain ⟨A2, c2, rfl, _, _⟩ := own_shape hown2
      have hz2 : w1.heap.size < w2.heap.size := by have := hgrow2.size; simp at this; omega
      have HN2 := Lib.hid (show w2.ownsRow w.heap.size 31 9 (.slice A2 (i + 1) c2) (i + 1) (vrow (i + 1)) from hown2)
      have hap1 : ∀ k, (Value.slice B i d).ownBlock = some k → (Value.slice A i c).ownBlock ≠ some k := by
        rcases Nat.eq_zero_or_pos i with h0 | h0
        · rw [(HI1.out.1 h0).2]
          intro k hk; simp [Value.ownBlock] at hk
        · exact own_apart HT1.out HN1.out (irow_head h0) (vrow_head h0) (by simp)
      have HT2 := Lib.hid (own_kept (HT1.out.alloc _) hgrow2 hap1)
      have HB2 := Lib.hid (show Below w.heap.size w w2 from (HI1.out.2.alloc (by omega) _).grown hgrow2 (by simp; omega) (fun k hk => (HN1.out.lt k hk).1))
      clear hown2 hgrow2 hap1
      go_wp2_with fail
      refine (int_any _ _).mono ?_
      rintro e w3 ⟨rfl, hb⟩
      have hz3 : w2.heap.size ≤ w3.heap.size := hb.size
      have HN3 := Lib.hid (own_below HN2.out hb (Nat.le_refl _))
      have HT3 := Lib.hid (own_below HT2.out hb (Nat.le_refl _))
      have HB3 := Lib.hid (HB2.out.trans (hb.mono (by omega)))
      clear hb
      go_wp2_with (refine wpList_app rfl _ _ 23 rfl w.heap.size 31 i0 _ 9 120 Try.underlying23 hi0' hq0 hq1 hq2 rfl (by decide) (.slice B i d) i (irow i) rfl (HT3.out.alloc _) (some ⟨w3.heap.size, 0, none⟩) 1 1 (icells (i : Nat) nilS) rfl rfl (.inr ⟨_, rfl, fun j u hu => by rw [Addr.add_mid]; exact row_cells (heap_alloc_last w3 _) (o := 0) (fun _ _ h => by simpa using h) j u hu⟩) (by simp [Value.oneCell']) (by unfold maxLen; omega) (by omega) (by simp; omega) ?_)
      intro v4 w4 hown4 hgrow4
      obtain ⟨B4, d4, rfl, _, _⟩ := own_shape hown4
      have hz4 : w3.heap.size < w4.heap.size := by have := hgrow4.size; simp at this; omega
      have HT4 := Lib.hid (show w4.ownsRow w.heap.size 31 9 (.slice B4 (i + 1) d4) (i + 1) (irow (i + 1)) from hown4)
      have hap2 : ∀ k, (Value.slice A2 (i + 1) c2).ownBlock = some k → (Value.slice B i d).ownBlock ≠ some k := by
        rcases Nat.eq_zero_or_pos i with h0 | h0
        · rw [(HI1.out.1 h0).2]
          intro k _; simp [Value.ownBlock]
        · exact own_apart HN3.out HT3.out (vrow_head (by omega)) (irow_head h0) (by simp)
      have HN4 := Lib.hid (own_kept (HN3.out.alloc _) hgrow4 hap2)
      have HB4 := Lib.hid (show Below w.heap.size w w4 from (HB3.out.alloc (by omega) _).grown hgrow4 (by simp; omega) (fun k hk => (HT3.out.lt k hk).1))
      clear hown4 hgrow4 hap2
      go_wp2
      go_roundg (n - (i + 1))
      case measure => omega
      case rel =>
        exact ⟨i + 1, A2, c2, B4, d4, by omega, by go_num, rfl, rfl, by omega, Lib.hid ⟨HN4.out, HT4.out, (fun h => by omega), HB4.out⟩⟩
    · have hin : i = n := by omega
      subst hin
      have hlt : ¬ ((i : Int) < (i : Int)) := by omega
      cases kn with
      | false =>
        go_wp2_with fail
        have HN0 := Lib.hid hr.out.1
        have HT0 := Lib.hid hr.out.2.1
        have HBW := Lib.hid hr.out.2.2.2
        have hw0 : wr.heap.size ≤ wr.heap.size := Nat.le_refl _
        have hl := list_any ((List.range' 0 i).map fun j => lfT (.var (nmB j))) A c wr (by simp; omega) (names_ats HN0.out)
        rw [show ((List.range' 0 i).map fun j => lfT (.var (nmB j))).length = i from by simp] at hl
        refine hl.mono ?_
        clear hl
        rintro e w1 ⟨vs, rfl, hb, hvs⟩
        obtain ⟨A1, c1, P, cP, rfl, hP⟩ := node_shape (n := i) (by simp) hvs
        have hz1 : wr.heap.size ≤ w1.heap.size := hb.size
        have HB1 := Lib.hid hb
        have HP1 := Lib.hid hP
        clear hb hP hvs
        go_wp2_with fail
        have hl := list_any ((List.range' 0 i).map fun j => intT (j : Nat)) B d w1 (by simp; omega) (ints_ats (own_below HT0.out HB1.out (Nat.le_refl _)))
        rw [show ((List.range' 0 i).map fun j => intT (j : Nat)).length = i from by simp] at hl
        refine hl.mono ?_
        clear hl
        rintro e w2 ⟨vs, rfl, hb, hvs⟩
        obtain ⟨B1, d1, T, cT, rfl, hT⟩ := node_shape (n := i) (by simp) hvs
        have hz2 : w1.heap.size ≤ w2.heap.size := hb.size
        have HP2 := Lib.hid (ats_mono hz2 _ _ (ats_stays (fun a ha => hb.cell ha) _ _ HP1.out))
        have HT2 := Lib.hid hT
        have HB2 := Lib.hid (HB1.out.trans (hb.mono hz1))
        clear hb hT hvs
        go_wp2_with fail
        have hm := match7n (manyL i) P T A1 c1 cP B1 d1 cT w2  (by rw [manyL_len]; omega) (Lib.hid (fun p hp => by obtain ⟨j, hj, rfl⟩ := manyL_mem hp; exact nmB_right j (by omega))) (Lib.hid (fun p hp => by obtain ⟨j, hj, rfl⟩ := manyL_mem hp; exact ⟨by show (-4611686018427387904 : Int) ≤ (j : Int); omega, by show (j : Int) ≤ 4611686018427387903; omega⟩)) (Lib.hid (by rw [manyL_names]; exact HP2.out)) (Lib.hid (by rw [manyL_ints]; exact HT2.out))
        rw [manyL_len] at hm
        refine hm.mono ?_
        clear hm
        rintro e w3 ⟨ps, hps, hb3, hcase⟩
        obtain ⟨hf1, hf2, hf3⟩ := many_fit hn hps
        have HB3 := Lib.hid (HB2.out.trans (hb3.mono (by omega)))
        have hz3 : w2.heap.size ≤ w3.heap.size := hb3.size
        clear hb3
        rcases hcase with ⟨h1, _⟩ | ⟨_, hgt, rfl⟩ | ⟨_, hle, v, ents, hents, rfl, pre, hpre, hprel, hown⟩
        · rw [hf1] at h1
          cases h1
        · rw [hf3] at hgt
          clear hf1 hf2 hf3 hps
          go_wp2
          go_ret
          exact Ret.mk rfl (HBW.out.trans (HB3.out.mono hsr))
        · rw [hf3] at hle
          rw [hf2] at hents
          have hel : ents.length = i := by have := congrArg List.length hents; simpa [manyL_len] using this
          rw [hel] at hown
          obtain ⟨VA, vc, rfl, hV0, hV1⟩ := own_shape hown
          have HE := Lib.hid hents
          have HOWN := Lib.hid hown
          have HPRE := Lib.hid hpre
          have HPL := Lib.hid hprel
          have HV1 := Lib.hid hV1
          have HV0 := Lib.hid hV0
          clear hf1 hf2 hf3 hps hents hown hpre hprel hV0 hV1
          go_wp2
          go_loopg [12] i (fun k vi wq => ∃ j, k + j = i ∧ vi = .int .i64 (j : Nat) ∧ w3.heap.size ≤ wq.heap.size ∧ Hid (Below w3.heap.size w3 wq))
          case atStart => exact ⟨0, rfl, rfl, Nat.le_refl _, Lib.hid (Below.refl _ _)⟩
          case round =>
            rename World => wq
            obtain ⟨j, hk2, rfl, hsq, hq⟩ := hrel
            rcases Nat.lt_or_ge j i with hji | hji
            · have hj0 : (0 : Int) ≤ (j : Int) := by omega
              have hj1 : (j : Int) < (i : Int) := by omega
              have hj2 : (j : Int) < 200 := by omega
              obtain ⟨⟨s, x, q⟩, he⟩ : ∃ e, ents[j]? = some e := ⟨ents[j]'(by omega), List.getElem?_eq_getElem _⟩
              have hse : s = nmB j ∧ x = (j : Int) := by
                have h1 : (ents.map fun e => (e.1, e.2.1))[j]? = some (s, x) := by simp [he]
                rw [HE.out, manyL_get hji] at h1
                simp only [Option.some.injEq, Prod.mk.injEq] at h1
                exact ⟨h1.1.symm, h1.2.symm⟩
              obtain ⟨rfl, rfl⟩ := hse
              have hVA : VA ≠ none := fun e => by have := (HV0.out e).1; omega
              obtain ⟨ad, rfl⟩ := Option.ne_none_iff_exists'.1 hVA
              obtain ⟨vg, rfl, _, hvg, hvc⟩ := HV1.out ad rfl
              have hA : A ≠ none := fun e => by
                obtain ⟨A', c', hv', h0, _⟩ := own_shape HN0.out
                cases hv'
                have := (h0 e).1; omega
              obtain ⟨ad2, rfl⟩ := Option.ne_none_iff_exists'.1 hA
              obtain ⟨A', c', hv', _, h1⟩ := own_shape HN0.out
              cases hv'
              obtain ⟨ng, rfl, _, hng, hnc⟩ := h1 ad2 rfl
              have hn4 : wq.cell? ⟨ng, j * 9 + 3, none⟩ = some (.string (nmB j)) := by
                rw [hq.out.cell (p := ⟨ng, _, none⟩) (by show ng < _; omega), HB3.out.cell (p := ⟨ng, _, none⟩) hng]
                exact hnc _ _ (vrow_get i j 3 _ hji rfl)
              have HC := Lib.hid (show ∀ t u, (bcells (nmB j, (j : Int), q))[t]? = some u → wq.cell? ⟨vg, (0 + j) * 10 + t, none⟩ = some u from fun t u hu => by
                rw [hq.out.cell (p := ⟨vg, _, none⟩) hvg]
                refine hvc _ _ ?_
                rw [List.getElem?_append_right (by rw [HPL.out]; omega), HPL.out]
                rw [show (0 + j) * 10 + t - 0 * 10 = j * 10 + t from by omega]
                exact brow_get ents j t _ u he hu)
              have hn5 : ∀ o, (wq.alloc o).cell? ⟨ng, j * 9 + 3, none⟩ = some (.string (nmB j)) := fun o => by
                rw [World.cell?_alloc_lt _ _ _ (by show ng < _; omega)]; exact hn4
              obtain ⟨I1, i1, I2, i2⟩ := q
              clear hvc hnc he hVA hA h1
              go_wp2_with (first | (refine load_to rfl 36 _ rfl (some 103) rfl vg ((0 + j) * 10) (by simp [Act.eval]) [.string (nmB j), .int .i64 1, .int .i64 (j : Nat), .complex .f64 0 0, .string ⟨#[]⟩, .int .i64 0, .int .u32 0, .int .u64 0, .slice I1 0 i1, .slice I2 0 i2] _ (fun t u hu => HC.out t u hu) Try.underlying36 rfl (by kernel_rfl) ?_) | (refine store_new rfl 36 _ _ rfl rfl wq #[.string (nmB j), .int .i64 1, .int .i64 (j : Nat), .complex .f64 0 0, .string ⟨#[]⟩, .int .i64 0, .int .u32 0, .int .u64 0, .slice I1 0 i1, .slice I2 0 i2] _ 36 rfl rfl (by kernel_rfl) rfl (by kernel_rfl) ?_))
              go_region_held3 (fun W => W.cell? ⟨wq.heap.size, 0, none⟩ = some (.string (nmB j)) ∧ W.cell? ⟨wq.heap.size, 2, none⟩ = some (.int .i64 (j : Nat)) ∧ W.cell? ⟨ng, j * 9 + 3, none⟩ = some (.string (nmB j))) (first | assumption | go_keep) (fail)
              all_goals
                go_wp2
                go_roundg (i - (j + 1))
                case measure => omega
                case rel => exact ⟨j + 1, by omega, by go_num, by simp; omega, Lib.hid ((hq.out.alloc (by omega) _).drew)⟩
            · have hji2 : j = i := by omega
              subst hji2
              go_wp2
              go_ret
              exact Ret.mk rfl (HBW.out.trans ((HB3.out.trans (hq.out.mono (by omega))).mono hsr))
      | true =>
        go_wp2_with fail
        refine (atom_any _ _).mono ?_
        rintro e wa ⟨rfl, hb⟩
        have hza : wr.heap.size ≤ wa.heap.size := hb.size
        have HNa := Lib.hid (own_below hr.out.1 hb (Nat.le_refl _))
        have HTa := Lib.hid (own_below hr.out.2.1 hb (Nat.le_refl _))
        have HBa := Lib.hid (hr.out.2.2.2.trans (hb.mono hsr))
        clear hb
        go_wp2_with fail
        have HN0 := Lib.hid (HNa.out.alloc (.cells #[.string ⟨#[75, 110, 111, 119, 110]⟩, .int .i64 3, .int .i64 0, .complex .f64 0 0, .string ⟨#[107]⟩, .int .i64 0, .int .u32 0, .int .u64 0, .slice none 0 0, .slice none 0 0] 36))
        have HT0 := Lib.hid (HTa.out.alloc (.cells #[.string ⟨#[75, 110, 111, 119, 110]⟩, .int .i64 3, .int .i64 0, .complex .f64 0 0, .string ⟨#[107]⟩, .int .i64 0, .int .u32 0, .int .u64 0, .slice none 0 0, .slice none 0 0] 36))
        have HBW := Lib.hid (HBa.out.alloc (by omega) (.cells #[.string ⟨#[75, 110, 111, 119, 110]⟩, .int .i64 3, .int .i64 0, .complex .f64 0 0, .string ⟨#[107]⟩, .int .i64 0, .int .u32 0, .int .u64 0, .slice none 0 0, .slice none 0 0] 36))
        have HKAT := Lib.hid (show ∀ j v, ([.string ⟨#[75, 110, 111, 119, 110]⟩, .int .i64 3, .int .i64 0, .complex .f64 0 0, .string ⟨#[107]⟩, .int .i64 0, .int .u32 0, .int .u64 0, .slice none 0 0, .slice none 0 0] : List Value)[j]? = some v → (wa.alloc (.cells #[.string ⟨#[75, 110, 111, 119, 110]⟩, .int .i64 3, .int .i64 0, .complex .f64 0 0, .string ⟨#[107]⟩, .int .i64 0, .int .u32 0, .int .u64 0, .slice none 0 0, .slice none 0 0] 36)).cell? ⟨wa.heap.size, 0 + j, none⟩ = some v from row_cells (heap_alloc_last wa _) (o := 0) (fun _ _ h => by simpa using h))
        have hwk : (wa.alloc (.cells #[.string ⟨#[75, 110, 111, 119, 110]⟩, .int .i64 3, .int .i64 0, .complex .f64 0 0, .string ⟨#[107]⟩, .int .i64 0, .int .u32 0, .int .u64 0, .slice none 0 0, .slice none 0 0] 36)).heap.size = wa.heap.size + 1 := by simp
        generalize wa.alloc (.cells #[.string ⟨#[75, 110, 111, 119, 110]⟩, .int .i64 3, .int .i64 0, .complex .f64 0 0, .string ⟨#[107]⟩, .int .i64 0, .int .u32 0, .int .u64 0, .slice none 0 0, .slice none 0 0] 36) = wk at *
        have hl := list_any ((List.range' 0 i).map fun j => lfT (.var (nmB j))) A c wk (by simp; omega) (names_ats HN0.out)
        rw [show ((List.range' 0 i).map fun j => lfT (.var (nmB j))).length = i from by simp] at hl
        refine hl.mono ?_
        clear hl
        rintro e w1 ⟨vs, rfl, hb, hvs⟩
        obtain ⟨A1, c1, P, cP, rfl, hP⟩ := node_shape (n := i) (by simp) hvs
        have hz1 : wk.heap.size ≤ w1.heap.size := hb.size
        have HB1 := Lib.hid hb
        have HP1 := Lib.hid hP
        clear hb hP hvs
        go_wp2_with fail
        have hl := list_any ((List.range' 0 i).map fun j => intT (j : Nat)) B d w1 (by simp; omega) (ints_ats (own_below HT0.out HB1.out (Nat.le_refl _)))
        rw [show ((List.range' 0 i).map fun j => intT (j : Nat)).length = i from by simp] at hl
        refine hl.mono ?_
        clear hl
        rintro e w2 ⟨vs, rfl, hb, hvs⟩
        obtain ⟨B1, d1, T, cT, rfl, hT⟩ := node_shape (n := i) (by simp) hvs
        have hz2 : w1.heap.size ≤ w2.heap.size := hb.size
        have HP2 := Lib.hid (ats_mono hz2 _ _ (ats_stays (fun a ha => hb.cell ha) _ _ HP1.out))
        have HT2 := Lib.hid hT
        have HB2 := Lib.hid (HB1.out.trans (hb.mono hz1))
        clear hb hT hvs
        go_wp2_with fail
        have hm := match7o ⟨#[75, 110, 111, 119, 110]⟩ ⟨#[107]⟩ (Lib.hid (by kernel_rfl)) (Lib.hid (by kernel_rfl)) none 0 none 0 wa.heap.size 0 1 (manyL i) P T A1 c1 cP B1 d1 cT w2 (by omega) (Lib.hid (fun j v hv => by rw [HB2.out.cell (p := ⟨wa.heap.size, 0 + j, none⟩) (by show wa.heap.size < _; omega)]; exact HKAT.out j v hv)) (Lib.hid (fun p hp => by obtain ⟨j, hj, rfl⟩ := manyL_mem hp; exact nmB_known (by omega))) (by rw [manyL_len]; omega) (Lib.hid (fun p hp => by obtain ⟨j, hj, rfl⟩ := manyL_mem hp; exact nmB_right j (by omega))) (Lib.hid (fun p hp => by obtain ⟨j, hj, rfl⟩ := manyL_mem hp; exact ⟨by show (-4611686018427387904 : Int) ≤ (j : Int); omega, by show (j : Int) ≤ 4611686018427387903; omega⟩)) (Lib.hid (by rw [manyL_names]; exact HP2.out)) (Lib.hid (by rw [manyL_ints]; exact HT2.out))
        rw [manyL_len] at hm
        refine hm.mono ?_
        clear hm
        rintro e w3 ⟨ps, hps, hb3, hcase⟩
        obtain ⟨hf1, hf2, hf3⟩ := many_fit hn hps
        have HB3 := Lib.hid (HB2.out.trans (hb3.mono (by omega)))
        have hz3 : w2.heap.size ≤ w3.heap.size := hb3.size
        clear hb3
        rcases hcase with ⟨h1, _⟩ | ⟨_, hgt, rfl⟩ | ⟨_, hle, v, ents, hents, rfl, pre, hpre, hprel, hown⟩
        · rw [hf1] at h1
          cases h1
        · rw [hf3] at hgt
          clear hf1 hf2 hf3 hps
          go_wp2
          go_ret
          exact Ret.mk rfl (HBW.out.trans (HB3.out.mono (by omega)))
        · rw [hf3] at hle
          rw [hf2] at hents
          have hel : ents.length = i := by have := congrArg List.length hents; simpa [manyL_len] using this
          rw [hel, Nat.add_comm 1 i] at hown
          obtain ⟨VA, vc, rfl, hV0, hV1⟩ := own_shape hown
          have HE := Lib.hid hents
          have HOWN := Lib.hid hown
          have HPRE := Lib.hid hpre
          have HPL := Lib.hid hprel
          have HV1 := Lib.hid hV1
          have HV0 := Lib.hid hV0
          clear hf1 hf2 hf3 hps hents hown hpre hprel hV0 hV1
          go_wp2
          go_loopg [12] i (fun k vi wq => ∃ j, k + j = i ∧ vi = .int .i64 (j : Nat) ∧ w3.heap.size ≤ wq.heap.size ∧ Hid (Below w3.heap.size w3 wq))
          case atStart => exact ⟨0, rfl, rfl, Nat.le_refl _, Lib.hid (Below.refl _ _)⟩
          case round =>
            rename World => wq
            obtain ⟨j, hk2, rfl, hsq, hq⟩ := hrel
            rcases Nat.lt_or_ge j i with hji | hji
            · have hj0 : (0 : Int) ≤ (j : Int) := by omega
              have hj1 : (j : Int) < (i : Int) := by omega
              have hj2 : (j : Int) < 200 := by omega
              obtain ⟨⟨s, x, q⟩, he⟩ : ∃ e, ents[j]? = some e := ⟨ents[j]'(by omega), List.getElem?_eq_getElem _⟩
              have hse : s = nmB j ∧ x = (j : Int) := by
                have h1 : (ents.map fun e => (e.1, e.2.1))[j]? = some (s, x) := by simp [he]
                rw [HE.out, manyL_get hji] at h1
                simp only [Option.some.injEq, Prod.mk.injEq] at h1
                exact ⟨h1.1.symm, h1.2.symm⟩
              obtain ⟨rfl, rfl⟩ := hse
              have hVA : VA ≠ none := fun e => by have := (HV0.out e).1; omega
              obtain ⟨ad, rfl⟩ := Option.ne_none_iff_exists'.1 hVA
              obtain ⟨vg, rfl, _, hvg, hvc⟩ := HV1.out ad rfl
              have hA : A ≠ none := fun e => by
                obtain ⟨A', c', hv', h0, _⟩ := own_shape HN0.out
                cases hv'
                have := (h0 e).1; omega
              obtain ⟨ad2, rfl⟩ := Option.ne_none_iff_exists'.1 hA
              obtain ⟨A', c', hv', _, h1⟩ := own_shape HN0.out
              cases hv'
              obtain ⟨ng, rfl, _, hng, hnc⟩ := h1 ad2 rfl
              have hn4 : wq.cell? ⟨ng, j * 9 + 3, none⟩ = some (.string (nmB j)) := by
                rw [hq.out.cell (p := ⟨ng, _, none⟩) (by show ng < _; omega), HB3.out.cell (p := ⟨ng, _, none⟩) hng]
                exact hnc _ _ (vrow_get i j 3 _ hji rfl)
              have HC := Lib.hid (show ∀ t u, (bcells (nmB j, (j : Int), q))[t]? = some u → wq.cell? ⟨vg, (1 + j) * 10 + t, none⟩ = some u from fun t u hu => by
                rw [hq.out.cell (p := ⟨vg, _, none⟩) hvg]
                refine hvc _ _ ?_
                rw [List.getElem?_append_right (by rw [HPL.out]; omega), HPL.out]
                rw [show (1 + j) * 10 + t - 1 * 10 = j * 10 + t from by omega]
                exact brow_get ents j t _ u he hu)
              have hn5 : ∀ o, (wq.alloc o).cell? ⟨ng, j * 9 + 3, none⟩ = some (.string (nmB j)) := fun o => by
                rw [World.cell?_alloc_lt _ _ _ (by show ng < _; omega)]; exact hn4
              obtain ⟨I1, i1, I2, i2⟩ := q
              clear hvc hnc he hVA hA h1
              go_wp2_with (first | (refine load_to rfl 36 _ rfl (some 103) rfl vg ((1 + j) * 10) (by simp [Act.eval]) [.string (nmB j), .int .i64 1, .int .i64 (j : Nat), .complex .f64 0 0, .string ⟨#[]⟩, .int .i64 0, .int .u32 0, .int .u64 0, .slice I1 0 i1, .slice I2 0 i2] _ (fun t u hu => HC.out t u hu) Try.underlying36 rfl (by kernel_rfl) ?_) | (refine store_new rfl 36 _ _ rfl rfl wq #[.string (nmB j), .int .i64 1, .int .i64 (j : Nat), .complex .f64 0 0, .string ⟨#[]⟩, .int .i64 0, .int .u32 0, .int .u64 0, .slice I1 0 i1, .slice I2 0 i2] _ 36 rfl rfl (by kernel_rfl) rfl (by kernel_rfl) ?_))
              go_region_held3 (fun W => W.cell? ⟨wq.heap.size, 0, none⟩ = some (.string (nmB j)) ∧ W.cell? ⟨wq.heap.size, 2, none⟩ = some (.int .i64 (j : Nat)) ∧ W.cell? ⟨ng, j * 9 + 3, none⟩ = some (.string (nmB j))) (first | assumption | go_keep) (fail)
              all_goals
                go_wp2
                go_roundg (i - (j + 1))
                case measure => omega
                case rel => exact ⟨j + 1, by omega, by go_num, by simp; omega, Lib.hid ((hq.out.alloc (by omega) _).drew)⟩
            · have hji2 : j = i := by omega
              subst hji2
              go_wp2
              go_ret
              exact Ret.mk rfl (HBW.out.trans ((HB3.out.trans (hq.out.mono (by omega))).mono (by omega)))

end Go.Proofs.Ytgahfmnkkaacgaa
