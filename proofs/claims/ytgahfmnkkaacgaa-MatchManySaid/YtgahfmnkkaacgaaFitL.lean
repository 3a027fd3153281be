/- Whether ints fit a tuple or list of variables: which names are bound then, and to what. -/
import Derived.Test.YtgahfmnkkaacgaaFitW
namespace Go.Proofs.Ytgahfmnkkaacgaa
set_option linter.unusedVariables false
set_option linter.unusedSimpArgs false
open Go.RowKit

theorem hasB_iff (ns : List ByteArray) (s : ByteArray) : hasB ns s = true ↔ s ∈ ns := by
  unfold hasB
  simp

theorem findE_none (s : ByteArray) : ∀ l : List (ByteArray × Int × SL), findE l s = none ↔ s ∉ l.map (·.1)
  | [] => by simp [findE]
  | e :: r => by
    have ih := findE_none s r
    unfold findE
    by_cases h : s = e.1
    · simp [h]
    · rw [if_neg h, ih]
      simp [h]

theorem findE_app (s : ByteArray) : ∀ a b : List (ByteArray × Int × SL), findE (a ++ b) s = match findE a s with | some v => some v | none => findE b s
  | [], b => rfl
  | e :: a, b => by
    simp only [List.cons_append, findE]
    by_cases h : s = e.1
    · simp [h]
    · simp only [h, if_false]; exact findE_app s a b

/-- Each entry is what its name finds. -/
def Own (l : List (ByteArray × Int × SL)) : Prop := ∀ (i : Nat) e, l[i]? = some e → findE l e.1 = some e.2

theorem Own.add {l : List (ByteArray × Int × SL)} (h : Own l) {x : ByteArray × Int × SL} (hx : findE l x.1 = none) : Own (l ++ [x]) := by
  intro i e he
  rw [findE_app]
  rcases Nat.lt_or_ge i l.length with hi | hi
  · rw [List.getElem?_append_left hi] at he
    rw [h i e he]
  · rw [List.getElem?_append_right hi] at he
    have : e = x := by
      rcases Nat.eq_zero_or_pos (i - l.length) with h0 | h0
      · rw [h0] at he
        exact (Option.some.inj he).symm
      · rw [List.getElem?_eq_none (by simp; omega)] at he
        cases he
    subst this
    rw [hx]
    simp [findE]

theorem fit_own : ∀ (ps : List Pr) (e0 : List (ByteArray × Int × SL)), Own e0 → Own (fitS ps e0).2
  | [], e0, h => h
  | p :: r, e0, h => by
    unfold fitS
    split
    · rename_i hf
      exact fit_own r _ (h.add (x := (p.s, p.x, p.r)) hf)
    · split
      · exact fit_own r e0 h
      · exact h

theorem fit_ok : ∀ (ps : List Pr) (e0 : List (ByteArray × Int × SL)), (∀ p ∈ ps, intOk p.x) → (∀ e ∈ e0, intOk e.2.1) → ∀ e ∈ (fitS ps e0).2, intOk e.2.1
  | [], e0, _, h => h
  | p :: r, e0, hp, h => by
    unfold fitS
    split
    · refine fit_ok r _ (fun q hq => hp q (List.mem_cons_of_mem _ hq)) (fun e he => ?_)
      rcases List.mem_append.1 he with he | he
      · exact h e he
      · simp only [List.mem_singleton] at he
        rw [he]; exact hp p (List.mem_cons_self ..)
    · split
      · exact fit_ok r e0 (fun q hq => hp q (List.mem_cons_of_mem _ hq)) h
      · exact h

theorem fit_src : ∀ (ps : List Pr) (e0 : List (ByteArray × Int × SL)), ∀ e ∈ (fitS ps e0).2, e ∈ e0 ∨ ∃ p ∈ ps, p.s = e.1
  | [], e0, e, h => .inl h
  | p :: r, e0, e, h => by
    unfold fitS at h
    split at h
    · rcases fit_src r _ e h with h | ⟨q, hq, hs⟩
      · rcases List.mem_append.1 h with h | h
        · exact .inl h
        · simp only [List.mem_singleton] at h
          exact .inr ⟨p, List.mem_cons_self .., by rw [h]⟩
      · exact .inr ⟨q, List.mem_cons_of_mem _ hq, hs⟩
    · split at h
      · rcases fit_src r e0 e h with h | ⟨q, hq, hs⟩
        · exact .inl h
        · exact .inr ⟨q, List.mem_cons_of_mem _ hq, hs⟩
      · exact .inl h

theorem fit_names : ∀ (ps : List Pr) (e0 : List (ByteArray × Int × SL)), (fitS ps e0).1 = true → lfsN (ps.map fun p => Lf.var p.s) (e0.map (·.1)) = (fitS ps e0).2.map (·.1)
  | [], e0, _ => rfl
  | p :: r, e0, h => by
    unfold fitS at h ⊢
    show lfsN (r.map fun p => Lf.var p.s) (addB (e0.map (·.1)) p.s) = _
    split at h
    · rename_i hf
      have hn := (findE_none p.s e0).1 hf
      rw [show addB (e0.map (·.1)) p.s = (e0 ++ [(p.s, p.x, p.r)]).map (·.1) from by
        unfold addB
        rw [if_neg (fun hh => hn ((hasB_iff _ _).1 hh))]
        simp]
      try simp only [hf]
      exact fit_names r _ h
    · rename_i e hf
      have hn : hasB (e0.map (·.1)) p.s = true := by
        refine (hasB_iff _ _).2 ?_
        apply Classical.byContradiction
        intro hc
        rw [(findE_none p.s e0).2 hc] at hf
        cases hf
      split at h
      · rename_i hx
        simp only [hx, if_true]
        rw [show addB (e0.map (·.1)) p.s = e0.map (·.1) from by unfold addB; rw [if_pos hn]]
        exact fit_names r e0 h
      · cases h

/-- Names that stand once are bound one by one. -/
theorem fit_distinct : ∀ (ps : List Pr) (e0 : List (ByteArray × Int × SL)), (ps.map (·.s)).Nodup → (∀ p ∈ ps, findE e0 p.s = none) → fitS ps e0 = (true, e0 ++ ps.map fun p => (p.s, p.x, p.r))
  | [], e0, _, _ => by simp [fitS]
  | p :: r, e0, hn, hf => by
    unfold fitS
    rw [hf p (List.mem_cons_self ..)]
    simp only [List.map_cons, List.nodup_cons] at hn
    show fitS r _ = _
    rw [fit_distinct r _ hn.2 (fun q hq => ?_)]
    · simp
    · rw [findE_app, hf q (List.mem_cons_of_mem _ hq)]
      have : q.s ≠ p.s := fun e => hn.1 (by rw [← e]; exact List.mem_map_of_mem hq)
      simp [findE, this]

theorem part_int {n : Int} (hn : intOk n) (d m : Int) (hd : d ≤ 24) (hm : m + 1 ≤ 4096) : partF (intT n) d m = (0, m + 1) := by
  unfold intT partF partsF
  have h1 : ¬ 24 < d := by omega
  have h2 : ¬ 4096 < m + 1 := by omega
  simp [bareEmpty, goodF, emptyF, zeroC_zero, right_int hn, h1, h2]

theorem parts_ints : ∀ (l : List Int) (d m : Int), (∀ x ∈ l, intOk x) → d ≤ 24 → m + l.length ≤ 4096 → partsF (l.map intT) d m = (0, m + l.length)
  | [], d, m, _, _, _ => by unfold List.map partsF; simp
  | x :: l, d, m, h, hd, hm => by
    unfold List.map partsF
    simp only [List.length_cons] at hm ⊢
    rw [part_int (h x (List.mem_cons_self ..)) d m hd (by omega)]
    simp only [if_true]
    rw [parts_ints l d (m + 1) (fun y hy => h y (List.mem_cons_of_mem _ hy)) hd (by omega)]
    congr 1
    omega

theorem check_ints (k : Int) (hk : k = 6 ∨ k = 7) (l : List Int) (h : ∀ x ∈ l, intOk x) (hl : l.length ≤ 256) : checkF (.mk k 0 0 0 ⟨#[]⟩ 0 0 0 [] (l.map intT)) = 0 := by
  have hp := parts_ints l 2 1 h (by omega) (by omega)
  have h1 : ¬ 256 < l.length := by omega
  unfold checkF partF
  rcases hk with rfl | rfl <;> simp [bareEmpty, goodF, emptyF, zeroC_zero, h1, hp]

theorem plains_ints : ∀ l : List Int, LT.plains (l.map intT)
  | [] => by unfold List.map LT.plains; trivial
  | x :: l => by unfold List.map LT.plains; exact ⟨plain_int x, plains_ints l⟩

theorem plain_ints (k : Int) (hk : k = 6 ∨ k = 7) (l : List Int) : LT.plain (.mk k 0 0 0 ⟨#[]⟩ 0 0 0 [] (l.map intT)) := by
  unfold LT.plain
  exact ⟨by omega, plains_ints l⟩

end Go.Proofs.Ytgahfmnkkaacgaa
