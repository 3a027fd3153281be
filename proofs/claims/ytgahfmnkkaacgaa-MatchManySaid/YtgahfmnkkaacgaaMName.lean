/- A variable's name. -/
import Derived.Test.YtgahfmnkkaacgaaTuple
namespace Go.Proofs.Ytgahfmnkkaacgaa
set_option linter.unusedVariables false
set_option linter.unusedSimpArgs false
open Go.RowKit

def mnameF (s : ByteArray) : Bool := decide (¬ s.toList = []) && decide (¬ s.toList = [95]) && decide (s.size ≤ 32) && (decide (byteI s 0 = 95) || decide (65 ≤ byteI s 0) && decide (byteI s 0 ≤ 90)) && decide (∀ i, i < s.size → okI (byteI s i) = true)

theorem mnameF_nil {s : ByteArray} (h : s.toList = []) : mnameF s = false := by unfold mnameF; simp [h]
theorem mnameF_one {s : ByteArray} (h : s.toList = [95]) : mnameF s = false := by unfold mnameF; simp [h]
theorem mnameF_long {s : ByteArray} (h : ¬ s.size ≤ 32) : mnameF s = false := by unfold mnameF; simp [h]
theorem mnameF_head {s : ByteArray} (h : ¬ byteI s 0 = 95) (h' : ¬ (65 ≤ byteI s 0 ∧ byteI s 0 ≤ 90)) : mnameF s = false := by
  unfold mnameF
  have : (decide (65 ≤ byteI s 0) && decide (byteI s 0 ≤ 90)) = false := by
    by_cases h1 : 65 ≤ byteI s 0
    · have : ¬ byteI s 0 ≤ 90 := by omega
      simp [this]
    · simp [h1]
  simp [h, this]
theorem mnameF_bad {s : ByteArray} (i : Nat) (hi : i < s.size) (h : okI (byteI s i) = false) : mnameF s = false := by
  unfold mnameF
  have : ¬ ∀ i, i < s.size → okI (byteI s i) = true := fun hh => by rw [hh i hi] at h; cases h
  simp [this]
theorem mnameF_good {s : ByteArray} (h1 : ¬ s.toList = []) (h2 : ¬ s.toList = [95]) (h3 : s.size ≤ 32) (h4 : byteI s 0 = 95 ∨ 65 ≤ byteI s 0 ∧ byteI s 0 ≤ 90) (h5 : ∀ i, i < s.size → okI (byteI s i) = true) : mnameF s = true := by
  unfold mnameF
  have h4' : (decide (byteI s 0 = 95) || decide (65 ≤ byteI s 0) && decide (byteI s 0 ≤ 90)) = true := by
    rcases h4 with h | ⟨h, h'⟩
    · simp [h]
    · simp [h, h']
  rw [h4']
  simp only [h1, h2, h3, not_false_eq_true, decide_true, Bool.and_self, Bool.true_and, decide_eq_true_eq]
  exact h5

set_option maxHeartbeats 4000000 in
theorem mname_any (s : ByteArray) (w : World) :
    Calls Try.prog 23 #[.string s] w (Ret (.bool (mnameF s)) w) := by
  obtain ⟨cap, w1, hrun, hb, hsz, hcell⟩ := conv_bytes (P := Try.prog) w 9 29 5 s Try.underlying9 Try.underlying29 Try.underlying5
  have HB := Lib.hid hb
  have HC := Lib.hid hcell
  have HG := Lib.hid (byteI_get s)
  clear hb hcell hsz
  by_cases h1 : s.toList = []
  · rw [mnameF_nil h1]
    clear hrun
    go_enter Try.func23, Try.ntmps23
    go_wp2
    go_ret
    exact Ret.mk rfl (Below.refl _ _)
  by_cases h2 : s.toList = [95]
  · rw [mnameF_one h2]
    clear hrun
    go_enter Try.func23, Try.ntmps23
    go_wp2
    go_ret
    exact Ret.mk rfl (Below.refl _ _)
  have h1b : s.toList.isEmpty = false := by simpa using h1
  have h2b : (s.toList == [95]) = false := by simpa using h2
  have hn0 : 0 < s.size := by
    rcases Nat.eq_zero_or_pos s.size with h | h
    · exfalso; apply h1; rw [ByteArray.toList_eq]; exact List.eq_nil_of_length_eq_zero (by simpa using h)
    · exact h
  by_cases h3 : s.size ≤ 32
  rotate_left
  · rw [mnameF_long h3]
    have h3' : (32 : Int) < (s.size : Int) := by omega
    clear hrun h3
    go_enter Try.func23, Try.ntmps23
    go_wp2
    go_ret
    exact Ret.mk rfl (Below.refl _ _)
  have h3' : (s.size : Int) ≤ 32 := by omega
  have hs0 := HG.out 0 hn0
  have hbr := byteI_range s 0
  have H1 := Lib.hid h1
  have H2 := Lib.hid h2
  have H3 := Lib.hid h3
  have hcases : byteI s 0 = 95 ∨ (¬ byteI s 0 = 95 ∧ (65 ≤ byteI s 0 ∧ byteI s 0 ≤ 90)) ∨ (¬ byteI s 0 = 95 ∧ byteI s 0 < 65) ∨ (¬ byteI s 0 = 95 ∧ 90 < byteI s 0) := by omega
  clear h1 h2 h3
  rcases hcases with hh | ⟨hn, hh⟩ | ⟨hn, hh⟩ | ⟨hn, hh⟩
  rotate_left 2
  · rw [mnameF_head hn (by omega)]
    have hnb : (byteI s 0 == 95) = false := by simpa using hn
    have hnb' : (byteI s 0 != 95) = true := by simpa using hn
    clear hn hrun
    go_enter Try.func23, Try.ntmps23
    go_wp2
    go_ret
    exact Ret.mk rfl (Below.refl _ _)
  · rw [mnameF_head hn (by omega)]
    have hnb : (byteI s 0 == 95) = false := by simpa using hn
    have hnb' : (byteI s 0 != 95) = true := by simpa using hn
    clear hn hrun
    go_enter Try.func23, Try.ntmps23
    go_wp2
    go_ret
    exact Ret.mk rfl (Below.refl _ _)
  all_goals
    first
      | have H4 := Lib.hid (show byteI s 0 = 95 ∨ 65 ≤ byteI s 0 ∧ byteI s 0 ≤ 90 from Or.inl hh)
      | have H4 := Lib.hid (show byteI s 0 = 95 ∨ 65 ≤ byteI s 0 ∧ byteI s 0 ≤ 90 from Or.inr hh)
    try (have hnb : (byteI s 0 == 95) = false := by simpa using hn)
    try (have hnb' : (byteI s 0 != 95) = true := by simpa using hn)
    try clear hn
    go_enter Try.func23, Try.ntmps23
    go_wp2
    clear hs0 hbr hrun hh
    try clear hnb hnb'
    go_loop [34] (fun i => ∃ k : Nat, k ≤ s.size ∧ i = .int .i64 k ∧ Hid (∀ j, j < k → okI (byteI s j) = true)) (fun i => s.size - (intOf i).toNat)
    case atStart => exact ⟨0, Nat.zero_le _, rfl, Lib.hid (fun j hj => by omega)⟩
    case round =>
      obtain ⟨k, hk, rfl, hall⟩ := hrel
      by_cases hlt : k < s.size
      · have hcell := HC.out k hlt
        have hbr := byteI_range s k
        generalize hx : byteI s k = x at *
        have HX := Lib.hid hx
        clear hx
        have h95 : (x == 95) = true ∨ (x == 95) = false := by cases (x == 95) <;> simp
        rcases h95 with h95 | h95
        all_goals have h95' := h95
        all_goals simp only [beq_iff_eq, beq_eq_false_iff_ne] at h95'
        all_goals have H95 := Lib.hid h95'
        all_goals clear h95'
        all_goals go_wp2
        all_goals have h95' := H95.out
        all_goals try (exfalso; simp only [Bool.not_eq_false', decide_eq_true_eq] at *; omega; done)
        all_goals first
          | (go_round
             case rel => exact ⟨k + 1, by omega, by go_num, Lib.hid (fun j hj => by
                          by_cases e : j = k
                          · subst e; rw [HX.out]; simp [okI]; omega
                          · exact hall.out j (by omega))⟩
             case measure => simp [intOf]; omega)
          | (go_ret; exact Ret.mk (ret_bool (mnameF_bad k hlt (by rw [HX.out]; simp [okI]; omega)).symm) HB.out)
      · go_wp2
        go_ret
        exact Ret.mk (ret_bool (mnameF_good H1.out H2.out H3.out H4.out (fun i hi => hall.out i (by omega))).symm) HB.out

end Go.Proofs.Ytgahfmnkkaacgaa
