/- An atom's name. -/
import Derived.Test.YtpffmndfanknaaaDoorLeaf
namespace Go.Proofs.YtpffmndfanknaaaDoor
set_option linter.unusedVariables false
set_option linter.unusedSimpArgs false
open Go.RowKit

theorem nameF_false {s : ByteArray} (i : Nat) (hi : i < s.size) (h : okI (byteI s i) = false) : nameF s = false := by
  unfold nameF
  have : ¬ ∀ i, i < s.size → okI (byteI s i) = true := fun hh => by rw [hh i hi] at h; cases h
  simp [this]
theorem nameF_short {s : ByteArray} (h : ¬ (1 ≤ (s.size : Int) ∧ (s.size : Int) ≤ 32)) : nameF s = false := by
  unfold nameF
  by_cases h1 : 1 ≤ s.size
  · have : ¬ s.size ≤ 32 := by omega
    simp [this]
  · simp [h1]
theorem nameF_head {s : ByteArray} (h : ¬ (97 ≤ byteI s 0 ∧ byteI s 0 ≤ 122)) : nameF s = false := by
  unfold nameF
  by_cases h1 : 97 ≤ byteI s 0
  · have : ¬ byteI s 0 ≤ 122 := by omega
    simp [this]
  · simp [h1]
theorem nameF_true {s : ByteArray} (h1 : 1 ≤ (s.size : Int)) (h2 : (s.size : Int) ≤ 32) (h3 : 97 ≤ byteI s 0) (h4 : byteI s 0 ≤ 122) (h5 : ∀ i, i < s.size → okI (byteI s i) = true) : nameF s = true := by
  unfold nameF
  have h1' : 1 ≤ s.size := by omega
  have h2' : s.size ≤ 32 := by omega
  simp only [h1', h2', h3, h4, decide_true, Bool.and_self, Bool.true_and, decide_eq_true_eq]
  exact h5
theorem ret_bool {a b : Bool} (h : a = b) : Value.bool a = Value.bool b := by rw [h]

set_option maxRecDepth 100000 in
set_option maxHeartbeats 2000000 in
theorem name_any (s : ByteArray) (w : World) :
    Calls Tryd.prog 61 #[.string s] w (Ret (.bool (nameF s)) w) := by
  obtain ⟨cap, w1, hrun, hb, hsz, hcell⟩ := conv_bytes (P := Tryd.prog) w 9 31 5 s Tryd.underlying9 Tryd.underlying31 Tryd.underlying5
  have HB := Lib.hid hb
  have HC := Lib.hid hcell
  have HG := Lib.hid (byteI_get s)
  clear hb hcell hsz
  by_cases hn : 1 ≤ (s.size : Int) ∧ (s.size : Int) ≤ 32
  · obtain ⟨hn1, hn2⟩ := hn
    have hn0 : 0 < s.size := by omega
    have hs0 := HG.out 0 hn0
    have hbr := byteI_range s 0
    by_cases hh : 97 ≤ byteI s 0 ∧ byteI s 0 ≤ 122
    · obtain ⟨hh1, hh2⟩ := hh
      go_enter Tryd.func61, Tryd.ntmps61
      go_wp2
      clear hs0 hbr hrun
      go_loop [26] (fun i => ∃ k : Nat, k ≤ s.size ∧ i = .int .i64 k ∧ Hid (∀ j, j < k → okI (byteI s j) = true)) (fun i => s.size - (intOf i).toNat)
      case atStart => exact ⟨0, Nat.zero_le _, rfl, Lib.hid (fun j hj => by omega)⟩
      case round =>
        obtain ⟨k, hk, rfl, hall⟩ := hrel
        by_cases hlt : k < s.size
        · have hcell := HC.out k hlt
          have hbr := byteI_range s k
          generalize hx : byteI s k = x at *
          have HX := Lib.hid hx
          clear hx
          have h95 : (x == 95) = true ∨ (x == 95) = false := by cases (x == 95) <;> simp
          rcases h95 with h95 | h95
          all_goals have h95' := h95
          all_goals simp only [beq_iff_eq, beq_eq_false_iff_ne] at h95'
          all_goals have H95 := Lib.hid h95'
          all_goals clear h95'
          all_goals go_wp2
          all_goals have h95' := H95.out
          all_goals try (exfalso; simp only [Bool.not_eq_false', decide_eq_true_eq] at *; omega; done)
          all_goals first
            | (go_round
               case rel => exact ⟨k + 1, by omega, by go_num, Lib.hid (fun j hj => by
                            by_cases e : j = k
                            · subst e; rw [HX.out]; simp [okI]; omega
                            · exact hall.out j (by omega))⟩
               case measure => simp [intOf]; omega)
            | (go_ret; exact Ret.mk (ret_bool (nameF_false k hlt (by rw [HX.out]; simp [okI]; omega)).symm) HB.out)
        · go_wp2
          go_ret
          exact Ret.mk (ret_bool (nameF_true hn1 hn2 hh1 hh2 (fun i hi => hall.out i (by omega))).symm) HB.out
    · rw [nameF_head hh]
      have hh' : byteI s 0 < 97 ∨ 122 < byteI s 0 := by omega
      clear hh
      rcases hh' with hh | hh
      all_goals
        go_enter Tryd.func61, Tryd.ntmps61
        go_wp2
        all_goals (go_ret; exact Ret.mk rfl (Below.refl _ _))
  · rw [nameF_short hn]
    have hn' : (s.size : Int) < 1 ∨ 32 < (s.size : Int) := by omega
    clear hn
    rcases hn' with hn | hn
    all_goals
      go_enter Tryd.func61, Tryd.ntmps61
      go_wp2
      all_goals (go_ret; exact Ret.mk rfl (Below.refl _ _))

set_option maxRecDepth 100000 in
set_option maxHeartbeats 1000000 in
theorem nameGood_any (k n : Int) (re im : Nat) (s : ByteArray) (a b c : Int) (A1 A2 : Option Addr) (n1 c1 n2 c2 : Nat) (w : World) :
    Calls Tryd.prog 60 #[.agg #[.int .i64 k, .int .i64 n, .complex .f64 re im, .string s, .int .i64 a, .int .u32 b, .int .u64 c, .slice A1 n1 c1, .slice A2 n2 c2]] w
      (Ret (.bool (nameF s)) w) := by
  go_enter Tryd.func60, Tryd.ntmps60
  go_wp2_with (go_at_call 61; refine (name_any _ _).mono ?_; rintro e w' ⟨rfl, hb⟩)
  go_ret
  refine Ret.mk rfl ?_
  exact ((Below.refl _ _).alloc (Nat.le_refl _) _).trans (hb.mono (by simp))

end Go.Proofs.YtpffmndfanknaaaDoor
