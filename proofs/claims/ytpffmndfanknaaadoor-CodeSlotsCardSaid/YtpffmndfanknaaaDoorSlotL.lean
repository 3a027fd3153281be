/- The two answers on slots agree. -/
import Derived.Test.YtpffmndfanknaaaDoorRefS
namespace Go.Proofs.YtpffmndfanknaaaDoor
set_option linter.unusedVariables false
set_option linter.unusedSimpArgs false
open Go.RowKit

theorem itoa_all : (List.range 72).all (fun v => Lib.itoa (v : Nat) == (if v < 10 then [UInt8.ofNat (48 + v)] else [UInt8.ofNat (48 + v / 10), UInt8.ofNat (48 + v % 10)])) = true := by kernel_rfl
theorem atoi_all : (List.range 72).all (fun v => match Lib.atoiAll (Lib.itoa (v : Nat)) with | .ok x => decide (x = (v : Int)) | _ => false) = true := by kernel_rfl

theorem itoa_lt {v : Nat} (h : v < 72) : Lib.itoa (v : Nat) = if v < 10 then [UInt8.ofNat (48 + v)] else [UInt8.ofNat (48 + v / 10), UInt8.ofNat (48 + v % 10)] := by
  have := List.all_eq_true.1 itoa_all v (List.mem_range.2 h)
  exact eq_of_beq this
theorem atoi_lt {v : Nat} (h : v < 72) : Lib.atoiAll (Lib.itoa (v : Nat)) = .ok (v : Int) := by
  have := List.all_eq_true.1 atoi_all v (List.mem_range.2 h)
  split at this
  · rename_i x hx
    rw [hx]
    have := of_decide_eq_true this
    rw [this]
  · cases this

abbrev badV : Value := .tuple #[.int .i64 0, .bool false, .bool false]
abbrev rest (s : ByteArray) : List UInt8 := (s.extract 1 s.size).data.toList

theorem cmp_true {s : ByteArray} {v : Int} (h : Lib.itoa v = rest s) : ((⟨(Lib.itoa v).toArray⟩ : ByteArray).toList == (s.extract 1 s.size).toList) = true := by
  rw [Lib.toList_data, Lib.toList_data]
  exact beq_iff_eq.2 h
theorem cmp_false {s : ByteArray} {v : Int} (h : ¬ Lib.itoa v = rest s) : ((⟨(Lib.itoa v).toArray⟩ : ByteArray).toList == (s.extract 1 s.size).toList) = false := by
  rw [Lib.toList_data, Lib.toList_data]
  exact beq_eq_false_iff_ne.2 h

theorem slot_other (s : ByteArray) (h : 2 ≤ s.size) (hlim : s.size ≤ 281474976710656) (hx : byteI s 0 = 86 ∨ byteI s 0 = 66) (hno : ∀ v : Nat, v < 72 → Lib.itoa (v : Nat) ≠ rest s) (w : World) (hv : LaidV w) :
    Calls Tryd.prog 5 #[.string s] w (Ret badV w) := by
  rcases he : Lib.atoiAll (s.extract 1 s.size).data.toList with v | _ | _
  · by_cases hc : Lib.itoa v = rest s
    · by_cases hn : v < 0
      · exact slot_neg s _ w h hlim hv v rfl he hx (cmp_true hc) hn
      · by_cases hm : 72 ≤ v
        · exact slot_big s _ w h hlim hv v rfl he hx (cmp_true hc) hn hm
        · obtain ⟨n, rfl⟩ := Int.eq_ofNat_of_zero_le (show 0 ≤ v by omega)
          exact absurd hc (hno n (by omega))
    · exact slot_diff s _ w h hlim hv v rfl he hx (cmp_false hc)
  · exact slot_err s w h hlim hx hv (fun v e => by rw [he] at e; cases e)
  · exact slot_err s w h hlim hx hv (fun v e => by rw [he] at e; cases e)

theorem slot_is (s : ByteArray) (h : 2 ≤ s.size) (hlim : s.size ≤ 281474976710656) (hx : byteI s 0 = 86 ∨ byteI s 0 = 66) (v : Nat) (hv72 : v < 72) (hr : Lib.itoa (v : Nat) = rest s) (w : World) (hv : LaidV w) :
    Calls Tryd.prog 5 #[.string s] w (Ret (.tuple #[.int .i64 v, .bool (decide (byteI s 0 = 66)), .bool true]) w) := by
  have he : Lib.atoiAll (s.extract 1 s.size).data.toList = .ok (v : Int) := by
    show Lib.atoiAll (rest s) = _
    rw [← hr]; exact atoi_lt hv72
  exact slot_yes s _ w h hlim hv v rfl he hx (cmp_true hr) (by omega) (by omega)

theorem list2 {s : ByteArray} (h : s.size = 2) : ∃ c0 c1, s.data.toList = [c0, c1] := by
  have : s.data.toList.length = 2 := by simpa using h
  match hl : s.data.toList, this with
  | [c0, c1], _ => exact ⟨c0, c1, rfl⟩
theorem list3 {s : ByteArray} (h : s.size = 3) : ∃ c0 c1 c2, s.data.toList = [c0, c1, c2] := by
  have : s.data.toList.length = 3 := by simpa using h
  match hl : s.data.toList, this with
  | [c0, c1, c2], _ => exact ⟨c0, c1, c2, rfl⟩
theorem rest_len (s : ByteArray) : (rest s).length = s.size - 1 := by
  unfold rest
  rw [Lib.extract_data]
  simp
theorem ofNat_toNat {n : Nat} (h : n < 256) : (UInt8.ofNat n).toNat = n := by simp; omega

/-- The two answers, whatever the name. -/
def Agree (s : ByteArray) : Prop := ∃ a b c, (∀ w, LaidV w → Calls Tryd.prog 5 #[.string s] w (Ret (.tuple #[.int .i64 a, .bool b, .bool c]) w)) ∧
  (∀ w, Calls Tryd.prog 6 #[.string s] w (Ret (.tuple #[.int .i64 a, .bool b, .bool c]) w))

theorem agree2 (s : ByteArray) (h : s.size = 2) (hx : byteI s 0 = 86 ∨ byteI s 0 = 66) : Agree s := by
  obtain ⟨c0, c1, hl⟩ := list2 h
  have hr : rest s = [c1] := by unfold rest; rw [Lib.extract_data, hl, h]; rfl
  have hy : byteI s 1 = (c1.toNat : Nat) := by unfold byteI; rw [hl]; rfl
  have hno : (byteI s 1 < 48 ∨ 57 < byteI s 1) → ∀ v : Nat, v < 72 → Lib.itoa (v : Nat) ≠ rest s := by
    intro hb v hv e
    rw [itoa_lt hv, hr] at e
    split at e
    · simp only [List.cons.injEq, and_true] at e
      have := congrArg UInt8.toNat e
      rw [ofNat_toNat (by omega)] at this
      omega
    · simp at e
  by_cases hlo : byteI s 1 < 48
  · exact ⟨0, false, false, fun w hv => slot_other s (by omega) (by omega) hx (hno (.inl hlo)) w hv, fun w => ref_2_lo s w h hx hlo⟩
  by_cases hhi : 57 < byteI s 1
  · exact ⟨0, false, false, fun w hv => slot_other s (by omega) (by omega) hx (hno (.inr hhi)) w hv, fun w => ref_2_hi s w h hx hhi⟩
  obtain ⟨n, hn⟩ := Int.eq_ofNat_of_zero_le (show 0 ≤ byteI s 1 - 48 by omega)
  have hn10 : n < 10 := by omega
  have e : Lib.itoa (n : Nat) = rest s := by
    rw [itoa_lt (by omega), hr, if_pos hn10]
    congr 1
    apply UInt8.toNat_inj.1
    rw [ofNat_toNat (by omega)]
    omega
  refine ⟨(n : Nat), decide (byteI s 0 = 66), true, fun w hv => slot_is s (by omega) (by omega) hx n (by omega) e w hv, fun w => ?_⟩
  have := ref_2_ok s w h hx (by omega) (by omega)
  rw [hn] at this
  exact this

theorem agree3 (s : ByteArray) (h : s.size = 3) (hx : byteI s 0 = 86 ∨ byteI s 0 = 66) : Agree s := by
  obtain ⟨c0, c1, c2, hl⟩ := list3 h
  have hr : rest s = [c1, c2] := by unfold rest; rw [Lib.extract_data, hl, h]; rfl
  have hy : byteI s 1 = (c1.toNat : Nat) := by unfold byteI; rw [hl]; rfl
  have hz : byteI s 2 = (c2.toNat : Nat) := by unfold byteI; rw [hl]; rfl
  have hno : (¬ (48 < byteI s 1 ∧ byteI s 1 ≤ 57 ∧ 48 ≤ byteI s 2 ∧ byteI s 2 ≤ 57 ∧ 10 * (byteI s 1 - 48) + (byteI s 2 - 48) ≤ 71)) → ∀ v : Nat, v < 72 → Lib.itoa (v : Nat) ≠ rest s := by
    intro hb v hv e
    rw [itoa_lt hv, hr] at e
    split at e
    · simp at e
    · simp only [List.cons.injEq, and_true] at e
      have e1 := congrArg UInt8.toNat e.1
      have e2 := congrArg UInt8.toNat e.2
      rw [ofNat_toNat (by omega)] at e1 e2
      apply hb
      omega
  have bad : (¬ (48 < byteI s 1 ∧ byteI s 1 ≤ 57 ∧ 48 ≤ byteI s 2 ∧ byteI s 2 ≤ 57 ∧ 10 * (byteI s 1 - 48) + (byteI s 2 - 48) ≤ 71)) → (∀ w, Calls Tryd.prog 6 #[.string s] w (Ret badV w)) → Agree s := fun hb hw =>
    ⟨0, false, false, fun w hv => slot_other s (by omega) (by omega) hx (hno hb) w hv, hw⟩
  by_cases h1 : byteI s 1 = 48
  · exact bad (by omega) fun w => ref_3_zero s w h hx h1
  by_cases h2 : byteI s 1 < 48
  · exact bad (by omega) fun w => ref_3_ylo s w h hx h2
  by_cases h3 : 57 < byteI s 1
  · exact bad (by omega) fun w => ref_3_yhi s w h hx h3
  by_cases h4 : byteI s 2 < 48
  · exact bad (by omega) fun w => ref_3_zlo s w h hx (by omega) (by omega) h4
  by_cases h5 : 57 < byteI s 2
  · exact bad (by omega) fun w => ref_3_zhi s w h hx (by omega) (by omega) h5
  by_cases h6 : 71 < 10 * (byteI s 1 - 48) + (byteI s 2 - 48)
  · exact bad (by omega) fun w => ref_3_big s w h hx (by omega) (by omega) (by omega) (by omega) h6
  obtain ⟨n, hn⟩ := Int.eq_ofNat_of_zero_le (show 0 ≤ 10 * (byteI s 1 - 48) + (byteI s 2 - 48) by omega)
  have e : Lib.itoa (n : Nat) = rest s := by
    rw [itoa_lt (by omega), hr, if_neg (by omega)]
    congr 1
    · apply UInt8.toNat_inj.1
      rw [ofNat_toNat (by omega)]
      omega
    · congr 1
      apply UInt8.toNat_inj.1
      rw [ofNat_toNat (by omega)]
      omega
  refine ⟨(n : Nat), decide (byteI s 0 = 66), true, fun w hv => slot_is s (by omega) (by omega) hx n (by omega) e w hv, fun w => ?_⟩
  have := ref_3_ok s w h hx (by omega) (by omega) (by omega) (by omega) (by omega)
  rw [hn] at this
  exact this

theorem agree_any (s : ByteArray) (hlim : s.size ≤ 281474976710656) : Agree s := by
  by_cases h2 : s.size < 2
  · exact ⟨0, false, false, fun w _ => slot_short s w h2, fun w => ref_short s w h2⟩
  by_cases hx : byteI s 0 = 86 ∨ byteI s 0 = 66
  · by_cases h3 : s.size = 2
    · exact agree2 s h3 hx
    by_cases h4 : s.size = 3
    · exact agree3 s h4 hx
    refine ⟨0, false, false, fun w hv => slot_other s (by omega) hlim hx (fun v hv72 e => ?_) w hv, fun w => ref_long s w (by omega)⟩
    have := congrArg List.length e
    rw [rest_len, itoa_lt hv72] at this
    split at this
    · simp at this; omega
    · simp at this; omega
  · by_cases h3 : s.size ≤ 3
    · exact ⟨0, false, false, fun w _ => slot_head s w (by omega) (fun e => hx (.inl e)) (fun e => hx (.inr e)), fun w => ref_head s w (by omega) h3 (fun e => hx (.inl e)) (fun e => hx (.inr e))⟩
    · exact ⟨0, false, false, fun w _ => slot_head s w (by omega) (fun e => hx (.inl e)) (fun e => hx (.inr e)), fun w => ref_long s w (by omega)⟩

end Go.Proofs.YtpffmndfanknaaaDoor
