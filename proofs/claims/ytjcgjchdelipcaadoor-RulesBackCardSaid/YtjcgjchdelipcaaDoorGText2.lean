/- Plain laws on texts as signs, second part: how many signs; whether all are code points. No program in sight. -/
import Derived.Test.YtjcgjchdelipcaaDoorGText
namespace Go.Proofs.YtjcgjchdelipcaaDoor.U
open Go Go.Proofs Go.Lib
set_option linter.unusedVariables false
set_option linter.unusedSimpArgs false

theorem get_list (s : ByteArray) (i : Nat) : s.get! i = (s.data.toList[i]?).getD 0 := by
  by_cases h : i < s.size
  · rw [Utf8W.get!_of_lt s i h, List.getElem?_eq_getElem (by rw [← Lib.size_eq]; exact h)]
    rfl
  · rw [List.getElem?_eq_none (by rw [← Lib.size_eq]; omega)]
    cases s with
    | mk d =>
      show d[i]! = _
      simp only [ByteArray.size] at h
      simp [getElem!_def, Array.getElem?_eq_none (Nat.not_lt.1 h)]
      rfl
theorem get_cut (s : ByteArray) (n i : Nat) : (s.extract n s.size).get! i = s.get! (n + i) := by
  rw [get_list, get_list, Lib.extract_to_end, List.getElem?_drop]
theorem decode_cut (s : ByteArray) (n : Nat) (h : n < s.size) : Utf8.decode s n = Lib.decodeGo (s.extract n s.size) := by
  unfold Lib.decodeGo
  rw [if_neg (by rw [cut_size]; omega), Lib.decode_at, Lib.decode_at, cut_size, get_cut, get_cut, get_cut, get_cut]
  rfl
theorem cut_cut (s : ByteArray) (n m : Nat) : (s.extract n s.size).extract m (s.extract n s.size).size = s.extract (n + m) s.size := by
  apply ByteArray.ext
  apply Array.toList_inj.1
  rw [Lib.extract_to_end, Lib.extract_to_end, Lib.extract_to_end, List.drop_drop]
theorem runeCountFrom_eq (s : ByteArray) : ∀ (fuel pos : Nat), s.size ≤ pos + fuel → Lib.runeCountFrom s fuel pos = (signs (s.extract pos s.size)).length
  | 0, pos, h => by
    rw [signs_nil _ (by rw [cut_size]; omega)]
    rfl
  | f + 1, pos, h => by
    rw [Lib.runeCountFrom]
    by_cases hp : pos < s.size
    · obtain ⟨-, -, w1, w2, w3, -⟩ := sgn_back (s.extract pos s.size) (by rw [cut_size]; omega)
      rw [if_pos hp, decode_cut s pos hp, ← w3, signs_cons _ (by rw [cut_size]; omega), cut_cut, List.length_cons, runeCountFrom_eq s f _ (by omega)]
      omega
    · rw [if_neg hp, signs_nil _ (by rw [cut_size]; omega)]
      rfl
theorem cut0 (s : ByteArray) : s.extract 0 s.size = s := by
  apply ByteArray.ext
  apply Array.toList_inj.1
  rw [Lib.extract_to_end]
  rfl
theorem runeCount_eq (s : ByteArray) : Lib.runeCount s = (signs s).length := by
  unfold Lib.runeCount
  rw [runeCountFrom_eq s s.size 0 (by omega), cut0]
theorem validGoD_eq : ∀ (n : Nat) (s : ByteArray), s.size ≤ n → Lib.validGoD n s.data.toList = (signs s).all fun c => decide (c ≤ 1114111)
  | 0, s, h => by
    rw [signs_nil s (by omega)]
    rfl
  | n + 1, s, h => by
    rw [Lib.validGoD]
    by_cases h0 : s.size = 0
    · rw [signs_nil s h0, if_pos (List.eq_nil_of_length_eq_zero (by rw [← Lib.size_eq]; exact h0))]
      rfl
    · have hne : ¬ s.data.toList = [] := fun e => h0 (by rw [Lib.size_eq, e]; rfl)
      obtain ⟨-, -, w1, w2, w3, -, g⟩ := sgn_back s (by omega)
      have e : Lib.decodeL s.data.toList = Lib.decodeGo s := by
        unfold Lib.decodeL Lib.decodeGo
        rw [if_neg h0]
      rw [if_neg hne, e, signs_cons s (by omega), List.all_cons]
      by_cases hb : (Lib.decodeGo s).1 = 65533 ∧ (Lib.decodeGo s).2 = 1
      · rw [if_pos hb]
        have : ¬ (sgn s).1 ≤ 1114111 := fun x => (g.1 x) hb
        simp [this]
      · rw [if_neg hb, ← w3]
        have : (sgn s).1 ≤ 1114111 := g.2 hb
        have ih := validGoD_eq n (s.extract (wd s) s.size) (by rw [cut_size]; omega)
        rw [Lib.extract_to_end] at ih
        rw [ih]
        simp [this]
theorem validD_eq (s : ByteArray) : Lib.validD s.data.toList = (signs s).all fun c => decide (c ≤ 1114111) := by
  unfold Lib.validD
  exact validGoD_eq _ s (by rw [← Lib.size_eq]; exact Nat.le_refl _)

end Go.Proofs.YtjcgjchdelipcaaDoor.U
