/- What the printed functions on texts answer (the rules' own prints), in the plain words of GText: numbers and lists alone. -/
import Derived.Test.YtjcgjchdelipcaaDoorR3
import Derived.Test.YtjcgjchdelipcaaDoorGText
namespace Go.Proofs.YtjcgjchdelipcaaDoor.R
open Go.RowKit Go.Proofs.YtjcgjchdelipcaaDoorW.PrintWords Go.Proofs.YtjcgjchdelipcaaDoorW.PrintLast Go.Proofs.YtjcgjchdelipcaaDoorW.PrintMore
set_option linter.unusedVariables false
set_option linter.unusedSimpArgs false

theorem w64 {x : Int} (h0 : -9223372036854775808 ≤ x) (h1 : x ≤ 9223372036854775807) : wrap64 x = x := by unfold wrap64; omega
theorem toList_nil (s : ByteArray) : s.toList = ([] : List UInt8) ↔ s.size = 0 := by
  rw [Lib.toList_data, Lib.size_eq]
  exact List.length_eq_zero_iff.symm
theorem signs_ev (s : ByteArray) : ∀ acc : List Int, acc.length + s.size < 17592186044416 → Ev (fun k => utext_Signs.l0 k s acc) (acc ++ U.signs s) := by
  induction s using U.by_signs with
  | h0 s h =>
    intro acc hl
    refine Ev.step (f := fun _ => some (acc ++ U.signs s)) (fun k => ?_) (Ev.now _)
    rw [utext_Signs.l0, if_neg (by omega), U.signs_nil s h, List.append_nil]
    rfl
  | h1 s h ih =>
    intro acc hl
    obtain ⟨a, hw, w1, w2, -⟩ := U.sgn_back s h
    refine Ev.step (f := fun k => utext_Signs.l0 k (s.extract (U.wd s) s.size) (acc ++ [(U.sgn s).1])) (fun k => ?_) ?_
    · rw [utext_Signs.l0, if_pos (by omega)]
      show ((some (U.sgn s)).bind _) = _
      rw [Option.bind_some, if_pos (by omega), hw, if_pos (by omega), if_pos (by omega), Int.toNat_natCast]
    · have := ih (acc ++ [(U.sgn s).1]) (by rw [U.cut_size]; simp; omega)
      rw [U.signs_cons s h]
      simpa using this
theorem Signs_ev (s : ByteArray) (h : s.size < 17592186044416) : Ev (fun k => utext_Signs.f k s) (U.signs s) := by
  have := signs_ev s [] (by simpa using h)
  simp only [List.nil_append, List.drop_zero] at this
  exact Ev.congr (fun k => rfl) this
theorem rd_nat (l : List Int) (i : Nat) (h : i < l.length) : rd l (i : Int) = l[i] := by
  unfold rd
  rw [List.getD_eq_getElem?_getD, Int.toNat_natCast, List.getElem?_eq_getElem h]
  rfl
theorem or192 (x : Int) (h0 : 0 ≤ x) (h1 : x < 32) : Go.bits .or .u8 192 x = 192 + x := by
  have : ∀ y : Fin 32, Go.bits .or .u8 192 ((y.val : Nat) : Int) = 192 + ((y.val : Nat) : Int) := by decide
  have e := this ⟨x.toNat, by omega⟩
  simpa [Int.toNat_of_nonneg h0] using e
theorem or224 (x : Int) (h0 : 0 ≤ x) (h1 : x < 16) : Go.bits .or .u8 224 x = 224 + x := by
  have : ∀ y : Fin 16, Go.bits .or .u8 224 ((y.val : Nat) : Int) = 224 + ((y.val : Nat) : Int) := by decide
  have e := this ⟨x.toNat, by omega⟩
  simpa [Int.toNat_of_nonneg h0] using e
theorem or240 (x : Int) (h0 : 0 ≤ x) (h1 : x < 8) : Go.bits .or .u8 240 x = 240 + x := by
  have : ∀ y : Fin 8, Go.bits .or .u8 240 ((y.val : Nat) : Int) = 240 + ((y.val : Nat) : Int) := by decide
  have e := this ⟨x.toNat, by omega⟩
  simpa [Int.toNat_of_nonneg h0] using e
theorem isS_iff (c : Int) : U.isS c = true ↔ (0 ≤ c ∧ c < 55296) ∨ (57344 ≤ c ∧ c < 1114112) ∨ (1114240 ≤ c ∧ c ≤ 1114367) := by unfold U.isS; simp
theorem put_ev (acc : List Int) (c : Int) (hc : U.isS c = true) (hl : acc.length + 4 < 140737488355328) : utext_put.f acc c = some (acc ++ U.one c) := by
  rw [isS_iff] at hc
  unfold utext_put.f U.one
  by_cases c1 : c ≥ 1114112
  · rw [if_pos c1, if_pos (by omega), if_pos (by omega), show c % 256 = c - 1114112 by omega]
  have c1' : ¬ 1114112 ≤ c := by omega
  rw [if_neg c1, if_neg c1']
  by_cases c2 : c < 128
  · rw [if_pos c2, if_pos (by omega), if_pos c2, show c % 256 = c by omega]
  rw [if_neg c2, if_neg c2]
  by_cases c3 : c < 2048
  · rw [if_pos c3, Option.bind_some, if_pos (by simp; omega), if_pos c3, or192 _ (by omega) (by omega), show c / 64 % 256 = c / 64 by omega]
  rw [if_neg c3, if_neg c3]
  by_cases c4 : c < 65536
  · rw [if_pos c4, Option.bind_some, if_pos (by simp; omega), if_pos c4, or224 _ (by omega) (by omega), show c / 4096 % 256 = c / 4096 by omega]
  · rw [if_neg c4, Option.bind_some, if_pos (by simp; omega), if_neg c4, or240 _ (by omega) (by omega), show c / 262144 % 256 = c / 262144 by omega]
theorem Put_l0 (l : List Int) (hS : ∀ c ∈ l, U.isS c = true) (d : Nat) : ∀ (i : Nat) (acc : List Int), i + d = l.length → acc.length + 4 * d + 4 < 140737488355328 → l.length < 17592186044416 →
    Ev (fun k => utext_Put.l0 k acc l (l.length : Int) (i : Int)) (strOfNums (acc ++ U.join (l.drop i))) := by
  induction d with
  | zero =>
    intro i acc hi ha hl
    refine Ev.step (f := fun _ => some (strOfNums (acc ++ U.join (l.drop i)))) (fun k => ?_) (Ev.now _)
    rw [utext_Put.l0, if_neg (by omega), List.drop_of_length_le (by omega)]
    simp [U.join]
  | succ d ih =>
    intro i acc hi ha hl
    have hlt : i < l.length := by omega
    refine Ev.step (f := fun k => utext_Put.l0 k (acc ++ U.one l[i]) l (l.length : Int) ((i + 1 : Nat) : Int)) (fun k => ?_) ?_
    · rw [utext_Put.l0, if_pos (by omega), if_pos (by omega), if_pos (by omega), rd_nat l i hlt, put_ev acc _ (hS _ (List.getElem_mem hlt)) (by omega), Option.bind_some, w64 (by omega) (by omega)]
      rfl
    · have := U.one_length l[i]
      have := ih (i + 1) (acc ++ U.one l[i]) (by omega) (by simp; omega) hl
      rw [List.drop_eq_getElem_cons hlt]
      have e : U.join (l[i] :: l.drop (i + 1)) = U.one l[i] ++ U.join (l.drop (i + 1)) := by unfold U.join; rw [List.flatMap_cons]
      rw [e, ← List.append_assoc]
      exact this
theorem Put_ev (l : List Int) (hS : ∀ c ∈ l, U.isS c = true) (hl : l.length < 17592186044416) : Ev (fun k => utext_Put.f k l) (strOfNums (U.join l)) := by
  have := Put_l0 l hS l.length 0 [] (by omega) (by simp; omega) hl
  simp only [List.nil_append, List.drop_zero] at this
  exact Ev.congr (fun k => rfl) this
theorem dec_eq {x y : Int} (xs ys : List Int) (h : x = y) : decide (x :: xs = y :: ys) = decide (xs = ys) := by subst h; simp
theorem dec_ne {x y : Int} (xs ys : List Int) (h : ¬ x = y) : decide (x :: xs = y :: ys) = false := by simp [h]
theorem same_l0 (a b : List Int) (hab : a.length = b.length) (hl : a.length < 17592186044416) (d : Nat) : ∀ i : Nat, i + d = a.length →
    Ev (fun k => umlautref1_SameInts.l0 k a b (i : Int)) (decide (a.drop i = b.drop i)) := by
  induction d with
  | zero =>
    intro i hi
    refine Ev.step (f := fun _ => some (decide (a.drop i = b.drop i))) (fun k => ?_) (Ev.now _)
    rw [umlautref1_SameInts.l0, if_neg (by omega), List.drop_of_length_le (by omega), List.drop_of_length_le (by omega)]
    simp
  | succ d ih =>
    intro i hi
    have h1 : i < a.length := by omega
    have h2 : i < b.length := by omega
    rw [List.drop_eq_getElem_cons h1, List.drop_eq_getElem_cons h2]
    by_cases he : a[i] = b[i]
    · refine Ev.step (f := fun k => umlautref1_SameInts.l0 k a b ((i + 1 : Nat) : Int)) (fun k => ?_) ?_
      · rw [umlautref1_SameInts.l0, if_pos (by omega), if_pos (by omega), if_pos (by omega), rd_nat a i h1, rd_nat b i h2, if_pos he, w64 (by omega) (by omega)]
        rfl
      · rw [dec_eq _ _ he]
        exact ih (i + 1) (by omega)
    · refine Ev.step (f := fun _ => some false) (fun k => ?_) ?_
      · rw [umlautref1_SameInts.l0, if_pos (by omega), if_pos (by omega), if_pos (by omega), rd_nat a i h1, rd_nat b i h2, if_neg he]
      · rw [dec_ne _ _ he]
        exact Ev.now _
theorem Same_ev (a b : List Int) (hl : a.length < 17592186044416) : Ev (fun k => umlautref1_SameInts.f k a b) (decide (a = b)) := by
  by_cases hab : a.length = b.length
  · have := same_l0 a b hab hl a.length 0 (by omega)
    refine Ev.congr (fun k => ?_) this
    rw [umlautref1_SameInts.f, if_pos (by omega)]
    rfl
  · refine Ev.congr (f := fun _ => some (decide (a = b))) (fun k => ?_) (Ev.now _)
    rw [umlautref1_SameInts.f, if_neg (by omega)]
    have : ¬ a = b := fun e => hab (by rw [e])
    simp [this]

end Go.Proofs.YtjcgjchdelipcaaDoor.R
