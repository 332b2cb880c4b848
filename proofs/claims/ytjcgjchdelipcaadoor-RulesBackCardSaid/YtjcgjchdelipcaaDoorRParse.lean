/- What the two readers of rules answer, in the plain words of RText: the same. -/
import Derived.Test.YtjcgjchdelipcaaDoorRRef
import Derived.Test.YtjcgjchdelipcaaDoorRParseP
namespace Go.Proofs.YtjcgjchdelipcaaDoor.R
open Go.RowKit Go.Proofs.YtjcgjchdelipcaaDoorW.PrintWords Go.Proofs.YtjcgjchdelipcaaDoorW.PrintLast Go.Proofs.YtjcgjchdelipcaaDoorW.PrintMore
open Go.Proofs.YtjcgjchdelipcaaDoor.U (Suf blk lts relM spc sq seqM jl parseM RuleM expM ruleM)
set_option linter.unusedVariables false
set_option linter.unusedSimpArgs false
section
variable (s : ByteArray) (hs : s.size ≤ 8000)
include hs in
theorem rParse_ev : Ev (fun k => umlautref5_Parse.f k s) ((resM s).1.map to57, (resM s).2.1, (resM s).2.2) := by
  have hsl := U.signs_length s
  obtain ⟨q4, q5, hq⟩ := rparse_l0 s hs ((U.signs s).length + 1) [] (U.signs s) (by omega) (by simp; omega) (Suf.refl _)
  have e : pos s (U.signs s) = 0 := by unfold pos; rw [U.jl_signs]; omega
  rw [e] at hq
  exact Ev.bind hq (Ev.now _)
end
theorem sq_len : ∀ (m out : List Int), out.length ≤ 3 → (sq out m).1.length ≤ 3
  | [], out, h => by simpa [sq] using h
  | [c], out, h => by
    unfold sq
    by_cases h1 : spc c = true
    · rw [if_pos h1]; exact h
    · rw [if_neg h1]
      by_cases h2 : out.length = 3
      · rw [if_pos h2]; simp
      · rw [if_neg h2]
        by_cases h3 : c = 92
        · rw [if_pos h3]; simp
        · rw [if_neg h3]; simp; omega
  | c :: d :: m, out, h => by
    unfold sq
    by_cases h1 : spc c = true
    · rw [if_pos h1]; exact h
    · rw [if_neg h1]
      by_cases h2 : out.length = 3
      · rw [if_pos h2]; simp
      · rw [if_neg h2]
        by_cases h3 : c = 92
        · rw [if_pos h3]; exact sq_len m _ (by simp; omega)
        · rw [if_neg h3]; exact sq_len (d :: m) _ (by simp; omega)
def Short (r : RuleM) : Prop := r.2.1.length ≤ 3 ∧ r.2.2.length ≤ 3
theorem expM_short (rel : Int) (q m : List Int) (h : q.length ≤ 3) : Short (expM rel q m).1 := by
  unfold expM
  split
  · exact ⟨h, by simp⟩
  · split
    · exact ⟨h, by simp⟩
    · split
      · exact ⟨h, sq_len _ _ (by simp)⟩
      · exact ⟨h, by simp⟩
theorem ruleM_short (f : Bool) (m : List Int) : Short (ruleM f m).1 := by
  unfold ruleM
  split
  · exact ⟨by simp, by simp⟩
  · split
    · exact ⟨sq_len _ _ (by simp), by simp⟩
    · exact expM_short _ _ _ (sq_len _ _ (by simp))
theorem parseM_short (S : Nat) : ∀ (n : Nat) (out : List RuleM) (m : List Int), (∀ r ∈ out, Short r) → (∀ r ∈ (parseM S n out m).1, Short r) ∧ (parseM S n out m).1.length ≤ 40
  | 0, out, m, h => by simp [parseM]
  | n + 1, out, m, h => by
    unfold parseM
    split
    · split
      · simp
      · rename_i h1 h2
        exact ⟨h, by show out.length ≤ 40; omega⟩
    · cases hx : ruleM (out.length == 0) (blk m) with
      | mk r x =>
        cases x with
        | mk ok m' =>
          cases ok with
          | false => rw [U.contM_bad]; simp
          | true =>
            rw [U.contM_ok]
            refine parseM_short S n (out ++ [r]) m' (fun r' hr' => ?_)
            rcases List.mem_append.mp hr' with h1 | h1
            · exact h r' h1
            · have : r' = r := by simpa using h1
              subst this
              have := ruleM_short (out.length == 0) (blk m)
              rw [hx] at this
              exact this
theorem Same_rules (L : List RuleM) (hL : ∀ r ∈ L, Short r) (hn : L.length ≤ 40) (d : Nat) : ∀ i : Nat, i + d = L.length → Ev (fun k => umlautlaw6_Same.l0 k (L.map to63) (L.map to57) (i : Int)) true := by
  have e63 : (L.map to63).length = L.length := by simp
  have e57 : (L.map to57).length = L.length := by simp
  induction d with
  | zero =>
    intro i hi
    refine Ev.step (f := fun _ => some _) (fun k => ?_) (Ev.now _)
    rw [umlautlaw6_Same.l0, if_neg (by omega)]
  | succ d ih =>
    intro i hi
    have hlt : i < L.length := by omega
    have r63 : rd_T63 (L.map to63) (i : Int) = to63 L[i] := by simp [rd_T63, List.getD_eq_getElem?_getD, List.getElem?_eq_getElem hlt]
    have r57 : rd_T57 (L.map to57) (i : Int) = to57 L[i] := by simp [rd_T57, List.getD_eq_getElem?_getD, List.getElem?_eq_getElem hlt]
    have hs := hL L[i] (List.getElem_mem hlt)
    have s1 := Same_ev L[i].2.1 L[i].2.1 (by have := hs.1; omega)
    have s2 := Same_ev L[i].2.2 L[i].2.2 (by have := hs.2; omega)
    simp only [decide_true] at s1 s2
    refine Ev.step (f := fun k => (umlautref1_SameInts.f k L[i].2.1 L[i].2.1).bind fun t => (if t = true then ((umlautref1_SameInts.f k L[i].2.2 L[i].2.2).bind fun t2 => (if t2 = true then (umlautlaw6_Same.l0 k (L.map to63) (L.map to57) ((i + 1 : Nat) : Int)) else (some false))) else (some false))) (fun k => ?_) (Ev.bind s1 (Ev.congr (f := fun k => (umlautref1_SameInts.f k L[i].2.2 L[i].2.2).bind fun t2 => (if t2 = true then (umlautlaw6_Same.l0 k (L.map to63) (L.map to57) ((i + 1 : Nat) : Int)) else (some false))) (fun k => if_pos rfl) (Ev.bind s2 (Ev.congr (fun k => if_pos rfl) (ih (i + 1) (by omega))))))
    rw [umlautlaw6_Same.l0, if_pos (by omega), if_pos (by omega), if_pos (by omega), r63, r57, if_pos (show (to63 L[i]).f0 = (to57 L[i]).f0 from rfl), w64 (by omega) (by omega)]
    rfl
end Go.Proofs.YtjcgjchdelipcaaDoor.R
