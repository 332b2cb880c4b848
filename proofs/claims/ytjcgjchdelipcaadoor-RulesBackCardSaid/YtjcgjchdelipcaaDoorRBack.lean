/- RulesBack, its plain part: rules are told as a text that is read as them, or there is none. -/
import Derived.Test.YtjcgjchdelipcaaDoorRTW3
import Derived.Test.YtjcgjchdelipcaaDoorRTell2
namespace Go.Proofs.YtjcgjchdelipcaaDoor.R
open Go.RowKit Go.Proofs.YtjcgjchdelipcaaDoorW.PrintWords Go.Proofs.YtjcgjchdelipcaaDoorW.PrintLast Go.Proofs.YtjcgjchdelipcaaDoorW.PrintMore
open Go.Proofs.YtjcgjchdelipcaaDoor.U (spc spb txt txt1 esc RuleM nameB words wordsOf joinW textM ruleT parseM GoodR)
set_option linter.unusedVariables false
set_option linter.unusedSimpArgs false

def toM7 (x : S57) : RuleM := (x.f0, x.f1, x.f2)
theorem to57_toM7 (l : List S57) : (l.map toM7).map to57 = l := by
  rw [List.map_map]
  conv => rhs; rw [← List.map_id l]
  exact List.map_congr_left fun x _ => rfl
theorem toM_to63 (l : List RuleM) : (l.map to63).map toM = l := by
  rw [List.map_map]
  conv => rhs; rw [← List.map_id l]
  exact List.map_congr_left fun x _ => rfl
theorem Of_ev (L : List RuleM) (hl : L.length ≤ 60) (hz : ∀ r ∈ L, r.2.1.length + r.2.2.length ≤ 20) : Ev (fun k => umlautlaw6_Of.f k (L.map to57)) (L.map to63) := by
  have e57 : (L.map to57).length = L.length := by simp
  have key : ∀ d i : Nat, i + d = L.length → Ev (fun k => umlautlaw6_Of.l0 k (L.map to57) ((L.take i).map to63) (i : Int)) (L.map to63) := by
    intro d
    induction d with
    | zero =>
      intro i hi
      refine Ev.step (f := fun _ => some _) (fun k => ?_) (Ev.now _)
      rw [umlautlaw6_Of.l0, if_neg (by omega), List.take_of_length_le (by omega)]
    | succ d ih =>
      intro i hi
      have hlt : i < L.length := by omega
      have hm := hz L[i] (List.getElem_mem hlt)
      have ih := ih (i + 1) (by omega)
      rw [List.take_succ_eq_append_getElem hlt, List.map_append] at ih
      have ht : ((L.take i).map to63).length ≤ 60 := by simp; omega
      refine Ev.step (fun k => ?_) ih
      have f1 : (to57 L[i]).f1 = L[i].2.1 := rfl
      have f2 : (to57 L[i]).f2 = L[i].2.2 := rfl
      rw [umlautlaw6_Of.l0, if_pos (by omega), if_pos (by omega), rd57 L i hlt]
      simp only [Option.bind_some, List.nil_append, List.length_nil, Nat.zero_add, f1, f2]
      rw [if_pos (by omega), if_pos (by omega), if_pos (by omega), w64 (by omega) (by omega)]
      rfl
  have := key L.length 0 (by omega)
  exact Ev.congr (fun k => rfl) this
theorem eqs63_iff : ∀ (a b : List RuleM), eqs63 (a.map to63) (b.map to63) = decide (b = a)
  | [], [] => rfl
  | [], _ :: _ => rfl
  | _ :: _, [] => rfl
  | x :: a, y :: b => by
    rw [List.map_cons, List.map_cons, eqs63, eqs63_iff a b]
    obtain ⟨x1, x2, x3⟩ := x
    obtain ⟨y1, y2, y3⟩ := y
    simp only [eq63, to63, List.cons.injEq, Prod.mk.injEq, Bool.decide_and]
    simp only [Bool.and_assoc]
    rw [Bool.eq_iff_iff]
    simp only [Bool.and_eq_true, decide_eq_true_eq]
    exact ⟨fun ⟨a1, a2, a3, a4⟩ => ⟨(of_decide_eq_true a1).symm, (of_decide_eq_true a2).symm, (of_decide_eq_true a3).symm, a4⟩, fun ⟨a1, a2, a3, a4⟩ => ⟨decide_eq_true a1.symm, decide_eq_true a2.symm, decide_eq_true a3.symm, a4⟩⟩
/-- What the program's Text answers. -/
def tellP (L : List RuleM) : ByteArray × Int := if (tellM L).2 = true then (strOfNums (textM L), 0) else (⟨#[]⟩, 1)
theorem str_small (L : List RuleM) (hl : L.length ≤ 60) (hz : ∀ r ∈ L, r.2.1.length + r.2.2.length ≤ 20) : (strOfNums (textM L)).size ≤ 8000 := by
  rw [strOfNums_size]
  have h1 := U.textM_length 20 L hz
  have h3 : L.length * (8 + 5 * 20) ≤ 60 * (8 + 5 * 20) := Nat.mul_le_mul_right _ hl
  omega
theorem Text_ev (L : List RuleM) (hl : L.length ≤ 60) (hz : ∀ r ∈ L, r.2.1.length + r.2.2.length ≤ 20) : Ev (fun k => rules_Text.f k (L.map to63)) (tellP L) := by
  have hst : strT (L.map to63) = strOfNums (textM L) := by unfold strT; rw [toM_to63]
  have hfit : fits (L.map to63) = true := by
    unfold fits
    rw [Bool.and_eq_true, decide_eq_true_eq, List.length_map]
    refine ⟨hl, ?_⟩
    rw [List.all_eq_true]
    intro x hx
    obtain ⟨r, hr, rfl⟩ := List.mem_map.1 hx
    exact decide_eq_true (hz r hr)
  have hp := Parse_ev (strOfNums (textM L)) (str_small L hl hz)
  refine Ev.congr (fun k => by unfold rules_Text.f; rw [if_pos hfit, hst]) ?_
  by_cases hrel : (L.map to63).all relOk = true
  · refine Ev.congr (fun k => if_pos hrel) (Ev.bind hp ?_)
    dsimp only
    have hgr : ∀ r ∈ (resM (strOfNums (textM L))).1, GoodR r := U.parseM_good _ _ _ _ (U.signs_isS _) (by simp)
    by_cases h0 : (resM (strOfNums (textM L))).2.2 = 0
    · rw [if_pos h0, eqs63_iff]
      by_cases hq : (resM (strOfNums (textM L))).1 = L
      · have hgood : L.all goodB = true := by
          rw [List.all_eq_true]
          intro r hr
          rw [List.all_eq_true] at hrel
          have h1 := of_decide_eq_true (hrel (to63 r) (List.mem_map_of_mem hr))
          have h2 := hgr r (by rw [hq]; exact hr)
          unfold goodB
          simp only [Bool.and_eq_true, decide_eq_true_eq, List.all_eq_true]
          exact ⟨⟨h1, h2.1⟩, h2.2⟩
        have ht : tellP L = (strOfNums (textM L), 0) := by
          unfold tellP tellM
          rw [if_pos hgood, if_pos h0]
          dsimp only
          rw [if_pos (decide_eq_true hq)]
        rw [ht, if_pos (decide_eq_true hq)]
        exact Ev.now _
      · have ht : tellP L = (⟨#[]⟩, 1) := by
          unfold tellP tellM
          by_cases hgood : L.all goodB = true
          · rw [if_pos hgood, if_pos h0]
            dsimp only
            rw [if_neg (by simpa using hq)]
          · rw [if_neg hgood, if_neg (by simp)]
        rw [ht, if_neg (by simpa using hq)]
        exact Ev.now _
    · have ht : tellP L = (⟨#[]⟩, 1) := by
        unfold tellP tellM
        by_cases hgood : L.all goodB = true
        · rw [if_pos hgood, if_neg h0, if_neg (by simp)]
        · rw [if_neg hgood, if_neg (by simp)]
      rw [if_neg h0, ht]
      exact Ev.now _
  · have hgood : ¬ L.all goodB = true := by
      intro hg
      apply hrel
      rw [List.all_eq_true] at hg ⊢
      intro x hx
      obtain ⟨r, hr, rfl⟩ := List.mem_map.1 hx
      exact decide_eq_true (goodB_good (hg r hr)).1
    have ht : tellP L = (⟨#[]⟩, 1) := by
      unfold tellP tellM
      rw [if_neg hgood, if_neg (by simp)]
    rw [ht]
    exact Ev.congr (f := fun _ => some _) (fun k => if_neg hrel) (Ev.now _)
/-- Told: what is read is what was told. -/
theorem told (L : List RuleM) (h : (tellM L).2 = true) : (tellM L).1 = strOfNums (textM L) ∧ (resM (strOfNums (textM L))).1 = L ∧ (resM (strOfNums (textM L))).2.1 = 0 ∧ (resM (strOfNums (textM L))).2.2 = 0 := by
  unfold tellM at h ⊢
  by_cases hg : L.all goodB = true
  · rw [if_pos hg] at h ⊢
    by_cases h0 : (resM (strOfNums (textM L))).2.2 = 0
    · rw [if_pos h0] at h ⊢
      exact ⟨rfl, of_decide_eq_true h, U.parseM_at _ _ _ _ h0, h0⟩
    · rw [if_neg h0] at h; cases h
  · rw [if_neg hg] at h; cases h
/-- All that the law calls, at one number of rounds. -/
theorem back_k (L : List RuleM) (hl : L.length ≤ 60) (hz : ∀ r ∈ L, r.2.1.length + r.2.2.length ≤ 20) :
    ∃ k, umlautlaw6_Of.f k (L.map to57) = some (L.map to63) ∧ rules_Text.f k (L.map to63) = some (tellP L) ∧ umlautref5_Text.f k (L.map to57) = some (tellM L) ∧
      ((tellM L).2 = true → rules_Parse.f k (strOfNums (textM L)) = some (L.map to63, 0, 0) ∧ umlautlaw6_Same.f k (L.map to63) (L.map to57) = some true) := by
  obtain ⟨k1, h1⟩ := Of_ev L hl hz
  obtain ⟨k2, h2⟩ := Text_ev L hl hz
  obtain ⟨k3, h3⟩ := rText_ev L hl hz
  obtain ⟨k4, h4⟩ := Parse_ev (strOfNums (textM L)) (str_small L hl hz)
  by_cases ht : (tellM L).2 = true
  · obtain ⟨q1, q2, q3, q4⟩ := told L ht
    obtain ⟨s1, s2⟩ := parseM_short (strOfNums (textM L)).size ((U.signs (strOfNums (textM L))).length + 1) [] (U.signs (strOfNums (textM L))) (by simp)
    have e1 : parseM (strOfNums (textM L)).size ((U.signs (strOfNums (textM L))).length + 1) [] (U.signs (strOfNums (textM L))) = resM (strOfNums (textM L)) := rfl
    rw [e1, q2] at s1 s2
    obtain ⟨k5, h5⟩ := Same_rules L s1 s2 L.length 0 (by omega)
    refine ⟨max (max k1 k2) (max (max k3 k4) k5), h1 _ (by omega), h2 _ (by omega), h3 _ (by omega), fun _ => ⟨?_, ?_⟩⟩
    · have := h4 (max (max k1 k2) (max (max k3 k4) k5)) (by omega)
      rw [q2, q3, q4] at this
      exact this
    · have := h5 (max (max k1 k2) (max (max k3 k4) k5)) (by omega)
      unfold umlautlaw6_Same.f
      rw [if_pos (by simp)]
      exact this
  · exact ⟨max (max k1 k2) k3, h1 _ (by omega), h2 _ (by omega), h3 _ (by omega), fun h => absurd h ht⟩
end Go.Proofs.YtjcgjchdelipcaaDoor.R
