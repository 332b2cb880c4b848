/- The plain law of TextFolds: signs and texts are folded as the document says, and no further. -/
import Derived.Test.YtjcgjchdelipcaaDoorGEvA
import Derived.Test.YtjcgjchdelipcaaDoorG7
import Derived.Test.YtjcgjchdelipcaaDoorGText4
namespace Go.Proofs.YtjcgjchdelipcaaDoor.G
open Go.RowKit Go.Proofs.YtjcgjchdelipcaaDoorW.PrintWords Go.Proofs.YtjcgjchdelipcaaDoorW.PrintLast Go.Proofs.YtjcgjchdelipcaaDoorW.PrintMore
set_option linter.unusedVariables false
set_option linter.unusedSimpArgs false

theorem Fold_ev (c : Int) : Ev (fun k => utext_Fold.f k c) (U.fold c) := ⟨3, fun k hk => by
  obtain ⟨m, rfl⟩ : ∃ m, k = m + 1 + 1 + 1 := ⟨k - 3, by omega⟩
  exact fold_some m c⟩
theorem fold_same2 : ∀ (k : Nat) (c : Int) (b : Bool), umlautref1_Fold.j2 k c b = utext_Fold.j2 k c b
  | 0, _, _ => by simp [umlautref1_Fold.j2, utext_Fold.j2]
  | k + 1, c, b => by simp only [umlautref1_Fold.j2, utext_Fold.j2]
theorem fold_same1 : ∀ (k : Nat) (c : Int) (b : Bool), umlautref1_Fold.j1 k c b = utext_Fold.j1 k c b
  | 0, _, _ => by simp [umlautref1_Fold.j1, utext_Fold.j1]
  | k + 1, c, b => by simp only [umlautref1_Fold.j1, utext_Fold.j1, fold_same2]
theorem fold_same0 : ∀ (k : Nat) (c : Int) (b : Bool), umlautref1_Fold.j0 k c b = utext_Fold.j0 k c b
  | 0, _, _ => by simp [umlautref1_Fold.j0, utext_Fold.j0]
  | k + 1, c, b => by simp only [umlautref1_Fold.j0, utext_Fold.j0, fold_same1, fold_same2]
theorem refFold_ev (c : Int) : Ev (fun k => umlautref1_Fold.f k c) (U.fold c) := Ev.congr (fun k => by simp only [umlautref1_Fold.f, utext_Fold.f, fold_same0]) (Fold_ev c)
theorem FoldText_ev (b : ByteArray) (h : b.size < 4398046511104) : Ev (fun k => utext_FoldText.f k b) (strOfNums (U.join ((U.signs b).map U.fold))) := by
  have hl := U.signs_length b
  unfold utext_FoldText.f
  refine Ev.bind (Signs_ev b (by omega)) (Ev.congr (fun k => if_pos (by omega)) ?_)
  exact Put_ev _ (U.map_isS _ (U.signs_isS b)) (by simp; omega)
theorem refFold_l0 (l : List Int) (hS : ∀ c ∈ l, U.isS c = true) (d : Nat) : ∀ (i : Nat) (acc : List Int), i + d = l.length → acc.length + 4 * d + 4 < 140737488355328 → l.length < 17592186044416 →
    Ev (fun k => umlautref1_FoldText.l0 k l (strOfNums acc) (i : Int)) (strOfNums (acc ++ U.join ((l.drop i).map U.fold))) := by
  induction d with
  | zero =>
    intro i acc hi ha hl
    refine Ev.step (f := fun _ => some (strOfNums (acc ++ U.join ((l.drop i).map U.fold)))) (fun k => ?_) (Ev.now _)
    rw [umlautref1_FoldText.l0, if_neg (by omega), List.drop_of_length_le (by omega)]
    simp [U.join]
  | succ d ih =>
    intro i acc hi ha hl
    have hlt : i < l.length := by omega
    have h1 := U.one_length (U.fold l[i])
    have hs := U.fold_isS _ (hS _ (List.getElem_mem hlt))
    refine Ev.step (f := fun k => (umlautref1_Fold.f k l[i]).bind fun t => ((umlautref1_One.f t).bind fun u => (if (strOfNums acc).size + u.size ≤ 9223372036854775807 then (umlautref1_FoldText.l0 k l (strOfNums acc ++ u) ((i + 1 : Nat) : Int)) else (none)))) (fun k => ?_) (Ev.bind (refFold_ev _) ?_)
    · rw [umlautref1_FoldText.l0, if_pos (by omega), if_pos (by omega), rd_nat l i hlt, w64 (by omega) (by omega)]
      rfl
    · refine Ev.congr (f := fun k => umlautref1_FoldText.l0 k l (strOfNums (acc ++ U.one (U.fold l[i]))) ((i + 1 : Nat) : Int)) (fun k => ?_) ?_
      · rw [One_ev _ hs, Option.bind_some, if_pos (by rw [strOfNums_size, strOfNums_size]; omega), str_append]
      · have := ih (i + 1) (acc ++ U.one (U.fold l[i])) (by omega) (by simp; omega) hl
        rw [List.drop_eq_getElem_cons hlt, List.map_cons, U.join_cons, ← List.append_assoc]
        exact this
theorem refFoldText_ev (b : ByteArray) (h : b.size < 4398046511104) : Ev (fun k => umlautref1_FoldText.f k b) (strOfNums (U.join ((U.signs b).map U.fold))) := by
  have hl := U.signs_length b
  unfold umlautref1_FoldText.f
  refine Ev.bind (refSigns_ev b (by omega)) ?_
  have := refFold_l0 (U.signs b) (U.signs_isS b) (U.signs b).length 0 [] (by omega) (by simp; omega) (by omega)
  simp only [List.nil_append, List.drop_zero] at this
  exact Ev.congr (fun k => rfl) this
theorem Count_ev2 (b : ByteArray) (h : b.size < 9223372036854775807) : utext_Count.f b = some ((U.signs b).length : Int) := by
  unfold utext_Count.f utf8_RuneCountInString.f
  rw [if_pos h, Option.bind_some, U.runeCount_eq]
theorem TextFolds_pure : umlautlaw2_TextFolds.Pure := by
  intro b c hb hc
  refine Ev.rounds ?_
  have hl := U.signs_length b
  unfold umlautlaw2_TextFolds.f
  by_cases h : (b.size : Int) > 1000
  · exact Ev.congr (fun k => if_pos h) (Ev.bind awake_ev (Ev.now _))
  · have hj := U.join_length ((U.signs b).map U.fold)
    rw [List.length_map] at hj
    have hsz : (strOfNums (U.join ((U.signs b).map U.fold))).size ≤ 4000 := by rw [strOfNums_size]; omega
    have hcan := U.fold_canon b
    refine Ev.congr (fun k => if_neg h) (Ev.bind (FoldText_ev b (by omega)) (Ev.bind (Fold_ev c) (Ev.bind (refFold_ev c) (Ev.congr (fun k => if_pos rfl) (Ev.bind (refFoldText_ev b (by omega)) (Ev.congr (fun k => if_pos rfl) ?_))))))
    refine Ev.bind (FoldText_ev _ (by omega)) ?_
    rw [hcan]
    have e : ((U.signs b).map U.fold).map U.fold = (U.signs b).map U.fold := by
      rw [List.map_map]
      exact List.map_congr_left fun x _ => U.fold_fold x
    rw [e]
    refine Ev.congr (f := fun k => (umlautlaw2_awake.f k).bind fun t => some t) (fun k => ?_) (Ev.bind awake_ev (Ev.now _))
    rw [if_pos rfl, Count_ev2 _ (by omega), Option.bind_some, Count_ev2 _ (by omega), Option.bind_some, hcan, if_pos (by simp)]

end Go.Proofs.YtjcgjchdelipcaaDoor.G
