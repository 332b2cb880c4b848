/- The plain law of TextSigns: any bytes are signs, as the document says, and these lead back to them. -/
import Derived.Test.YtjcgjchdelipcaaDoorGEvA
import Derived.Test.YtjcgjchdelipcaaDoorG8
import Derived.Test.YtjcgjchdelipcaaDoorGText2
namespace Go.Proofs.YtjcgjchdelipcaaDoor.G
open Go.RowKit Go.Proofs.YtjcgjchdelipcaaDoorW.PrintWords Go.Proofs.YtjcgjchdelipcaaDoorW.PrintLast Go.Proofs.YtjcgjchdelipcaaDoorW.PrintMore

theorem Count_ev (b : ByteArray) (h : b.size < 9223372036854775807) : utext_Count.f b = some ((U.signs b).length : Int) := by
  unfold utext_Count.f utf8_RuneCountInString.f
  rw [if_pos h, Option.bind_some, U.runeCount_eq]
theorem Valid_ev (b : ByteArray) (h : b.size < 9223372036854775807) : utext_Valid.f b = some ((U.signs b).all fun c => decide (c ≤ 1114111)) := by
  unfold utext_Valid.f utf8_ValidString.f
  rw [if_pos (by omega), Option.bind_some, U.validD_eq]
theorem signs_law (b : ByteArray) (hb : b.size ≤ 2000) (d : Nat) : ∀ (i : Nat) (g : Bool), i + d = (U.signs b).length → g = ((U.signs b).take i).all (fun c => decide (c ≤ 1114111)) →
    Ev (fun k => umlautlaw2_TextSigns.l0 k b (U.signs b) b 0 (U.signs b) g (i : Int)) true := by
  have hl := U.signs_length b
  induction d with
  | zero =>
    intro i g hi hg
    rw [List.take_of_length_le (by omega)] at hg
    refine Ev.step (f := fun k => (umlautref1_SameInts.f k (U.signs b) (U.signs b)).bind fun t => (if t = true then (if b.toList = b.toList then (if (0 : Int) = 0 then ((utext_Count.f b).bind fun t1 => (if t1 = ((U.signs b).length : Int) then ((utext_Valid.f b).bind fun t2 => (if (t2 == g) = true then ((umlautlaw2_awake.f k).bind fun t3 => (some t3)) else (some false))) else (some false))) else (some false)) else (some false)) else (some false))) (fun k => ?_) ?_
    · rw [umlautlaw2_TextSigns.l0, if_neg (by omega)]
    · refine Ev.bind (Same_ev _ _ (by omega)) ?_
      refine Ev.congr (f := fun k => (umlautlaw2_awake.f k).bind fun t3 => (some t3)) (fun k => ?_) (Ev.bind awake_ev (Ev.now _))
      rw [if_pos (by simp), if_pos rfl, if_pos rfl, Count_ev b (by omega), Option.bind_some, if_pos rfl, Valid_ev b (by omega), Option.bind_some, if_pos (by rw [hg]; simp)]
  | succ d ih =>
    intro i g hi hg
    have hlt : i < (U.signs b).length := by omega
    have e : (U.signs b).take (i + 1) = (U.signs b).take i ++ [(U.signs b)[i]] := by rw [List.take_succ_eq_append_getElem hlt]
    cases g with
    | true =>
      refine Ev.step (fun k => ?_) (ih (i + 1) (decide ((U.signs b)[i] ≤ 1114111)) (by omega) ?_)
      · rw [umlautlaw2_TextSigns.l0, if_pos (by omega), if_pos rfl, if_pos (by omega), rd_nat _ i hlt, w64 (by omega) (by omega)]
        rfl
      · rw [e, List.all_append, ← hg]
        simp
    | false =>
      refine Ev.step (fun k => ?_) (ih (i + 1) false (by omega) ?_)
      · rw [umlautlaw2_TextSigns.l0, if_pos (by omega), if_neg (by simp), w64 (by omega) (by omega)]
        rfl
      · rw [e, List.all_append, ← hg]
        simp
theorem TextSigns_pure : umlautlaw2_TextSigns.Pure := by
  intro b hb
  refine Ev.rounds ?_
  have hl := U.signs_length b
  unfold umlautlaw2_TextSigns.f
  by_cases h : (b.size : Int) > 2000
  · exact Ev.congr (fun k => if_pos h) (Ev.bind awake_ev (Ev.now _))
  · refine Ev.congr (fun k => if_neg h) (Ev.bind (Signs_ev b (by omega)) (Ev.bind (Bytes_ev (U.signs b) (by omega)) ?_))
    rw [U.bytes_signs]
    exact Ev.bind (refSigns_ev b (by omega)) (signs_law b (by omega) (U.signs b).length 0 true (by omega) rfl)

end Go.Proofs.YtjcgjchdelipcaaDoor.G
