import Derived.Test.YtjcgjchdelipcaaDoorG6
import Derived.Test.YtjcgjchdelipcaaDoorG5
import Derived.Test.YtjcgjchdelipcaaDoorGEvA
import Derived.WalkLawsBesides

namespace Go.Proofs.YtjcgjchdelipcaaDoor.G
open Go.RowKit Go.Proofs.YtjcgjchdelipcaaDoorW.PrintWords Go.Proofs.YtjcgjchdelipcaaDoorW.PrintLast Go.Proofs.YtjcgjchdelipcaaDoorW.PrintMore
set_option linter.unusedVariables false
set_option linter.unusedSimpArgs false
/-- What the next text is good for, at one other text. -/
def NextFits (a0 a1 t : ByteArray) : Prop :=
  (a0.size ≤ a1.size → ((a1.extract 0 a0.size).toList == a0.toList) = (!(Op.bytesLess a1.toList a0.toList) && Op.bytesLess a1.toList t.toList)) ∧
  (a1.size < a0.size → (!(Op.bytesLess a1.toList a0.toList) && Op.bytesLess a1.toList t.toList) = false)
set_option maxHeartbeats 2000000 in
theorem next_walk (a0 a1 t : ByteArray) (b : Bool) (k : Nat) (w : World) (hT : Tabs w) (h1 : utext_Next.f k a0 = some (t, b)) (h2 : umlautref1_Next.f k a0 = some (t, b)) (h3 : umlautlaw2_awake.f k = some true)
    (hF : b = true → NextFits a0 a1 t) :
    Calls Tryd.prog 5 #[.string a0, .string a1] w fun e w' => e = .returned (.bool true) ∧ Below w.heap.size w w' := by
  have H1 := Aside0.mk h1
  have H2 := Aside0.mk h2
  have H3 := Aside0.mk h3
  have HT := Aside0.mk hT
  have HF := Aside0.mk hF
  have HB := Aside0.mk (Below.refl w.heap.size w)
  clear h1 h2 h3 hT hF
  by_cases hs : a0.size ≤ a1.size
  all_goals
    go_enter Tryd.func5, Tryd.ntmps5
    go_wp2_with (first
      | (go_at_call 18; refine (utext_Next.calls k a0 t b _ H1.out).mono ?_; rintro e w2 ⟨rfl, hb⟩; have n0_ := Aside0.mk (below_step HB.out hb); clear HB hb; have HB := n0_; clear n0_)
      | (go_at_call 19; refine (umlautref1_Next.calls k a0 t b _ H2.out).mono ?_; rintro e w2 ⟨rfl, hb⟩; have n0_ := Aside0.mk (below_step HB.out hb); clear HB hb; have HB := n0_; clear n0_)
      | (go_at_call 13; refine (umlautlaw2_awake.calls k true _ H3.out (Tabs_below HT.out HB.out)).mono ?_; rintro e w2 ⟨rfl, hb⟩; have n0_ := Aside0.mk (below_step HB.out hb); clear HB hb; have HB := n0_; clear n0_))
    all_goals go_ret
    all_goals first
      | exact ⟨rfl, HB.out⟩
      | (have hb : b = true := by assumption
         have F := HF.out hb
         have F1 := F.1
         have F2 := F.2
         have q1 : ¬ Op.bytesLess a1.toList a0.toList = true := by assumption
         simp only [Bool.not_eq_true] at q1
         rw [q1] at F1 F2
         simp only [Bool.not_false, Bool.true_and] at F1 F2
         exfalso
         first
           | exact absurd (F1 hs) (by assumption)
           | (have q2 : Op.bytesLess a1.toList t.toList = true := by assumption
              have := F2 (by omega)
              rw [q2] at this
              cases this))
      | (have hb : b = true := by assumption
         have F1 := (HF.out hb).1 hs
         have q1 : Op.bytesLess a1.toList a0.toList = true := by assumption
         have q2 : (a1.extract 0 a0.size).toList = a0.toList := by assumption
         rw [q1, q2] at F1
         exact absurd F1 (by simp))
      | (refine ⟨?_, HB.out⟩
         have q2 : ¬ (a1.extract 0 a0.size).toList = a0.toList := by assumption
         have q3 : ((a1.extract 0 a0.size).toList == a0.toList) = false := by simpa using q2
         simp only [q3]
         rfl)
end Go.Proofs.YtjcgjchdelipcaaDoor.G
