/- The plain law of TextBytes: what the program and the document answer to any numbers as signs is one and the same. -/
import Derived.Test.YtjcgjchdelipcaaDoorGEvA
namespace Go.Proofs.YtjcgjchdelipcaaDoor.G
open Go.RowKit Go.Proofs.YtjcgjchdelipcaaDoorW.PrintWords Go.Proofs.YtjcgjchdelipcaaDoorW.PrintLast Go.Proofs.YtjcgjchdelipcaaDoorW.PrintMore

theorem bytes_ok (l : List Int) (h : (U.bytes l).2 = 0) : U.signs (U.bytes l).1 = l := by
  unfold U.bytes at h ⊢
  split at h
  · simp at h
  · rename_i ha
    rw [if_neg ha]
    split at h
    · rename_i he
      rw [if_pos he]
      exact he
    · simp at h
theorem bytes_size (l : List Int) : (U.bytes l).1.size ≤ 4 * l.length := by
  have := U.join_length l
  unfold U.bytes
  split
  · exact Nat.zero_le _
  · split
    · rw [strOfNums_size]; exact this
    · exact Nat.zero_le _
theorem TextBytes_pure : umlautlaw2_TextBytes.Pure := by
  intro l _ hl _
  refine Ev.rounds ?_
  unfold umlautlaw2_TextBytes.f
  by_cases h : (l.length : Int) > 200
  · exact Ev.congr (fun k => if_pos h) (Ev.bind awake_ev (Ev.now _))
  · refine Ev.congr (fun k => if_neg h) (Ev.bind (Bytes_ev l (by omega)) (Ev.bind (refBytes_ev l (by omega)) ?_))
    refine Ev.congr (fun k => (if_pos rfl).trans (if_pos rfl)) ?_
    by_cases h0 : (U.bytes l).2 = 0
    · refine Ev.congr (fun k => if_pos h0) (Ev.bind (Signs_ev _ (by have := bytes_size l; omega)) ?_)
      rw [bytes_ok l h0]
      exact Ev.bind (Same_ev l l (by omega)) (Ev.congr (fun k => if_pos (by simp)) (Ev.bind awake_ev (Ev.now _)))
    · exact Ev.congr (fun k => if_neg h0) (Ev.bind awake_ev (Ev.now _))

end Go.Proofs.YtjcgjchdelipcaaDoor.G
