/- What the document fixes of the trie: the law's own sample. -/
import Derived.Test.YtpameikbacnpcaaTP
namespace Go.Proofs.Ytpameikbacnpcaa.T
open Go Go.RowKit Go.Maps Go.Proofs.Ytpameikbacnpcaa.M
set_option linter.unusedVariables false

def smp : List (Int × Int) := [(5, 1), (69, 1)]
theorem smp_ok : smp.any (fun p => !okP p) = false := by decide
theorem smp_nodup : (smp.map Prod.fst).Nodup := by decide
theorem nil_keys {ks : List Int} (h : ∀ x, x ∈ ks ↔ (own [] x).isSome = true) : ks = [] := by
  cases ks with
  | nil => rfl
  | cons k ks => have := (h k).1 (by simp); simp [own] at this
theorem IsTrie.grown {w w' : World} {g : Nat} {s : List (List Int) × (Int → Option Nat)} (h : IsTrie w g s) (hg : w.grownBy w' none) : IsTrie w' g s := h.below hg.below_none
theorem smp_blocks : cntN smp (atL smp) (atL smp).length = 2 := by decide
theorem smp_row (w : World) (b : Nat) (h : w.heap[b]? = some (.cells #[.int .i64 5, .int .i64 1, .int .i64 69, .int .i64 1] 29 (0, 0))) : PRow w (some ⟨b, 0, none⟩) smp := by
  intro i hi
  refine ⟨⟨b, 0, none⟩, rfl, ?_⟩
  have hi2 : i < 2 := hi
  rcases (show i = 0 ∨ i = 1 by omega) with rfl | rfl
  · exact ⟨E.blk_cell h 0, E.blk_cell h 1⟩
  · exact ⟨E.blk_cell h 2, E.blk_cell h 3⟩
set_option maxHeartbeats 4000000 in
theorem awake_calls (w : World) : Calls Try.prog 6 #[] w fun e w' => e = .returned (.bool true) ∧ Below w.heap.size w w' := by
  have HB0 := Lib.hid (Below.refl w.heap.size w)
  go_enter Try.func6, Try.ntmps6
  go_wp2_with fail
  refine (build_ok none 0 [] _ (fun i hi => absurd hi (Nat.not_lt_zero _)) (by simp) rfl).mono ?_
  rintro e w1 ⟨h1, -⟩
  obtain ⟨g1, ks1, rfl, -, hk1, hT1, hb1⟩ := h1 (by simp)
  obtain rfl := nil_keys hk1
  have HT1 := Lib.hid hT1
  have HB1 := Lib.hid hb1
  clear h1 hk1 hT1 hb1
  unfold ret
  go_wp2_with fail
  refine (build_ok (some ⟨w1.heap.size, 0, none⟩) 2 smp _ (smp_row _ _ (heap_alloc_new _ _)) (by decide) smp_ok).mono ?_
  rintro e w2 ⟨h2, -⟩
  obtain ⟨g2, ks2, rfl, -, hk2, hT2, hb2⟩ := h2 smp_nodup
  have hbw : Below w1.heap.size w1 w2 := ((Below.refl _ w1).alloc (Nat.le_refl _) _).trans (hb2.mono (by simp))
  have HT1b := Lib.hid (HT1.out.below hbw)
  have HB2 := Lib.hid (HB1.out.trans (hbw.mono HB1.out.size))
  have HT2 := Lib.hid hT2
  have HBL := Lib.hid (show ((ks2.foldl (tstep (own smp)) t0).1.length : Int) = 2 by
    have := blocks_is smp_nodup smp_ok hk2
    unfold triOf at this
    rw [this, smp_blocks]; rfl)
  have HG69 := Lib.hid (show getP (ks2.foldl (tstep (own smp)) t0) 69 = 1 from get_is smp_nodup smp_ok hk2 69)
  have HG6 := Lib.hid (show getP (ks2.foldl (tstep (own smp)) t0) 6 = 0 from get_is smp_nodup smp_ok hk2 6)
  have HTO := Lib.hid (show TOk (ks2.foldl (tstep (own smp)) t0) from tri_ok smp ks2)
  clear h2 hk2 hT2 hb2 hbw HT1 HB1 HB0
  unfold ret
  go_wp2_with fail
  refine (blocks_calls g1 _ _ HT1b.out).mono ?_
  rintro e w3 ⟨rfl, rfl⟩
  have e1 : (([] : List Int).foldl (tstep (own [])) t0).1.length = 1 := rfl
  rw [e1]
  go_wp2_with fail
  refine (blocks_calls g2 _ _ HT2.out).mono ?_
  rintro e w3 ⟨rfl, rfl⟩
  rw [HBL.out]
  go_wp2_with fail
  refine (get_calls g2 _ 69 _ HT2.out HTO.out (by omega) (by omega)).mono ?_
  rintro e w3 ⟨rfl, rfl⟩
  rw [HG69.out]
  go_wp2_with fail
  refine (get_calls g2 _ 6 _ HT2.out HTO.out (by omega) (by omega)).mono ?_
  rintro e w3 ⟨rfl, rfl⟩
  rw [HG6.out]
  go_wp2
  go_ret
  exact ⟨rfl, HB2.out⟩
end Go.Proofs.Ytpameikbacnpcaa.T
