/- The plain law of TextOne: each code point has its own bytes, as many as it needs; each byte that begins none is a sign of its own. -/
import Derived.Test.YtjcgjchdelipcaaDoorGOne
import Derived.Test.YtjcgjchdelipcaaDoorGText3
import Derived.OpenShut
namespace Go.Proofs.YtjcgjchdelipcaaDoor.G
open Go.RowKit Go.Proofs.YtjcgjchdelipcaaDoorW.PrintWords Go.Proofs.YtjcgjchdelipcaaDoorW.PrintLast Go.Proofs.YtjcgjchdelipcaaDoorW.PrintMore
theorem TextOne_law (c b : Int) (w : World) (hT : Tabs w) (_w0 : (Lit.int .i64 c).wf = true) (w1 : (Lit.int .u8 b).wf = true) :
    Calls Tryd.prog 4 #[.int .i64 c, .int .u8 b] w fun e w' => e = .returned (.bool true) ∧ Below w.heap.size w w' := by
  have hb : 0 ≤ b ∧ b < 256 := by
    have := bounds_u8 w1
    omega
  obtain ⟨k1, h1⟩ := Bytes_ev [c] (by simp)
  obtain ⟨k2, h2⟩ := Signs_ev (strOfNums [b]) (by rw [strOfNums_size]; simp)
  obtain ⟨k3, h3⟩ := awake_ev
  have e1 := h1 (max k1 (max k2 k3)) (by omega)
  have e2 := h2 (max k1 (max k2 k3)) (by omega)
  have e3 := h3 (max k1 (max k2 k3)) (by omega)
  have hx : ∃ x, U.signs (strOfNums [b]) = [x] ∧ ((b < 128 ∧ b = x) ∨ (128 ≤ b ∧ 1114112 + b = x)) := by
    by_cases h : b < 128
    · exact ⟨b, U.signs_ascii b hb.1 h, .inl ⟨h, rfl⟩⟩
    · exact ⟨1114112 + b, U.signs_bare b (by omega) hb.2, .inr ⟨by omega, rfl⟩⟩
  obtain ⟨x, hs, hx⟩ := hx
  rw [hs] at e2
  cases hc : U.isS c with
  | true =>
    by_cases hlt : c < 1114112
    · rw [U.bytes_good c hc hlt] at e1
      refine one_good c b x _ _ w hT e1 e2 e3 ?_ (by rw [U.encode_one c hc hlt]; simp) hx hb.1 hb.2
      rw [strOfNums_size]
      have hi := (isS_iff c).1 hc
      unfold U.one
      rw [if_neg (by omega)]
      by_cases c1 : c < 128
      · rw [if_pos c1]; exact .inl ⟨by omega, c1, rfl⟩
      rw [if_neg c1]
      by_cases c2 : c < 2048
      · rw [if_pos c2]; exact .inr (.inl ⟨by omega, c2, rfl⟩)
      rw [if_neg c2]
      by_cases c3 : c < 65536
      · rw [if_pos c3]
        by_cases c4 : c < 55296
        · exact .inr (.inr (.inl ⟨by omega, c4, rfl⟩))
        · exact .inr (.inr (.inr (.inl ⟨by omega, c3, rfl⟩)))
      · rw [if_neg c3]; exact .inr (.inr (.inr (.inr ⟨by omega, by omega, rfl⟩)))
    · have hi := (isS_iff c).1 hc
      rw [U.bytes_raw c (by omega) (by omega)] at e1
      exact one_other c b x 0 _ _ w hT e1 e2 e3 (.inl ⟨by omega, by omega, rfl⟩) hx hb.1 hb.2
  | false =>
    rw [U.bytes_none c hc] at e1
    have hi : ¬ ((0 ≤ c ∧ c < 55296) ∨ (57344 ≤ c ∧ c < 1114112) ∨ (1114240 ≤ c ∧ c ≤ 1114367)) := fun h => by rw [(isS_iff c).2 h] at hc; cases hc
    refine one_other c b x 1 _ _ w hT e1 e2 e3 ?_ hx hb.1 hb.2
    by_cases c1 : c < 0
    · exact .inr (.inl ⟨c1, rfl⟩)
    by_cases c2 : c ≤ 57343
    · exact .inr (.inr (.inl ⟨by omega, c2, rfl⟩))
    by_cases c3 : c < 1114240
    · exact .inr (.inr (.inr (.inl ⟨by omega, c3, rfl⟩)))
    · exact .inr (.inr (.inr (.inr ⟨by omega, rfl⟩)))

end Go.Proofs.YtjcgjchdelipcaaDoor.G
