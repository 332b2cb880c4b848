/- Plain definitions and laws on texts as signs: no program in sight. -/
import Derived.Shelf.Unicode.DecodeSlow
import Derived.Lib.RuneCount
namespace Go.Proofs.YtjcgjchdelipcaaDoor.U
open Go Go.Proofs Go.Lib
set_option linter.unusedVariables false
set_option linter.unusedSimpArgs false

/-- The sign that a text begins with, and how many bytes it has. -/
def sgn (s : ByteArray) : Int × Int :=
  if (Lib.decodeGo s).1 = 65533 ∧ (Lib.decodeGo s).2 = 1 then (1114112 + ((s.get! 0).toNat : Int), 1) else (((Lib.decodeGo s).1 : Int), ((Lib.decodeGo s).2 : Int))

theorem decodeN_lt (n b0 b1 b2 b3 : Nat) (h0 : b0 < 256) (h1 : b1 < 256) (h2 : b2 < 256) (h3 : b3 < 256) : (decodeN n b0 b1 b2 b3).1 < 2147483648 := by
  unfold decodeN
  repeat' split
  all_goals (simp only []; omega)
theorem decodeGo_lt (s : ByteArray) : (Lib.decodeGo s).1 < 2147483648 := by
  unfold Lib.decodeGo
  split
  · decide
  · rw [Lib.decode_at]
    exact decodeN_lt _ _ _ _ _ (UInt8.toNat_lt _) (UInt8.toNat_lt _) (UInt8.toNat_lt _) (UInt8.toNat_lt _)

end Go.Proofs.YtjcgjchdelipcaaDoor.U
