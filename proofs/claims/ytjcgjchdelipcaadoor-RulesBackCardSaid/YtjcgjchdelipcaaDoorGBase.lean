/- What the hand-proved contracts and the printed ones share: the two tables of unicode/utf8 in memory, and that they stay. -/
import Derived.Test.YtjcgjchdelipcaaDoorShelf
import Derived.Test.YtjcgjchdelipcaaDoorGPure
import Derived.Below
import Derived.Laws.RangeAny
namespace Go.Proofs.YtjcgjchdelipcaaDoor
open Go Go.Proofs Go.RowKit

/-- The two tables of unicode/utf8 hold what their initialisers lay. -/
def Tabs (w : World) : Prop := Lib.Utf8Tabs 0 1 w
theorem Tabs_below {w w' : World} (h : Tabs w) (hb : Below w.heap.size w w') : Tabs w' := Utf8Tabs_below h hb
theorem Below_iter (w : World) (s : ByteArray) (pos : Nat) : Below w.heap.size w (w.iter s pos) := (Below.refl _ w).alloc (Nat.le_refl _) _
theorem ext0 (s : ByteArray) (n : Nat) (h : n ≤ s.size) : (s.extract 0 n).size = n := by simp; omega

end Go.Proofs.YtjcgjchdelipcaaDoor
