/-
  No cell of these rows narrows 'for every input' (looked for: loops, veiled, ifaces, maps, wideKeys, modest, calm, conditions, laid).
  DERIVED. THE GIVEN ROWS OF THIS SEAT. 3 by the template 'for every input the law returns true; each argument reads behind the call as it read before'; 0 by the template 'total and deterministic' (their statements: YtpameikbacnpcaaTotals.lean).
  GIVEN WITH THE SEED: the statements are not yours to turn. If you find one false, say at which input.
  Laid BY PROGRAM, IN A SANDBOX (cutbox-rows.mjs): the forced cells as the released guide's own fill.sh prints them over the translation 217f92028a68b1c9… (all of the seat's roots in one cut). By AI agents, Wed Nov 11 2026. No macro, syntax, notation, axiom, sorry.
-/
import Derived.Test.YtpameikbacnpcaaChecked
import GoSem.Claim
import GoSem.ClaimJoined
import GoSem.ClaimMapViews
import Derived.JoinedTies
import Derived.KernelRfl
namespace Go.Proofs.Ytpameikbacnpcaa
/- THE CELL 'sum', in the pinned program and in every row, IS THE sha256 OF THE DUMP (.gsa) THAT YtpameikbacnpcaaProg.lean LOADS. Nothing in Lean hashes anything: it is a label: what it is worth is what the hold of that sum in a sandbox is worth. -/
noncomputable def Try.pinned : Pinned := { name := "ytpameikbacnpcaa", sum := "217f92028a68b1c92629fff4f55cad4186aaaf42b4bf92e6128e77e3e59763d5", checked := Try.checked }
namespace Rows
def none {H : Type} : Left H := { results := [], args := [] }

/-- 'umlautlaw4.TrieTells': WHATEVER THE INPUT: true; the input reads as it did. -/
def trieTellsSpec : ChangeSpec := { name := "trieTells", fn := fun _ => fun
  | [d1, d2] => { results := [.lit (.bool true)], args := [d1, d2] }
  | _ => none }
def trieTellsRow : OpenClaim := { program := "ytpameikbacnpcaa", sum := "217f92028a68b1c92629fff4f55cad4186aaaf42b4bf92e6128e77e3e59763d5", func := "umlaut/umlautlaw4.TrieTells", spec := "trieTells", unfollowed := true, recurses := true, plainKeys := false, apart := false }
def TrieTellsSaid : Prop := trieTellsRow.holds Try.pinned (OpenSpec.ofChange trieTellsSpec)

/-- ITS FALSE NEIGHBOUR: 'it returns false'. Refute it at one input. -/
def trieTellsWrong : ChangeSpec := { name := "trieTells", fn := fun _ => fun
  | [d1, d2] => { results := [.lit (.bool false)], args := [d1, d2] }
  | _ => none }
def TrieTellsWrongFalsely : Prop := trieTellsRow.holds Try.pinned (OpenSpec.ofChange trieTellsWrong)

/-- 'umlautlaw4.TriePairs': WHATEVER THE INPUT: true; the input reads as it did. -/
def triePairsSpec : ChangeSpec := { name := "triePairs", fn := fun _ => fun
  | [d] => { results := [.lit (.bool true)], args := [d] }
  | _ => none }
def triePairsRow : OpenClaim := { program := "ytpameikbacnpcaa", sum := "217f92028a68b1c92629fff4f55cad4186aaaf42b4bf92e6128e77e3e59763d5", func := "umlaut/umlautlaw4.TriePairs", spec := "triePairs", unfollowed := true, recurses := true, plainKeys := false, apart := false }
def TriePairsSaid : Prop := triePairsRow.holds Try.pinned (OpenSpec.ofChange triePairsSpec)

/-- ITS FALSE NEIGHBOUR: 'it returns false'. Refute it at one input. -/
def triePairsWrong : ChangeSpec := { name := "triePairs", fn := fun _ => fun
  | [d] => { results := [.lit (.bool false)], args := [d] }
  | _ => none }
def TriePairsWrongFalsely : Prop := triePairsRow.holds Try.pinned (OpenSpec.ofChange triePairsWrong)

/-- 'umlautlaw4.TrieWith': WHATEVER THE INPUT: true; the input reads as it did. -/
def trieWithSpec : ChangeSpec := { name := "trieWith", fn := fun _ => fun
  | [d1, d2, d3] => { results := [.lit (.bool true)], args := [d1, d2, d3] }
  | _ => none }
def trieWithRow : OpenClaim := { program := "ytpameikbacnpcaa", sum := "217f92028a68b1c92629fff4f55cad4186aaaf42b4bf92e6128e77e3e59763d5", func := "umlaut/umlautlaw4.TrieWith", spec := "trieWith", unfollowed := true, recurses := true, plainKeys := false, apart := false }
def TrieWithSaid : Prop := trieWithRow.holds Try.pinned (OpenSpec.ofChange trieWithSpec)

/-- ITS FALSE NEIGHBOUR: 'it returns false'. Refute it at one input. -/
def trieWithWrong : ChangeSpec := { name := "trieWith", fn := fun _ => fun
  | [d1, d2, d3] => { results := [.lit (.bool false)], args := [d1, d2, d3] }
  | _ => none }
def TrieWithWrongFalsely : Prop := trieWithRow.holds Try.pinned (OpenSpec.ofChange trieWithWrong)

/- THE SECOND FORM. 'bulk': how many values and letters a reading holds, each counted each time it is reached (what is shared counts as often as it is met; a slice's spare places count too). A statement '..UptoSaid' is the law's where the arguments, and the package variables that the reading takes, are together of bulk at most 1048576: NARROWER than '..Said'. Prove '..Said' where nothing that the law and all that it calls make is longer than what came in: it says more and counts as full. Else prove '..UptoSaid'. A law counts once. -/
mutual
def uptoBulk {H : Type} : DataW H → Nat
  | .lit (.string bytes) => bytes.length + 1
  | .lit _ => 1
  | .nil => 1
  | .ptr d => uptoBulk d + 1
  | .slice elems spare => uptoBulkAll elems + uptoBulkAll spare + 1
  | .agg parts => uptoBulkAll parts + 1
  | .iface _ d => uptoBulk d + 1
  | .map entries => uptoBulkEntries entries + 1
  | .held _ => 1
def uptoBulkAll {H : Type} : List (DataW H) → Nat
  | [] => 0
  | d :: r => uptoBulk d + uptoBulkAll r
def uptoBulkEntries {H : Type} : List (Lit × DataW H) → Nat
  | [] => 0
  | x :: r => uptoBulkEntry x + uptoBulkEntries r
def uptoBulkEntry {H : Type} : Lit × DataW H → Nat
  | (.string bytes, d) => bytes.length + uptoBulk d + 1
  | (_, d) => uptoBulk d + 1
 end
def uptoSmall : (H : Type) → List (DataW H) → Bool := fun _ ds => decide (uptoBulkAll ds ≤ 1048576)
def OpenSpec.upto (s : _root_.Go.ChangeSpec) : _root_.Go.OpenSpec := { _root_.Go.OpenSpec.ofChange s with cond := some uptoSmall }

/-- 'umlautlaw4.TrieTells', WHERE WHAT IT READS IS OF BULK AT MOST 1048576: true; the input reads as it did. -/
def trieTellsUptoRow : OpenClaim := { program := "ytpameikbacnpcaa", sum := "217f92028a68b1c92629fff4f55cad4186aaaf42b4bf92e6128e77e3e59763d5", func := "umlaut/umlautlaw4.TrieTells", spec := "trieTells", unfollowed := true, recurses := true, plainKeys := false, apart := false, narrowed := true }
def TrieTellsUptoSaid : Prop := trieTellsUptoRow.holds Try.pinned (OpenSpec.upto trieTellsSpec)

/-- 'umlautlaw4.TriePairs', WHERE WHAT IT READS IS OF BULK AT MOST 1048576: true; the input reads as it did. -/
def triePairsUptoRow : OpenClaim := { program := "ytpameikbacnpcaa", sum := "217f92028a68b1c92629fff4f55cad4186aaaf42b4bf92e6128e77e3e59763d5", func := "umlaut/umlautlaw4.TriePairs", spec := "triePairs", unfollowed := true, recurses := true, plainKeys := false, apart := false, narrowed := true }
def TriePairsUptoSaid : Prop := triePairsUptoRow.holds Try.pinned (OpenSpec.upto triePairsSpec)

/-- 'umlautlaw4.TrieWith', WHERE WHAT IT READS IS OF BULK AT MOST 1048576: true; the input reads as it did. -/
def trieWithUptoRow : OpenClaim := { program := "ytpameikbacnpcaa", sum := "217f92028a68b1c92629fff4f55cad4186aaaf42b4bf92e6128e77e3e59763d5", func := "umlaut/umlautlaw4.TrieWith", spec := "trieWith", unfollowed := true, recurses := true, plainKeys := false, apart := false, narrowed := true }
def TrieWithUptoSaid : Prop := trieWithUptoRow.holds Try.pinned (OpenSpec.upto trieWithSpec)

end Rows
end Go.Proofs.Ytpameikbacnpcaa
