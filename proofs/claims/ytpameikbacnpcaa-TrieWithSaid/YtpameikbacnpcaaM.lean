/- Maps whose elements are told by their very values: what a map of the call's own holds, as a Lean function of the key's literal. No program's text. -/
import Derived.Maps.Ext
import Derived.Maps.RangeWalk
import Derived.DeepKeys4
import Derived.WalkKit
namespace Go.Proofs.Ytpameikbacnpcaa.M
open Go Go.Maps
set_option linter.unusedVariables false

/-- An element reads as itself. -/
def tok (v : Value) : Option (DataW Value × List MemPlace) := some (.held v, [])

/-- What D holds at a key: m. -/
def Holds (D : DataW Value) (m : Lit → Option Value) : Prop :=
  ∀ kl, (m kl = none → Maps.has D kl = false) ∧ ∀ v, m kl = some v → ∀ z, D.atKey kl z = .held v

/-- BLOCK b OF w IS A MAP OF AT MOST n ENTRIES THAT HOLDS m. -/
def FM (w : World) (P : Program) (k : TypeId) (b n : Nat) (m : Lit → Option Value) : Prop :=
  ∃ D, w.ownsMap P k tok b n D ∧ Holds D m

open Classical in
noncomputable def put (m : Lit → Option Value) (kl : Lit) (v : Value) : Lit → Option Value := fun x => if x = kl then some v else m x

variable {P : Program} {k : TypeId} {w : World} {b n : Nat} {m : Lit → Option Value} {D : DataW Value}

theorem FM.made (w : World) (P : Program) (k : TypeId) : FM (w.alloc (.map #[] 0)) P k w.heap.size 0 (fun _ => none) :=
  ⟨.map [], World.ownsMap_made _ _ _ _, fun kl => ⟨fun _ => rfl, fun v h => by cases h⟩⟩
theorem FM.mono (h : FM w P k b n m) {n' : Nat} (hn : n ≤ n') : FM w P k b n' m := let ⟨D, h1, h2⟩ := h; ⟨D, h1.mono hn, h2⟩
theorem FM.lt (h : FM w P k b n m) : b < w.heap.size := let ⟨_, h1, _⟩ := h; h1.lt
theorem FM.kept {w' : World} {row : Option Nat} (h : FM w P k b n m) (hg : w.grownBy w' row) (hne : some b ≠ row) : FM w' P k b n m := let ⟨D, h1, h2⟩ := h; ⟨D, h1.kept hg hne, h2⟩
theorem FM.alloc (h : FM w P k b n m) (o : Obj) : FM (w.alloc o) P k b n m := let ⟨D, h1, h2⟩ := h; ⟨D, h1.alloc o, h2⟩
theorem FM.drew (h : FM w P k b n m) : FM w.drew P k b n m := h
theorem FM.setCell (h : FM w P k b n m) {a : Addr} (ha : b ≠ a.block) (u : Value) : FM (w.setCell a u) P k b n m := let ⟨D, h1, h2⟩ := h; ⟨D, h1.setCell ha u, h2⟩
theorem FM.below {w' : World} {B : Nat} (h : FM w P k b n m) (hb : RowKit.Below B w w') (hlt : b < B) : FM w' P k b n m := by
  obtain ⟨D, ⟨es, clock, h1, h2⟩, h3⟩ := h
  exact ⟨D, ⟨es, clock, (hb.block b hlt).trans h1, h2⟩, h3⟩
theorem FM.congr {m' : Lit → Option Value} (h : FM w P k b n m) (e : ∀ kl, m kl = m' kl) : FM w P k b n m' := by
  obtain ⟨D, h1, h2⟩ := h
  exact ⟨D, h1, fun kl => by rw [← e kl]; exact h2 kl⟩

theorem Holds.has (h : Holds D m) (kl : Lit) : Maps.has D kl = (m kl).isSome := by
  cases hm : m kl with
  | none => exact (h kl).1 hm
  | some v => exact Maps.has_true_of_atKey ((h kl).2 v hm)
theorem Holds.atk (h : Holds D m) (kl : Lit) (z : Value) : D.atKey kl (.held z) = .held ((m kl).getD z) := by
  cases hm : m kl with
  | none => exact Maps.atKey_of_not_has ((h kl).1 hm) _
  | some v => exact (h kl).2 v hm _
theorem Holds.put (h : Holds D m) (hD : Maps.IsMap D) {kl : Lit} (hk : WideAt.IsKeyLit kl) (v : Value) : Holds (D.put kl (.held v)) (M.put m kl v) := by
  intro x
  unfold M.put
  by_cases e : x = kl
  · subst e
    rw [if_pos rfl]
    exact ⟨fun h => by simp at h, fun u hu z => by cases hu; exact Maps.atKey_put_same hD hk _ _⟩
  · rw [if_neg e]
    exact ⟨fun hm => by rw [Maps.has_put_other e]; exact (h x).1 hm, fun u hu z => by rw [Maps.atKey_put_other e]; exact (h x).2 u hu z⟩

/-- 'm[k]': the run. -/
theorem FM.look {t e : TypeId} (h : FM w P k b n m) (K : Keyed P k) (ht : P.underlying t = some (.map k e)) {z : Value} (hz : (zeroValue e).run P w = .ok z w) {key : Value} {kl : Lit} (hkey : keyOf P k key = some kl) :
    (Instr.lookup t (.map (some b)) key false).run P w = .ok ((m kl).getD z) w := by
  obtain ⟨D, h1, h2⟩ := h
  obtain ⟨v, ps, hrun, hv⟩ := h1.lookup K ht hz (R := tok) rfl hkey
  rw [h2.atk] at hv
  simp only [tok, Option.some.injEq, Prod.mk.injEq, DataW.held.injEq] at hv
  rw [hrun, hv.1]
theorem FM.look_ok {t e : TypeId} (h : FM w P k b n m) (K : Keyed P k) (ht : P.underlying t = some (.map k e)) {z : Value} (hz : (zeroValue e).run P w = .ok z w) {key : Value} {kl : Lit} (hkey : keyOf P k key = some kl) :
    (Instr.lookup t (.map (some b)) key true).run P w = .ok (.tuple #[(m kl).getD z, .bool (m kl).isSome]) w := by
  obtain ⟨D, h1, h2⟩ := h
  obtain ⟨v, ps, hrun, hv⟩ := h1.look_ok K ht hz (R := tok) rfl hkey
  rw [h2.atk] at hv
  simp only [tok, Option.some.injEq, Prod.mk.injEq, DataW.held.injEq] at hv
  rw [hrun, hv.1, h2.has]
theorem FM.store {t e : TypeId} (h : FM w P k b n m) (K : Keyed P k) (ht : P.underlying t = some (.map k e)) (hn : n < maxLen) {key val : Value} {kl : Lit} (hkey : keyOf P k key = some kl) :
    ∃ w', (Instr.mapUpdate t (.map (some b)) key val).run P w = .ok () w' ∧ FM w' P k b (n + 1) (M.put m kl val) ∧ w.grownBy w' (some b) := by
  obtain ⟨D, h1, h2⟩ := h
  obtain ⟨w', hrun, h3, h4⟩ := h1.update K ht hn hkey (R := tok) (val := val) rfl
  exact ⟨w', hrun, ⟨_, h3, h2.put h1.isMap (K.key hkey) _⟩, h4⟩

/-! at the operation -/
section
variable {ops : Array Oper} {rest : List Oper} {o : Oper} {a : Act} {Q : Exit → Act → World → Prop}
theorem wp_look (hg : o.guard = none) (mo x : Operand) (t : TypeId) (hop : o.op = Op.lookup t mo x false) (k e : TypeId) (K : Keyed P k) (ht : P.underlying t = some (.map k e)) (z : Value) (hz : (zeroValue e).run P w = .ok z w) (b n : Nat) (m : Lit → Option Value)
    (hm : a.eval mo = .map (some b)) (h : FM w P k b n m) (key : Value) (kl : Lit) (hx : a.eval x = key) (hkey : keyOf P k key = some kl) (v : Value) (hv : (m kl).getD z = v)
    (hK : wpList P ops Q rest (a.put o.dst v) w) : wpList P ops Q (o :: rest) a w := by
  refine wpList_plain hg fun K' hK' => ?_
  have hrun := h.look K ht hz hkey
  rw [hv] at hrun
  unfold Oper.wp
  simp [execOp, hop, hm, hx, hrun, Result.andThen]
  exact hK' _ _ hK
theorem wp_look_ok (hg : o.guard = none) (mo x : Operand) (t : TypeId) (hop : o.op = Op.lookup t mo x true) (k e : TypeId) (K : Keyed P k) (ht : P.underlying t = some (.map k e)) (z : Value) (hz : (zeroValue e).run P w = .ok z w) (b n : Nat) (m : Lit → Option Value)
    (hm : a.eval mo = .map (some b)) (h : FM w P k b n m) (key : Value) (kl : Lit) (hx : a.eval x = key) (hkey : keyOf P k key = some kl) (v : Value) (ok : Bool) (hv : (m kl).getD z = v) (hok : (m kl).isSome = ok)
    (hK : wpList P ops Q rest (a.put o.dst (.tuple #[v, .bool ok])) w) : wpList P ops Q (o :: rest) a w := by
  refine wpList_plain hg fun K' hK' => ?_
  have hrun := h.look_ok K ht hz hkey
  rw [hv, hok] at hrun
  unfold Oper.wp
  simp [execOp, hop, hm, hx, hrun, Result.andThen]
  exact hK' _ _ hK
theorem wp_store (hg : o.guard = none) (mo x vo : Operand) (t : TypeId) (hop : o.op = Op.mapUpdate t mo x vo) (k e : TypeId) (K : Keyed P k) (ht : P.underlying t = some (.map k e)) (b n : Nat) (m : Lit → Option Value)
    (hm : a.eval mo = .map (some b)) (h : FM w P k b n m) (hn : n < maxLen) (key : Value) (kl : Lit) (hx : a.eval x = key) (hkey : keyOf P k key = some kl) (val : Value) (hv : a.eval vo = val)
    (hK : ∀ w', FM w' P k b (n + 1) (M.put m kl val) → w.grownBy w' (some b) → wpList P ops Q rest (a.put o.dst undef) w') : wpList P ops Q (o :: rest) a w := by
  refine wpList_plain hg fun K' hK' => ?_
  obtain ⟨w', hrun, h1, h2⟩ := h.store K ht hn (val := val) hkey
  unfold Oper.wp
  simp [execOp, hop, hm, hx, hv, hrun, Result.andThen]
  exact hK' _ _ (hK w' h1 h2)
theorem wp_len (hg : o.guard = none) (mo : Operand) (t : TypeId) (hop : o.op = Op.call { callee := Callee.builtin Builtin.len, args := #[mo], argTypes := #[t] }) (k e : TypeId) (ht : P.underlying t = some (.map k e)) (b n : Nat) (m : Lit → Option Value)
    (hm : a.eval mo = .map (some b)) (h : FM w P k b n m) (hK : ∀ j : Nat, j ≤ n → wpList P ops Q rest (a.put o.dst (.int .i64 j)) w) : wpList P ops Q (o :: rest) a w := by
  obtain ⟨D, h1, h2⟩ := h
  exact wpList_len_own w hg mo t hop k e ht tok b n D hm h1 (hK _ h1.size_le)
end
end Go.Proofs.Ytpameikbacnpcaa.M
