/- An array of whole numbers as a map's key: what it reads as, and that unlike arrays read unlike. No program's text. -/
import Derived.Test.YtpameikbacnpcaaM
import Derived.DeepKeys5
namespace Go.Proofs.Ytpameikbacnpcaa.M
open Go Go.Maps
set_option linter.unusedVariables false

/-- The value of an array of numbers. -/
def aggV (q : IntKind) (b : List Int) : Value := .agg (b.map (Value.int q)).toArray
theorem map_inj {α β : Type} {f : α → β} (hf : ∀ x y, f x = f y → x = y) : ∀ a b : List α, a.map f = b.map f → a = b
  | [], [], _ => rfl
  | [], _ :: _, h => by simp at h
  | _ :: _, [], h => by simp at h
  | x :: a, y :: b, h => by
    simp only [List.map_cons, List.cons.injEq] at h
    rw [hf _ _ h.1, map_inj hf a b h.2]
theorem aggV_inj {q : IntKind} {a b : List Int} (h : aggV q a = aggV q b) : a = b := by
  unfold aggV at h
  simp only [Value.agg.injEq] at h
  have h2 := congrArg Array.toList h
  exact map_inj (fun x y e => by injection e) _ _ h2
theorem drop_take_one {α : Type} (l : List α) (i : Nat) (hi : i < l.length) : (l.drop (i * 1)).take 1 = [l[i]] := by
  rw [Nat.mul_one, List.drop_eq_getElem_cons hi]
  rfl
theorem mapM_some {α β : Type} (f : α → Option β) (g : α → β) : ∀ l : List α, (∀ x ∈ l, f x = some (g x)) → l.mapM f = some (l.map g)
  | [], _ => rfl
  | a :: l, h => by
    rw [List.mapM_cons, h a (by simp), mapM_some f g l (fun x hx => h x (by simp [hx]))]
    rfl
theorem flatten_singles {α : Type} (l : List α) : (l.map fun x => [x]).flatten = l := by
  induction l with
  | nil => rfl
  | cons a l ih => simp [ih]
theorem map_range_get {α : Type} [Inhabited α] (l : List α) : (List.range l.length).map (fun i => l.getD i default) = l := by
  apply List.ext_getElem
  · simp
  · intro i h1 h2
    simp at h1
    simp [List.getD_eq_getElem?_getD, List.getElem?_eq_getElem h1]
theorem keyOf_ints {P : Program} {k e : TypeId} {n : Nat} {q : IntKind} (hk : P.underlying k = some (.array n e)) (he : P.underlying e = some (.int q)) (hc : P.cellsOf e = 1) (hck : P.cellsOf k = n) (hkt : P.keyType k = true) {d : Nat} (hs : P.types.size = d + 1)
    {b : List Int} (hb : b.length = n) (hw : ∀ x ∈ b, (Lit.int q x).wf = true) : keyOf P k (aggV q b) = some (.string (keyBytes (b.map (Lit.int q)))) := by
  have hf : (aggV q b).formed P k = true := by
    unfold aggV Value.formed
    simp [hk, hck, hb]
  have hcs : (aggV q b).cells.toList = b.map (Value.int q) := by simp [aggV, Value.cells]
  have hl : P.keyLits (P.types.size + 1) k (b.map (Value.int q)) = some (b.map (Lit.int q)) := by
    rw [hs]
    unfold Program.keyLits
    simp only [hk]
    rw [if_pos (by simp [hck, hb])]
    rw [hc, mapM_some (g := fun i => [Lit.int q (b.getD i default)])]
    · rw [Option.map_some]
      congr 1
      rw [← hb]
      have := congrArg (List.map (Lit.int q)) (map_range_get b)
      rw [List.map_map] at this
      rw [← this]
      rw [show (List.range b.length).map (fun i => [Lit.int q (b.getD i default)]) = ((List.range b.length).map (Lit.int q ∘ fun i => b.getD i default)).map (fun x => [x]) by rw [List.map_map]; rfl]
      rw [flatten_singles]
    · intro i hi
      have hi' : i < b.length := by rw [hb]; simpa using hi
      rw [drop_take_one _ _ (by simpa using hi')]
      unfold Program.keyLits
      simp only [he, List.getElem_map]
      rw [if_pos ⟨trivial, hw _ (List.getElem_mem _)⟩]
      simp [List.getD_eq_getElem?_getD, List.getElem?_eq_getElem hi']
  unfold keyOf
  simp only [hk]
  rw [if_pos (by rw [hkt, hf]; rfl), hcs, hl]
  rfl
end Go.Proofs.Ytpameikbacnpcaa.M
