/- The trie, second part: what its maps hold after so many pairs, in plain lists; closed facts. -/
import Derived.Test.YtpameikbacnpcaaProg
import Derived.Test.YtpameikbacnpcaaTA
import Derived.Test.YtpameikbacnpcaaE
namespace Go.Proofs.Ytpameikbacnpcaa.T
open Go Go.RowKit Go.Maps Go.Proofs.Ytpameikbacnpcaa.M
set_option linter.unusedVariables false

def zeroB : List Int := List.replicate 64 0
def upd (f : Int → Option (List Int)) (i : Int) (b : List Int) : Int → Option (List Int) := fun x => if x = i then some b else f x
def newB (f : Int → Option (List Int)) (c v : Int) : List Int := ((f (c / 64)).getD zeroB).set (c % 64).toNat v
def ownStep (f : Int → Option (List Int)) (p : Int × Int) : Int → Option (List Int) := upd f (p.1 / 64) (newB f p.1 p.2)
/-- The blocks that pairs fill. -/
def own (l : List (Int × Int)) : Int → Option (List Int) := l.foldl ownStep (fun _ => none)
theorem own_take (l : List (Int × Int)) (i : Nat) (h : i < l.length) (c v : Int) (e : l.getD i (0, 0) = (c, v)) : own (l.take (i + 1)) = upd (own (l.take i)) (c / 64) (newB (own (l.take i)) c v) := by
  have hg : l[i] = (c, v) := by rw [← e]; simp [List.getD_eq_getElem?_getD, List.getElem?_eq_getElem h]
  rw [List.take_succ_eq_append_getElem h, hg]
  unfold own
  rw [List.foldl_append]
  rfl
def BOk (b : List Int) : Prop := b.length = 64 ∧ ∀ x ∈ b, (Lit.int .i32 x).wf = true
def FOk (f : Int → Option (List Int)) : Prop := ∀ i b, f i = some b → BOk b
theorem zeroB_ok : BOk zeroB := ⟨rfl, fun x hx => by obtain rfl := List.eq_of_mem_replicate hx; rfl⟩
theorem FOk.none : FOk (fun _ => Option.none) := fun i b h => by cases h
theorem wf_i32 {x : Int} (h1 : -2147483648 ≤ x) (h2 : x ≤ 2147483647) : (Lit.int .i32 x).wf = true := by
  have e1 : IntKind.i32.min = -2147483648 := by decide
  have e2 : IntKind.i32.max = 2147483647 := by decide
  simp [Lit.wf, e1, e2]
  omega
theorem i32_bounds {x : Int} (h : (Lit.int .i32 x).wf = true) : -2147483648 ≤ x ∧ x ≤ 2147483647 := by
  have e1 : IntKind.i32.min = -2147483648 := by decide
  have e2 : IntKind.i32.max = 2147483647 := by decide
  simp [Lit.wf, e1, e2] at h
  omega
theorem FOk.getD {f : Int → Option (List Int)} (h : FOk f) (i : Int) : BOk ((f i).getD zeroB) := by
  cases e : f i with
  | none => exact zeroB_ok
  | some b => exact h i b e
theorem FOk.newB {f : Int → Option (List Int)} (h : FOk f) (c v : Int) (h1 : -2147483648 ≤ v) (h2 : v ≤ 2147483647) : BOk (newB f c v) := by
  refine ⟨by unfold T.newB; rw [List.length_set]; exact (h.getD _).1, fun x hx => ?_⟩
  rcases List.mem_or_eq_of_mem_set hx with hx | rfl
  · exact (h.getD _).2 x hx
  · exact wf_i32 h1 h2
theorem FOk.upd {f : Int → Option (List Int)} (h : FOk f) (i : Int) {b : List Int} (hb : BOk b) : FOk (upd f i b) := fun x y hy => by
  unfold T.upd at hy
  by_cases e : x = i
  · rw [if_pos e] at hy; cases hy; exact hb
  · rw [if_neg e] at hy; exact h x y hy

/-- What the map of blocks holds. -/
def encO (f : Int → Option (List Int)) : Lit → Option Value
  | .int .i64 i => (f i).map (aggV .i32)
  | _ => none
theorem encO_put (f : Int → Option (List Int)) (i : Int) (b : List Int) (kl : Lit) : M.put (encO f) (.int .i64 i) (aggV .i32 b) kl = encO (upd f i b) kl := by
  unfold M.put
  by_cases e : kl = .int .i64 i
  · subst e
    rw [if_pos rfl]
    simp [encO, upd]
  · rw [if_neg e]
    cases kl with
    | int k x =>
      cases k <;> try rfl
      have : x ≠ i := fun h => e (by rw [h])
      simp [encO, upd, this]
    | _ => rfl
/-- What the set of signs holds. -/
def encS (s : List Int) : Lit → Option Value
  | .int .i64 i => if i ∈ s then some (.bool true) else none
  | _ => none
theorem encS_put (s : List Int) (i : Int) (kl : Lit) : M.put (encS s) (.int .i64 i) (.bool true) kl = encS (s ++ [i]) kl := by
  unfold M.put
  by_cases e : kl = .int .i64 i
  · subst e
    rw [if_pos rfl]
    simp [encS]
  · rw [if_neg e]
    cases kl with
    | int k x =>
      cases k <;> try rfl
      have : x ≠ i := fun h => e (by rw [h])
      simp [encS, this]
    | _ => rfl
theorem encS_yes {s : List Int} {c : Int} (h : c ∈ s) : (encS s (.int .i64 c)).getD (.bool false) = .bool true := by simp [encS, h]
theorem encS_no {s : List Int} {c : Int} (h : c ∉ s) : (encS s (.int .i64 c)).getD (.bool false) = .bool false := by simp [encS, h]
theorem encO_get (f : Int → Option (List Int)) (i : Int) : (encO f (.int .i64 i)).getD (aggV .i32 zeroB) = aggV .i32 ((f i).getD zeroB) := by
  show ((f i).map (aggV .i32)).getD _ = _
  cases f i <;> rfl

/-- A block's cells. -/
def cellsB (b : List Int) : Array Value := (b.map (Value.int .i32)).toArray
theorem cellsB_size (b : List Int) : (cellsB b).size = b.length := by simp [cellsB]
theorem cellsB_one (b : List Int) : (cellsB b).all (·.oneCell') = true := by
  rw [Array.all_eq_true_iff_forall_mem]
  intro u hu
  simp only [cellsB, List.mem_toArray, List.mem_map] at hu
  obtain ⟨x, -, rfl⟩ := hu
  rfl
theorem cellsB_at (b : List Int) (j : Nat) (h : j < b.length) : (cellsB b)[j]? = some (.int .i32 (b.getD j 0)) := by
  simp [cellsB, List.getD_eq_getElem?_getD, List.getElem?_eq_getElem h]
theorem cellsB_set (b : List Int) (j : Nat) (v : Int) : (cellsB b).setIfInBounds j (.int .i32 v) = cellsB (b.set j v) := by
  simp [cellsB, List.map_set]
/-- What the map of places holds. -/
def encA (f : Int → Option Nat) : Lit → Option Value
  | .int .i64 i => (f i).map fun (j : Nat) => Value.int .i64 (j : Int)
  | _ => none
def updA (f : Int → Option Nat) (i : Int) (j : Nat) : Int → Option Nat := fun x => if x = i then some j else f x
theorem encA_put (f : Int → Option Nat) (i : Int) (j : Nat) (kl : Lit) : M.put (encA f) (.int .i64 i) (.int .i64 (j : Int)) kl = encA (updA f i j) kl := by
  unfold M.put
  by_cases e : kl = .int .i64 i
  · subst e
    rw [if_pos rfl]
    simp [encA, updA]
  · rw [if_neg e]
    cases kl with
    | int k x =>
      cases k <;> try rfl
      have : x ≠ i := fun h => e (by rw [h])
      simp [encA, updA, this]
    | _ => rfl
/-! closed facts -/
theorem lawI : Keyed Try.prog 3 := int_keyed Try.underlying3
theorem laidOut : laidOutB Try.prog = true := by kernel_rfl
theorem lawB : Keyed Try.prog 44 := Keyed.of_law (deep_law_laid laidOut (m := 2) (by omega) (of_decide_eq_true (by kernel_rfl)) (by kernel_rfl) (by kernel_rfl))
theorem zeroBool (w : World) : (zeroValue 4).run Try.prog w = .ok (.bool false) w := by kernel_rfl
theorem zeroInt (w : World) : (zeroValue 3).run Try.prog w = .ok (.int .i64 0) w := by kernel_rfl
theorem zeroBlk (w : World) : (zeroValue 44).run Try.prog w = .ok (aggV .i32 zeroB) w := by kernel_rfl
theorem keyI {c : Int} (h1 : -9223372036854775808 ≤ c) (h2 : c ≤ 9223372036854775807) : keyOf Try.prog 3 (.int .i64 c) = some (.int .i64 c) := keyOf_int_mk Try.underlying3 (WalkArith.wf_i64 ⟨h1, h2⟩)
theorem infoB : (Try.prog.info? 44).map (fun i => (i.zero, i.size, i.bytes)) = some (some (aggV .i32 zeroB), 64, 256) := by kernel_rfl
theorem infoBsize : (Try.prog.info? 44).map (·.size) = some 64 := by kernel_rfl
theorem builtB : Try.prog.built 44 [] = some (cellsB zeroB) := by kernel_rfl
def klOf (b : List Int) : Lit := .string (keyBytes (b.map (Lit.int .i32)))
theorem keyB {b : List Int} (h : BOk b) : keyOf Try.prog 44 (aggV .i32 b) = some (klOf b) :=
  keyOf_ints Try.underlying44 Try.underlying21 (by kernel_rfl) (by kernel_rfl) (by kernel_rfl) (d := Try.prog.types.size - 1) (by kernel_rfl) h.1 h.2
theorem klOf_inj {a b : List Int} (ha : BOk a) (hb : BOk b) (h : klOf a = klOf b) : a = b := aggV_inj (lawB.inj (keyB ha) (h ▸ keyB hb))
/-- Where a block stands. -/
def place (B : List (List Int)) (b : List Int) : Option Nat := B.findIdx? (fun x => x == b)
noncomputable def keyIs (kl : Lit) (x : List Int) : Bool := @decide (klOf x = kl) (Classical.propDecidable _)
theorem keyIs_yes {kl : Lit} {x : List Int} (h : klOf x = kl) : keyIs kl x = true := by unfold keyIs; exact @decide_eq_true _ (Classical.propDecidable _) h
theorem keyIs_no {kl : Lit} {x : List Int} (h : klOf x ≠ kl) : keyIs kl x = false := by unfold keyIs; exact @decide_eq_false _ (Classical.propDecidable _) h
/-- What the map of blocks found holds. -/
noncomputable def encF (B : List (List Int)) : Lit → Option Value := fun kl => (B.findIdx? (keyIs kl)).map fun (j : Nat) => Value.int .i64 (j : Int)
theorem encF_at {B : List (List Int)} (hB : ∀ x ∈ B, BOk x) {b : List Int} (hb : BOk b) : encF B (klOf b) = (place B b).map fun (j : Nat) => Value.int .i64 (j : Int) := by
  unfold encF place
  congr 1
  induction B with
  | nil => rfl
  | cons x B ih =>
    rw [List.findIdx?_cons, List.findIdx?_cons, ih (fun y hy => hB y (by simp [hy]))]
    by_cases e : x = b
    · rw [keyIs_yes (by rw [e])]; simp [e]
    · rw [keyIs_no (fun h => e (klOf_inj (hB x (by simp)) hb h))]; simp [e]
theorem encF_put {B : List (List Int)} (hB : ∀ x ∈ B, BOk x) {b : List Int} (hb : BOk b) (h : place B b = none) (kl : Lit) : M.put (encF B) (klOf b) (.int .i64 (B.length : Int)) kl = encF (B ++ [b]) kl := by
  have hn : ∀ x ∈ B, x ≠ b := by
    intro x hx e
    unfold place at h
    rw [List.findIdx?_eq_none_iff] at h
    have := h x hx
    simp [e] at this
  unfold M.put
  by_cases e : kl = klOf b
  · rw [if_pos e]
    have h0 : B.findIdx? (keyIs kl) = none := by
      rw [List.findIdx?_eq_none_iff]
      intro x hx
      exact keyIs_no (fun h => hn x hx (klOf_inj (hB x hx) hb (h.trans e)))
    unfold encF
    rw [List.findIdx?_append, h0]
    simp [List.findIdx?_cons, keyIs_yes (show klOf b = kl from e.symm)]
  · rw [if_neg e]
    unfold encF
    rw [List.findIdx?_append]
    cases hh : B.findIdx? (keyIs kl) with
    | some j => rfl
    | none => simp [List.findIdx?_cons, keyIs_no (show klOf b ≠ kl from fun h => e h.symm)]
/-- One block more: found, or new. -/
def tstep (f : Int → Option (List Int)) (s : List (List Int) × (Int → Option Nat)) (i : Int) : List (List Int) × (Int → Option Nat) :=
  match place s.1 ((f i).getD zeroB) with
  | some k => (s.1, updA s.2 i k)
  | none => (s.1 ++ [(f i).getD zeroB], updA s.2 i s.1.length)
def t0 : List (List Int) × (Int → Option Nat) := ([zeroB], fun _ => none)
theorem tfold_take (f : Int → Option (List Int)) (ks : List Int) (k : Nat) (h : k < ks.length) : (ks.take (k + 1)).foldl (tstep f) t0 = tstep f ((ks.take k).foldl (tstep f) t0) (ks.getD k 0) := by
  rw [List.take_succ_eq_append_getElem h, List.foldl_append]
  simp [List.getD_eq_getElem?_getD, List.getElem?_eq_getElem h]
/-- The cells of blocks, one behind the other. -/
def flat (B : List (List Int)) : List Value := (B.map fun b => b.map (Value.int .i32)).flatten
theorem flat_snoc (B : List (List Int)) (b : List Int) : flat (B ++ [b]) = flat B ++ (cellsB b).toList := by simp [flat, cellsB]
theorem row_below {w w' : World} {base B : Nat} {e : TypeId} {size : Nat} {v : Value} {n : Nat} {xs : List Value} (h : w.ownsRow base e size v n xs) (hb : Below B w w') (hlt : ∀ k, v.ownBlock = some k → k < B) : w'.ownsRow base e size v n xs := by
  rcases h with ⟨h1, h2 | ⟨g, cap, cur, e1, h3, h4, h5⟩⟩
  · exact ⟨h1, .inl h2⟩
  · exact ⟨h1, .inr ⟨g, cap, cur, e1, h3, (hb.block g (hlt g (by rw [e1]; rfl))).trans h4, h5⟩⟩
theorem own_range_from : ∀ (l : List (Int × Int)) (f : Int → Option (List Int)), (∀ p ∈ l, okP p = true) → (∀ i, (f i).isSome = true → 0 ≤ i ∧ i ≤ 17411) → ∀ i, ((l.foldl ownStep f) i).isSome = true → 0 ≤ i ∧ i ≤ 17411
  | [], f, _, hf, i, h => hf i h
  | p :: l, f, hl, hf, i, h => by
    refine own_range_from l (ownStep f p) (fun q hq => hl q (by simp [hq])) (fun i hi => ?_) i h
    unfold ownStep upd at hi
    by_cases e : i = p.1 / 64
    · have := hl p (by simp)
      simp only [okP, Bool.and_eq_true, decide_eq_true_eq] at this
      omega
    · rw [if_neg e] at hi
      exact hf i hi
theorem own_range {l : List (Int × Int)} (h : l.any (fun p => !okP p) = false) {i : Int} (hi : (own l i).isSome = true) : 0 ≤ i ∧ i ≤ 17411 :=
  own_range_from l _ (fun p hp => by have := List.any_eq_false.1 h p hp; simpa using this) (fun i h => by cases h) i hi
theorem row_zero {w : World} {base : Nat} {e : TypeId} {size : Nat} {v : Value} {n : Nat} {xs : List Value} (h : w.ownsRow base e size v n xs) : w.ownsRow 0 e size v n xs := by
  rcases h with ⟨h1, h2 | ⟨g, cap, cur, e1, h3, h4⟩⟩
  · exact ⟨h1, .inl h2⟩
  · exact ⟨h1, .inr ⟨g, cap, cur, e1, Nat.zero_le _, h4⟩⟩
end Go.Proofs.Ytpameikbacnpcaa.T
