import Derived.Test.YtjcgjchdelipcaaDoorG7
import Derived.Deep.Upon
import Derived.Maps.AppendAt
namespace Go.Proofs.YtjcgjchdelipcaaDoor.G
open Go.RowKit Go.Proofs.YtjcgjchdelipcaaDoorW.PrintWords Go.Proofs.YtjcgjchdelipcaaDoorW.PrintLast Go.Proofs.YtjcgjchdelipcaaDoorW.PrintMore
set_option linter.unusedVariables false
set_option linter.unusedSimpArgs false
/-- Cells of a row of scalars that is read. -/
theorem cells_of_C {α : Type} {enc : α → Value} {h1 : ∀ x : α, (enc x).oneCell' = true} {w : World} {ad : Addr} {n : Nat} {xs : List α} (h : (Kd.scalar enc h1).C w (some ad) n xs) (j : Nat) (u : Value) (hu : (encs enc xs)[j]? = some u) : w.cell? (ad.add j) = some u := by
  have hj : j < xs.length := by
    rcases Nat.lt_or_ge j xs.length with h | h
    · exact h
    · simp [encs, List.getElem?_eq_none h] at hu
  obtain ⟨ad', e, hc⟩ := h.2.2 (by have := h.1; omega)
  injection e with e
  subst e
  obtain ⟨c, _, hK, hcell⟩ := hc j _ (List.getElem?_eq_getElem hj)
  have hK' : c = [enc xs[j]] := hK
  have h2 := hcell 0 (enc xs[j]) (by rw [hK']; rfl)
  simp [encs, List.getElem?_eq_getElem hj] at hu
  subst hu
  simpa [Kd.scalar] using h2
theorem run_append_clip {P : Program} {α : Type} {enc : α → Value} {h1 : ∀ x : α, (enc x).oneCell' = true} (W : World) (t ty e : TypeId) (i : TypeInfo) (z : Value) (bytes : Nat) (ht : P.underlying t = some (.slice e)) (hi : P.info? e = some i) (hz : i.zero = some z) (hsize : i.size = 1) (hby : i.bytes = bytes) (hzs : z.cells.size = 1) (hb0 : 0 < bytes)
    (A B : Option Addr) (m c : Nat) (xs ys : List α) (hA : (Kd.scalar enc h1).C W A xs.length xs) (hB : (Kd.scalar enc h1).C W B m ys) (hl : (xs.length + m) * bytes ≤ 140737488355328) :
    ∃ A' c' w1, (Builtin.append_ #[t, t] ty #[.slice A xs.length xs.length, .slice B m c]).run P W = .ok (.slice A' (xs ++ ys).length c') w1 ∧ (xs ++ ys).length ≤ c' ∧ (Kd.scalar enc h1).C w1 A' (xs ++ ys).length (xs ++ ys) ∧ W.grownBy w1 none := by
  have hm : ys.length = m := hB.1
  have hlen : xs.length + m ≤ 140737488355328 := Nat.le_trans (Nat.le_mul_of_pos_right _ hb0) hl
  rcases Nat.eq_zero_or_pos m with h0 | h0
  · subst h0
    obtain rfl : ys = [] := List.eq_nil_of_length_eq_zero hm
    refine ⟨A, xs.length, W, ?_, by simp, by simpa using hA, World.grownBy.refl W _⟩
    have hrun := run_append_nothing (P := P) W t t ty e i ht hi A xs.length xs.length (Nat.le_refl _) (.slice B 0 c) (by
      rcases B with _ | ad
      · exact Src.ofNil (P := P) W ht c
      · exact Src.ofSlice (P := P) W ht ad 0 c [] (by simp) (by simp) (by simp))
    simpa using hrun
  · obtain ⟨ad, rfl, _⟩ := hB.2.2 h0
    have hcB := cells_of_C hB
    have h1B : ∀ u ∈ encs enc ys, u.oneCell' = true := by
      intro u hu
      simp only [encs, List.mem_map] at hu
      obtain ⟨q, _, rfl⟩ := hu
      exact h1 q
    have key : ∃ v' w', (Builtin.append_ #[t, t] ty #[.slice A xs.length xs.length, .slice (some ad) m c]).run P W = .ok v' w' ∧ w'.ownsRow W.heap.size e 1 v' (xs.length + m) (encs enc xs ++ encs enc ys) ∧ W.grownBy w' none := by
      rcases A with _ | a
      · have hx0 : xs = [] := by
          rcases Nat.eq_zero_or_pos xs.length with h | h
          · exact List.eq_nil_of_length_eq_zero h
          · obtain ⟨_, h', _⟩ := hA.2.2 h
            cases h'
        subst hx0
        obtain ⟨v1, w1, hr, h2, h3, _, h5⟩ := run_append_own_at (P := P) W W.heap.size t ty e i z 1 bytes ht hi hz hsize hby hzs (by omega) (.slice none 0 0) 0 [] (World.ownsRow_nil W _ e 1) ad m c (encs enc ys) (by simp [encs, hm]) hcB h1B (by simp only [maxLen]; omega) (by simpa using hl) (Nat.le_refl _)
        exact ⟨v1, w1, hr, by simpa [encs] using h2, h3⟩
      · exact run_append_arg_grows (P := P) W t ty e i z 1 bytes ht hi hz hsize hby hzs (by omega) a xs.length xs.length (encs enc xs) (by simp [encs]) (cells_of_C hA) ad m c (encs enc ys) (by simp [encs, hm]) hcB (by omega) (by simp only [maxLen]; omega) hl
    obtain ⟨v', w', hr, ho, hg⟩ := key
    have ho' : w'.ownsRow W.heap.size e 1 v' (xs ++ ys).length (encs enc (xs ++ ys)) := by
      rw [List.length_append, hm, encs_append]; exact ho
    obtain ⟨A', c', rfl, hle, hC⟩ := Kd.R_reads (Kd.R_of_own (h1 := h1) ho' (ok := fun _ => True) (fun _ _ => trivial))
    exact ⟨A', c', w', hr, hle, hC, hg⟩
/-- append behind a clip (the capacity ends at the length), in a region. -/
theorem append_clip_step {P : Program} {α : Type} {enc : α → Value} {h1 : ∀ x : α, (enc x).oneCell' = true} {ops : Array Oper} {o : Oper} {a : Act} {Q : Exit → Act → World → Prop} {Kc : Act → World → Prop} {w0 W : World} (base : Nat) (hw : Region.wanted o (yielded ops a.tmps) = true) (s x : Operand) (t e : TypeId) (i : TypeInfo) (z : Value) (bytes : Nat)
    (ho : o.op = .call { callee := .builtin .append, args := #[s, x], argTypes := #[t, t] })
    (ht : P.underlying t = some (.slice e)) (hi : P.info? e = some i) (hz : i.zero = some z) (hsize : i.size = 1) (hby : i.bytes = bytes) (hzs : z.cells.size = 1) (hb0 : 0 < bytes)
    (A B : Option Addr) (m c : Nat) (xs ys : List α) (hs : a.eval s = .slice A xs.length xs.length) (hx : a.eval x = .slice B m c) (hA : (Kd.scalar enc h1).C W A xs.length xs) (hB : (Kd.scalar enc h1).C W B m ys) (HB : Below base w0 W) (hbase : base ≤ W.heap.size) (hl : (xs.length + m) * bytes ≤ 140737488355328)
    (h : ∀ A' c' w1, (xs ++ ys).length ≤ c' → (Kd.scalar enc h1).C w1 A' (xs ++ ys).length (xs ++ ys) → Below base w0 w1 → Kc (a.put o.dst (.slice A' (xs ++ ys).length c')) w1) :
    if Region.wanted o (yielded ops a.tmps) = true then Oper.wp P o a W Kc Q else Kc (a.put o.dst undef) W := by
  obtain ⟨A', c', w1, hr, hle, hC, hg⟩ := run_append_clip (P := P) (h1 := h1) W t o.type e i z bytes ht hi hz hsize hby hzs hb0 A B m c xs ys hA hB hl
  rw [if_pos hw]
  unfold Oper.wp execOp
  simp only [ho, resolve, invoke, builtin, Sem.run_bind, Sem.run_pure, Result.andThen_ok, List.map_toArray, List.map_cons, List.map_nil, hs, hx, hr]
  exact h A' c' w1 hle hC (HB.grown hg hbase (fun k hk => by cases hk))
end Go.Proofs.YtjcgjchdelipcaaDoor.G
