/- An argument that is a slice of structs, each a number and two slices of numbers: how its reading is a row of rules, and how long each slice in it may be. -/
import Derived.Test.YtjcgjchdelipcaaDoorR0
import Derived.Deep.Strs
import Derived.Deep.Slices
import Derived.ChangeSlices
import Derived.SizedLaws
namespace Go.Proofs.YtjcgjchdelipcaaDoor.R
open Go.ChangeShapes Go.WideShapes Go.RowKit Go.Proofs.YtjcgjchdelipcaaDoorW.PrintWords
set_option linter.unusedVariables false
set_option linter.unusedSimpArgs false

section
variable {H : Type} {enc : TypeId × Value → H} {w : World} {base : Nat} {spare : Nat → Bool} {held : Bool}
/-- A slice of whole numbers: a row that is read. -/
theorem read_ints {fuel : Nat} {v : Value} {x : DataW H × List MemPlace} (h : DataW.trod enc Tryd.prog w base spare held fuel 22 [v] = some x) :
    ∃ A c zs, v = .slice A zs.length c ∧ zs.length ≤ c ∧ Kd.C (Kd.int .i64) w A zs.length zs ∧ (zs.length * 8 ≤ reachBytes ∨ ∃ n ∈ x.1.weights Tryd.prog 22, ¬ n ≤ reachBytes) := by
  rcases open_ints Tryd.underlying22 Tryd.underlying3 (by kernel_rfl) h with ⟨e, _⟩ | ⟨a, len, cap, zs, e, _, hl, hm, hz, hx, hc, _⟩
  · obtain rfl : v = .slice none 0 0 := by simpa using e
    exact ⟨none, 0, [], rfl, Nat.le_refl _, Kd.C_nil _ _, .inl (by simp)⟩
  · obtain rfl : v = .slice (some a) len cap := by simpa using e
    have hlen : len ≤ zs.length := by rw [hz]; split <;> omega
    have ht : (zs.take len).length = len := by rw [List.length_take]; omega
    refine ⟨some a, cap, zs.take len, by rw [ht], by rw [ht]; exact hl, ?_, ?_⟩
    · refine Kd.C_of_reads (d := (0 : Int)) ⟨rfl, by rw [ht]; unfold maxLen at hm; omega, fun _ => ⟨a, rfl, fun j hj => ?_⟩⟩
      have hj' : j < len := by rw [ht] at hj; exact hj
      rw [hc j (by omega)]
      simp [List.getD_eq_getElem?_getD, List.getElem?_take_of_lt hj']
    · by_cases hr : (zs.take len).length * 8 ≤ reachBytes
      · exact .inl hr
      · right
        rw [hx]
        have hb : Tryd.prog.bytesOf 3 = 8 := by kernel_rfl
        refine ⟨((lits (H := H) .i64 (zs.take len)).length + (lits (H := H) .i64 (zs.drop len)).length) * Tryd.prog.bytesOf 3, by simp [DataW.weights, Tryd.underlying22], ?_⟩
        rw [hb]
        have : (lits (H := H) .i64 (zs.take len)).length = (zs.take len).length := by simp [lits]
        rw [this]
        omega
theorem three_of {cs : List Value} (h : cs.length = 3) : ∃ a b c, cs = [a, b, c] := by
  match cs, h with
  | [a, b, c], _ => exact ⟨a, b, c, rfl⟩
theorem weightsAll_mem {P : Program} {e : TypeId} {n : Nat} {d : DataW H} (hn : n ∈ d.weights P e) : ∀ ds : List (DataW H), d ∈ ds → n ∈ DataW.weightsAll P e ds
  | [], h => by cases h
  | d' :: ds, h => by
    unfold DataW.weightsAll
    rcases List.mem_cons.1 h with rfl | h
    · exact List.mem_append_left _ hn
    · exact List.mem_append_right _ (weightsAll_mem hn ds h)
theorem read_rules {fuel : Nat} {A : Option Addr} {len cap : Nat} {x : DataW H × List MemPlace} (h : DataW.trod enc Tryd.prog w base spare held fuel 45 [.slice A len cap] = some x) (hz : ∀ n ∈ x.1.weights Tryd.prog 45, n ≤ reachBytes) :
    ∃ zs : List S57, zs.length = len ∧ len ≤ cap ∧ Kd.C k57 w A len zs ∧ ∀ z ∈ zs, z.f1.length * 8 ≤ reachBytes ∧ z.f2.length * 8 ≤ reachBytes := by
  rcases Deep.open_slice Tryd.underlying45 h with ⟨e, _⟩ | ⟨a, l, c, m, n, D, Pl, e, _, hl, hm, hmm, hx, hi⟩
  · simp only [List.cons.injEq, Value.slice.injEq, and_true] at e
    obtain ⟨rfl, rfl, rfl⟩ := e
    exact ⟨[], rfl, Nat.le_refl _, Kd.C_nil _ _, by simp⟩
  · simp only [List.cons.injEq, Value.slice.injEq, and_true] at e
    obtain ⟨rfl, rfl, rfl⟩ := e
    have hlm : len ≤ m := by rw [hmm]; split <;> omega
    have ce : Tryd.prog.cellsOf 57 = 3 := by kernel_rfl
    have each : ∀ i, i < len → ∃ z : S57, (∃ cs : List Value, cs.length = 3 ∧ k57.K w z cs ∧ ∀ j u, cs[j]? = some u → w.cell? (a.add (i * 3 + j)) = some u) ∧ z.f1.length * 8 ≤ reachBytes ∧ z.f2.length * 8 ≤ reachBytes := by
      intro i hi2
      obtain ⟨cs, h1, h2⟩ := hi i (by omega)
      rw [ce] at h1
      obtain ⟨_, hlen, hcell⟩ := World.cells?_some h1
      obtain ⟨y0, y1, y2, n2, hy, _, g0, g1, g2⟩ := Deep.trod_struct3 Tryd.underlying57 h2
      obtain ⟨v0, v1, v2, rfl⟩ := three_of hlen
      have c3 : Tryd.prog.cellsOf 3 = 1 := by kernel_rfl
      have c22 : Tryd.prog.cellsOf 22 = 1 := by kernel_rfl
      simp [c3, c22] at g0 g1 g2
      obtain ⟨x0, e0, _⟩ := DataW.trod_int Tryd.underlying3 g0
      obtain ⟨A1, c1, z1, e1, l1, k1, s1⟩ := read_ints g1
      obtain ⟨A2, c2, z2, e2, l2, k2, s2⟩ := read_ints g2
      have hD : D i = .agg [y0.1, y1.1, y2.1] := congrArg Prod.fst hy
      have hw : ∀ n, n ∈ (D i).weights Tryd.prog 57 → n ≤ reachBytes := fun n hn => by
        refine hz n ?_
        rw [hx]
        simp only [DataW.weights, Tryd.underlying45, List.mem_cons, List.mem_append]
        exact .inr (.inl (weightsAll_mem hn _ (List.mem_map.2 ⟨i, List.mem_range.2 hi2, rfl⟩)))
      have hwD : ∀ n, n ∈ y1.1.weights Tryd.prog 22 ∨ n ∈ y2.1.weights Tryd.prog 22 → n ≤ reachBytes := fun n hn => by
        refine hw n ?_
        rw [hD]
        simp only [DataW.weights, Tryd.underlying57, DataW.weightsEach, List.mem_append, Array.toList, List.map_cons, List.map_nil]
        rcases hn with hn | hn
        · exact .inr (.inl hn)
        · exact .inr (.inr (.inl hn))
      simp only [List.cons.injEq, and_true] at e0
      subst e0
      subst e1
      subst e2
      refine ⟨⟨x0, z1, z2⟩, ⟨_, rfl, k57_mk w ⟨x0, z1, z2⟩ l1 k1 l2 k2, fun j u hu => ?_⟩, ?_, ?_⟩
      · have hj : j < 3 := (List.getElem?_eq_some_iff.1 hu).1
        have := hcell j hj
        rw [Deep.add_add] at this
        rw [this]
        exact hu
      · rcases s1 with s1 | ⟨n, hn, hb⟩
        · exact s1
        · exact absurd (hwD n (.inl hn)) hb
      · rcases s2 with s2 | ⟨n, hn, hb⟩
        · exact s2
        · exact absurd (hwD n (.inr hn)) hb
    have : Inhabited S57 := ⟨z57⟩
    obtain ⟨f, hf⟩ := Deep.choose_lt each
    refine ⟨(List.range len).map f, by simp, hl, ⟨by simp, by unfold maxLen at hm; omega, fun _ => ⟨a, rfl, fun j p hj => ?_⟩⟩, ?_⟩
    · have hj2 : j < len := by have := (List.getElem?_eq_some_iff.1 hj).1; simpa using this
      obtain rfl : f j = p := by simpa [hj2] using hj
      exact (hf j hj2).1
    · intro z hz
      obtain ⟨i, hi, rfl⟩ := List.mem_map.1 hz
      exact (hf i (List.mem_range.1 hi)).2
end
end Go.Proofs.YtjcgjchdelipcaaDoor.R
