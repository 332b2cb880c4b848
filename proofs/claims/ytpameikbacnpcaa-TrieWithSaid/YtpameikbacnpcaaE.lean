/- Operations met one by one, the world behind each under a name of its own. No program's text. -/
import Derived.Below
import Derived.WalkKit
import Derived.Deep.AppendLies
import Derived.Laws.Tables
import Derived.Laws.Rows
import Derived.Deep.WholeRow
import Derived.OwnWalk
import Derived.Great.BuildSlice
namespace Go.Proofs.Ytpameikbacnpcaa.E
open Go Go.RowKit
set_option linter.unusedVariables false
/-- The walk stands still here. -/
def Halt (p : Prop) : Prop := p
theorem halt {p : Prop} (h : Halt p) : p := h
theorem Halt.go {p : Prop} (h : p) : Halt p := h
theorem fold_set : ∀ (l : List Value) (k : Nat) (b : Array Value), k + l.length ≤ b.size → ((l.zipIdx k).foldl (fun (cs : Array Value) (x : Value × Nat) => cs.setIfInBounds x.2 x.1) b).toList = b.toList.take k ++ l ++ b.toList.drop (k + l.length)
  | [], k, b, h => by simp
  | c :: l, k, b, h => by
    simp only [List.length_cons] at h
    rw [List.zipIdx_cons, List.foldl_cons, fold_set l (k + 1) _ (by simp; omega)]
    simp only [Array.toList_setIfInBounds, List.length_cons]
    rw [List.take_set, List.drop_set_of_lt (by omega)]
    have hk : k < b.toList.length := by simp; omega
    rw [List.take_succ_eq_append_getElem hk, List.set_append_right _ _ (by simp; omega)]
    simp only [List.length_take, Nat.min_eq_left (Nat.le_of_lt hk), Nat.sub_self, List.set_cons_zero, List.append_assoc, List.cons_append, List.nil_append]
    rw [show k + 1 + l.length = k + (l.length + 1) by omega]
theorem fill_one (n : Nat) (b : Array Value) (v : Value) (h1 : v.cells.size = n) (h2 : b.size = n) : Instr.fill (fun i => some (i * n, n)) b [(0, v)] = some v.cells := by
  simp only [Instr.fill, Nat.zero_mul, Nat.zero_add]
  rw [if_neg (by simp [h1, h2])]
  congr 1
  apply Array.toList_inj.1
  have h := fold_set v.cells.toList 0 b (by simp; omega)
  rw [← Array.foldl_toList, Array.toList_zipIdx]
  refine h.trans ?_
  simp
  omega
section
variable {P : Program} {w : World} {ops : Array Oper} {rest : List Oper} {o : Oper} {a : Act} {Q : Exit → Act → World → Prop}
theorem gate (N : Tmp) (_h : o.dst = some N) (h : wpList P ops Q (o :: rest) a w) : wpList P ops Q (o :: rest) a w := h
theorem gateS (t : TypeId) (p : Tmp) (v : Operand) (_h : o.op = .store t (.tmp p) v) (h : wpList P ops Q (o :: rest) a w) : wpList P ops Q (o :: rest) a w := h

theorem grown_alloc (w : World) (o : Obj) : w.grownBy (w.alloc o) none := World.grownBy_alloc w o none
theorem grown_setCell (w : World) (p : Addr) (v : Value) : w.grownBy (w.setCell p v) (some p.block) :=
  ⟨rfl, rfl, rfl, Nat.le_of_eq (World.size_setCell w p v).symm, fun i _ hi => Below.heap_setCell w p v i (fun e => hi (by rw [e]))⟩
theorem grown_setRow (w : World) (g : Nat) (cs : Array Value) : w.grownBy (w.setRow g cs) (some g) :=
  ⟨rfl, rfl, rfl, by simp [World.setRow], fun i _ hi => by
    simp only [World.setRow]
    rw [Array.getElem?_modify, if_neg (fun e => hi (by rw [e]))]⟩
theorem grown_trans {w1 w2 : World} {row : Option Nat} (h : w.grownBy w1 none) (k : w1.grownBy w2 row) : w.grownBy w2 row :=
  ⟨k.os.trans h.os, k.tape.trans h.tape, k.output.trans h.output, Nat.le_trans h.size k.size, fun i hi hr => (k.block i (Nat.lt_of_lt_of_le hi h.size) hr).trans (h.block i hi (by simp))⟩
theorem setRow_at {g : Nat} {old cs : Array Value} {t : TypeId} (h : w.heap[g]? = some (.cells old t (0, 0))) : (w.setRow g cs).heap[g]? = some (.cells cs t (0, 0)) := by
  simp [World.setRow, Array.getElem?_modify, h]
theorem setCell_at {g : Nat} {cs : Array Value} {t : TypeId} (h : w.heap[g]? = some (.cells cs t (0, 0))) (i : Nat) (u : Value) : (w.setCell ⟨g, i, none⟩ u).heap[g]? = some (.cells (cs.setIfInBounds i u) t (0, 0)) := by
  simp [World.setCell, Array.getElem?_modify, h]
theorem blk_cell {g : Nat} {t : TypeId} {cs : Array Value} (h : w.heap[g]? = some (.cells cs t (0, 0))) (i : Nat) : w.cell? ⟨g, i, none⟩ = cs[i]? := cell_of_row w g i cs t (0, 0) h
theorem blk_frozen {g : Nat} {t : TypeId} {cs : Array Value} (h : w.heap[g]? = some (.cells cs t (0, 0))) (i : Nat) : w.frozen? ⟨g, i, none⟩ = false := by simp [World.frozen?, h]
theorem blk_lt {g : Nat} {ob : Obj} (h : w.heap[g]? = some ob) : g < w.heap.size := (Array.getElem?_eq_some_iff.1 h).1

/-- 'var x T'. -/
theorem ev_alloc (hg : o.guard = none) (t : TypeId) (hop : o.op = .alloc t) {z : Value} (hz : (zeroValue t).run P w = .ok z w)
    (h : ∀ g w1, g = w.heap.size → w1.heap[g]? = some (.cells z.cells t (0, 0)) → w.grownBy w1 none → w1.heap.size = w.heap.size + 1 → wpList P ops Q rest (a.put o.dst (.pointer (some ⟨g, 0, none⟩))) w1) : wpList P ops Q (o :: rest) a w := by
  refine wpList_plain hg fun K' hK' => ?_
  unfold Oper.wp
  simp [execOp, hop, hz, Result.andThen, Instr.alloc, newVar]
  exact hK' _ _ (h _ _ rfl (heap_alloc_new _ _) (grown_alloc _ _) (World.size_alloc _ _))
/-- 'x = v', a whole array or struct. -/
theorem ev_store_row (hg : o.guard = none) (ty : TypeId) (x y : Operand) (ho : o.op = .store ty x y) (g : Nat) (cells : Array Value) (hx : a.eval x = .pointer (some ⟨g, 0, none⟩)) (hy : a.eval y = .agg cells)
    (t : TypeId) (old : Array Value) (hg2 : w.heap[g]? = some (.cells old t (0, 0))) (hi : (P.info? ty).map (·.size) = some cells.size) (hold : old.size = cells.size) (h1 : cells.all (·.oneCell') = true)
    (h : ∀ w1, w1.heap[g]? = some (.cells cells t (0, 0)) → w.grownBy w1 (some g) → w1.heap.size = w.heap.size → wpList P ops Q rest (a.put o.dst undef) w1) : wpList P ops Q (o :: rest) a w :=
  wpList_store_row hg ty x y ho g cells hx hy t old hg2 hi hold h1 (h _ (setRow_at hg2) (grown_setRow _ _ _) (by simp [World.setRow]))
/-- '[]T{v}', v of whatever many cells. -/
theorem ev_one (hg : o.guard = none) (t e : TypeId) (x : Operand) (ho : o.op = .buildSlice t 1 #[(0, x)]) (n : Nat) (z v : Value) (bytes : Nat) (hu : P.underlying t = some (.slice e)) (hinfo : (P.info? e).map (fun i => (i.zero, i.size, i.bytes)) = some (some z, n, bytes)) (hz : z.cells.size = n) (hn : 0 < n) (hn2 : n ≤ 1000)
    (hx : a.eval x = v) (hv : v.cells.size = n)
    (h : ∀ g w1, g = w.heap.size → w1.heap[g]? = some (.cells v.cells e (0, 0)) → w.grownBy w1 none → w1.heap.size = w.heap.size + 1 → wpList P ops Q rest (a.put o.dst (.slice (some ⟨g, 0, none⟩) 1 1)) w1) : wpList P ops Q (o :: rest) a w := by
  obtain ⟨i, hi, h1, h2, h3⟩ := info_parts hinfo
  refine wpList_buildSlice hg t e 1 _ ho v.cells i z hu hi h1 (by rw [h2]; omega) (by rw [h2]; omega) ?_ (h _ _ rfl (heap_alloc_new _ _) (grown_alloc _ _) (World.size_alloc _ _))
  rw [h2]
  simp only [List.map_toArray, List.map_cons, List.map_nil, hx]
  exact fill_one n _ v hv (by simp)
/-- 'T{}'. -/
theorem ev_zero (hg : o.guard = none) (t : TypeId) (ho : o.op = .build t #[]) (cs : Array Value) (hb : P.built t [] = some cs) (h : wpList P ops Q rest (a.put o.dst (.agg cs)) w) : wpList P ops Q (o :: rest) a w := by
  have e : P.built t ((#[] : Array (Nat × Operand)).map fun (i, x) => (i, a.eval x)).toList = some cs := by simpa using hb
  refine wpList_build hg t #[] ho (by rw [e]; rfl) ?_
  rw [e]
  exact h
/-- '[]T{v}' at a step of a region that draws its order. -/
theorem st_one {E : Prop} {K : Act → World → Prop} {ops : Array Oper} (hg : o.guard = none) {N : Option Tmp} (hN : o.dst = N) (t e : TypeId) (x : Operand) (ho : o.op = .buildSlice t 1 #[(0, x)]) (n : Nat) (z v : Value) (bytes : Nat) (hu : P.underlying t = some (.slice e)) (hinfo : (P.info? e).map (fun i => (i.zero, i.size, i.bytes)) = some (some z, n, bytes)) (hz : z.cells.size = n) (hn : 0 < n) (hn2 : n ≤ 1000)
    (hx : a.eval x = v) (hv : v.cells.size = n)
    (h : ∀ g w1, g = w.heap.size → w1.heap[g]? = some (.cells v.cells e (0, 0)) → w.grownBy w1 none → w1.heap.size = w.heap.size + 1 → K (a.put N (.slice (some ⟨g, 0, none⟩) 1 1)) w1) : if Region.wanted o (yielded ops a.tmps) = true then Oper.wp P o a w K Q else E := by
  have hw : Region.wanted o (yielded ops a.tmps) = true := by simp [Region.wanted, hg]
  rw [if_pos hw]
  subst hN
  obtain ⟨i, hi, h1, h2, h3⟩ := info_parts hinfo
  refine wp_buildSlice t e 1 _ ho v.cells i z hu hi h1 (by rw [h2]; omega) (by rw [h2]; omega) ?_ (h _ _ rfl (heap_alloc_new _ _) (grown_alloc _ _) (World.size_alloc _ _))
  rw [h2]
  simp only [List.map_toArray, List.map_cons, List.map_nil, hx]
  exact fill_one n _ v hv (by simp)
/-- A whole array read at whatever address its cells stand. -/
theorem run_loadVar_at (w : World) (ad : Addr) (ty : TypeId) (cs : List Value) (d : TypeDesc) (hc : ∀ j v, cs[j]? = some v → w.cell? (ad.add j) = some v)
    (hu : P.underlying ty = some d) (hd : (match d with | .struct _ | .array _ _ => true | _ => false) = true) (hi : (P.info? ty).map (·.size) = some cs.length) :
    (loadVar ty ad).run P w = .ok (.agg cs.toArray) w := by
  have hl : (loadCells ad cs.length).run P w = .ok cs.toArray w := run_loadCells_list (P := P) w ad cs hc
  cases hq : P.info? ty with
  | none => simp [hq] at hi
  | some i =>
    have hs : i.size = cs.length := by simpa [hq] using hi
    have hagg : (isAgg ty).run P w = .ok true w := by
      unfold isAgg
      rw [Sem.run_bind, run_underlying hu w]
      cases d <;> simp_all
    simp [loadVar, Sem.run_bind, hagg, sizeOf, typeInfo, hq, hs, hl]
theorem run_load_at {o : Oper} {a : Act} {w : World} (ty : TypeId) (x : Operand) (ho : o.op = .load ty x) (ad : Addr) (hx : a.eval x = .pointer (some ad)) (cs : List Value) (d : TypeDesc) (hc : ∀ j v, cs[j]? = some v → w.cell? (ad.add j) = some v)
    (hu : P.underlying ty = some d) (hd : (match d with | .struct _ | .array _ _ => true | _ => false) = true) (hi : (P.info? ty).map (·.size) = some cs.length) :
    (execOp a.eval o).run P w = .ok (.value (.agg cs.toArray)) w := by
  unfold execOp
  simp only [ho, hx, Instr.loadAt, Instr.sureAddr, Sem.run_bind, Sem.run_pure, Result.andThen_ok, run_loadVar_at w ad ty cs d hc hu hd hi]
end
end Go.Proofs.Ytpameikbacnpcaa.E
