/- The trie, sixth part: the closure of With, and the search and the deletion by it. -/
import Derived.Test.YtpameikbacnpcaaTR
import Derived.Lib.SliceRun
namespace Go.Proofs.Ytpameikbacnpcaa.T
open Go Go.RowKit Go.Maps Go.Proofs.Ytpameikbacnpcaa.M
set_option linter.unusedVariables false

theorem w1_calls (c v cc : Int) (bc : Nat) (w : World) (hc : w.cell? ⟨bc, 0, none⟩ = some (.int .i64 cc)) (b : Bool) (hb : (c == cc) = b) :
    Calls Try.prog 23 (#[.agg #[.int .i64 c, .int .i64 v]] ++ #[.pointer (some ⟨bc, 0, none⟩)]) w fun e w' => e = .returned (.bool b) ∧ w' = w.alloc (.cells #[.int .i64 c, .int .i64 v] 29) := by
  have hlt := World.block_lt_of_cell? w _ hc
  have hne : bc ≠ w.heap.size := Nat.ne_of_lt hlt
  go_enter Try.func23, Try.ntmps23
  go_wp2
  go_ret
  exact ⟨rfl, rfl⟩
set_option maxHeartbeats 1600000 in
theorem idx_w1 (A : Option Addr) (c0 bc : Nat) (cc : Int) (l : List (Int × Int)) (w : World) (hA : PRow w A l) (hl : l.length ≤ 1000000) (hc : w.cell? ⟨bc, 0, none⟩ = some (.int .i64 cc)) :
    Calls Try.prog 24 #[.slice A l.length c0, .func (.func 23) #[] #[.pointer (some ⟨bc, 0, none⟩)]] w fun e w' => e = .returned (.int .i64 (idxFrom (fun p => p.1 == cc) l 0)) ∧ Below w.heap.size w w' := by
  have HA := Lib.hid hA
  have HC := Lib.hid hc
  have HB0 := Lib.hid (Below.refl w.heap.size w)
  clear hA hc
  go_enter Try.func24, Try.ntmps24
  go_wp2
  go_loopw [8] (fun v8 w' => ∃ i : Nat, i ≤ l.length ∧ v8 = .int .i64 i ∧ Hid (idxFrom (fun p => p.1 == cc) (l.drop i) i = idxFrom (fun p => p.1 == cc) l 0) ∧ Hid (Below w.heap.size w w')) (fun v8 _ => l.length - (intOf v8).toNat)
  case atStart => exact ⟨0, Nat.zero_le _, rfl, Lib.hid rfl, HB0⟩
  case round =>
    clear HB0
    obtain ⟨i, hi, rfl, HE, HB⟩ := hrel
    by_cases hlt : i < l.length
    · obtain ⟨ad, ea, hx0, hx1⟩ := (HA.out.below HB.out) i hlt
      subst ea
      have hE := HE.out
      rw [List.drop_eq_getElem_cons hlt, idxFrom] at hE
      have hg : l[i] = l.getD i (0, 0) := by simp [List.getD_eq_getElem?_getD, List.getElem?_eq_getElem hlt]
      rw [hg] at hE
      obtain ⟨c, hc⟩ : ∃ c, c = (l.getD i (0, 0)).1 := ⟨_, rfl⟩
      obtain ⟨v, hv⟩ : ∃ v, v = (l.getD i (0, 0)).2 := ⟨_, rfl⟩
      have hcv : l.getD i (0, 0) = (c, v) := by rw [hc, hv]
      rw [hcv] at hE hx0 hx1
      have hcw : wr.cell? ⟨bc, 0, none⟩ = some (.int .i64 cc) := (HB.out.cell (World.block_lt_of_cell? w _ HC.out)).trans HC.out
      have HCW := Lib.hid hcw
      clear hc hv hcv hg HE hcw
      cases hk : (c == cc) with
      | false =>
        rw [if_neg (by simp [hk])] at hE
        have HE := Lib.hid hE
        have HKK := Lib.hid hk
        have HB1 := HB
        clear hE HB hk
        go_wp2_with fail
        refine (w1_calls c v cc bc _ HCW.out false HKK.out).mono ?_
        rintro e w' ⟨rfl, rfl⟩
        go_wp2
        go_roundw
        case rel => exact ⟨i + 1, by omega, by go_num, by simpa using HE, Lib.hid (HB1.out.alloc HB1.out.size _)⟩
        case measure => simp [intOf]; omega
      | true =>
        rw [if_pos (by simp [hk])] at hE
        have HE := Lib.hid hE
        have HKK := Lib.hid hk
        have HB1 := HB
        clear hE HB hk
        go_wp2_with fail
        refine (w1_calls c v cc bc _ HCW.out true HKK.out).mono ?_
        rintro e w' ⟨rfl, rfl⟩
        go_wp2
        go_ret
        exact ⟨by rw [← HE.out]; rfl, HB1.out.alloc HB1.out.size _⟩
    · have hE := HE.out
      rw [List.drop_of_length_le (by omega)] at hE
      have HE := Lib.hid hE
      clear hE
      go_wp2
      go_ret
      exact ⟨by rw [← HE.out]; rfl, HB.out⟩

/-- A row of pairs at the head of block g. -/
def Cs (w : World) (g : Nat) (M : List (Int × Int)) : Prop := ∀ i, i < M.length → w.cell? ⟨g, i * 2, none⟩ = some (.int .i64 (M.getD i (0, 0)).1) ∧ w.cell? ⟨g, i * 2 + 1, none⟩ = some (.int .i64 (M.getD i (0, 0)).2)
def Fz (w : World) (g : Nat) : Prop := ∀ j, w.frozen? ⟨g, j, none⟩ = false
theorem Cs.prow {w : World} {g : Nat} {M : List (Int × Int)} (h : Cs w g M) : PRow w (some ⟨g, 0, none⟩) M := fun i hi => by
  refine ⟨⟨g, 0, none⟩, rfl, ?_⟩
  rw [add_one2]
  have ea : ∀ j, (⟨g, 0, none⟩ : Addr).add j = ⟨g, j, none⟩ := fun j => by unfold Addr.add; split <;> simp_all
  rw [ea, ea]
  exact h i hi
theorem Cs.kept {w w' : World} {g : Nat} {M : List (Int × Int)} (h : Cs w g M) {row : Option Nat} (hg : w.grownBy w' row) (hne : some g ≠ row) : Cs w' g M := fun i hi =>
  ⟨(World.cell?_of_block (hg.block g (World.block_lt_of_cell? w _ (h i hi).1) hne)).trans (h i hi).1, (World.cell?_of_block (hg.block g (World.block_lt_of_cell? w _ (h i hi).1) hne)).trans (h i hi).2⟩
theorem Fz.kept {w w' : World} {g : Nat} (h : Fz w g) {row : Option Nat} (hg : w.grownBy w' row) (hlt : g < w.heap.size) (hne : some g ≠ row) : Fz w' g := fun j => by
  have := h j
  unfold World.frozen? at this ⊢
  rw [show w'.heap[g]? = w.heap[g]? from hg.block g hlt hne]
  exact this
def keepP (cc : Int) (l : List (Int × Int)) : List (Int × Int) := l.filter fun p => p.1 != cc
theorem Cs.set {w : World} {g : Nat} {M : List (Int × Int)} (h : Cs w g M) (i : Nat) (hi : i < M.length) (c v : Int) : Cs ((w.setCell ⟨g, i * 2, none⟩ (.int .i64 c)).setCell ⟨g, i * 2 + 1, none⟩ (.int .i64 v)) g (M.set i (c, v)) := fun k hk => by
  have hk : k < M.length := by simpa using hk
  obtain ⟨h1, h2⟩ := h k hk
  obtain ⟨h3, h4⟩ := h i hi
  by_cases e : k = i
  · subst e
    have e1 : (M.set k (c, v)).getD k (0, 0) = (c, v) := by rw [List.getD_eq_getElem?_getD, List.getElem?_set_self hi]; rfl
    rw [e1]
    refine ⟨?_, World.cell?_setCell_same' _ _ _ ?_⟩
    · rw [World.cell?_setCell_other _ _ _ _ (by simp)]
      exact World.cell?_setCell_same' _ _ _ (by rw [h1]; rfl)
    · rw [World.cell?_setCell_other _ _ _ _ (by simp), h2]; rfl
  · have e1 : (M.set i (c, v)).getD k (0, 0) = M.getD k (0, 0) := by simp [List.getD_eq_getElem?_getD, List.getElem?_set_ne (Ne.symm e)]
    rw [e1]
    refine ⟨?_, ?_⟩
    · rw [World.cell?_setCell_other _ _ _ _ (by simp <;> omega), World.cell?_setCell_other _ _ _ _ (by simp <;> omega)]; exact h1
    · rw [World.cell?_setCell_other _ _ _ _ (by simp <;> omega), World.cell?_setCell_other _ _ _ _ (by simp <;> omega)]; exact h2
theorem Fz.set {w : World} {g : Nat} (h : Fz w g) (p : Addr) (v : Value) : Fz (w.setCell p v) g := fun j => by rw [World.frozen?_setCell]; exact h j
theorem some_set {w : World} {a p : Addr} {v : Value} (h : (w.cell? a).isSome = true) : ((w.setCell p v).cell? a).isSome = true := by
  obtain ⟨u, hu⟩ := Option.isSome_iff_exists.1 h
  obtain ⟨u', hu'⟩ := cell?_setCell_some (w := w) (p := p) (x := v) (q := a) (v := u) hu
  rw [hu']; rfl
theorem keepP_take (cc : Int) (l : List (Int × Int)) (j : Nat) (h : j < l.length) : keepP cc (l.take (j + 1)) = if ((l.getD j (0, 0)).1 == cc) = true then keepP cc (l.take j) else keepP cc (l.take j) ++ [l.getD j (0, 0)] := by
  unfold keepP
  rw [List.take_succ_eq_append_getElem h, List.filter_append]
  have e : l[j] = l.getD j (0, 0) := by simp [List.getD_eq_getElem?_getD, List.getElem?_eq_getElem h]
  rw [e]
  by_cases h0 : (l.getD j (0, 0)).1 == cc
  · rw [if_pos h0, List.filter_cons_of_neg (by simp only [bne, h0]; simp)]; simp
  · rw [if_neg h0, List.filter_cons_of_pos (by simp only [bne]; simpa using h0)]; simp

theorem idx_cases (cc : Int) : ∀ (l : List (Int × Int)) (s : Int), 0 ≤ s → (idxFrom (fun p => p.1 == cc) l s = -1 ∧ keepP cc l = l) ∨ ∃ i : Nat, i < l.length ∧ idxFrom (fun p => p.1 == cc) l s = s + i ∧ keepP cc (l.take (i + 1)) = l.take i
  | [], s, _ => .inl ⟨rfl, rfl⟩
  | p :: l, s, hs => by
    rw [idxFrom]
    by_cases h : (p.1 == cc) = true
    · right
      refine ⟨0, by simp, by rw [if_pos h]; simp, ?_⟩
      simp [keepP, bne, h]
    · rw [if_neg h]
      rcases idx_cases cc l (s + 1) (by omega) with ⟨h1, h2⟩ | ⟨i, h1, h2, h3⟩
      · left
        refine ⟨h1, ?_⟩
        unfold keepP at h2 ⊢
        rw [List.filter_cons_of_pos (by simp only [bne]; simpa using h), h2]
      · right
        refine ⟨i + 1, by simp; omega, by rw [h2]; simp; omega, ?_⟩
        unfold keepP at h3 ⊢
        rw [List.take_succ_cons, List.filter_cons_of_pos (by simp only [bne]; simpa using h), h3, List.take_succ_cons]
/-- What the deletion hands back. -/
def DelOut (cc : Int) (l : List (Int × Int)) (g c0 : Nat) (w : World) (e : Ending) (w' : World) : Prop :=
  e = .returned (.slice (some ⟨g, 0, none⟩) (keepP cc l).length c0) ∧ Cs w' g (keepP cc l) ∧ Fz w' g ∧ w.grownBy w' (some g) ∧ (∀ j, (w.cell? ⟨g, j, none⟩).isSome = true → (w'.cell? ⟨g, j, none⟩).isSome = true)
theorem setCells_out (g o : Nat) (vs : List Value) (w : World) (k : Nat) (h : k < o) : (w.setCells g o vs).cell? ⟨g, k, none⟩ = w.cell? ⟨g, k, none⟩ :=
  World.cell?_setCells_out g vs o w ⟨g, k, none⟩ (fun _ _ => .inl h)
theorem setCells_some (g : Nat) : ∀ (vs : List Value) (o : Nat) (w : World) (k : Nat), (w.cell? ⟨g, k, none⟩).isSome = true → ((w.setCells g o vs).cell? ⟨g, k, none⟩).isSome = true
  | [], _, _, _, h => h
  | v :: r, o, w, k, h => setCells_some g r (o + 1) _ k (some_set h)
theorem setCells_grown (g : Nat) : ∀ (vs : List Value) (o : Nat) (w : World), w.grownBy (w.setCells g o vs) (some g)
  | [], _, w => World.grownBy.refl w _
  | v :: r, o, w => (E.grown_setCell w ⟨g, o, none⟩ v).andThen (setCells_grown g r (o + 1) _) (fun k e => by cases e; exact .inr rfl)
theorem zero_pair (w : World) : (zeroValue 29).run Try.prog w = .ok (.agg #[.int .i64 0, .int .i64 0]) w := by
  rfl
theorem clear_pairs (w : World) (ty : TypeId) (g o n c : Nat) (hn : 0 < n) (hc : ∀ j, j < n * 2 → (w.cell? ⟨g, o + j, none⟩).isSome = true) (hf : Fz w g) :
    ∃ zs : List Value, (Builtin.clear_ #[22] ty #[.slice (some ⟨g, o, none⟩) n c]).run Try.prog w = .ok (.tuple #[]) (w.setCells g o zs) := by
  refine ⟨(Builtin.zeroCells (Value.agg #[.int .i64 0, .int .i64 0]).cells n).toList, ?_⟩
  have hl : ((Builtin.zeroCells (Value.agg #[.int .i64 0, .int .i64 0]).cells n).toList).length = n * 2 := by
    have : (Value.agg #[.int .i64 0, .int .i64 0]).cells = #[.int .i64 0, .int .i64 0] := rfl
    rw [this]; simp [Builtin.zeroCells]
  have h1 : ∀ v ∈ (Builtin.zeroCells (Value.agg #[.int .i64 0, .int .i64 0]).cells n).toList, v.oneCell' = true := by
    have : (Value.agg #[.int .i64 0, .int .i64 0]).cells = #[.int .i64 0, .int .i64 0] := rfl
    rw [this]
    intro v hv
    simp [Builtin.zeroCells] at hv
    obtain ⟨a, ha, rfl⟩ := hv
    rcases (show a % 2 = 0 ∨ a % 2 = 1 by omega) with h | h <;> rw [h] <;> rfl
  have hst := run_storeCells_cells (P := Try.prog) g o _ 0 w (fun j hj => by simpa using hc j (by rw [hl] at hj; exact hj)) (fun j _ => hf _) h1
  simp only [Nat.add_zero] at hst
  obtain ⟨m, rfl⟩ : ∃ m, n = m + 1 := ⟨n - 1, by omega⟩
  have ht : Try.prog.underlying 22 = some (.slice 29) := rfl
  simp [Builtin.clear_, run_underlying ht, hst]
set_option maxHeartbeats 4000000 in
theorem del_calls (g c0 bc : Nat) (cc : Int) (l : List (Int × Int)) (w : World) (hA : Cs w g l) (hF : Fz w g) (h0 : 0 < l.length) (hl : l.length ≤ 1000) (hlc : l.length ≤ c0) (hc : w.cell? ⟨bc, 0, none⟩ = some (.int .i64 cc)) (hne : bc ≠ g) :
    Calls Try.prog 22 #[.slice (some ⟨g, 0, none⟩) l.length c0, .func (.func 23) #[] #[.pointer (some ⟨bc, 0, none⟩)]] w (DelOut cc l g c0 w) := by
  have HA := Lib.hid hA
  have HF := Lib.hid hF
  have HC := Lib.hid hc
  have HNE := Lib.hid hne
  have hgl : g < w.heap.size := World.block_lt_of_cell? w _ (hA 0 h0).1
  have HGL := Lib.hid hgl
  clear hA hF hc hne hgl
  rcases idx_cases cc l 0 (Int.le_refl _) with ⟨hx, hk⟩ | ⟨i0, hi0, hx, hk⟩
  · have HX := Lib.hid hx
    have HK := Lib.hid hk
    clear hx hk
    go_enter Try.func22, Try.ntmps22
    go_wp2_with fail
    refine (idx_w1 _ c0 bc cc l _ HA.out.prow (by omega) HC.out).mono ?_
    rintro e w1 ⟨rfl, hb⟩
    rw [HX.out]
    have hg : w.grownBy w1 none := ⟨hb.os, hb.tape, hb.output, hb.size, fun i hi _ => hb.block i hi⟩
    have HG := Lib.hid hg
    clear hb hg
    go_wp2
    go_ret
    refine ⟨by rw [HK.out]; rfl, by rw [HK.out]; exact HA.out.kept HG.out (by simp), HF.out.kept HG.out HGL.out (by simp), HG.out.but _, fun j hj => ?_⟩
    rw [World.cell?_of_block (HG.out.block g HGL.out (by simp))]
    exact hj
  · have HX := Lib.hid hx
    have HK := Lib.hid hk
    clear hx hk
    go_enter Try.func22, Try.ntmps22
    go_wp2_with fail
    refine (idx_w1 _ c0 bc cc l _ HA.out.prow (by omega) HC.out).mono ?_
    rintro e w1 ⟨rfl, hb⟩
    rw [HX.out, Int.zero_add]
    have hg : w.grownBy w1 none := ⟨hb.os, hb.tape, hb.output, hb.size, fun i hi _ => hb.block i hi⟩
    have HG := Lib.hid hg
    clear hb hg
    have hn1 : ((i0 : Int) == -1) = false := beq_eq_false_iff_ne.mpr (by omega)
    have HA1 := Lib.hid (HA.out.kept HG.out (by simp))
    have HF1 := Lib.hid (HF.out.kept HG.out HGL.out (by simp))
    have HG1 := Lib.hid (HG.out.but (some g))
    go_wp2
    go_loopw [6, 5] (fun v6 v5 wq => ∃ (i j : Nat) (M : List (Int × Int)), i < j ∧ j ≤ l.length ∧ v6 = .int .i64 j ∧ v5 = .int .i64 i ∧ Hid (M.length = l.length) ∧ Hid (M.take i = keepP cc (l.take j)) ∧ Hid (M.drop j = l.drop j) ∧ Hid (Cs wq g M) ∧ Hid (Fz wq g) ∧ Hid (w.grownBy wq (some g)) ∧ Hid (∀ k, (w.cell? ⟨g, k, none⟩).isSome = true → (wq.cell? ⟨g, k, none⟩).isSome = true)) (fun v6 _ _ => l.length - (intOf v6).toNat)
    case atStart => exact ⟨i0, i0 + 1, l, by omega, by omega, by first | rfl | go_num, rfl, Lib.hid rfl, Lib.hid HK.out.symm, Lib.hid rfl, HA1, HF1, HG1, Lib.hid (fun k hk => by rw [World.cell?_of_block (HG.out.block g HGL.out (by simp))]; exact hk)⟩
    case round =>
      clear HA1 HF1 HG1 hn1
      obtain ⟨i, j, M, hij, hj, rfl, rfl, HM, HT, HD, HA1, HF1, HG1, HS1⟩ := hrel
      by_cases hlt : j < l.length
      · obtain ⟨c, hcc⟩ : ∃ c, c = (M.getD j (0, 0)).1 := ⟨_, rfl⟩
        obtain ⟨v, hv⟩ : ∃ v, v = (M.getD j (0, 0)).2 := ⟨_, rfl⟩
        have hcv : M.getD j (0, 0) = (c, v) := by rw [hcc, hv]
        obtain ⟨hx0, hx1⟩ := HA1.out j (by rw [HM.out]; exact hlt)
        rw [hcv] at hx0 hx1
        obtain ⟨hi0', hi1'⟩ := HA1.out i (by rw [HM.out]; omega)
        have hf0 := HF1.out (i * 2)
        have hf1 := HF1.out (i * 2 + 1)
        have hcw : wr.cell? ⟨bc, 0, none⟩ = some (.int .i64 cc) := (World.cell?_of_block (HG1.out.block bc (World.block_lt_of_cell? w _ HC.out) (by have := HNE.out; simp; omega))).trans HC.out
        have hgw : g < wr.heap.size := Nat.lt_of_lt_of_le HGL.out HG1.out.size
        have HCW := Lib.hid hcw
        have HGW := Lib.hid hgw
        have HCV := Lib.hid hcv
        clear hcc hv hcv hcw hgw
        have hlj : l.getD j (0, 0) = (c, v) := by
          have h1 := congrArg (fun L => L.head?) HD.out
          rw [← HCV.out]
          simp only [List.head?_drop] at h1
          simp [List.getD_eq_getElem?_getD, h1]
        have hkp := keepP_take cc l j hlt
        rw [hlj] at hkp
        have HKP := Lib.hid hkp
        have hdd : M.drop (j + 1) = l.drop (j + 1) := by
          have h1 := congrArg (List.drop 1) HD.out
          simpa [List.drop_drop, Nat.add_comm] using h1
        have HDD := Lib.hid hdd
        have hca : (wr.alloc (.cells #[.int .i64 c, .int .i64 v] 29)).cell? ⟨bc, 0, none⟩ = some (.int .i64 cc) := (World.cell?_of_block ((E.grown_alloc _ _).block bc (World.block_lt_of_cell? _ _ HCW.out) (by simp))).trans HCW.out
        have HCA := Lib.hid hca
        have hg2 : wr.grownBy ((wr.alloc (.cells #[.int .i64 c, .int .i64 v] 29)).alloc (.cells #[.int .i64 c, .int .i64 v] 29)) none := E.grown_trans (E.grown_alloc _ _) (E.grown_alloc _ _)
        have HG2 := Lib.hid hg2
        clear hlj hkp hdd hca hg2
        cases hk : (c == cc) with
        | true =>
          have HKK := Lib.hid hk
          clear hk
          go_wp2_with fail
          refine (w1_calls c v cc bc _ HCA.out true HKK.out).mono ?_
          rintro e w' ⟨rfl, rfl⟩
          go_wp2
          go_roundw
          case rel => exact ⟨i, j + 1, M, by omega, by omega, by go_num, rfl, HM, Lib.hid (by rw [HKP.out, if_pos HKK.out]; exact HT.out), HDD, Lib.hid (HA1.out.kept HG2.out (by simp)), Lib.hid (HF1.out.kept HG2.out HGW.out (by simp)), Lib.hid (HG1.out.andThen (HG2.out.but (some g)) (fun k e => by cases e; exact .inr rfl)), Lib.hid (fun k h => by rw [World.cell?_of_block (HG2.out.block g HGW.out (by simp))]; exact HS1.out k h)⟩
          case measure => simp [intOf]; omega
        | false =>
          have HKK := Lib.hid hk
          clear hk
          go_wp2_with fail
          refine (w1_calls c v cc bc _ HCA.out false HKK.out).mono ?_
          rintro e w' ⟨rfl, rfl⟩
          obtain ⟨wB, eB⟩ : ∃ q, q = (wr.alloc (.cells #[.int .i64 c, .int .i64 v] 29)).alloc (.cells #[.int .i64 c, .int .i64 v] 29) := ⟨_, rfl⟩
          have HG3 := Lib.hid (show wr.grownBy wB none from eB ▸ HG2.out)
          have hbox : wB.heap[wr.heap.size]? = some (.cells #[.int .i64 c, .int .i64 v] 29 (0, 0)) := by rw [eB]; exact heap_alloc2_old _ _ _
          have hb0 : wB.cell? ⟨wr.heap.size, 0, none⟩ = some (.int .i64 c) := E.blk_cell hbox 0
          have hb1 : wB.cell? ⟨wr.heap.size, 1, none⟩ = some (.int .i64 v) := E.blk_cell hbox 1
          have hk0 : wB.cell? ⟨g, i * 2, none⟩ = some (.int .i64 (M.getD i (0, 0)).1) := (World.cell?_of_block (HG3.out.block g HGW.out (by simp))).trans hi0'
          have hk1 : wB.cell? ⟨g, i * 2 + 1, none⟩ = some (.int .i64 (M.getD i (0, 0)).2) := (World.cell?_of_block (HG3.out.block g HGW.out (by simp))).trans hi1'
          have HFB := Lib.hid (HF1.out.kept HG3.out HGW.out (by simp))
          have hq0 : wB.frozen? ⟨g, i * 2, none⟩ = false := HFB.out _
          have hq1 : wB.frozen? ⟨g, i * 2 + 1, none⟩ = false := HFB.out _
          have HAB := Lib.hid (HA1.out.kept HG3.out (by simp))
          have HSB := Lib.hid (show ∀ k, (w.cell? ⟨g, k, none⟩).isSome = true → (wB.cell? ⟨g, k, none⟩).isSome = true from fun k h => by rw [World.cell?_of_block (HG3.out.block g HGW.out (by simp))]; exact HS1.out k h)
          rw [← eB]
          clear eB hbox hf0 hf1 hi0' hi1' hx0 hx1 HA1 HF1 HS1
          have hil : i < l.length := by omega
          go_wp2
          go_roundw
          case rel =>
            have hML := HM.out
            refine ⟨i + 1, j + 1, M.set i (c, v), by omega, by omega, by go_num, by go_num, Lib.hid (by simp [hML]), Lib.hid ?_, Lib.hid ?_, Lib.hid (HAB.out.set i (by omega) c v), Lib.hid ((HFB.out.set _ _).set _ _), Lib.hid ?_, Lib.hid (fun k h => some_set (some_set (HSB.out k h)))⟩
            · rw [HKP.out, if_neg (by rw [HKK.out]; simp), ← HT.out]
              rw [List.take_succ_eq_append_getElem (by simp; omega), List.take_set_of_le (Nat.le_refl _)]
              simp [List.getD_eq_getElem?_getD] at *
              first | done | (have := HCV.out; simp_all)
            · rw [List.drop_set_of_lt (by omega)]; exact HDD.out
            · exact (HG1.out.andThen (HG3.out.but (some g)) (fun k e => by cases e; exact .inr rfl)).andThen ((World.grownBy.refl wB (some g)).andThen (E.grown_setCell wB ⟨g, i * 2, none⟩ _) (fun k e => by cases e; exact .inr rfl) |>.andThen (E.grown_setCell _ ⟨g, i * 2 + 1, none⟩ _) (fun k e => by cases e; exact .inr rfl)) (fun k e => by cases e; exact .inr rfl)
          case measure => simp [intOf]; omega
      · have hjl : j = l.length := by omega
        subst hjl
        have hki : (keepP cc l).length = i := by
          have := congrArg List.length HT.out
          simp [HM.out] at this
          omega
        have HKI := Lib.hid hki
        obtain ⟨zs, hcl⟩ := clear_pairs wr 0 g (i * 2) (l.length - i) (c0 - i) (by omega) (fun t ht => by
          rcases (show ∃ k, k < l.length ∧ (i * 2 + t = k * 2 ∨ i * 2 + t = k * 2 + 1) from ⟨(i * 2 + t) / 2, by omega, by omega⟩) with ⟨k, hk, e | e⟩
          · rw [e, (HA1.out k (by rw [HM.out]; exact hk)).1]; rfl
          · rw [e, (HA1.out k (by rw [HM.out]; exact hk)).2]; rfl) HF1.out
        clear hki
        go_wp2
        go_ret
        refine ⟨by rw [HKI.out]; rfl, ?_, ?_, ?_, ?_⟩
        · intro k hk
          rw [HKI.out] at hk
          have hg : (keepP cc l).getD k (0, 0) = M.getD k (0, 0) := by
            have h1 := HT.out
            rw [List.take_length] at h1
            rw [← h1, List.getD_eq_getElem?_getD, List.getElem?_take_of_lt hk, List.getD_eq_getElem?_getD]
          rw [hg, setCells_out _ _ _ _ _ (by omega), setCells_out _ _ _ _ _ (by omega)]
          exact HA1.out k (by rw [HM.out]; omega)
        · intro k
          rw [World.frozen?_setCells]
          exact HF1.out k
        · exact HG1.out.andThen (setCells_grown _ _ _ _) (fun k e => by cases e; exact .inr rfl)
        · exact fun k h => setCells_some _ _ _ _ _ (HS1.out k h)
end Go.Proofs.Ytpameikbacnpcaa.T
