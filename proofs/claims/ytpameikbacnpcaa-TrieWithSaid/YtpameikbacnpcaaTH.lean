/- The trie, fifth part: Pairs. -/
import Derived.Test.YtpameikbacnpcaaTT
namespace Go.Proofs.Ytpameikbacnpcaa.T
open Go Go.RowKit Go.Maps Go.Proofs.Ytpameikbacnpcaa.M Go.Proofs.YtpameikbacnpcaaW.PrintLast
set_option linter.unusedVariables false

theorem clip_calls (A : Option Addr) (n c : Nat) (w : World) (hn : n ≤ c) : Calls Try.prog 21 #[.slice A n c] w fun e w' => e = .returned (.slice A n n) ∧ w = w' := by
  go_enter Try.func21, Try.ntmps21
  go_wp2
  go_ret
  exact ⟨rfl, rfl⟩
/-- The cells of pairs, one behind the other. -/
def cellsP (l : List (Int × Int)) : List Value := (l.map fun p => [Value.int .i64 p.1, Value.int .i64 p.2]).flatten
theorem cellsP_snoc (l : List (Int × Int)) (p : Int × Int) : cellsP (l ++ [p]) = cellsP l ++ [Value.int .i64 p.1, Value.int .i64 p.2] := by simp [cellsP]
theorem cellsP_length (l : List (Int × Int)) : (cellsP l).length = l.length * 2 := by
  induction l with
  | nil => rfl
  | cons p l ih => simp only [cellsP, List.map_cons, List.flatten_cons, List.length_append, List.length_cons] at ih ⊢; rw [ih]; simp; omega
theorem cellsP_at : ∀ (l : List (Int × Int)) (i : Nat), i < l.length → (cellsP l)[i * 2]? = some (.int .i64 (l.getD i (0, 0)).1) ∧ (cellsP l)[i * 2 + 1]? = some (.int .i64 (l.getD i (0, 0)).2)
  | [], i, h => by simp at h
  | p :: l, 0, _ => by simp [cellsP]
  | p :: l, i + 1, h => by
    have ih := cellsP_at l i (by simpa using h)
    have e : cellsP (p :: l) = .int .i64 p.1 :: .int .i64 p.2 :: cellsP l := by simp [cellsP]
    rw [e, show (i + 1) * 2 = i * 2 + 1 + 1 by omega]
    exact ⟨ih.1, ih.2⟩
theorem infoP : (Try.prog.info? 29).map (fun i => (i.zero, i.size, i.bytes)) = some (some (.agg #[.int .i64 0, .int .i64 0]), 2, 16) := by kernel_rfl
theorem row_pairs {w : World} {base : Nat} {v : Value} {l : List (Int × Int)} (h : w.ownsRow base 29 2 v l.length (cellsP l)) :
    ∃ (A : Option Addr) (c : Nat), v = .slice A l.length c ∧ l.length ≤ c ∧ PRow w A l ∧ ∀ a, A = some a → base ≤ a.block ∧ a.block < w.heap.size := by
  rcases h.2 with ⟨e, h0⟩ | ⟨g, cap, cur, e, hb, hg, hn, hm, hs, ht⟩
  · exact ⟨none, 0, by rw [e, h0], by omega, fun i hi => by omega, fun a e => by cases e⟩
  · refine ⟨some ⟨g, 0, none⟩, cap, e, hn, fun i hi => ⟨⟨g, 0, none⟩, rfl, ?_⟩, fun a e => by cases e; exact ⟨hb, E.blk_lt hg⟩⟩
    obtain ⟨h1, h2⟩ := cellsP_at l i hi
    rw [← ht, List.getElem?_take_of_lt (by omega)] at h1 h2
    rw [add_one2]
    have ea : ∀ j, (⟨g, 0, none⟩ : Addr).add j = ⟨g, j, none⟩ := fun j => by unfold Addr.add; split <;> simp_all
    rw [ea, ea, E.blk_cell hg, E.blk_cell hg]
    exact ⟨by rw [← Array.getElem?_toList]; exact h1, by rw [← Array.getElem?_toList]; exact h2⟩

/-- The pairs of one block, and of blocks. -/
def blkP (l : List (Int × Int)) (i : Int) (n : Nat) : List (Int × Int) := (List.range n).filterMap fun (k : Nat) => if findP l (64 * i + (k : Int)) = 0 then none else some (64 * i + (k : Int), findP l (64 * i + (k : Int)))
def prsP (l : List (Int × Int)) (ks : List Int) : List (Int × Int) := (ks.map fun i => blkP l i 64).flatten
theorem blkP_succ (l : List (Int × Int)) (i : Int) (n : Nat) : blkP l i (n + 1) = if findP l (64 * i + (n : Int)) = 0 then blkP l i n else blkP l i n ++ [(64 * i + (n : Int), findP l (64 * i + (n : Int)))] := by
  unfold blkP
  rw [List.range_succ, List.filterMap_append]
  by_cases h : findP l (64 * i + (n : Int)) = 0 <;> simp [h]
theorem blkP_len (l : List (Int × Int)) (i : Int) : ∀ n, (blkP l i n).length ≤ n
  | 0 => Nat.le_refl _
  | n + 1 => by have := blkP_len l i n; rw [blkP_succ]; split <;> simp <;> omega
theorem prsP_take (l : List (Int × Int)) (ks : List Int) (k : Nat) (h : k < ks.length) : prsP l (ks.take (k + 1)) = prsP l (ks.take k) ++ blkP l (ks.getD k 0) 64 := by
  unfold prsP
  rw [List.take_succ_eq_append_getElem h, List.map_append, List.flatten_append]
  simp [List.getD_eq_getElem?_getD, List.getElem?_eq_getElem h]
theorem prsP_len (l : List (Int × Int)) : ∀ ks : List Int, (prsP l ks).length ≤ ks.length * 64
  | [] => by simp [prsP]
  | k :: ks => by
    have := prsP_len l ks
    have h2 := blkP_len l k 64
    have e : prsP l (k :: ks) = blkP l k 64 ++ prsP l ks := by simp [prsP]
    rw [e, List.length_append, List.length_cons]
    omega
theorem idx_blk (b : List Int) (hb : b.length = 64) (m : Nat) (hm : m < 64) (v : Int) (hv : b.getD m 0 = v) (W : World) : (Instr.index 44 (.agg (b.map (Value.int .i32)).toArray) (.int .i64 (m : Int))).run Try.prog W = .ok (.int .i32 v) W := by
  have h1 : (b.map (Value.int .i32)).toArray[m]? = some (.int .i32 v) := by
    have h2 : m < b.length := by omega
    rw [← hv, List.getD_eq_getElem?_getD, List.getElem?_eq_getElem h2]
    simp [List.getElem?_eq_getElem h2]
  have hb2 : (0 : Int) ≤ (m : Int) ∧ (m : Int) < ((64 : Nat) : Int) := by omega
  simp [Instr.index, asIntOf, run_underlying Try.underlying44, hb2, part, Result.andThen]
  have h3 : Option.map (Value.int IntKind.i32) b[m]? = some (.int .i32 v) := by simpa using h1
  rw [if_pos hm, h3]
  rfl
/-- What Pairs hands back. -/
def PairsOut (l : List (Int × Int)) (w : World) (e : Ending) (w' : World) : Prop :=
  ∃ (A : Option Addr) (ks : List Int) (c : Nat), e = .returned (.slice A (prsP l ks).length (prsP l ks).length) ∧ ks.Pairwise (· < ·) ∧ (∀ x, x ∈ ks ↔ (own l x).isSome = true) ∧ w'.ownsRow w.heap.size 29 2 (.slice A (prsP l ks).length c) (prsP l ks).length (cellsP (prsP l ks)) ∧ Below w.heap.size w w'

set_option maxHeartbeats 4000000 in
set_option maxRecDepth 100000 in
theorem pairs_calls (g : Nat) (l : List (Int × Int)) (ks0 : List Int) (w : World) (ht : IsTrie w g (triOf l ks0)) (hd : (l.map Prod.fst).Nodup) (hok : l.any (fun p => !okP p) = false) (hk : ∀ x, x ∈ ks0 ↔ (own l x).isSome = true) :
    Calls Try.prog 13 #[.pointer (some ⟨g, 0, none⟩)] w (PairsOut l w) := by
  obtain ⟨ga, cap, ha, n, hg, hr, hf, hn, hb, hl⟩ := ht
  have hc0 : w.cell? ⟨g, 0, none⟩ = some (.slice (some ⟨ga, 0, none⟩) (triOf l ks0).1.length cap) := E.blk_cell hg 0
  have hc1 : w.cell? ⟨g, 1, none⟩ = some (.map (some ha)) := E.blk_cell hg 1
  have HG := Lib.hid hg
  have HF := Lib.hid hf
  have HR := Lib.hid hr
  have HB := Lib.hid hb
  have HD := Lib.hid hd
  have HOK := Lib.hid hok
  have HK := Lib.hid hk
  have HBB := Lib.hid (Below.refl w.heap.size w)
  have HHL := Lib.hid hf.lt
  clear hg hr hf hb hd hok hk
  go_enter Try.func13, Try.ntmps13
  go_wp2_with (first
    | (go_at_call 20; refine (keysA_calls _ _).mono ?_; rintro e w' ⟨rfl, rfl⟩)
    | (go_at_call 18; refine (sortedA_calls w.heap.size ha n _ _ (E.blk_cell (heap_alloc_new w (.cells #[.map (some ha)] 45)) 0) (HF.out.alloc _) (by omega)).mono ?_; rintro e w' ⟨v, ks, rfl, hrise, hmem, hrow, hnil, hbk⟩; have HK1 := Lib.hid hrise; have HK2 := Lib.hid hmem; have HK3 := Lib.hid hrow; have HK5 := Lib.hid hbk; obtain ⟨Ak, ck, ev, hcells⟩ := row_keys hrow; subst ev; have HK6 := Lib.hid hcells; clear hcells hrise hmem hrow hnil hbk))
  have hsz : w.heap.size ≤ w'.heap.size := by have := HK5.out.size; simp at this; omega
  have hbw : Below w.heap.size w w' := ((Below.refl _ w).alloc (Nat.le_refl _) (.cells #[.map (some ha)] 45)).trans (HK5.out.mono (by simp))
  have HBW := Lib.hid hbw
  have hkeys : ∀ x, x ∈ ks ↔ (own l x).isSome = true := fun x => by
    rw [HK2.out x, encA_some]
    have st := tri_st l ks0
    by_cases h : x ∈ ks0
    · obtain ⟨k, e1, -⟩ := st.at_ x h
      rw [e1]
      exact ⟨fun _ => (HK.out x).1 h, fun _ => rfl⟩
    · rw [st.off x h]
      exact ⟨fun e => (by cases e), fun e => absurd ((HK.out x).2 e) h⟩
  have HKEYS := Lib.hid hkeys
  have hkl : ks.length ≤ 17412 := by
    have := rising_length 17412 ks 0 HK1.out (fun x hx => by
      have h2 := own_range HOK.out (i := x) ((hkeys x).1 hx)
      omega)
    omega
  have HR0 := Lib.hid (World.ownsRow_nil w' w.heap.size 29 2)
  have HBN := Lib.hid (Below.refl w'.heap.size w')
  clear hkeys hc0 hc1 HBB HK3 hbw
  go_loopw [15, 3] (fun v15 v3 wq => ∃ (k : Nat) (Ao : Option Addr) (co : Nat) (out : List (Int × Int)), k ≤ ks.length ∧ v15 = .int .i64 k ∧ v3 = .slice Ao out.length co ∧ Hid (out = prsP l (ks.take k)) ∧ Hid (wq.ownsRow w.heap.size 29 2 (.slice Ao out.length co) out.length (cellsP out)) ∧ Hid (w'.grownBy wq none ∨ True) ∧ Hid (Below w.heap.size w wq) ∧
    Hid (∀ j, j < ks.length → ∃ gk, Ak = some ⟨gk, 0, none⟩ ∧ (∀ a, Ao = some a → a.block ≠ gk) ∧ gk < wq.heap.size ∧ wq.cell? ⟨gk, j, none⟩ = some (.int .i64 (ks.getD j 0)))) (fun v15 _ _ => ks.length - (intOf v15).toNat)
  case atStart => exact ⟨0, none, 0, [], Nat.zero_le _, rfl, rfl, Lib.hid rfl, HR0, Lib.hid (.inr trivial), HBW, Lib.hid (fun j hj => by
    obtain ⟨gk, e1, e2, e3⟩ := HK6.out j hj
    exact ⟨gk, e1, fun a e => (by cases e), World.block_lt_of_cell? _ _ e3, e3⟩)⟩
  case round =>
    clear HR0 HBN HBW
    obtain ⟨k, Ao, co, out, hk, rfl, rfl, HOUT, HRO, -, HBQ, HKC⟩ := hrel
    by_cases hlt : k < ks.length
    · obtain ⟨gk, eA, -, hgl, hck⟩ := HKC.out k hlt
      subst eA
      obtain ⟨x, ex⟩ : ∃ x, x = ks.getD k 0 := ⟨_, rfl⟩
      rw [← ex] at hck
      have hxm : x ∈ ks := by rw [ex]; exact getD_mem hlt
      have hxr := own_range HOK.out (i := x) ((HKEYS.out x).1 hxm)
      obtain ⟨x0, x1⟩ := hxr
      have HX := Lib.hid ex
      have HWX := Lib.hid (show (Lit.int .i64 x).wf = true from WalkArith.wf_i64 ⟨by omega, by omega⟩)
      have st := tri_st l ks0
      obtain ⟨kk, hat, hbl⟩ := st.at_ x ((HK.out x).2 ((HKEYS.out x).1 hxm))
      have hown := (own_all HD.out (fun p hp => by
        have := List.any_eq_false.1 HOK.out p hp
        simp only [okP, Bool.not_eq_true', Bool.not_eq_false, Bool.and_eq_true, decide_eq_true_eq] at this
        omega)).1 x
      rw [hown] at hbl
      obtain ⟨hkl2, hbl2⟩ := List.getElem?_eq_some_iff.1 hbl
      have hgd : (triOf l ks0).1.getD kk [] = blkF l x := by rw [List.getD_eq_getElem?_getD, hbl]; rfl
      have HAV := Lib.hid (show (encA (triOf l ks0).2 (.int .i64 x)).getD (.int .i64 0) = .int .i64 (kk : Int) by
        obtain ⟨j, h1, h2⟩ := encA_at (triOf l ks0).2 x
        rw [h1, h2 kk hat])
      have hb2 : ∀ i, i < w.heap.size → wr.heap[i]? = w.heap[i]? := HBQ.out.block
      have hg0 : wr.cell? ⟨g, 0, none⟩ = some (.slice (some ⟨ga, 0, none⟩) (triOf l ks0).1.length cap) := E.blk_cell ((hb2 g (E.blk_lt HG.out)).trans HG.out) 0
      have hg1 : wr.cell? ⟨g, 1, none⟩ = some (.map (some ha)) := E.blk_cell ((hb2 g (E.blk_lt HG.out)).trans HG.out) 1
      have hfm := HF.out.below HBQ.out HHL.out
      have hcl : ∀ j v, ((blkF l x).map (Value.int .i32))[j]? = some v → wr.cell? ((⟨ga, kk * 64, none⟩ : Addr).add j) = some v := fun j v hv => by
        have hj : j < 64 := by
          have := (List.getElem?_eq_some_iff.1 hv).1
          rw [List.length_map, blkF_len] at this
          exact this
        have ea : (⟨ga, kk * 64, none⟩ : Addr).add j = ⟨ga, kk * 64 + j, none⟩ := by unfold Addr.add; split <;> simp_all
        rw [ea]
        have h1 := (HR.out.cellAt (kk * 64 + j) (by omega)).trans (flat_at _ (fun b hb => (HB.out b hb).1) kk j hkl2 hj)
        rw [hgd] at h1
        have h2 : wr.cell? ⟨ga, kk * 64 + j, none⟩ = some (.int .i32 ((blkF l x).getD j 0)) := (World.cell?_of_block (hb2 ga (HR.out.lt ga rfl).2)).trans h1
        rw [h2, ← hv]
        simp [List.getD_eq_getElem?_getD, List.getElem?_eq_getElem (show j < (blkF l x).length by rw [blkF_len]; exact hj)]
      have HCL := Lib.hid hcl
      have HG0 := Lib.hid hg0
      have HG1 := Lib.hid hg1
      have HFM := Lib.hid hfm
      have q0 : kk < (triOf l ks0).1.length := hkl2
      clear ex hxm st hat hown hbl hbl2 hgd hb2 hg0 hg1 hfm hcl hkl2
      go_wp2
      refine start_ (n := 13) (ds := []) (S := fun W => W.cell? ⟨g, 0, none⟩ = some (.slice (some ⟨ga, 0, none⟩) (triOf l ks0).1.length cap) ∧ W.cell? ⟨g, 1, none⟩ = some (.map (some ha)) ∧ FM W Try.prog 3 ha n (encA (triOf l ks0).2) ∧ (∀ j v, ((blkF l x).map (Value.int .i32))[j]? = some v → W.cell? ((⟨ga, kk * 64, none⟩ : Addr).add j) = some v)) #[false,false,false,false,false,false,false,false,false,false,false,false,false] rfl rfl rfl ⟨HG0.out, HG1.out, HFM.out, HCL.out⟩ ?_
      intro hHeld
      refine pure_ (i := 0) (N := some 19) (v := ?_) (a' := ?_) #[true,false,false,false,false,false,false,false,false,false,false,false,false] rfl rfl (by kernel_rfl) (fun _ _ _ h => h) (Or.inl ⟨by rfl, ?_⟩) ?_ ?_
      rotate_left
      · intro w_
        go_simp
        with_reducible rfl
      rotate_left
      · simp only [Act.put, List.setIfInBounds_toArray, List.set_cons_zero, List.set_cons_succ]
        rfl
      refine pure_ (i := 1) (N := some 20) (v := ?_) (a' := ?_) #[true,true,false,false,false,false,false,false,false,false,false,false,false] rfl rfl (by kernel_rfl) (fun _ _ _ h => h) (Or.inl ⟨by rfl, ?_⟩) ?_ ?_
      rotate_left
      · intro w_
        go_simp
        with_reducible rfl
      rotate_left
      · simp only [Act.put, List.setIfInBounds_toArray, List.set_cons_zero, List.set_cons_succ]
        rfl
      refine pure_ (i := 2) (N := some 21) (v := ?_) (a' := ?_) #[true,true,true,false,false,false,false,false,false,false,false,false,false] rfl rfl (by kernel_rfl) (fun _ _ _ h => h) (Or.inl ⟨by rfl, ?_⟩) ?_ ?_
      rotate_left
      · intro w_
        go_simp
        with_reducible rfl
      rotate_left
      · simp only [Act.put, List.setIfInBounds_toArray, List.set_cons_zero, List.set_cons_succ]
        rfl
      refine take_ (i := 3) (N := some 22) (v := ?_) (a' := ?_) #[true,true,true,true,false,false,false,false,false,false,false,false,false] rfl rfl (by kernel_rfl) (fun _ _ _ h => h) (Or.inl ⟨by rfl, ?_⟩) hHeld ?_ ?_
      rotate_left
      · rintro w_ ⟨s0, s1, s2, s3⟩
        go_simp
        with_reducible rfl
      rotate_left
      · simp only [Act.put, List.setIfInBounds_toArray, List.set_cons_zero, List.set_cons_succ]
        rfl
      refine pure_ (i := 4) (N := some 23) (v := ?_) (a' := ?_) #[true,true,true,true,true,false,false,false,false,false,false,false,false] rfl rfl (by kernel_rfl) (fun _ _ _ h => h) (Or.inl ⟨by rfl, ?_⟩) ?_ ?_
      rotate_left
      · intro w_
        go_simp
        with_reducible rfl
      rotate_left
      · simp only [Act.put, List.setIfInBounds_toArray, List.set_cons_zero, List.set_cons_succ]
        rfl
      refine pure_ (i := 5) (N := some 24) (v := ?_) (a' := ?_) #[true,true,true,true,true,true,false,false,false,false,false,false,false] rfl rfl (by kernel_rfl) (fun _ _ _ h => h) (Or.inl ⟨by rfl, ?_⟩) ?_ ?_
      rotate_left
      · intro w_
        go_simp
        with_reducible rfl
      rotate_left
      · simp only [Act.put, List.setIfInBounds_toArray, List.set_cons_zero, List.set_cons_succ]
        rfl
      refine pure_ (i := 6) (N := some 25) (v := ?_) (a' := ?_) #[true,true,true,true,true,true,true,false,false,false,false,false,false] rfl rfl (by kernel_rfl) (fun _ _ _ h => h) (Or.inl ⟨by rfl, ?_⟩) ?_ ?_
      rotate_left
      · intro w_
        go_simp
        with_reducible rfl
      rotate_left
      · simp only [Act.put, List.setIfInBounds_toArray, List.set_cons_zero, List.set_cons_succ]
        rfl
      refine take_ (i := 7) (N := some 26) (v := ?_) (a' := ?_) #[true,true,true,true,true,true,true,true,false,false,false,false,false] rfl rfl (by kernel_rfl) (fun _ _ _ h => h) (Or.inl ⟨by rfl, ?_⟩) hHeld ?_ ?_
      rotate_left
      · rintro w_ ⟨s0, s1, s2, s3⟩
        go_simp
        with_reducible rfl
      rotate_left
      · simp only [Act.put, List.setIfInBounds_toArray, List.set_cons_zero, List.set_cons_succ]
        rfl
      refine pure_ (i := 8) (N := some 27) (v := ?_) (a' := ?_) #[true,true,true,true,true,true,true,true,true,false,false,false,false] rfl rfl (by kernel_rfl) (fun _ _ _ h => h) (Or.inl ⟨by rfl, ?_⟩) ?_ ?_
      rotate_left
      · intro w_
        go_simp
        with_reducible rfl
      rotate_left
      · simp only [Act.put, List.setIfInBounds_toArray, List.set_cons_zero, List.set_cons_succ]
        rfl
      refine take_ (i := 9) (N := some 28) (v := ?_) (a' := ?_) #[true,true,true,true,true,true,true,true,true,true,false,false,false] rfl rfl (by kernel_rfl) (fun _ _ _ h => h) (Or.inl ⟨by rfl, ?_⟩) hHeld ?_ ?_
      rotate_left
      · rintro w_ ⟨s0, s1, s2, s3⟩
        have hrun := s2.look lawI Try.underlying45 (zeroInt _) (key := .int .i64 x) (keyOf_int_mk Try.underlying3 HWX.out)
        rw [HAV.out] at hrun
        go_simp
        with_reducible rfl
      rotate_left
      · simp only [Act.put, List.setIfInBounds_toArray, List.set_cons_zero, List.set_cons_succ]
        rfl
      refine pure_ (i := 10) (N := some 29) (v := ?_) (a' := ?_) #[true,true,true,true,true,true,true,true,true,true,true,false,false] rfl rfl (by kernel_rfl) (fun _ _ _ h => h) (Or.inl ⟨by rfl, ?_⟩) ?_ ?_
      rotate_left
      · intro w_
        go_simp
        with_reducible rfl
      rotate_left
      · simp only [Act.put, List.setIfInBounds_toArray, List.set_cons_zero, List.set_cons_succ]
        rfl
      refine take_ (i := 11) (N := some 30) (v := ?_) (a' := ?_) #[true,true,true,true,true,true,true,true,true,true,true,true,false] rfl rfl (by kernel_rfl) (fun _ _ _ h => h) (Or.inl ⟨by rfl, ?_⟩) hHeld ?_ ?_
      rotate_left
      · rintro w_ ⟨s0, s1, s2, s3⟩
        refine E.run_load_at 44 (.tmp 29) ?_ ⟨ga, kk * 64, none⟩ ?_ ((blkF l x).map (Value.int .i32)) _ s3 Try.underlying44 rfl ?_
        · rfl
        · rfl
        · rw [List.length_map, blkF_len]; exact infoBsize
      rotate_left
      · simp only [Act.put, List.setIfInBounds_toArray, List.set_cons_zero, List.set_cons_succ]
        rfl
      refine pure_ (i := 12) (N := some 31) (v := ?_) (a' := ?_) #[true,true,true,true,true,true,true,true,true,true,true,true,true] rfl rfl (by kernel_rfl) (fun _ _ _ h => h) (Or.inl ⟨by rfl, ?_⟩) ?_ ?_
      rotate_left
      · intro w_
        go_simp
        with_reducible rfl
      rotate_left
      · simp only [Act.put, List.setIfInBounds_toArray, List.set_cons_zero, List.set_cons_succ]
        rfl
      refine done_ (by kernel_rfl) ?_
      obtain ⟨wz, ez⟩ : ∃ q, q = wr.drew := ⟨_, rfl⟩
      have hgz : wr.grownBy wz none := ez ▸ ⟨rfl, rfl, rfl, Nat.le_refl _, fun _ _ _ => rfl⟩
      have hsz2 : wz.heap.size = wr.heap.size := by rw [ez]; rfl
      have HRZ := Lib.hid (HRO.out.kept hgz (by rcases Ao with _ | ⟨q, r, s⟩ <;> simp [Value.ownBlock]))
      have HBZ := Lib.hid (below_of HBQ.out hgz (by simp) HBQ.out.size)
      have HKZ := Lib.hid (show ∀ j, j < ks.length → ∃ gk', some (⟨gk, 0, none⟩ : Addr) = some ⟨gk', 0, none⟩ ∧ (∀ a, Ao = some a → a.block ≠ gk') ∧ gk' < wz.heap.size ∧ wz.cell? ⟨gk', j, none⟩ = some (.int .i64 (ks.getD j 0)) from fun j hj => by
        obtain ⟨gk', e1, e2, e3, e4⟩ := HKC.out j hj
        exact ⟨gk', e1, e2, by omega, (World.cell?_of_block (hgz.block _ e3 (by simp))).trans e4⟩)
      have hll := prsP_len l (ks.take k)
      rw [← HOUT.out, List.length_take] at hll
      have HLL := Lib.hid (show out.length ≤ 2000000 by omega)
      rw [← ez]
      clear ez hgz hsz2 hll HRO HBQ HKC hHeld HG0 HG1 HFM HCL hgl hck
      go_wp2
      go_loopw [31, 3] (fun v31 v3 wq => ∃ (m : Nat) (Ai : Option Addr) (ci : Nat) (oi : List (Int × Int)), m ≤ 64 ∧ v31 = .int .i64 m ∧ v3 = .slice Ai oi.length ci ∧ Hid (oi = out ++ blkP l x m) ∧ Hid (wq.ownsRow w.heap.size 29 2 (.slice Ai oi.length ci) oi.length (cellsP oi)) ∧ Hid (Below w.heap.size w wq) ∧
        Hid (∀ j, j < ks.length → ∃ gk', some (⟨gk, 0, none⟩ : Addr) = some ⟨gk', 0, none⟩ ∧ (∀ a, Ai = some a → a.block ≠ gk') ∧ gk' < wq.heap.size ∧ wq.cell? ⟨gk', j, none⟩ = some (.int .i64 (ks.getD j 0)))) (fun v31 _ _ => 64 - (intOf v31).toNat)
      case atStart => exact ⟨0, Ao, co, out, Nat.zero_le _, rfl, rfl, Lib.hid (by simp [blkP]), HRZ, HBZ, HKZ⟩
      case round =>
        clear HRZ HBZ HKZ
        obtain ⟨m, Ai, ci, oi, hm, rfl, rfl, HOI, HRI, HBI, HKI⟩ := hrel
        by_cases hlt2 : m < 64
        · obtain ⟨v, ev⟩ : ∃ v, v = findP l (64 * x + (m : Int)) := ⟨_, rfl⟩
          have hbv : (blkF l x).getD m 0 = v := by rw [blkF_at _ _ _ hlt2, ev]
          have hvw : (Lit.int .i32 v).wf = true := by
            by_cases h0 : v = 0
            · rw [h0]; rfl
            · obtain ⟨p, hp, -, h2⟩ := findP_ne (l := l) (c := 64 * x + (m : Int)) (by rw [← ev]; exact h0)
              have := List.any_eq_false.1 HOK.out p hp
              simp only [okP, Bool.not_eq_true', Bool.not_eq_false, Bool.and_eq_true, decide_eq_true_eq] at this
              exact wf_i32 (by omega) (by omega)
          obtain ⟨v0, v1⟩ := i32_bounds hvw
          have hidx : ∀ W, (Instr.index 44 (.agg ((blkF l x).map (Value.int .i32)).toArray) (.int .i64 (m : Int))).run Try.prog W = .ok (.int .i32 v) W := fun W => idx_blk _ (blkF_len l x) m hlt2 v hbv W
          have HEV := Lib.hid ev
          have hd64 : decide ((m : Int) < 64) = true := decide_eq_true (by omega)
          clear ev hbv hvw
          by_cases hz : v = 0
          · have hzb : (v != 0) = false := bne_eq_false_iff_eq.mpr hz
            have HZ := Lib.hid hz
            clear hz
            go_wp2
            go_roundw
            case rel => exact ⟨m + 1, Ai, ci, oi, by omega, by go_num, rfl, Lib.hid (by rw [HOI.out, blkP_succ, ← HEV.out, if_pos HZ.out]), HRI, HBI, HKI⟩
            case measure => simp [intOf]; omega
          · have hzb : (v != 0) = true := bne_iff_ne.mpr hz
            have HZ := Lib.hid hz
            clear hz
            go_wp2_with (first | ((with_reducible refine E.gate 45 rfl ?_); with_reducible refine E.halt ?_) | ((with_reducible refine E.gate 46 rfl ?_); with_reducible refine E.halt ?_))
            refine E.Halt.go (E.ev_one rfl 22 29 (.tmp 44) rfl 2 (.agg #[.int .i64 0, .int .i64 0]) (.agg #[.int .i64 (x * 64 + (m : Int)), .int .i64 v]) 16 Try.underlying22 infoP rfl (by omega) (by omega) rfl rfl ?_)
            intro gn wE egn hgn hgE hsE
            have HGN := Lib.hid hgn
            have HBE := Lib.hid (below_of HBI.out hgE (by simp) HBI.out.size)
            have HRE := Lib.hid (HRI.out.kept hgE (by rcases Ai with _ | ⟨q, r, s⟩ <;> simp [Value.ownBlock]))
            have HKE := Lib.hid (show ∀ j, j < ks.length → ∃ gk', some (⟨gk, 0, none⟩ : Addr) = some ⟨gk', 0, none⟩ ∧ (∀ a, Ai = some a → a.block ≠ gk') ∧ gk' < wE.heap.size ∧ wE.cell? ⟨gk', j, none⟩ = some (.int .i64 (ks.getD j 0)) from fun j hj => by
              obtain ⟨gk', e1, e2, e3, e4⟩ := HKI.out j hj
              exact ⟨gk', e1, e2, by omega, (World.cell?_of_block (hgE.block _ e3 (by simp))).trans e4⟩)
            have hlo : oi.length ≤ 2000064 := by
              have h1 := blkP_len l x m
              rw [HOI.out, List.length_append]
              have := HLL.out
              omega
            clear egn hgn hgE hsE
            obtain ⟨iP, hiP, hP0, hP1, hP2⟩ := info_parts infoP
            go_wp2_with (first | ((with_reducible refine E.gate 45 rfl ?_); with_reducible refine E.halt ?_) | ((with_reducible refine E.gate 46 rfl ?_); with_reducible refine E.halt ?_))
            refine E.Halt.go (wpList_append_lies _ rfl (.tmp 37) (.tmp 45) 22 rfl w.heap.size 29 iP (.agg #[.int .i64 0, .int .i64 0]) 2 16 Try.underlying22 hiP hP0 hP1 hP2 rfl (by omega) (.slice Ai oi.length ci) oi.length (cellsP oi) rfl HRE.out ⟨gn, 0, none⟩ 1 1 [.int .i64 (x * 64 + (m : Int)), .int .i64 v] rfl rfl (World.news_of_block HGN.out) (fun u hu => by simp at hu; rcases hu with rfl | rfl <;> rfl) (by omega) (by unfold maxLen; omega) (by omega) (by have := HBE.out.size; omega) wE.heap.size rfl ?_)
            intro gz cz wF hwF hgF hat hlz
            have HBF := Lib.hid (below_of HBE.out hgF (fun k e => (HRE.out.lt k e).1) HBE.out.size)
            have hnv : cellsP oi ++ [.int .i64 (x * 64 + (m : Int)), .int .i64 v] = cellsP (oi ++ [(64 * x + (m : Int), v)]) := by rw [cellsP_snoc]; simp [Int.mul_comm]
            have hwF2 : wF.ownsRow w.heap.size 29 2 (.slice (some ⟨gz, 0, none⟩) (oi ++ [(64 * x + (m : Int), v)]).length cz) (oi ++ [(64 * x + (m : Int), v)]).length (cellsP (oi ++ [(64 * x + (m : Int), v)])) := by rw [← hnv]; simpa using hwF
            have HRF := Lib.hid hwF2
            have HKF := Lib.hid (show ∀ j, j < ks.length → ∃ gk', some (⟨gk, 0, none⟩ : Addr) = some ⟨gk', 0, none⟩ ∧ (∀ a, some (⟨gz, 0, none⟩ : Addr) = some a → a.block ≠ gk') ∧ gk' < wF.heap.size ∧ wF.cell? ⟨gk', j, none⟩ = some (.int .i64 (ks.getD j 0)) from fun j hj => by
              obtain ⟨gk', e1, e2, e3, e4⟩ := HKE.out j hj
              refine ⟨gk', e1, fun a ea => ?_, Nat.lt_of_lt_of_le e3 hgF.size, (World.cell?_of_block (hgF.block _ e3 ?_)).trans e4⟩
              · cases ea
                rcases hat with h | h
                · rcases Ai with _ | q
                  · cases h
                  · have := e2 q rfl
                    simp [Value.ownBlock] at h
                    show gz ≠ gk'
                    omega
                · show gz ≠ gk'
                  omega
              · rcases Ai with _ | q
                · simp [Value.ownBlock]
                · have := e2 q rfl
                  simp [Value.ownBlock]
                  omega)
            clear hwF hwF2 hgF hat hlz hnv
            go_wp2
            go_roundw
            case rel => exact ⟨m + 1, some ⟨gz, 0, none⟩, cz, oi ++ [(64 * x + (m : Int), v)], by omega, by go_num, by first | rfl | simp, Lib.hid (by rw [HOI.out, blkP_succ, ← HEV.out, if_neg HZ.out, List.append_assoc]), HRF, HBF, HKF⟩
            case measure => simp [intOf]; omega
        · obtain rfl : m = 64 := by omega
          have HON := Lib.hid (show oi = prsP l (ks.take (k + 1)) by rw [HOI.out, prsP_take l ks k hlt, ← HOUT.out, ← HX.out])
          go_wp2
          go_roundw
          case rel => exact ⟨k + 1, Ai, ci, oi, by omega, by go_num, rfl, HON, HRI, Lib.hid (.inr trivial), HBI, HKI⟩
          case measure => simp [intOf]; omega
    · obtain rfl : k = ks.length := by omega
      have hout := HOUT.out
      rw [List.take_length] at hout
      subst hout
      obtain ⟨A9, c9, e9, hle, -, -⟩ := row_pairs HRO.out
      obtain ⟨rfl, -, rfl⟩ : Ao = A9 ∧ (prsP l ks).length = (prsP l ks).length ∧ co = c9 := by simpa using e9
      have HLE := Lib.hid hle
      clear e9 hle
      go_wp2_with (go_at_call 21; refine (clip_calls _ _ _ _ HLE.out).mono ?_; rintro e w9 ⟨rfl, rfl⟩)
      go_ret
      exact ⟨Ao, ks, co, rfl, HK1.out, HKEYS.out, HRO.out, HBQ.out⟩
end Go.Proofs.Ytpameikbacnpcaa.T
