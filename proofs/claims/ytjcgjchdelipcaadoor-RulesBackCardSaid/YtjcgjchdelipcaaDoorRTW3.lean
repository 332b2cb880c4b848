/- rules.Text, walked by hand. -/
import Derived.Test.YtjcgjchdelipcaaDoorRTW2
import Derived.Great.BuildSlice
import Derived.Deep.AppendLies
import Derived.Deep.RegionLaw
namespace Go.Proofs.YtjcgjchdelipcaaDoor.R
open Go.RowKit Go.Proofs.YtjcgjchdelipcaaDoorW.PrintWords Go.Proofs.YtjcgjchdelipcaaDoorW.PrintLast Go.Proofs.YtjcgjchdelipcaaDoorW.PrintMore
open Go.Proofs.YtjcgjchdelipcaaDoor.U (spc spb txt txt1 RuleM nameB words wordsOf joinW textM)
set_option linter.unusedVariables false
set_option linter.unusedSimpArgs false

def toM (x : S63) : RuleM := (x.f0, x.f1, x.f2)
def fits (l : List S63) : Bool := decide (l.length ≤ 60) && l.all fun x => decide (x.f1.length + x.f2.length ≤ 20)
def relOk (x : S63) : Bool := decide (1 ≤ x.f0 ∧ x.f0 ≤ 5)
def strT (l : List S63) : ByteArray := strOfNums (textM (l.map toM))
/-- The words, as strings. -/
def wB (l : List S63) : List ByteArray := (words (l.map toM)).map strOfNums
theorem wB_snoc (l : List S63) (x : S63) : wB (l ++ [x]) = wB l ++ [strOfNums (nameB x.f0), strOfNums (txt x.f1)] ++ (if 0 < x.f2.length then [strOfNums [47], strOfNums (txt x.f2)] else []) := by
  unfold wB
  rw [List.map_append, List.map_cons, List.map_nil, U.words_snoc, List.map_append, List.append_assoc]
  congr 1
  unfold wordsOf toM
  by_cases h : 0 < x.f2.length
  · rw [if_pos h, if_pos h]; rfl
  · rw [if_neg h, if_neg h]; rfl
theorem wB_length : ∀ l : List S63, (wB l).length ≤ 4 * l.length
  | [] => by simp [wB, words]
  | x :: l => by
    have ih := wB_length l
    unfold wB words at ih ⊢
    rw [List.map_cons, List.flatMap_cons, List.map_append, List.length_append, List.length_cons]
    have : ((wordsOf (toM x)).map strOfNums).length ≤ 4 := by
      unfold wordsOf
      split <;> simp
    omega
def u8l (a : List Int) : List UInt8 := a.map fun n => UInt8.ofNat n.toNat
theorem u8l_app (a b : List Int) : u8l (a ++ b) = u8l a ++ u8l b := by unfold u8l; rw [List.map_append]
theorem join_u8 : ∀ W : List (List Int), Lib.join (W.map u8l) [32] = u8l (joinW W)
  | [] => rfl
  | [a] => by rw [List.map_cons, List.map_nil, Lib.join_one]; rfl
  | a :: b :: W => by
    have ih := join_u8 (b :: W)
    rw [List.map_cons, Lib.join_cons] at ih
    rw [List.map_cons, List.map_cons, Lib.join_cons, U.joinW_cons a _ (by simp), u8l_app]
    have e : u8l (32 :: joinW (b :: W)) = [32] ++ u8l (joinW (b :: W)) := rfl
    rw [e, ← ih]
    simp [Lib.joinTail]
theorem join_wB (l : List S63) : Lib.join ((wB l).map (·.data.toList)) [32] = u8l (textM (l.map toM)) := by
  unfold wB textM
  rw [List.map_map]
  exact join_u8 _
def rules_Text.f (k : Nat) (l0 : List S63) : Option (ByteArray × Int) :=
  if fits l0 = true then (if l0.all relOk = true then (rules_Parse.f k (strT l0)).bind fun r => (if r.2.2 = 0 then (if eqs63 l0 r.1 = true then some (strT l0, 0) else some (⟨#[]⟩, 1)) else some (⟨#[]⟩, 1)) else some (⟨#[]⟩, 1)) else none
theorem rules_Text.mono : ∀ (a0 : List S63) k, LeO (rules_Text.f k a0) (rules_Text.f (k + 1) a0) := by
  intro a0 k
  unfold rules_Text.f
  exact LeO.ite (LeO.ite (LeO.bind (rules_Parse.mono _ _) (fun _ => LeO.refl _)) (LeO.refl _)) (LeO.none _)
theorem info9s : (Tryd.prog.info? 9).map (fun i => (i.zero, i.size, i.bytes)) = some (some (.string ⟨#[]⟩), 1, 16) := by kernel_rfl
def namesC : Array Value := #[.string ⟨#[]⟩, .string ⟨#[38]⟩, .string ⟨#[60]⟩, .string ⟨#[60, 60]⟩, .string ⟨#[60, 60, 60]⟩, .string ⟨#[61]⟩]
theorem namesC_at (rel : Int) (h : 1 ≤ rel ∧ rel ≤ 5) : namesC[rel.toNat]? = some (.string (strOfNums (nameB rel))) := by
  rcases (show rel = 1 ∨ rel = 2 ∨ rel = 3 ∨ rel = 4 ∨ rel = 5 by omega) with rfl | rfl | rfl | rfl | rfl <;> rfl
theorem row_at {w : World} {base : Nat} {v : Value} {xs : List ByteArray} (h : w.ownsRow base 9 1 v xs.length (xs.map Value.string)) : (v = .slice none 0 0 ∧ xs = []) ∨ ∃ g cap, v = .slice (some ⟨g, 0, none⟩) xs.length cap ∧ xs.length ≤ cap ∧ g < w.heap.size ∧ ∀ (j : Nat) x, xs[j]? = some x → w.cell? ⟨g, 0 + j, none⟩ = some (.string x) := by
  rcases h.2 with ⟨h1, h0⟩ | ⟨g, cap, cur, e, hb, hg, hn, hm, hs, ht⟩
  · exact .inl ⟨h1, List.length_eq_zero_iff.1 h0⟩
  · refine .inr ⟨g, cap, e, hn, (Array.getElem?_eq_some_iff.1 hg).1, fun j x hx => ?_⟩
    have hj : j < xs.length := (List.getElem?_eq_some_iff.1 hx).1
    rw [Nat.zero_add]
    have h1 : (cur.toList.take (xs.length * 1))[j]? = (xs.map Value.string)[j]? := by rw [ht]
    rw [List.getElem?_take_of_lt (by omega), List.getElem?_map, hx] at h1
    simp only [World.cell?, hg]
    simpa using h1
/-- The walk stands still here. -/
def HaltR (p : Prop) : Prop := p
theorem haltR {p : Prop} (h : HaltR p) : p := h
theorem HaltR.go {p : Prop} (h : p) : HaltR p := h
/-- '[]string{s, t}' at a step of a region that draws its order. -/
theorem st_two {P : Program} {o : Oper} {a : Act} {w : World} {Q : Exit → Act → World → Prop} {E : Prop} {K : Act → World → Prop} {ops : Array Oper} (hg : o.guard = none) {N : Option Tmp} (hN : o.dst = N) (T e : TypeId) (x y : Operand) (ho : o.op = .buildSlice T 2 #[(0, x), (1, y)]) (bytes : Nat) (hu : P.underlying T = some (.slice e)) (hinfo : (P.info? e).map (fun i => (i.zero, i.size, i.bytes)) = some (some (.string ⟨#[]⟩), 1, bytes))
    (s t : ByteArray) (hx : a.eval x = .string s) (hy : a.eval y = .string t)
    (h : ∀ g w1, g = w.heap.size → w1.heap[g]? = some (.cells #[.string s, .string t] e (0, 0)) → Below w.heap.size w w1 → w1.heap.size = w.heap.size + 1 → K (a.put N (.slice (some ⟨g, 0, none⟩) 2 2)) w1) : if Region.wanted o (yielded ops a.tmps) = true then Oper.wp P o a w K Q else E := by
  have hw : Region.wanted o (yielded ops a.tmps) = true := by simp [Region.wanted, hg]
  rw [if_pos hw]
  subst hN
  obtain ⟨i, hi, h1, h2, h3⟩ := info_parts hinfo
  refine wp_buildSlice T e 2 _ ho #[.string s, .string t] i (.string ⟨#[]⟩) hu hi h1 (by rw [h2]; omega) (by rw [h2]; omega) ?_ (h _ _ rfl (heap_alloc_new _ _) ((Below.refl _ w).alloc (Nat.le_refl _) _) (World.size_alloc _ _))
  rw [h2]
  simp only [List.map_toArray, List.map_cons, List.map_nil, hx, hy]
  have e2 : Array.range (2 * 1) = #[0, 1] := by decide
  rw [e2]
  simp [Instr.fill, Value.cells]
theorem box_below {w w' : World} {g : Nat} {o : Obj} (h : w.heap[g]? = some o) (hb : Below w.heap.size w w') : w'.heap[g]? = some o := (hb.block g (Array.getElem?_eq_some_iff.1 h).1).trans h
theorem row_stay {w w' : World} {base : Nat} {e : TypeId} {size : Nat} {v : Value} {n : Nat} {xs : List Value} (h : w.ownsRow base e size v n xs) (hb : Below w.heap.size w w') : w'.ownsRow base e size v n xs := by
  rcases h with ⟨h1, h2 | ⟨g, cap, cur, e1, h3, h4, h5⟩⟩
  · exact ⟨h1, .inl h2⟩
  · exact ⟨h1, .inr ⟨g, cap, cur, e1, h3, box_below h4 hb, h5⟩⟩
set_option maxHeartbeats 4000000 in
set_option maxRecDepth 100000 in
theorem rules_Text.calls (k : Nat) (A0 : Option Addr) (c0 : Nat) (l0 : List S63) (r1 : ByteArray) (r2 : Int) (w : World) (hr0 : Kd.C k63 w A0 l0.length l0) (hc0 : l0.length ≤ c0) (h : rules_Text.f k l0 = some (r1, r2)) (hT : Tabs w) :
    Calls Tryd.prog 34 #[.slice A0 l0.length c0] w fun e w' => e = .returned (.tuple #[.string r1, .int .i64 r2]) ∧ Below w.heap.size w w' := by
  unfold rules_Text.f at h
  by_cases hf : fits l0 = true
  case neg => rw [if_neg hf] at h; cases h
  rw [if_pos hf] at h
  unfold fits at hf
  rw [Bool.and_eq_true, decide_eq_true_eq, List.all_eq_true] at hf
  obtain ⟨hl, hz⟩ := hf
  have HA := Lib.hid hr0
  have HT := Lib.hid hT
  have HZ := Lib.hid (show ∀ x ∈ l0, x.f1.length + x.f2.length ≤ 20 from fun x hx => of_decide_eq_true (hz x hx))
  have HH := Lib.hid h
  have HNC := Lib.hid namesC_at
  have HBN := Lib.hid ((Below.refl w.heap.size w).alloc (Nat.le_refl _) (.cells namesC 85))
  have HCN := Lib.hid (heap_alloc_new w (.cells namesC 85 (0, 0)))
  clear hr0 hT hz h
  unfold namesC at HBN HCN
  go_enter Tryd.func34, Tryd.ntmps34
  go_wp2
  go_loopw [4, 15] (fun v4 v15 w' => ∃ i : Nat, i ≤ l0.length ∧ v15 = .int .i64 i ∧ Hid ((l0.take i).all relOk = true) ∧ Hid (w'.ownsRow (w.heap.size + 1) 9 1 v4 (wB (l0.take i)).length ((wB (l0.take i)).map Value.string)) ∧ Hid (w'.heap[w.heap.size]? = some (.cells namesC 85 (0, 0))) ∧ Hid (Below w.heap.size w w') ∧ Hid (w.heap.size + 1 ≤ w'.heap.size)) (fun _ v15 _ => l0.length - (intOf v15).toNat)
  case atStart => exact ⟨0, Nat.zero_le _, rfl, Lib.hid rfl, Lib.hid (World.ownsRow_nil _ _ _ _), HCN, HBN, Lib.hid (by simp)⟩
  case round =>
    clear HCN HBN
    obtain ⟨i, hi, rfl, HR, HO, HN, HB, HS⟩ := hrel
    have hWL := wB_length (l0.take i)
    have hLi : (l0.take i).length ≤ i := List.length_take_le _ _
    have HWL := Lib.hid (show (wB (l0.take i)).length ≤ 240 by omega)
    clear hWL hLi
    by_cases hlt : i < l0.length
    · obtain ⟨ad, A1, c1, A2, c2, ea, hx0, hx1, hx2, hl1, g1, hl2, g2⟩ := at_T63 HA.out (i : Int) (by omega) (by omega)
      subst ea
      simp only [Int.toNat_natCast] at hx0 hx1 hx2
      have hbx := World.block_lt_of_cell? w _ hx0
      replace hx0 := (HB.out.cell hbx).trans hx0
      replace hx1 := (HB.out.cell (p := ⟨(ad.add (i * 3)).block, (ad.add (i * 3)).off + 1, none⟩) hbx).trans hx1
      replace hx2 := (HB.out.cell (p := ⟨(ad.add (i * 3)).block, (ad.add (i * 3)).off + 2, none⟩) hbx).trans hx2
      have e0 : rd_T63 l0 (i : Int) = l0[i] := by simp [rd_T63, List.getD_eq_getElem?_getD, List.getElem?_eq_getElem hlt]
      have hmem : rd_T63 l0 (i : Int) ∈ l0 := by rw [e0]; exact List.getElem_mem _
      have hzz := HZ.out _ hmem
      have HTK := Lib.hid (show l0.take (i + 1) = l0.take i ++ [rd_T63 l0 (i : Int)] by rw [e0, List.take_succ_eq_append_getElem hlt])
      have HMEM := Lib.hid hmem
      clear e0 hmem
      generalize rd_T63 l0 (i : Int) = x at *
      obtain ⟨rel, q, ex⟩ := x
      dsimp only at hx0 hx1 hx2 hl1 g1 hl2 g2 hzz
      have G1 := Lib.hid g1
      have G2 := Lib.hid g2
      clear g1 g2
      by_cases hrel : 1 ≤ rel ∧ rel ≤ 5
      · obtain ⟨p1, p2⟩ := hrel
        have d1 : decide (rel < 1) = false := decide_eq_false (by omega)
        have d2 : decide (5 < rel) = false := decide_eq_false (by omega)
        have d3 : 0 ≤ rel := by omega
        have d4 : rel < 6 := by omega
        have hN0 : wr.cell? ⟨w.heap.size, rel.toNat, none⟩ = some (.string (strOfNums (nameB rel))) := by
          have h1 := HN.out
          simp only [World.cell?, h1]
          exact HNC.out rel ⟨p1, p2⟩
        have hlt0 : w.heap.size < wr.heap.size := HS.out
        have HNM := Lib.hid (show strOfNums (nameB rel) = strOfNums (nameB rel) from rfl)
        have HREL := Lib.hid (show relOk ⟨rel, q, ex⟩ = true from decide_eq_true ⟨p1, p2⟩)
        have HSN := Lib.hid (wB_snoc (l0.take i) ⟨rel, q, ex⟩)
        dsimp only at HSN
        generalize strOfNums (nameB rel) = nm at *
        go_wp2
        obtain ⟨wb, eb⟩ : ∃ y, y = wr.alloc (.cells #[.int .i64 rel, .slice A1 q.length c1, .slice A2 ex.length c2] 63) := ⟨_, rfl⟩
        have hBb : Below wr.heap.size wr wb := eb ▸ (Below.refl _ wr).alloc (Nat.le_refl _) _
        have hXb : wb.heap[wr.heap.size]? = some (.cells #[.int .i64 rel, .slice A1 q.length c1, .slice A2 ex.length c2] 63 (0, 0)) := eb ▸ heap_alloc_new _ _
        have hsb : wb.heap.size = wr.heap.size + 1 := by rw [eb]; simp
        rw [← eb]
        have HNb := Lib.hid (box_below HN.out hBb)
        have HOb := Lib.hid (row_stay HO.out hBb)
        have HBb := Lib.hid (HB.out.trans (hBb.mono HB.out.size))
        have HXb := Lib.hid hXb
        have HSB := Lib.hid hsb
        have hN2 : wb.cell? ⟨w.heap.size, rel.toNat, none⟩ = some (.string nm) := (hBb.cell (p := ⟨w.heap.size, rel.toNat, none⟩) hlt0).trans hN0
        have hb0 : wb.cell? ⟨wr.heap.size, 0, none⟩ = some (.int .i64 rel) := by simp only [World.cell?, hXb]; rfl
        have hb1 : wb.cell? ⟨wr.heap.size, 1, none⟩ = some (.slice A1 q.length c1) := by simp only [World.cell?, hXb]; rfl
        have HG1 := Lib.hid (Kd.C_below G1.out HBb.out)
        clear eb hBb hXb hsb G1
        refine start_ (n := 11) (ds := []) (S := fun W => W.cell? ⟨wr.heap.size, 0, none⟩ = some (.int .i64 rel) ∧ W.cell? ⟨wr.heap.size, 1, none⟩ = some (.slice A1 q.length c1) ∧ W.cell? ⟨w.heap.size, rel.toNat, none⟩ = some (.string nm)) #[false,false,false,false,false,false,false,false,false,false,false] rfl rfl rfl ⟨hb0, hb1, hN2⟩ ?_
        intro hHeld
        refine pure_ (i := 0) (N := some 27) (v := ?_) (a' := ?_) #[true,false,false,false,false,false,false,false,false,false,false] rfl rfl (by kernel_rfl) (fun _ _ _ h => h) (Or.inl ⟨by rfl, ?_⟩) ?_ ?_
        rotate_left
        · intro w_
          go_simp
          with_reducible rfl
        rotate_left
        · simp only [Act.put, List.setIfInBounds_toArray, List.set_cons_zero, List.set_cons_succ]
          rfl
        refine pure_ (i := 1) (N := some 28) (v := ?_) (a' := ?_) #[true,true,false,false,false,false,false,false,false,false,false] rfl rfl (by kernel_rfl) (fun _ _ _ h => h) (Or.inl ⟨by rfl, ?_⟩) ?_ ?_
        rotate_left
        · intro w_
          go_simp
          with_reducible rfl
        rotate_left
        · simp only [Act.put, List.setIfInBounds_toArray, List.set_cons_zero, List.set_cons_succ]
          rfl
        refine take_ (i := 2) (N := some 29) (v := ?_) (a' := ?_) #[true,true,true,false,false,false,false,false,false,false,false] rfl rfl (by kernel_rfl) (fun _ _ _ h => h) (Or.inl ⟨by rfl, ?_⟩) hHeld ?_ ?_
        rotate_left
        · rintro w_ ⟨s0, s1, s2⟩
          go_simp
          with_reducible rfl
        rotate_left
        · simp only [Act.put, List.setIfInBounds_toArray, List.set_cons_zero, List.set_cons_succ]
          rfl
        refine pure_ (i := 3) (N := some 30) (v := ?_) (a' := ?_) #[true,true,true,true,false,false,false,false,false,false,false] rfl rfl (by kernel_rfl) (fun _ _ _ h => h) (Or.inl ⟨by rfl, ?_⟩) ?_ ?_
        rotate_left
        · intro w_
          go_simp
          with_reducible rfl
        rotate_left
        · simp only [Act.put, List.setIfInBounds_toArray, List.set_cons_zero, List.set_cons_succ]
          rfl
        refine take_ (i := 4) (N := some 31) (v := ?_) (a' := ?_) #[true,true,true,true,true,false,false,false,false,false,false] rfl rfl (by kernel_rfl) (fun _ _ _ h => h) (Or.inl ⟨by rfl, ?_⟩) hHeld ?_ ?_
        rotate_left
        · rintro w_ ⟨s0, s1, s2⟩
          go_simp
          with_reducible rfl
        rotate_left
        · simp only [Act.put, List.setIfInBounds_toArray, List.set_cons_zero, List.set_cons_succ]
          rfl
        refine pure_ (i := 5) (N := some 32) (v := ?_) (a' := ?_) #[true,true,true,true,true,true,false,false,false,false,false] rfl rfl (by kernel_rfl) (fun _ _ _ h => h) (Or.inl ⟨by rfl, ?_⟩) ?_ ?_
        rotate_left
        · intro w_
          go_simp
          with_reducible rfl
        rotate_left
        · simp only [Act.put, List.setIfInBounds_toArray, List.set_cons_zero, List.set_cons_succ]
          rfl
        refine take_ (i := 6) (N := some 33) (v := ?_) (a' := ?_) #[true,true,true,true,true,true,true,false,false,false,false] rfl rfl (by kernel_rfl) (fun _ _ _ h => h) (Or.inl ⟨by rfl, ?_⟩) hHeld ?_ ?_
        rotate_left
        · rintro w_ ⟨s0, s1, s2⟩
          go_simp
          with_reducible rfl
        rotate_left
        · simp only [Act.put, List.setIfInBounds_toArray, List.set_cons_zero, List.set_cons_succ]
          rfl
        obtain ⟨wD, eD⟩ : ∃ y, y = wb.drew := ⟨_, rfl⟩
        have hBD : Below wb.heap.size wb wD := eD ▸ below_drawn wb 1
        have hsD : wD.heap.size = wb.heap.size := by rw [eD]; rfl
        rw [← eD]
        refine one_ (i := 7) (N := some 34) #[true,true,true,true,true,true,true,true,false,false,false] rfl rfl (by kernel_rfl) (by decide) (fun K hK => ?_)
        refine goes_ Tryd.func58 (by kernel_rfl) rfl #[.slice A1 q.length c1] (by rfl) rfl rfl (by simp only [List.map_toArray, List.map_cons, List.map_nil]; rfl) ?_
        refine (text_calls A1 c1 q _ (Kd.C_below HG1.out hBD) (by omega)).mono ?_
        rintro e w1 ⟨rfl, hB1⟩
        refine ⟨_, rfl, ?_⟩
        have hBt : Below wb.heap.size wb w1 := hBD.trans (hB1.mono (by omega))
        refine hK.out _ _ ⟨(hBt.cell (p := ⟨wr.heap.size, 0, none⟩) (by have := HSB.out; simp; omega)).trans hb0, (hBt.cell (p := ⟨wr.heap.size, 1, none⟩) (by have := HSB.out; simp; omega)).trans hb1, (hBt.cell (p := ⟨w.heap.size, rel.toNat, none⟩) (by have := HSB.out; simp; omega)).trans hN2⟩ (fun hHeld2 => ?_)
        clear hK
        refine norm_ (a' := ?_) ?_ ?_
        rotate_left
        · simp only [Act.put, List.setIfInBounds_toArray, List.set_cons_zero, List.set_cons_succ]
          rfl
        refine one_ (i := 8) (N := some 35) #[true,true,true,true,true,true,true,true,true,false,false] rfl rfl (by kernel_rfl) (by decide) (fun K hK => ?_)
        refine st_two rfl (N := some 35) rfl 84 9 (.tmp 31) (.tmp 34) rfl 16 Tryd.underlying84 info9s nm (strOfNums (txt q)) rfl rfl ?_
        intro gn wE egn hgn hBE hsE
        have hBe : Below wb.heap.size wb wE := hBt.trans (hBE.mono (by have := hB1.size; omega))
        refine hK.out _ _ ⟨(hBe.cell (p := ⟨wr.heap.size, 0, none⟩) (by have := HSB.out; simp; omega)).trans hb0, (hBe.cell (p := ⟨wr.heap.size, 1, none⟩) (by have := HSB.out; simp; omega)).trans hb1, (hBe.cell (p := ⟨w.heap.size, rel.toNat, none⟩) (by have := HSB.out; simp; omega)).trans hN2⟩ (fun hHeld3 => ?_)
        clear hK
        refine norm_ (a' := ?_) ?_ ?_
        rotate_left
        · simp only [Act.put, List.setIfInBounds_toArray, List.set_cons_zero, List.set_cons_succ]
          rfl
        obtain ⟨iB, hiB, hB0', hB1', hB2'⟩ := info_parts info9s
        have hOE := row_stay HOb.out hBe
        refine one_ (i := 9) (N := some 36) #[true,true,true,true,true,true,true,true,true,true,false] rfl rfl (by kernel_rfl) (by decide) (fun K hK => ?_)
        refine step_append_lies _ rfl (.tmp 27) (.tmp 35) 84 rfl (w.heap.size + 1) 9 iB (.string ⟨#[]⟩) 1 16 Tryd.underlying84 hiB hB0' hB1' hB2' (by rfl) (by omega) _ (wB (l0.take i)).length ((wB (l0.take i)).map Value.string) rfl hOE ⟨gn, 0, none⟩ 2 2 [.string nm, .string (strOfNums (txt q))] rfl rfl (World.news_of_block hgn) (fun u hu => by simp at hu; rcases hu with rfl | rfl <;> rfl) (by omega) (by have := HWL.out; unfold maxLen; omega) (by have := HWL.out; omega) (by have := HB.out.size; have := hBe.size; have := HSB.out; have := HS.out; omega) wE.heap.size rfl ?_
        intro gz cz wF hwF hgF hat hlz
        have hne1 : some wr.heap.size ≠ u4.ownBlock := fun h => by have := (HO.out.lt _ h.symm).2; omega
        have hne2 : some w.heap.size ≠ u4.ownBlock := fun h => by have := (HO.out.lt _ h.symm).1; omega
        have hsE1 : wr.heap.size < wE.heap.size := by have := hBe.size; have := HSB.out; omega
        have hXF : wF.heap[wr.heap.size]? = some (.cells #[.int .i64 rel, .slice A1 q.length c1, .slice A2 ex.length c2] 63 (0, 0)) := (hgF.block _ hsE1 hne1).trans (box_below HXb.out hBe)
        have hNF : wF.heap[w.heap.size]? = some (.cells namesC 85 (0, 0)) := (hgF.block _ (by omega) hne2).trans (box_below HNb.out hBe)
        have hNC := HNC.out rel ⟨p1, p2⟩
        refine hK.out _ _ ⟨by simp only [World.cell?, hXF]; rfl, by simp only [World.cell?, hXF]; rfl, ?_⟩ (fun hHeld4 => ?_)
        · have h1 := box_below HNb.out hBe
          have h2 : wE.cell? ⟨w.heap.size, rel.toNat, none⟩ = some (.string nm) := (hBe.cell (p := ⟨w.heap.size, rel.toNat, none⟩) (by have := HSB.out; simp; omega)).trans hN2
          simp only [World.cell?, h1] at h2
          simp only [World.cell?, hNF]
          exact h2
        clear hK
        refine norm_ (a' := ?_) ?_ ?_
        rotate_left
        · simp only [Act.put, List.getElem_toArray, List.getElem_cons_succ, List.getElem_cons_zero, List.setIfInBounds_toArray, List.set_cons_zero, List.set_cons_succ]
          rfl
        refine pure_ (i := 10) (N := some 4) (v := ?_) (a' := ?_) #[true,true,true,true,true,true,true,true,true,true,true] rfl rfl (by kernel_rfl) (fun _ _ _ h => h) (Or.inl ⟨by rfl, ?_⟩) ?_ ?_
        rotate_left
        · intro w_
          go_simp
          with_reducible rfl
        rotate_left
        · simp only [Act.put, List.setIfInBounds_toArray, List.set_cons_zero, List.set_cons_succ]
          rfl
        refine done_ (by kernel_rfl) ?_
        have HBF := Lib.hid ((HBb.out.trans (hBe.mono HBb.out.size)).grown hgF (by have := HB.out.size; omega) (fun k hk => by have := (HO.out.lt k hk).1; omega))
        have HOF := Lib.hid hwF
        have HNF := Lib.hid hNF
        have HG2F := Lib.hid (show Kd.C (Kd.int .i64) wF A2 ex.length ex from Kd.C_below G2.out HBF.out)
        have hF2 : wF.cell? ⟨wr.heap.size, 2, none⟩ = some (.slice A2 ex.length c2) := by simp only [World.cell?, hXF]; rfl
        have HSF := Lib.hid (show w.heap.size + 1 ≤ wF.heap.size by have := hgF.size; omega)
        clear hne1 hne2 hsE1 hXF hNF hNC hwF hgF hat hlz hHeld hHeld2 hHeld3 hHeld4 hOE hBe hBE hsE hgn egn hBt hB1 hBD hsD eD hb0 hb1 hN2 hN0 hx0 hx1 hx2 G2 HO HN HB HOb HNb HBb HXb HSB HG1 HS
        by_cases hpos : 0 < ex.length
        · rw [if_pos hpos] at HSN
          have q1 : decide (0 < (ex.length : Int)) = true := decide_eq_true (by omega)
          have q2 : decide (0 < ex.length) = true := decide_eq_true hpos
          clear hpos
          go_wp2_with (first
            | (go_at_call 58; refine (text_calls A2 c2 ex _ HG2F.out (by omega)).mono ?_; rintro e w2 ⟨rfl, hB2⟩; have HB2 := Lib.hid hB2; clear hB2)
            | (at_builtin; with_reducible refine haltR ?_))
          have hA2 : Below wF.heap.size wF (w2.alloc (.cells #[.string ⟨#[47]⟩, .string (strOfNums (txt ex))] 9)) := HB2.out.alloc HB2.out.size _
          refine HaltR.go (wpList_append_lies _ rfl (.tmp 41) (.tmp 45) 84 rfl (w.heap.size + 1) 9 iB (.string ⟨#[]⟩) 1 16 Tryd.underlying84 hiB hB0' hB1' hB2' (by rfl) (by omega) _ ((wB (l0.take i)).length + 2) _ rfl (row_stay HOF.out hA2) ⟨w2.heap.size, 0, none⟩ 2 2 [.string ⟨#[47]⟩, .string (strOfNums (txt ex))] rfl rfl (World.news_of_block (heap_alloc_new w2 (.cells #[.string ⟨#[47]⟩, .string (strOfNums (txt ex))] 9 (0, 0)))) (fun u hu => by simp at hu; rcases hu with rfl | rfl <;> rfl) (by omega) (by have := HWL.out; unfold maxLen; omega) (by have := HWL.out; omega) (by have := HB2.out.size; have := HSF.out; simp; omega) _ rfl ?_)
          intro gy cy wG hwG hgG hatG hlG
          have hne2 : some w.heap.size ≠ (Value.slice (some ⟨gz, 0, none⟩) ((wB (l0.take i)).length + 2) cz).ownBlock := fun h => by have := (HOF.out.lt _ h.symm).1; omega
          have HNG := Lib.hid ((hgG.block _ (by have := hA2.size; have := HSF.out; omega) hne2).trans (box_below HNF.out hA2))
          have HBG := Lib.hid ((HBF.out.trans (hA2.mono HBF.out.size)).grown hgG (by have := hA2.size; have := HBF.out.size; omega) (fun k hk => by have := (HOF.out.lt k hk).1; omega))
          have HOG := Lib.hid hwG
          have HSG := Lib.hid (show w.heap.size + 1 ≤ wG.heap.size by have := hgG.size; have := hA2.size; have := HSF.out; omega)
          clear hA2 hwG hgG hatG hlG hne2
          go_wp2
          go_roundw
          case rel =>
            refine ⟨i + 1, by omega, by go_num, Lib.hid (by rw [HTK.out, List.all_append, HR.out]; simp [HREL.out]), ?_, HNG, HBG, HSG⟩
            rw [HTK.out, HSN.out, List.length_append, List.length_append, List.map_append, List.map_append]
            exact HOG
          case measure => simp [intOf]; omega
        · rw [if_neg hpos] at HSN
          have q1 : decide (0 < (ex.length : Int)) = false := decide_eq_false (by omega)
          have q2 : decide (0 < ex.length) = false := decide_eq_false hpos
          clear hpos
          go_wp2
          go_roundw
          case rel =>
            rw [List.append_nil] at HSN
            refine ⟨i + 1, by omega, by go_num, Lib.hid (by rw [HTK.out, List.all_append, HR.out]; simp [HREL.out]), ?_, HNF, HBF, HSF⟩
            rw [HTK.out, HSN.out, List.length_append, List.map_append]
            exact HOF
          case measure => simp [intOf]; omega
      · -- a relation that is none
        have HN1 := Lib.hid (show l0.all relOk = false from List.all_eq_false.2 ⟨_, HMEM.out, by simpa [relOk] using hrel⟩)
        have hH := HH.out
        rw [HN1.out, if_neg (by simp)] at hH
        simp only [Option.some.injEq, Prod.mk.injEq] at hH
        obtain ⟨rfl, rfl⟩ := hH
        by_cases h1 : rel < 1
        · have d1 : decide (rel < 1) = true := decide_eq_true h1
          clear hrel h1
          go_wp2
          go_ret2
          exact ⟨rfl, HB.out.alloc HB.out.size _⟩
        · have d1 : decide (rel < 1) = false := decide_eq_false h1
          have d2 : decide (5 < rel) = true := decide_eq_true (by omega)
          clear hrel h1
          go_wp2
          go_ret2
          exact ⟨rfl, HB.out.alloc HB.out.size _⟩
    · obtain rfl : i = l0.length := by omega
      rw [List.take_length] at HR HO HWL
      have hH := HH.out
      rw [HR.out, if_pos rfl] at hH
      obtain ⟨⟨m, at_, er⟩, hP, hH⟩ := Option.bind_eq_some_iff.mp hH
      have HP := Lib.hid hP
      have HH2 := Lib.hid hH
      have HTL := Lib.hid (U.textM_length 20 (l0.map toM) (fun r hr => by
        obtain ⟨x, hx, rfl⟩ := List.mem_map.1 hr
        exact HZ.out x hx))
      have HJ := Lib.hid (join_wB l0)
      have HSTR := Lib.hid (show (⟨(u8l (textM (l0.map toM))).toArray⟩ : ByteArray) = strT l0 from rfl)
      have JC : Calls Tryd.prog 59 #[u4, .string ⟨#[32]⟩] wr fun e w' => e = .returned (.string (strT l0)) ∧ Below wr.heap.size wr w' := by
        rcases row_at HO.out with ⟨e1, e2⟩ | ⟨g, cap, e1, e2, e3, e4⟩
        · subst e1
          refine (Tryd.strings_Join_none none 0 _ wr).mono ?_
          rintro e w' ⟨rfl, rfl⟩
          refine ⟨?_, Below.refl _ _⟩
          have hj := HJ.out
          rw [e2] at hj
          rw [← HSTR.out, ← hj]
          rfl
        · subst e1
          have hlen : (Lib.join ((wB l0).map (·.data.toList)) [32]).length ≤ 140737488355328 := by
            rw [HJ.out]
            unfold u8l
            rw [List.length_map]
            have := HTL.out
            rw [List.length_map] at this
            omega
          refine (Tryd.strings_Join g 0 cap (wB l0) ⟨#[32]⟩ wr e4 e3 (by have := HWL.out; omega) e2 hlen).mono ?_
          rintro e w' ⟨rfl, hb⟩
          refine ⟨?_, hb⟩
          rw [← HSTR.out, ← HJ.out]
      clear hP hi HJ HTL HSTR HO HN
      dsimp only at hH
      by_cases her : er = 0
      · subst her
        rw [if_pos rfl] at hH
        by_cases hq : eqs63 l0 m = true
        · rw [if_pos hq] at hH
          simp only [Option.some.injEq, Prod.mk.injEq] at hH
          obtain ⟨e1, rfl⟩ := hH
          have HE := Lib.hid e1
          have HQ := Lib.hid hq
          clear e1 hq HH2 HH
          go_wp2_with (first
          | (go_at_call 59; refine JC.mono ?_; rintro e w1 ⟨rfl, hb1⟩; have HB1 := Lib.hid (HB.out.trans (hb1.mono HB.out.size)); clear hb1)
          | (go_at_call 28; refine (rules_Parse.calls k (strT l0) m at_ 0 _ HP.out (Tabs_below HT.out HB1.out)).mono ?_; rintro e w2 ⟨v2_, rfl, hv, hb2⟩; obtain ⟨Am, cm, e2_, hcm, hFm⟩ := hv; subst e2_; have HB2 := Lib.hid (HB1.out.trans (hb2.mono HB1.out.size)); have HM := Lib.hid (hFm w2 (fun _ _ _ => rfl)); clear hb2 hFm)
          | (go_at_call 60; refine (eqf_calls A0 Am c0 cm l0 m _ (Kd.C_below HA.out HB2.out) HM.out (by omega) (fun x hx => by have := HZ.out x hx; omega)).mono ?_; rintro e w3 ⟨rfl, hb3⟩; rw [HQ.out]; have HB3 := Lib.hid (HB2.out.trans (hb3.mono HB2.out.size)); clear hb3))
          go_ret2
          exact ⟨by rw [← HE.out]; rfl, HB3.out⟩
        · rw [if_neg hq] at hH
          have hq : eqs63 l0 m = false := by simpa using hq
          simp only [Option.some.injEq, Prod.mk.injEq] at hH
          obtain ⟨rfl, rfl⟩ := hH
          have HQ := Lib.hid hq
          clear hq HH2 HH
          go_wp2_with (first
          | (go_at_call 59; refine JC.mono ?_; rintro e w1 ⟨rfl, hb1⟩; have HB1 := Lib.hid (HB.out.trans (hb1.mono HB.out.size)); clear hb1)
          | (go_at_call 28; refine (rules_Parse.calls k (strT l0) m at_ 0 _ HP.out (Tabs_below HT.out HB1.out)).mono ?_; rintro e w2 ⟨v2_, rfl, hv, hb2⟩; obtain ⟨Am, cm, e2_, hcm, hFm⟩ := hv; subst e2_; have HB2 := Lib.hid (HB1.out.trans (hb2.mono HB1.out.size)); have HM := Lib.hid (hFm w2 (fun _ _ _ => rfl)); clear hb2 hFm)
          | (go_at_call 60; refine (eqf_calls A0 Am c0 cm l0 m _ (Kd.C_below HA.out HB2.out) HM.out (by omega) (fun x hx => by have := HZ.out x hx; omega)).mono ?_; rintro e w3 ⟨rfl, hb3⟩; rw [HQ.out]; have HB3 := Lib.hid (HB2.out.trans (hb3.mono HB2.out.size)); clear hb3))
          go_ret2
          exact ⟨rfl, HB3.out⟩
      · rw [if_neg her] at hH
        simp only [Option.some.injEq, Prod.mk.injEq] at hH
        obtain ⟨rfl, rfl⟩ := hH
        have d0 : (er != 0) = true := by simpa using her
        clear her HH2 HH
        go_wp2_with (first
          | (go_at_call 59; refine JC.mono ?_; rintro e w1 ⟨rfl, hb1⟩; have HB1 := Lib.hid (HB.out.trans (hb1.mono HB.out.size)); clear hb1)
          | (go_at_call 28; refine (rules_Parse.calls k (strT l0) m at_ er _ HP.out (Tabs_below HT.out HB1.out)).mono ?_; rintro e w2 ⟨v2_, rfl, hv, hb2⟩; obtain ⟨Am, cm, e2_, hcm, hFm⟩ := hv; subst e2_; have HB2 := Lib.hid (HB1.out.trans (hb2.mono HB1.out.size)); have HM := Lib.hid (hFm w2 (fun _ _ _ => rfl)); clear hb2 hFm))
        go_ret2
        exact ⟨rfl, HB2.out⟩
end Go.Proofs.YtjcgjchdelipcaaDoor.R
