/- The trie, third part: Build. -/
import Derived.Test.YtpameikbacnpcaaTS
import Derived.Test.YtpameikbacnpcaaWLast
import Derived.Deep.RegionLaw
import Derived.Outline
namespace Go.Proofs.Ytpameikbacnpcaa.T
open Go Go.RowKit Go.Maps Go.Proofs.Ytpameikbacnpcaa.M Go.Proofs.YtpameikbacnpcaaW.PrintLast
set_option linter.unusedVariables false

theorem below_of {B : Nat} {w w1 w2 : World} (h : Below B w w1) {row : Option Nat} (hg : w1.grownBy w2 row) (hr : ∀ k, row = some k → B ≤ k) (hB : B ≤ w1.heap.size) : Below B w w2 := h.grown hg hB hr

def ret (p : Option Addr) (e : Int) : Ending := .returned (.tuple #[.pointer p, .int .i64 e])
/-- A trie in memory: its blocks, and which one each block of signs is. -/
def IsTrie (w : World) (g : Nat) (s : List (List Int) × (Int → Option Nat)) : Prop :=
  ∃ (ga cap ha n : Nat), w.heap[g]? = some (.cells #[.slice (some ⟨ga, 0, none⟩) s.1.length cap, .map (some ha)] 48 (0, 0)) ∧ w.ownsRow 0 44 64 (.slice (some ⟨ga, 0, none⟩) s.1.length cap) s.1.length (flat s.1) ∧
    FM w Try.prog 3 ha n (encA s.2) ∧ n ≤ 20000 ∧ (∀ b ∈ s.1, BOk b) ∧ s.1.length ≤ 20000
theorem IsTrie.below {w w' : World} {g : Nat} {s : List (List Int) × (Int → Option Nat)} (h : IsTrie w g s) (hb : Below w.heap.size w w') : IsTrie w' g s := by
  obtain ⟨ga, cap, ha, n, h1, h2, h3, h4⟩ := h
  exact ⟨ga, cap, ha, n, (hb.block g (E.blk_lt h1)).trans h1, row_below h2 hb (fun k e => (h2.lt k e).2), h3.below hb h3.lt, h4⟩
/-- What Build hands back of pairs that may be, each sign once. -/
def TrieOf (l : List (Int × Int)) (w : World) (e : Ending) (w' : World) : Prop :=
  ∃ (g : Nat) (ks : List Int), e = ret (some ⟨g, 0, none⟩) 0 ∧ ks.Pairwise (· < ·) ∧ (∀ x, x ∈ ks ↔ (own l x).isSome = true) ∧ IsTrie w' g (ks.foldl (tstep (own l)) t0) ∧ Below w.heap.size w w'
def BuildPost (l : List (Int × Int)) (w : World) (e : Ending) (w' : World) : Prop :=
  ((l.map Prod.fst).Nodup → TrieOf l w e w') ∧ (¬ (l.map Prod.fst).Nodup → e = ret none 64 ∧ Below w.heap.size w w')
set_option maxHeartbeats 4000000 in
set_option maxRecDepth 100000 in
theorem build_ok (A : Option Addr) (c0 : Nat) (l : List (Int × Int)) (w : World) (hA : PRow w A l) (hl : l.length ≤ 1000) (hok : l.any (fun p => !okP p) = false) :
    Calls Try.prog 7 #[.slice A l.length c0] w (BuildPost l w) := by
  have HA := Lib.hid hA
  have HOK := Lib.hid hok
  clear hA hok
  have hmm := @run_makeMap Try.prog
  go_enter Try.func7, Try.ntmps7
  go_wp2_with (go_at_call 15; refine (contains_b1 A c0 l _ HA.out (by omega) false HOK.out).mono ?_; rintro e w1 ⟨rfl, hb⟩; have HB := Lib.hid hb; clear hb)
  have HS := Lib.hid (FM.alloc (FM.made w1 Try.prog 3) (.map #[] 0))
  have HO := Lib.hid (FM.made (w1.alloc (.map #[] 0)) Try.prog 3)
  have HB1 := Lib.hid ((HB.out.alloc HB.out.size (.map #[] 0)).alloc (by have := HB.out.size; simp; omega) (.map #[] 0))
  have HZ := Lib.hid HB.out.size
  clear hmm
  rw [World.size_alloc] at HO
  go_loopw [21] (fun v21 w' => ∃ i : Nat, i ≤ l.length ∧ v21 = .int .i64 i ∧ Hid (FM w' Try.prog 3 w1.heap.size i (encS ((l.take i).map Prod.fst))) ∧ Hid (FM w' Try.prog 3 (w1.heap.size + 1) i (encO (own (l.take i)))) ∧ Hid (FOk (own (l.take i))) ∧ Hid (((l.take i).map Prod.fst).Nodup) ∧ Hid (Below w.heap.size w w') ∧ Hid (w1.heap.size + 2 ≤ w'.heap.size)) (fun v21 _ => l.length - (intOf v21).toNat)
  case atStart => exact ⟨0, Nat.zero_le _, rfl, Lib.hid (HS.out.congr (fun kl => by cases kl with | int k x => cases k <;> rfl | _ => rfl)), Lib.hid (HO.out.congr (fun kl => by cases kl with | int k x => cases k <;> rfl | _ => rfl)), Lib.hid FOk.none, Lib.hid (by simp), HB1, Lib.hid (by simp)⟩
  case round =>
    clear HS HO HB1
    obtain ⟨i, hi, rfl, HS, HO, HF, HN, HB1, HZ1⟩ := hrel
    by_cases hlt : i < l.length
    · obtain ⟨ad, ea, hx0, hx1⟩ := (HA.out.below HB1.out) i hlt
      subst ea
      obtain ⟨c, hc⟩ : ∃ c, c = (l.getD i (0, 0)).1 := ⟨_, rfl⟩
      obtain ⟨v, hv⟩ : ∃ v, v = (l.getD i (0, 0)).2 := ⟨_, rfl⟩
      have hcv : l.getD i (0, 0) = (c, v) := by rw [hc, hv]
      rw [hcv] at hx0 hx1
      have hcok : okP (c, v) = true := by
        have h1 := List.any_eq_false.1 HOK.out (l.getD i (0, 0)) (by rw [List.getD_eq_getElem?_getD, List.getElem?_eq_getElem hlt]; exact List.getElem_mem _)
        rw [hcv] at h1
        simpa using h1
      simp only [okP, Bool.and_eq_true, decide_eq_true_eq] at hcok
      obtain ⟨⟨⟨b1, b2⟩, b3⟩, b4⟩ := hcok
      have HCV := Lib.hid hcv
      clear hc hv hcv
      by_cases hm : c ∈ (l.take i).map Prod.fst
      · have HG := Lib.hid (encS_yes hm)
        have HM := Lib.hid hm
        clear hm
        go_wp2_with (first | (at_lookup; with_reducible refine E.halt ?_) | (at_mapUpdate; with_reducible refine E.halt ?_) | ((with_reducible refine E.gate 8 rfl ?_); with_reducible refine E.halt ?_) | ((with_reducible refine E.gateS 44 8 (.tmp 36) rfl ?_); with_reducible refine E.halt ?_) | ((with_reducible refine E.gate 48 rfl ?_); with_reducible refine E.halt ?_))
        refine E.Halt.go (wp_look rfl (.tmp 25) (.tmp 27) 41 rfl 3 4 lawI Try.underlying41 (.bool false) (zeroBool _) w1.heap.size i _ rfl (HS.out.alloc _) _ (.int .i64 c) rfl (keyI (by omega) (by omega)) (.bool true) HG.out ?_)
        go_wp2
        go_ret2
        refine ⟨fun h => absurd h ?_, fun _ => ⟨rfl, (HB1.out.alloc HB1.out.size _)⟩⟩
        have hcv := HCV.out
        have hg : l[i] = (c, v) := by rw [← hcv]; simp [List.getD_eq_getElem?_getD, List.getElem?_eq_getElem hlt]
        intro h
        have e1 : l = l.take i ++ (l[i] :: l.drop (i + 1)) := by rw [← List.drop_eq_getElem_cons hlt, List.take_append_drop]
        rw [e1, List.map_append, List.nodup_append] at h
        exact h.2.2 c HM.out c (by rw [hg]; simp) rfl
      · have HG := Lib.hid (encS_no hm)
        have HM := Lib.hid hm
        clear hm
        go_wp2_with (first | (at_lookup; with_reducible refine E.halt ?_) | (at_mapUpdate; with_reducible refine E.halt ?_) | ((with_reducible refine E.gate 8 rfl ?_); with_reducible refine E.halt ?_) | ((with_reducible refine E.gateS 44 8 (.tmp 36) rfl ?_); with_reducible refine E.halt ?_) | ((with_reducible refine E.gate 48 rfl ?_); with_reducible refine E.halt ?_))
        refine E.Halt.go (wp_look rfl (.tmp 25) (.tmp 27) 41 rfl 3 4 lawI Try.underlying41 (.bool false) (zeroBool _) w1.heap.size i _ rfl (HS.out.alloc _) _ (.int .i64 c) rfl (keyI (by omega) (by omega)) (.bool false) HG.out ?_)
        go_wp2_with (first | (at_lookup; with_reducible refine E.halt ?_) | (at_mapUpdate; with_reducible refine E.halt ?_) | ((with_reducible refine E.gate 8 rfl ?_); with_reducible refine E.halt ?_) | ((with_reducible refine E.gateS 44 8 (.tmp 36) rfl ?_); with_reducible refine E.halt ?_) | ((with_reducible refine E.gate 48 rfl ?_); with_reducible refine E.halt ?_))
        refine E.Halt.go (wp_store rfl (.tmp 29) (.tmp 31) (.const (.bool true)) 41 rfl 3 4 lawI Try.underlying41 w1.heap.size i _ rfl (HS.out.alloc _) (by unfold maxLen; omega) _ (.int .i64 c) rfl (keyI (by omega) (by omega)) _ rfl ?_)
        intro W1 hS hg1
        have HS1 := Lib.hid (hS.congr (encS_put _ _))
        have HO1 := Lib.hid ((HO.out.alloc (.cells #[.int .i64 c, .int .i64 v] 29)).kept hg1 (by simp))
        have HB2 := Lib.hid (below_of (HB1.out.alloc HB1.out.size (.cells #[.int .i64 c, .int .i64 v] 29)) hg1 (fun k e => by cases e; exact HZ.out) (by have := HB1.out.size; simp; omega))
        have hX : W1.heap[wr.heap.size]? = some (.cells #[.int .i64 c, .int .i64 v] 29 (0, 0)) := (hg1.block _ (by simp) (by have := HZ1.out; simp; omega)).trans (heap_alloc_new _ _)
        have hc0 : W1.cell? ⟨wr.heap.size, 0, none⟩ = some (.int .i64 c) := E.blk_cell hX 0
        have hc1 : W1.cell? ⟨wr.heap.size, 1, none⟩ = some (.int .i64 v) := E.blk_cell hX 1
        have HX := Lib.hid hX
        have HZ2 := Lib.hid (show wr.heap.size + 1 ≤ W1.heap.size by have := hg1.size; simpa using this)
        clear hX hS hg1 HS HO HB1 HG
        go_wp2_with (first | (at_lookup; with_reducible refine E.halt ?_) | (at_mapUpdate; with_reducible refine E.halt ?_) | ((with_reducible refine E.gate 8 rfl ?_); with_reducible refine E.halt ?_) | ((with_reducible refine E.gateS 44 8 (.tmp 36) rfl ?_); with_reducible refine E.halt ?_) | ((with_reducible refine E.gate 48 rfl ?_); with_reducible refine E.halt ?_))
        refine E.Halt.go (wp_look rfl (.tmp 32) (.tmp 35) 42 rfl 3 44 lawI Try.underlying42 (aggV .i32 zeroB) (zeroBlk _) (w1.heap.size + 1) i _ rfl HO1.out _ (.int .i64 (c / 64)) (by rfl) (keyI (by omega) (by omega)) _ (encO_get _ _) ?_)
        go_wp2_with (first | (at_lookup; with_reducible refine E.halt ?_) | (at_mapUpdate; with_reducible refine E.halt ?_) | ((with_reducible refine E.gate 8 rfl ?_); with_reducible refine E.halt ?_) | ((with_reducible refine E.gateS 44 8 (.tmp 36) rfl ?_); with_reducible refine E.halt ?_) | ((with_reducible refine E.gate 48 rfl ?_); with_reducible refine E.halt ?_))
        refine E.Halt.go (E.ev_alloc rfl 44 rfl (zeroBlk _) ?_)
        intro gb W2 egb hgb hg2 hs2
        have HEG := Lib.hid egb
        clear egb
        have HGE := Lib.hid (show w1.heap.size + 2 ≤ gb by have := HZ1.out; have := HZ2.out; have := HEG.out; omega)
        go_wp2_with (first | (at_lookup; with_reducible refine E.halt ?_) | (at_mapUpdate; with_reducible refine E.halt ?_) | ((with_reducible refine E.gate 8 rfl ?_); with_reducible refine E.halt ?_) | ((with_reducible refine E.gateS 44 8 (.tmp 36) rfl ?_); with_reducible refine E.halt ?_) | ((with_reducible refine E.gate 48 rfl ?_); with_reducible refine E.halt ?_))
        obtain ⟨b, eb⟩ : ∃ b, b = (own (l.take i) (c / 64)).getD zeroB := ⟨_, rfl⟩
        rw [← eb]
        have hb : BOk b := eb ▸ HF.out.getD _
        have hb64 := hb.1
        refine E.Halt.go (E.ev_store_row rfl 44 (.tmp 8) (.tmp 36) rfl gb (cellsB b) (by rfl) (by rfl) 44 _ hgb (by rw [cellsB_size, hb64]; exact infoBsize) (by rw [cellsB_size, hb64]; rfl) (cellsB_one b) ?_)
        intro W3 hgb3 hg3 hs3
        have HEB := Lib.hid eb
        have HBK := Lib.hid hb
        have HO3 := Lib.hid ((HO1.out.kept hg2 (by simp)).kept hg3 (by have := HO1.out.lt; have := HEG.out; simp; omega))
        have HS3 := Lib.hid ((HS1.out.kept hg2 (by simp)).kept hg3 (by have := HS1.out.lt; have := HEG.out; simp; omega))
        have HB3 := Lib.hid (below_of (below_of HB2.out hg2 (by simp) HB2.out.size) hg3 (fun k e => by cases e; rw [HEG.out]; exact HB2.out.size) (by have := HB2.out.size; omega))
        have HX3 := Lib.hid (((hg3.block _ (by have := HZ2.out; omega) (by have := HZ2.out; have := HEG.out; simp; omega)).trans (hg2.block _ (by have := HZ2.out; omega) (by simp))).trans HX.out)
        have hc0 : W3.cell? ⟨wr.heap.size, 0, none⟩ = some (.int .i64 c) := E.blk_cell HX3.out 0
        have hc1 : W3.cell? ⟨wr.heap.size, 1, none⟩ = some (.int .i64 v) := E.blk_cell HX3.out 1
        have hj : c % 64 < 64 := by omega
        have hj0 : 0 ≤ c % 64 := by omega
        have HGB := Lib.hid hgb3
        have egb := HEG.out
        have HZ3 := Lib.hid (show W1.heap.size + 1 = W3.heap.size by omega)
        have hcj : W3.cell? ⟨gb, (c % 64).toNat, none⟩ = some (.int .i32 (b.getD (c % 64).toNat 0)) := (E.blk_cell hgb3 _).trans (cellsB_at b _ (by omega))
        have hfj : W3.frozen? ⟨gb, (c % 64).toNat, none⟩ = false := E.blk_frozen hgb3 _
        have hne : wr.heap.size ≠ gb := by have := HZ2.out; omega
        have hne' : gb ≠ wr.heap.size := fun e => hne e.symm
        clear hgb hgb3 hg2 hg3 hs2 hs3 egb hb hb64 eb HO1 HS1 HB2 HX
        go_wp2_with (first | (at_lookup; with_reducible refine E.halt ?_) | (at_mapUpdate; with_reducible refine E.halt ?_) | ((with_reducible refine E.gate 8 rfl ?_); with_reducible refine E.halt ?_) | ((with_reducible refine E.gateS 44 8 (.tmp 36) rfl ?_); with_reducible refine E.halt ?_) | ((with_reducible refine E.gate 48 rfl ?_); with_reducible refine E.halt ?_))
        obtain ⟨W4, e4⟩ : ∃ x, x = W3.setCell ⟨gb, (c % 64).toNat, none⟩ (.int .i32 v) := ⟨_, rfl⟩
        rw [← e4]
        have hg4 : W3.grownBy W4 (some gb) := e4 ▸ E.grown_setCell W3 ⟨gb, (c % 64).toNat, none⟩ _
        have hgb4 : W4.heap[gb]? = some (.cells (cellsB (b.set (c % 64).toNat v)) 44 (0, 0)) := by rw [← cellsB_set, e4]; exact E.setCell_at HGB.out _ _
        have hnb : newB (own (l.take i)) c v = b.set (c % 64).toNat v := by unfold newB; rw [← HEB.out]
        have hbk : BOk (b.set (c % 64).toNat v) := hnb ▸ HF.out.newB c v b3 b4
        have HO4 := Lib.hid (HO3.out.kept hg4 (by have := HGE.out; simp; omega))
        have HS4 := Lib.hid (HS3.out.kept hg4 (by have := HGE.out; simp; omega))
        have HB4 := Lib.hid (below_of HB3.out hg4 (fun k e => by cases e; have := HGE.out; have := HZ.out; omega) HB3.out.size)
        have HZ4 := Lib.hid (show w1.heap.size + 2 ≤ W4.heap.size by have := hg4.size; have := HZ3.out; have := HZ2.out; have := HZ1.out; omega)
        have HNB := Lib.hid hnb
        have HF4 := Lib.hid (HF.out.upd (c / 64) (HF.out.newB c v b3 b4))
        have HGB4 := Lib.hid hgb4
        have HBK4 := Lib.hid hbk
        clear hg4 hgb4 hnb hbk e4 HO3 HS3 HB3 HGB HBK HX3 hc0 hc1 hx0 hx1 hcj hfj
        refine E.Halt.go (wpList_load_row rfl 44 (.tmp 8) rfl gb rfl 44 (cellsB (b.set (c % 64).toNat v)) (0, 0) _ HGB4.out Try.underlying44 rfl (by rw [cellsB_size, HBK4.out.1]; exact infoBsize) ?_)
        go_wp2_with (first | (at_lookup; with_reducible refine E.halt ?_) | (at_mapUpdate; with_reducible refine E.halt ?_) | ((with_reducible refine E.gate 8 rfl ?_); with_reducible refine E.halt ?_) | ((with_reducible refine E.gateS 44 8 (.tmp 36) rfl ?_); with_reducible refine E.halt ?_) | ((with_reducible refine E.gate 48 rfl ?_); with_reducible refine E.halt ?_))
        refine E.Halt.go (wp_store rfl (.tmp 44) (.tmp 47) (.tmp 48) 42 rfl 3 44 lawI Try.underlying42 (w1.heap.size + 1) i _ rfl HO4.out (by unfold maxLen; omega) _ (.int .i64 (c / 64)) rfl (keyI (by omega) (by omega)) (aggV .i32 (b.set (c % 64).toNat v)) rfl ?_)
        intro W5 hO hg5
        have HO5 := Lib.hid (hO.congr (encO_put _ _ _))
        have HS5 := Lib.hid (HS4.out.kept hg5 (by simp))
        have HB5 := Lib.hid (below_of HB4.out hg5 (fun k e => by cases e; have := HZ.out; omega) HB4.out.size)
        have HZ5 := Lib.hid (show w1.heap.size + 2 ≤ W5.heap.size by have := hg5.size; have := HZ4.out; omega)
        clear hO hg5 HO4 HS4 HB4
        go_wp2
        go_roundw
        case rel =>
          have hcv := HCV.out
          have hg : l[i] = (c, v) := by rw [← hcv]; simp [List.getD_eq_getElem?_getD, List.getElem?_eq_getElem hlt]
          have ht : (l.take (i + 1)).map Prod.fst = (l.take i).map Prod.fst ++ [c] := by rw [List.take_succ_eq_append_getElem hlt, hg]; simp
          have ho := own_take l i hlt c v hcv
          rw [HNB.out] at ho
          refine ⟨i + 1, by omega, by go_num, ?_, ?_, ?_, ?_, HB5, HZ5⟩
          · rw [ht]; exact HS5
          · rw [ho]; exact HO5
          · rw [ho, ← HNB.out]; exact HF4
          · rw [ht]; exact Lib.hid (by rw [List.nodup_append]; exact ⟨HN.out, by simp, fun x hx y hy e => by simp at hy; subst hy; exact HM.out (e ▸ hx)⟩)
        case measure => simp [intOf]; omega
    · obtain rfl : i = l.length := by omega
      rw [List.take_length] at HS HO HF HN
      have hmm := @run_makeMap Try.prog
      have hd : decide (l.length < l.length) = false := by simp
      have HAT := Lib.hid (FM.alloc (FM.alloc (FM.made wr Try.prog 3) (.cells #[.slice none 0 0, .map (some wr.heap.size)] 48)) (.map #[] 0))
      have HO1 := Lib.hid (((HO.out.alloc (.map #[] 0)).alloc (.cells #[.slice none 0 0, .map (some wr.heap.size)] 48)).alloc (.map #[] 0))
      have HFD := Lib.hid (FM.made ((wr.alloc (.map #[] 0)).alloc (.cells #[.slice none 0 0, .map (some wr.heap.size)] 48)) Try.prog 44)
      have HB2 := Lib.hid (((HB1.out.alloc HB1.out.size (.map #[] 0)).alloc (by have := HB1.out.size; simp; omega) (.cells #[.slice none 0 0, .map (some wr.heap.size)] 48)).alloc (by have := HB1.out.size; simp; omega) (.map #[] 0))
      have HG := Lib.hid ((heap_alloc_old ((wr.alloc (.map #[] 0)).alloc (.cells #[.slice none 0 0, .map (some wr.heap.size)] 48)) (.map #[] 0) (wr.heap.size + 1) (by simp)).trans (heap_alloc2_new wr (.map #[] 0) (.cells #[.slice none 0 0, .map (some wr.heap.size)] 48)))
      go_wp2_with (first | (at_lookup; with_reducible refine E.halt ?_) | (at_mapUpdate; with_reducible refine E.halt ?_) | ((with_reducible refine E.gate 55 rfl ?_); with_reducible refine E.halt ?_) | ((with_reducible refine E.gate 62 rfl ?_); with_reducible refine E.halt ?_) | ((with_reducible refine E.gate 63 rfl ?_); with_reducible refine E.halt ?_) | ((with_reducible refine E.gate 64 rfl ?_); with_reducible refine E.halt ?_) | ((with_reducible refine E.gate 68 rfl ?_); with_reducible refine E.halt ?_) | ((with_reducible refine E.gate 70 rfl ?_); with_reducible refine E.halt ?_) | ((with_reducible refine E.gate 71 rfl ?_); with_reducible refine E.halt ?_))
      obtain ⟨Wa, ea⟩ : ∃ x, x = ((wr.alloc (.map #[] 0)).alloc (.cells #[.slice none 0 0, .map (some wr.heap.size)] 48)).alloc (.map #[] 0) := ⟨_, rfl⟩
      have HSA := Lib.hid (show Wa.heap.size = wr.heap.size + 3 by rw [ea]; simp)
      rw [← ea] at HAT HO1 HB2 HFD HG ⊢
      rw [show ((wr.alloc (.map #[] 0)).alloc (.cells #[.slice none 0 0, .map (some wr.heap.size)] 48)).heap.size = wr.heap.size + 2 by simp] at HFD
      clear ea hmm hd HS HO HB1
      refine E.Halt.go (wp_len rfl (.tmp 54) 42 rfl 3 44 Try.underlying42 (w1.heap.size + 1) l.length _ rfl HO1.out ?_)
      intro jn hjn
      have hd : decide (jn < 17412) = true := decide_eq_true (by omega)
      have hg0 : Wa.cell? ⟨wr.heap.size + 1, 0, none⟩ = some (.slice none 0 0) := E.blk_cell HG.out 0
      go_wp2_with (first | (at_lookup; with_reducible refine E.halt ?_) | (at_mapUpdate; with_reducible refine E.halt ?_) | ((with_reducible refine E.gate 55 rfl ?_); with_reducible refine E.halt ?_) | ((with_reducible refine E.gate 62 rfl ?_); with_reducible refine E.halt ?_) | ((with_reducible refine E.gate 63 rfl ?_); with_reducible refine E.halt ?_) | ((with_reducible refine E.gate 64 rfl ?_); with_reducible refine E.halt ?_) | ((with_reducible refine E.gate 68 rfl ?_); with_reducible refine E.halt ?_) | ((with_reducible refine E.gate 70 rfl ?_); with_reducible refine E.halt ?_) | ((with_reducible refine E.gate 71 rfl ?_); with_reducible refine E.halt ?_))
      refine E.Halt.go (E.ev_zero rfl 44 rfl _ builtB ?_)
      go_wp2_with (first | (at_lookup; with_reducible refine E.halt ?_) | (at_mapUpdate; with_reducible refine E.halt ?_) | ((with_reducible refine E.gate 55 rfl ?_); with_reducible refine E.halt ?_) | ((with_reducible refine E.gate 62 rfl ?_); with_reducible refine E.halt ?_) | ((with_reducible refine E.gate 63 rfl ?_); with_reducible refine E.halt ?_) | ((with_reducible refine E.gate 64 rfl ?_); with_reducible refine E.halt ?_) | ((with_reducible refine E.gate 68 rfl ?_); with_reducible refine E.halt ?_) | ((with_reducible refine E.gate 70 rfl ?_); with_reducible refine E.halt ?_) | ((with_reducible refine E.gate 71 rfl ?_); with_reducible refine E.halt ?_))
      refine E.Halt.go (E.ev_one rfl 46 44 (.tmp 62) rfl 64 (aggV .i32 zeroB) (aggV .i32 zeroB) 256 Try.underlying46 infoB (by rfl) (by omega) (by omega) rfl (by rfl) ?_)
      intro gz Wb egz hgz hgb hsb
      have HEZ := Lib.hid egz
      have HGZ := Lib.hid hgz
      clear egz hgz
      obtain ⟨iB, hiB, hB0, hB1, hB2⟩ := info_parts infoB
      go_wp2_with (first | (at_lookup; with_reducible refine E.halt ?_) | (at_mapUpdate; with_reducible refine E.halt ?_) | ((with_reducible refine E.gate 55 rfl ?_); with_reducible refine E.halt ?_) | ((with_reducible refine E.gate 62 rfl ?_); with_reducible refine E.halt ?_) | ((with_reducible refine E.gate 63 rfl ?_); with_reducible refine E.halt ?_) | ((with_reducible refine E.gate 64 rfl ?_); with_reducible refine E.halt ?_) | ((with_reducible refine E.gate 68 rfl ?_); with_reducible refine E.halt ?_) | ((with_reducible refine E.gate 70 rfl ?_); with_reducible refine E.halt ?_) | ((with_reducible refine E.gate 71 rfl ?_); with_reducible refine E.halt ?_))
      refine E.Halt.go (wpList_append_lies _ rfl (.tmp 61) (.tmp 63) 46 rfl (wr.heap.size + 3) 44 iB (aggV .i32 zeroB) 64 256 Try.underlying46 hiB hB0 hB1 hB2 (by rfl) (by omega) (.slice none 0 0) 0 [] rfl (World.ownsRow_nil _ _ _ _) ⟨gz, 0, none⟩ 1 1 (cellsB zeroB).toList rfl (by rfl) (World.news_of_block HGZ.out) (fun u hu => by simp only [cellsB, List.mem_map] at hu; obtain ⟨x, -, rfl⟩ := hu; rfl) (by omega) (by decide) (by omega) (by have := HSA.out; omega) Wb.heap.size rfl ?_)
      intro ga cap Wc hown hgc hat hgl
      have HGA := Lib.hid (show ga = Wb.heap.size from hat.elim (fun h => by cases h) id)
      have HOW := Lib.hid hown
      have hbc := below_of (below_of HB2.out hgb (by simp) HB2.out.size) hgc (by intro k e; cases e) (by have := HB2.out.size; have := hgb.size; omega)
      have HBC := Lib.hid hbc
      have HATc := Lib.hid ((HAT.out.kept hgb (by simp)).kept hgc (by intro h; cases h))
      have HOc := Lib.hid ((HO1.out.kept hgb (by simp)).kept hgc (by intro h; cases h))
      have HFc := Lib.hid ((HFD.out.kept hgb (by simp)).kept hgc (by intro h; cases h))
      have hGc : Wc.heap[wr.heap.size + 1]? = some (.cells #[.slice none 0 0, .map (some wr.heap.size)] 48 (0, 0)) := ((hgc.block _ (by have := HSA.out; have := hgb.size; omega) (by intro h; cases h)).trans (hgb.block _ (by have := HSA.out; omega) (by simp))).trans HG.out
      have hc0 : Wc.cell? ⟨wr.heap.size + 1, 0, none⟩ = some (.slice none 0 0) := E.blk_cell hGc 0
      have hf0 : Wc.frozen? ⟨wr.heap.size + 1, 0, none⟩ = false := E.blk_frozen hGc 0
      have HGc := Lib.hid hGc
      have HSB := Lib.hid (show Wb.heap.size = wr.heap.size + 4 by have := HSA.out; omega)
      have HGL := Lib.hid hgl
      clear hown hgc hat hgl hbc hGc hgb hsb HAT HO1 HFD HB2 HG HGZ HEZ hg0 hjn
      go_wp2_with (first | (at_lookup; with_reducible refine E.halt ?_) | (at_mapUpdate; with_reducible refine E.halt ?_) | ((with_reducible refine E.gate 55 rfl ?_); with_reducible refine E.halt ?_) | ((with_reducible refine E.gate 62 rfl ?_); with_reducible refine E.halt ?_) | ((with_reducible refine E.gate 63 rfl ?_); with_reducible refine E.halt ?_) | ((with_reducible refine E.gate 64 rfl ?_); with_reducible refine E.halt ?_) | ((with_reducible refine E.gate 68 rfl ?_); with_reducible refine E.halt ?_) | ((with_reducible refine E.gate 70 rfl ?_); with_reducible refine E.halt ?_) | ((with_reducible refine E.gate 71 rfl ?_); with_reducible refine E.halt ?_))
      obtain ⟨Wd, ed⟩ : ∃ x, x = Wc.setCell ⟨wr.heap.size + 1, 0, none⟩ (.slice (some ⟨ga, 0, none⟩) 1 cap) := ⟨_, rfl⟩
      rw [← ed]
      have hgd : Wc.grownBy Wd (some (wr.heap.size + 1)) := ed ▸ E.grown_setCell Wc ⟨wr.heap.size + 1, 0, none⟩ _
      have HGd := Lib.hid (show Wd.heap[wr.heap.size + 1]? = some (.cells #[.slice (some ⟨ga, 0, none⟩) 1 cap, .map (some wr.heap.size)] 48 (0, 0)) by rw [ed]; exact E.setCell_at HGc.out 0 _)
      have HOWd := Lib.hid (HOW.out.kept hgd (.inr (by have := HGA.out; have := HSB.out; intro h; simp [Value.ownBlock] at h; omega)))
      have HATd := Lib.hid (HATc.out.kept hgd (by simp))
      have HOd := Lib.hid (HOc.out.kept hgd (by have := HZ1.out; simp; omega))
      have HFd := Lib.hid (HFc.out.kept hgd (by simp))
      have HBd := Lib.hid (below_of HBC.out hgd (fun k e => by cases e; have := HZ.out; have := HZ1.out; omega) HBC.out.size)
      have HSd := Lib.hid (show Wc.heap.size ≤ Wd.heap.size from hgd.size)
      clear ed hgd HOW HATc HOc HFc HBC HGc hc0 hf0
      refine E.Halt.go (E.ev_zero rfl 44 rfl _ builtB ?_)
      go_wp2_with (first | (at_lookup; with_reducible refine E.halt ?_) | (at_mapUpdate; with_reducible refine E.halt ?_) | ((with_reducible refine E.gate 55 rfl ?_); with_reducible refine E.halt ?_) | ((with_reducible refine E.gate 62 rfl ?_); with_reducible refine E.halt ?_) | ((with_reducible refine E.gate 63 rfl ?_); with_reducible refine E.halt ?_) | ((with_reducible refine E.gate 64 rfl ?_); with_reducible refine E.halt ?_) | ((with_reducible refine E.gate 68 rfl ?_); with_reducible refine E.halt ?_) | ((with_reducible refine E.gate 70 rfl ?_); with_reducible refine E.halt ?_) | ((with_reducible refine E.gate 71 rfl ?_); with_reducible refine E.halt ?_))
      refine E.Halt.go (wp_store rfl (.tmp 67) (.tmp 68) (.const (.int .i64 0)) 49 rfl 44 3 lawB Try.underlying49 (wr.heap.size + 2) 0 _ (by rfl) HFd.out (by decide) (aggV .i32 zeroB) (klOf zeroB) (by rfl) (keyB zeroB_ok) _ rfl ?_)
      intro We hF hge
      have HFe := Lib.hid (hF.congr (m' := encF [zeroB]) (fun kl => by
        have h1 := encF_put (B := []) (by simp) zeroB_ok rfl kl
        rw [List.nil_append, List.length_nil] at h1
        rw [← h1]
        unfold M.put
        by_cases e : kl = klOf zeroB
        · rw [if_pos e, if_pos e]; rfl
        · rw [if_neg e, if_neg e]; rfl))
      have HGe := Lib.hid ((hge.block _ (E.blk_lt HGd.out) (by simp)).trans HGd.out)
      have HOWe := Lib.hid (HOWd.out.kept hge (.inr (by have := HGA.out; have := HSB.out; intro h; simp [Value.ownBlock] at h; omega)))
      have HATe := Lib.hid (HATd.out.kept hge (by simp))
      have HOe := Lib.hid (HOd.out.kept hge (by have := HZ1.out; simp; omega))
      have HBe := Lib.hid (below_of HBd.out hge (fun k e => by cases e; have := HZ.out; have := HZ1.out; omega) HBd.out.size)
      have HSe := Lib.hid (show Wd.heap.size ≤ We.heap.size from hge.size)
      clear hF hge HFd HGd HOWd HATd HOd HBd
      go_wp2_with (first
        | (go_at_call 19; refine (keysO_calls _ _).mono ?_; rintro e w' ⟨rfl, rfl⟩)
        | (go_at_call 18; refine (sortedO_calls We.heap.size (w1.heap.size + 1) l.length _ _ (E.blk_cell (heap_alloc_new We (.cells #[.map (some (w1.heap.size + 1))] 42)) 0) (HOe.out.alloc _) (by omega)).mono ?_; rintro e w' ⟨v, ks, rfl, hrise, hmem, hrow, hnil, hbk⟩; have HK1 := Lib.hid hrise; have HK2 := Lib.hid hmem; have HK3 := Lib.hid hrow; have HK4 := Lib.hid hnil; have HK5 := Lib.hid hbk; obtain ⟨Ak, ck, ev, hcells⟩ := row_keys hrow; subst ev; have HK6 := Lib.hid hcells; clear hcells hrise hmem hrow hnil hbk))
      obtain ⟨wo, rfl⟩ : ∃ x : World, x = wr := ⟨_, rfl⟩
      have hsb : We.heap.size ≤ w'.heap.size := by have := HK5.out.size; simp at this; omega
      have hSz : wo.heap.size + 4 ≤ We.heap.size := by have := HGA.out; have := HSe.out; have := HSd.out; have := HSB.out; have := HGL.out; omega
      have hbw : Below We.heap.size We w' := ((Below.refl _ We).alloc (Nat.le_refl _) (.cells #[.map (some (w1.heap.size + 1))] 42)).trans (HK5.out.mono (by simp))
      have HGw := Lib.hid ((hbw.block _ (by omega)).trans HGe.out)
      have HOWw := Lib.hid (row_below HOWe.out hbw (fun k e => by simp [Value.ownBlock] at e; have := HGL.out; have := HSe.out; have := HSd.out; omega))
      have HATw := Lib.hid (HATe.out.below hbw (by omega))
      have HOw := Lib.hid (HOe.out.below hbw (by have := HZ1.out; omega))
      have HFw := Lib.hid (HFe.out.below hbw (by omega))
      have HBw := Lib.hid (HBe.out.trans (hbw.mono (by have := HBe.out.size; omega)))
      have HGAw := Lib.hid (show ga < We.heap.size by have := HGL.out; have := HSe.out; have := HSd.out; omega)
      have HSw := Lib.hid hSz
      have HSw' := Lib.hid hsb
      have HZb := Lib.hid (show BOk zeroB from zeroB_ok)
      have hkl : ks.length ≤ 17412 := by
        have := rising_length 17412 ks 0 HK1.out (fun x hx => by
          have h1 := (HK2.out x).1 hx
          have h2 := own_range HOK.out (i := x) (by simpa [encO] using h1)
          omega)
        omega
      clear hsb hSz hbw HGe HOWe HATe HOe HFe HBe HK3 HK4 hd
      go_loopw [73] (fun v73 wq => ∃ (k : Nat) (B : List (List Int)) (at_ : Int → Option Nat) (gq cq : Nat), k ≤ ks.length ∧ v73 = .int .i64 k ∧ Hid ((ks.take k).foldl (tstep (own l)) t0 = (B, at_)) ∧
        Hid (wq.heap[wo.heap.size + 1]? = some (.cells #[.slice (some ⟨gq, 0, none⟩) B.length cq, .map (some wo.heap.size)] 48 (0, 0))) ∧ Hid (wq.ownsRow (wo.heap.size + 3) 44 64 (.slice (some ⟨gq, 0, none⟩) B.length cq) B.length (flat B)) ∧
        Hid (FM wq Try.prog 3 wo.heap.size k (encA at_)) ∧ Hid (FM wq Try.prog 3 (w1.heap.size + 1) l.length (encO (own l))) ∧ Hid (FM wq Try.prog 44 (wo.heap.size + 2) (k + 1) (encF B)) ∧ Hid (∀ b ∈ B, BOk b) ∧ Hid (B.length ≤ k + 1) ∧
        Hid (∀ j, j < ks.length → ∃ gk, Ak = some ⟨gk, 0, none⟩ ∧ gk ≠ gq ∧ wo.heap.size + 3 ≤ gk ∧ gk < wq.heap.size ∧ wq.cell? ⟨gk, j, none⟩ = some (.int .i64 (ks.getD j 0))) ∧ Hid (Below w.heap.size w wq) ∧ Hid (wo.heap.size + 4 ≤ wq.heap.size) ∧ Hid (0 < B.length)) (fun v73 _ => ks.length - (intOf v73).toNat)
      case atStart =>
        refine ⟨0, [zeroB], fun _ => none, ga, cap, Nat.zero_le _, rfl, Lib.hid rfl, HGw, ?_, ?_, HOw, HFw, Lib.hid (by intro b hb; simp at hb; subst hb; exact zeroB_ok), Lib.hid (by simp), Lib.hid ?_, HBw, Lib.hid (by have := HSw.out; have := HSw'.out; omega), Lib.hid (by simp)⟩
        · exact Lib.hid (by have := HOWw.out; simpa [flat, cellsB] using this)
        · exact Lib.hid (HATw.out.congr (fun kl => by cases kl with | int k x => cases k <;> rfl | _ => rfl))
        · intro j hj
          obtain ⟨gk, e1, e2, e3⟩ := HK6.out j hj
          simp at e2
          exact ⟨gk, e1, by have := HGAw.out; omega, by have := HSw.out; omega, World.block_lt_of_cell? _ _ e3, e3⟩
      case round =>
        clear HGw HOWw HATw HOw HFw HBw HGAw HK5 HK6 HSe HSd HGL HGA HSB HSA
        obtain ⟨k, B, at_, gq, cq, hk, rfl, HT, HG, HW, HAT, HO, HF1, HBO, HBL, HKC, HB2, HS2, HP⟩ := hrel
        by_cases hlt2 : k < ks.length
        · obtain ⟨gk, eA, hne, hge3, hgl3, hck⟩ := HKC.out k hlt2
          subst eA
          obtain ⟨x, ex⟩ : ∃ x, x = ks.getD k 0 := ⟨_, rfl⟩
          rw [← ex] at hck
          have HX := Lib.hid ex
          have hown : (own l x).isSome = true := by
            have h1 := (HK2.out x).1 (by rw [ex, List.getD_eq_getElem?_getD, List.getElem?_eq_getElem hlt2]; exact List.getElem_mem _)
            simpa [encO] using h1
          obtain ⟨b, eb⟩ := Option.isSome_iff_exists.1 hown
          have hb : BOk b := HF.out x b eb
          have HEB := Lib.hid eb
          have HBK := Lib.hid hb
          have hwx : (Lit.int .i64 x).wf = true := by have := own_range HOK.out hown; exact WalkArith.wf_i64 ⟨by omega, by omega⟩
          have HWX := Lib.hid hwx
          have hg0 : wr.cell? ⟨wo.heap.size + 1, 0, none⟩ = some (.slice (some ⟨gq, 0, none⟩) B.length cq) := E.blk_cell HG.out 0
          have hg1 : wr.cell? ⟨wo.heap.size + 1, 1, none⟩ = some (.map (some wo.heap.size)) := E.blk_cell HG.out 1
          have HNE := Lib.hid hne
          clear ex eb hb hwx hown hne hge3 hgl3
          cases hpl : place B b with
          | some j =>
            go_wp2_with (first | (at_lookup; with_reducible refine E.halt ?_) | (at_mapUpdate; with_reducible refine E.halt ?_) | ((with_reducible refine E.gate 55 rfl ?_); with_reducible refine E.halt ?_) | ((with_reducible refine E.gate 62 rfl ?_); with_reducible refine E.halt ?_) | ((with_reducible refine E.gate 63 rfl ?_); with_reducible refine E.halt ?_) | ((with_reducible refine E.gate 64 rfl ?_); with_reducible refine E.halt ?_) | ((with_reducible refine E.gate 68 rfl ?_); with_reducible refine E.halt ?_) | ((with_reducible refine E.gate 70 rfl ?_); with_reducible refine E.halt ?_) | ((with_reducible refine E.gate 71 rfl ?_); with_reducible refine E.halt ?_))
            refine E.Halt.go (wp_look rfl (.tmp 79) (.tmp 80) 42 rfl 3 44 lawI Try.underlying42 (aggV .i32 zeroB) (zeroBlk _) (w1.heap.size + 1) l.length _ rfl HO.out _ (.int .i64 x) rfl (keyOf_int_mk Try.underlying3 HWX.out) (aggV .i32 b) (by rw [encO_get, HEB.out]; rfl) ?_)
            go_wp2_with (first | (at_lookup; with_reducible refine E.halt ?_) | (at_mapUpdate; with_reducible refine E.halt ?_) | ((with_reducible refine E.gate 55 rfl ?_); with_reducible refine E.halt ?_) | ((with_reducible refine E.gate 62 rfl ?_); with_reducible refine E.halt ?_) | ((with_reducible refine E.gate 63 rfl ?_); with_reducible refine E.halt ?_) | ((with_reducible refine E.gate 64 rfl ?_); with_reducible refine E.halt ?_) | ((with_reducible refine E.gate 68 rfl ?_); with_reducible refine E.halt ?_) | ((with_reducible refine E.gate 70 rfl ?_); with_reducible refine E.halt ?_) | ((with_reducible refine E.gate 71 rfl ?_); with_reducible refine E.halt ?_))
            refine E.Halt.go (wp_look_ok rfl (.tmp 78) (.tmp 81) 49 rfl 44 3 lawB Try.underlying49 (.int .i64 0) (zeroInt _) (wo.heap.size + 2) (k + 1) _ (by rfl) HF1.out (aggV .i32 b) (klOf b) rfl (keyB HBK.out) (.int .i64 (j : Int)) true (by rw [encF_at HBO.out HBK.out, hpl]; rfl) (by rw [encF_at HBO.out HBK.out, hpl]; rfl) ?_)
            go_wp2_with (first | (at_lookup; with_reducible refine E.halt ?_) | (at_mapUpdate; with_reducible refine E.halt ?_) | ((with_reducible refine E.gate 55 rfl ?_); with_reducible refine E.halt ?_) | ((with_reducible refine E.gate 62 rfl ?_); with_reducible refine E.halt ?_) | ((with_reducible refine E.gate 63 rfl ?_); with_reducible refine E.halt ?_) | ((with_reducible refine E.gate 64 rfl ?_); with_reducible refine E.halt ?_) | ((with_reducible refine E.gate 68 rfl ?_); with_reducible refine E.halt ?_) | ((with_reducible refine E.gate 70 rfl ?_); with_reducible refine E.halt ?_) | ((with_reducible refine E.gate 71 rfl ?_); with_reducible refine E.halt ?_))
            refine E.Halt.go (wp_store rfl (.tmp 112) (.tmp 113) (.tmp 114) 45 rfl 3 3 lawI Try.underlying45 wo.heap.size k _ rfl HAT.out (by unfold maxLen; omega) (.int .i64 x) (.int .i64 x) rfl (keyOf_int_mk Try.underlying3 HWX.out) _ rfl ?_)
            intro W9 hA9 hg9
            have HA9 := Lib.hid (hA9.congr (encA_put _ _ _))
            have HT9 := Lib.hid (tfold_take (own l) ks k hlt2)
            have HPL := Lib.hid hpl
            have HG9 := Lib.hid ((hg9.block _ (E.blk_lt HG.out) (by simp)).trans HG.out)
            have HW9 := Lib.hid (HW.out.kept hg9 (.inr (by intro h; have := (HW.out.lt _ h).1; simp [Value.ownBlock] at h; omega)))
            have HO9 := Lib.hid (HO.out.kept hg9 (by have := HZ1.out; simp; omega))
            have HF9 := Lib.hid ((HF1.out.kept hg9 (by simp)).mono (Nat.le_succ _))
            have HB9 := Lib.hid (below_of HB2.out hg9 (fun k e => by cases e; have := HZ.out; have := HZ1.out; omega) HB2.out.size)
            have HS9 := Lib.hid (show wo.heap.size + 4 ≤ W9.heap.size by have := hg9.size; have := HS2.out; omega)
            have HKC9 := Lib.hid (show ∀ j, j < ks.length → ∃ gk', some (⟨gk, 0, none⟩ : Addr) = some ⟨gk', 0, none⟩ ∧ gk' ≠ gq ∧ wo.heap.size + 3 ≤ gk' ∧ gk' < W9.heap.size ∧ W9.cell? ⟨gk', j, none⟩ = some (.int .i64 (ks.getD j 0)) from fun j hj => by
              obtain ⟨gk', e1, e2, e3, e4, e5⟩ := HKC.out j hj
              exact ⟨gk', e1, e2, e3, Nat.lt_of_lt_of_le e4 hg9.size, (World.cell?_of_block (hg9.block _ e4 (by simp; omega))).trans e5⟩)
            clear hA9 hg9 hpl HG HW HO HF1 HAT HKC HB2 HS2 hg0 hg1 hck
            go_wp2
            go_roundw
            case rel =>
              refine ⟨k + 1, B, updA at_ x j, gq, cq, by omega, by go_num, ?_, HG9, HW9, HA9, HO9, HF9, HBO, Lib.hid (by have := HBL.out; omega), HKC9, HB9, HS9, HP⟩
              refine Lib.hid ?_
              rw [HT9.out, HT.out, ← HX.out]
              unfold tstep
              rw [HEB.out]
              simp only [Option.getD_some]
              rw [HPL.out]
            case measure => simp [intOf]; omega
          | none =>
            go_wp2_with (first | (at_lookup; with_reducible refine E.halt ?_) | (at_mapUpdate; with_reducible refine E.halt ?_) | ((with_reducible refine E.gate 55 rfl ?_); with_reducible refine E.halt ?_) | ((with_reducible refine E.gate 62 rfl ?_); with_reducible refine E.halt ?_) | ((with_reducible refine E.gate 63 rfl ?_); with_reducible refine E.halt ?_) | ((with_reducible refine E.gate 64 rfl ?_); with_reducible refine E.halt ?_) | ((with_reducible refine E.gate 68 rfl ?_); with_reducible refine E.halt ?_) | ((with_reducible refine E.gate 70 rfl ?_); with_reducible refine E.halt ?_) | ((with_reducible refine E.gate 71 rfl ?_); with_reducible refine E.halt ?_))
            refine E.Halt.go (wp_look rfl (.tmp 79) (.tmp 80) 42 rfl 3 44 lawI Try.underlying42 (aggV .i32 zeroB) (zeroBlk _) (w1.heap.size + 1) l.length _ rfl HO.out _ (.int .i64 x) rfl (keyOf_int_mk Try.underlying3 HWX.out) (aggV .i32 b) (by rw [encO_get, HEB.out]; rfl) ?_)
            go_wp2_with (first | (at_lookup; with_reducible refine E.halt ?_) | (at_mapUpdate; with_reducible refine E.halt ?_) | ((with_reducible refine E.gate 55 rfl ?_); with_reducible refine E.halt ?_) | ((with_reducible refine E.gate 62 rfl ?_); with_reducible refine E.halt ?_) | ((with_reducible refine E.gate 63 rfl ?_); with_reducible refine E.halt ?_) | ((with_reducible refine E.gate 64 rfl ?_); with_reducible refine E.halt ?_) | ((with_reducible refine E.gate 68 rfl ?_); with_reducible refine E.halt ?_) | ((with_reducible refine E.gate 70 rfl ?_); with_reducible refine E.halt ?_) | ((with_reducible refine E.gate 71 rfl ?_); with_reducible refine E.halt ?_))
            refine E.Halt.go (wp_look_ok rfl (.tmp 78) (.tmp 81) 49 rfl 44 3 lawB Try.underlying49 (.int .i64 0) (zeroInt _) (wo.heap.size + 2) (k + 1) _ (by rfl) HF1.out (aggV .i32 b) (klOf b) rfl (keyB HBK.out) (.int .i64 0) false (by rw [encF_at HBO.out HBK.out, hpl]; rfl) (by rw [encF_at HBO.out HBK.out, hpl]; rfl) ?_)
            go_wp2_with (first | (at_lookup; with_reducible refine E.halt ?_) | (at_mapUpdate; with_reducible refine E.halt ?_) | ((with_reducible refine E.gate 55 rfl ?_); with_reducible refine E.halt ?_) | ((with_reducible refine E.gate 62 rfl ?_); with_reducible refine E.halt ?_) | ((with_reducible refine E.gate 63 rfl ?_); with_reducible refine E.halt ?_) | ((with_reducible refine E.gate 64 rfl ?_); with_reducible refine E.halt ?_) | ((with_reducible refine E.gate 68 rfl ?_); with_reducible refine E.halt ?_) | ((with_reducible refine E.gate 70 rfl ?_); with_reducible refine E.halt ?_) | ((with_reducible refine E.gate 71 rfl ?_); with_reducible refine E.halt ?_))
            refine start_ (n := 13) (ds := [12]) (S := fun W => W.cell? ⟨wo.heap.size + 1, 0, none⟩ = some (.slice (some ⟨gq, 0, none⟩) B.length cq) ∧ FM W Try.prog 3 (w1.heap.size + 1) l.length (encO (own l))) #[false,false,false,false,false,false,false,false,false,false,false,false,false] rfl rfl rfl ⟨hg0, HO.out⟩ ?_
            intro hHeld
            refine pure_ (i := 0) (N := some 92) (v := ?_) (a' := ?_) #[true,false,false,false,false,false,false,false,false,false,false,false,false] rfl rfl (by kernel_rfl) (fun _ _ _ h => h) (Or.inl ⟨by rfl, ?_⟩) ?_ ?_
            rotate_left
            · intro w_
              go_simp
              with_reducible rfl
            rotate_left
            · simp only [Act.put, List.setIfInBounds_toArray, List.set_cons_zero, List.set_cons_succ]
              rfl
            refine pure_ (i := 1) (N := some 93) (v := ?_) (a' := ?_) #[true,true,false,false,false,false,false,false,false,false,false,false,false] rfl rfl (by kernel_rfl) (fun _ _ _ h => h) (Or.inl ⟨by rfl, ?_⟩) ?_ ?_
            rotate_left
            · intro w_
              go_simp
              with_reducible rfl
            rotate_left
            · simp only [Act.put, List.setIfInBounds_toArray, List.set_cons_zero, List.set_cons_succ]
              rfl
            refine pure_ (i := 2) (N := some 94) (v := ?_) (a' := ?_) #[true,true,true,false,false,false,false,false,false,false,false,false,false] rfl rfl (by kernel_rfl) (fun _ _ _ h => h) (Or.inl ⟨by rfl, ?_⟩) ?_ ?_
            rotate_left
            · intro w_
              go_simp
              with_reducible rfl
            rotate_left
            · simp only [Act.put, List.setIfInBounds_toArray, List.set_cons_zero, List.set_cons_succ]
              rfl
            refine pure_ (i := 3) (N := some 95) (v := ?_) (a' := ?_) #[true,true,true,true,false,false,false,false,false,false,false,false,false] rfl rfl (by kernel_rfl) (fun _ _ _ h => h) (Or.inl ⟨by rfl, ?_⟩) ?_ ?_
            rotate_left
            · intro w_
              go_simp
              with_reducible rfl
            rotate_left
            · simp only [Act.put, List.setIfInBounds_toArray, List.set_cons_zero, List.set_cons_succ]
              rfl
            refine take_ (i := 4) (N := some 96) (v := ?_) (a' := ?_) #[true,true,true,true,true,false,false,false,false,false,false,false,false] rfl rfl (by kernel_rfl) (fun _ _ _ h => h) (Or.inl ⟨by rfl, ?_⟩) hHeld ?_ ?_
            rotate_left
            · rintro w_ ⟨s0, s1⟩
              go_simp
              with_reducible rfl
            rotate_left
            · simp only [Act.put, List.setIfInBounds_toArray, List.set_cons_zero, List.set_cons_succ]
              rfl
            refine pure_ (i := 5) (N := some 97) (v := ?_) (a' := ?_) #[true,true,true,true,true,true,false,false,false,false,false,false,false] rfl rfl (by kernel_rfl) (fun _ _ _ h => h) (Or.inl ⟨by rfl, ?_⟩) ?_ ?_
            rotate_left
            · intro w_
              go_simp
              with_reducible rfl
            rotate_left
            · simp only [Act.put, List.setIfInBounds_toArray, List.set_cons_zero, List.set_cons_succ]
              rfl
            refine pure_ (i := 6) (N := some 98) (v := ?_) (a' := ?_) #[true,true,true,true,true,true,true,false,false,false,false,false,false] rfl rfl (by kernel_rfl) (fun _ _ _ h => h) (Or.inl ⟨by rfl, ?_⟩) ?_ ?_
            rotate_left
            · intro w_
              go_simp
              with_reducible rfl
            rotate_left
            · simp only [Act.put, List.setIfInBounds_toArray, List.set_cons_zero, List.set_cons_succ]
              rfl
            refine take_ (i := 7) (N := some 99) (v := ?_) (a' := ?_) #[true,true,true,true,true,true,true,true,false,false,false,false,false] rfl rfl (by kernel_rfl) (fun _ _ _ h => h) (Or.inl ⟨by rfl, ?_⟩) hHeld ?_ ?_
            rotate_left
            · rintro w_ ⟨s0, s1⟩
              have hrun := s1.look lawI Try.underlying42 (zeroBlk _) (key := .int .i64 x) (keyOf_int_mk Try.underlying3 HWX.out)
              rw [encO_get, HEB.out, Option.getD_some] at hrun
              go_simp
              with_reducible rfl
            rotate_left
            · simp only [Act.put, List.setIfInBounds_toArray, List.set_cons_zero, List.set_cons_succ]
              rfl
            obtain ⟨wD, eD⟩ : ∃ q, q = wr.drew := ⟨_, rfl⟩
            have hgD : wr.grownBy wD none := eD ▸ ⟨rfl, rfl, rfl, Nat.le_refl _, fun _ _ _ => rfl⟩
            have hsD : wD.heap.size = wr.heap.size := by rw [eD]; rfl
            rw [← eD]
            refine one_ (i := 8) (N := some 100) #[true,true,true,true,true,true,true,true,true,false,false,false,false] rfl rfl (by kernel_rfl) (by decide) (fun K hK => ?_)
            refine E.st_one rfl (N := some 100) rfl 46 44 (.tmp 99) rfl 64 (aggV .i32 zeroB) (aggV .i32 b) 256 Try.underlying46 infoB (by rfl) (by omega) (by omega) rfl (by show (cellsB b).size = 64; rw [cellsB_size, HBK.out.1]) ?_
            intro gn wE egn hgn hgE hsE
            refine hK.out _ _ ⟨(World.cell?_of_block (hgE.block _ (by rw [hsD]; exact E.blk_lt HG.out) (by simp))).trans ((World.cell?_of_block (hgD.block _ (E.blk_lt HG.out) (by simp))).trans hg0), (HO.out.kept hgD (by simp)).kept hgE (by simp)⟩ (fun hHeld2 => ?_)
            clear hK
            refine norm_ (a' := ?_) ?_ ?_
            rotate_left
            · simp only [Act.put, List.setIfInBounds_toArray, List.set_cons_zero, List.set_cons_succ]
              rfl
            obtain ⟨iB, hiB, hB0, hB1, hB2⟩ := info_parts infoB
            refine one_ (i := 9) (N := some 101) #[true,true,true,true,true,true,true,true,true,true,false,false,false] rfl rfl (by kernel_rfl) (by decide) (fun K hK => ?_)
            refine step_append_lies _ rfl (.tmp 96) (.tmp 100) 46 rfl (wo.heap.size + 3) 44 iB (aggV .i32 zeroB) 64 256 Try.underlying46 hiB hB0 hB1 hB2 (by rfl) (by omega) (.slice (some ⟨gq, 0, none⟩) B.length cq) B.length (flat B) rfl ((HW.out.kept hgD (.inr (by simp [Value.ownBlock]))).kept hgE (.inr (by simp [Value.ownBlock]))) ⟨gn, 0, none⟩ 1 1 (cellsB b).toList rfl (by simp [cellsB_size, HBK.out.1]) (World.news_of_block hgn) (fun u hu => by simp only [cellsB, List.mem_map] at hu; obtain ⟨x, -, rfl⟩ := hu; rfl) (by omega) (by have := HBL.out; unfold maxLen; omega) (by have := HBL.out; omega) (by have := HS2.out; omega) wE.heap.size rfl ?_
            intro gz cz wF hwF hgF hat hlz
            have hgq := (HW.out.lt gq rfl).1
            have hGF : wF.heap[wo.heap.size + 1]? = some (.cells #[.slice (some ⟨gq, 0, none⟩) B.length cq, .map (some wo.heap.size)] 48 (0, 0)) := ((hgF.block _ (by have := hgE.size; have := hgD.size; have := HS2.out; omega) (by simp [Value.ownBlock]; omega)).trans ((hgE.block _ (by have := hgD.size; have := HS2.out; omega) (by simp)).trans (hgD.block _ (by have := HS2.out; omega) (by simp)))).trans HG.out
            have HGF := Lib.hid hGF
            have hFM2 := ((HO.out.kept hgD (by simp)).kept hgE (by simp)).kept hgF (by have := HZ1.out; simp [Value.ownBlock]; omega)
            refine hK.out _ _ ⟨E.blk_cell hGF 0, hFM2⟩ (fun hHeld3 => ?_)
            have HFM2 := Lib.hid hFM2
            clear hK hHeld hHeld2 hGF hFM2
            refine norm_ (a' := ?_) ?_ ?_
            rotate_left
            · simp only [Act.put, List.getElem_toArray, List.getElem_cons_succ, List.getElem_cons_zero, List.setIfInBounds_toArray, List.set_cons_zero, List.set_cons_succ]
              rfl
            refine pure_ (i := 10) (N := some 102) (v := ?_) (a' := ?_) #[true,true,true,true,true,true,true,true,true,true,true,false,false] rfl rfl (by kernel_rfl) (fun _ _ _ h => h) (Or.inl ⟨by rfl, ?_⟩) ?_ ?_
            rotate_left
            · intro w_
              go_simp
              with_reducible rfl
            rotate_left
            · simp only [Act.put, List.setIfInBounds_toArray, List.set_cons_zero, List.set_cons_succ]
              rfl
            refine pure_ (i := 11) (N := some 103) (v := ?_) (a' := ?_) #[true,true,true,true,true,true,true,true,true,true,true,true,false] rfl rfl (by kernel_rfl) (fun _ _ _ h => h) (Or.inl ⟨by rfl, ?_⟩) ?_ ?_
            rotate_left
            · intro w_
              go_simp
              with_reducible rfl
            rotate_left
            · simp only [Act.put, List.setIfInBounds_toArray, List.set_cons_zero, List.set_cons_succ]
              rfl
            have hcF : wF.cell? ⟨wo.heap.size + 1, 0, none⟩ = some (.slice (some ⟨gq, 0, none⟩) B.length cq) := E.blk_cell HGF.out 0
            have hfF : wF.frozen? ⟨wo.heap.size + 1, 0, none⟩ = false := E.blk_frozen HGF.out 0
            refine last_ (i := 12) (N := none) #[true,true,true,true,true,true,true,true,true,true,true,true,true] rfl rfl (by kernel_rfl) (by decide) (fun K hK => ?_)
            refine skip_ rfl rfl (w1 := wF.setCell ⟨wo.heap.size + 1, 0, none⟩ (.slice (some ⟨gz, 0, none⟩) (B.length + 1) cz)) (by go_simp) ?_
            refine hK.out _ _ ?_
            refine done_ (by kernel_rfl) ?_
            clear hK
            obtain ⟨wG, eG⟩ : ∃ q, q = wF.setCell ⟨wo.heap.size + 1, 0, none⟩ (.slice (some ⟨gz, 0, none⟩) (B.length + 1) cz) := ⟨_, rfl⟩
            have hgAll : wr.grownBy wF (some gq) := E.grown_trans hgD (E.grown_trans hgE hgF)
            have hgG : wF.grownBy wG (some (wo.heap.size + 1)) := eG ▸ E.grown_setCell wF ⟨wo.heap.size + 1, 0, none⟩ _
            have hgz : wo.heap.size + 3 ≤ gz ∧ gz < wF.heap.size := hwF.lt gz rfl
            have HG9 := Lib.hid (show wG.heap[wo.heap.size + 1]? = some (.cells #[.slice (some ⟨gz, 0, none⟩) (B.length + 1) cz, .map (some wo.heap.size)] 48 (0, 0)) by rw [eG]; exact E.setCell_at HGF.out 0 _)
            have HW9 := Lib.hid (hwF.kept hgG (.inr (by simp [Value.ownBlock]; omega)))
            have HO9 := Lib.hid (HFM2.out.kept hgG (by have := HZ1.out; simp; omega))
            have HA9 := Lib.hid ((HAT.out.kept hgAll (by simp; omega)).kept hgG (by simp))
            have HF9 := Lib.hid ((HF1.out.kept hgAll (by simp; omega)).kept hgG (by simp))
            have HB9 := Lib.hid (below_of (below_of HB2.out hgAll (fun k e => by cases e; have := HZ.out; have := HZ1.out; omega) HB2.out.size) hgG (fun k e => by cases e; have := HZ.out; have := HZ1.out; omega) (by have := HB2.out.size; have := hgAll.size; omega))
            have HS9 := Lib.hid (show wo.heap.size + 4 ≤ wG.heap.size by have := hgG.size; have := hgAll.size; have := HS2.out; omega)
            have HKC9 := Lib.hid (show ∀ j, j < ks.length → ∃ gk', some (⟨gk, 0, none⟩ : Addr) = some ⟨gk', 0, none⟩ ∧ gk' ≠ gz ∧ wo.heap.size + 3 ≤ gk' ∧ gk' < wG.heap.size ∧ wG.cell? ⟨gk', j, none⟩ = some (.int .i64 (ks.getD j 0)) from fun j hj => by
              obtain ⟨gk', e1, e2, e3, e4, e5⟩ := HKC.out j hj
              refine ⟨gk', e1, ?_, e3, ?_, ?_⟩
              · rcases hat with h | h
                · simp [Value.ownBlock] at h; omega
                · have := hgE.size; omega
              · have := hgG.size; have := hgAll.size; omega
              · exact (World.cell?_of_block (hgG.block _ (by have := hgAll.size; exact Nat.lt_of_lt_of_le e4 this) (by simp; omega))).trans ((World.cell?_of_block (hgAll.block _ e4 (by simp; omega))).trans e5))
            have hla : (flat B ++ (cellsB b).toList) = flat (B ++ [b]) := (flat_snoc B b).symm
            have HLA := Lib.hid hla
            have HPL := Lib.hid hpl
            have HT9 := Lib.hid (tfold_take (own l) ks k hlt2)
            rw [← eG]
            clear hla hpl eG hgAll hgG hgz hgD hgE hgF hsD hsE eD egn hgn hwF hlz hat HGF HFM2 HG HW HO HAT HF1 HB2 HKC hHeld3 hg0 hg1 hck hcF hfF hgq
            go_wp2_with (first | (at_lookup; with_reducible refine E.halt ?_) | (at_mapUpdate; with_reducible refine E.halt ?_) | ((with_reducible refine E.gate 55 rfl ?_); with_reducible refine E.halt ?_) | ((with_reducible refine E.gate 62 rfl ?_); with_reducible refine E.halt ?_) | ((with_reducible refine E.gate 63 rfl ?_); with_reducible refine E.halt ?_) | ((with_reducible refine E.gate 64 rfl ?_); with_reducible refine E.halt ?_) | ((with_reducible refine E.gate 68 rfl ?_); with_reducible refine E.halt ?_) | ((with_reducible refine E.gate 70 rfl ?_); with_reducible refine E.halt ?_) | ((with_reducible refine E.gate 71 rfl ?_); with_reducible refine E.halt ?_))
            refine E.Halt.go (wp_look rfl (.tmp 105) (.tmp 106) 42 rfl 3 44 lawI Try.underlying42 (aggV .i32 zeroB) (zeroBlk _) (w1.heap.size + 1) l.length _ rfl HO9.out _ (.int .i64 x) rfl (keyOf_int_mk Try.underlying3 HWX.out) (aggV .i32 b) (by rw [encO_get, HEB.out]; rfl) ?_)
            go_wp2_with (first | (at_lookup; with_reducible refine E.halt ?_) | (at_mapUpdate; with_reducible refine E.halt ?_) | ((with_reducible refine E.gate 55 rfl ?_); with_reducible refine E.halt ?_) | ((with_reducible refine E.gate 62 rfl ?_); with_reducible refine E.halt ?_) | ((with_reducible refine E.gate 63 rfl ?_); with_reducible refine E.halt ?_) | ((with_reducible refine E.gate 64 rfl ?_); with_reducible refine E.halt ?_) | ((with_reducible refine E.gate 68 rfl ?_); with_reducible refine E.halt ?_) | ((with_reducible refine E.gate 70 rfl ?_); with_reducible refine E.halt ?_) | ((with_reducible refine E.gate 71 rfl ?_); with_reducible refine E.halt ?_))
            refine E.Halt.go (wp_store rfl (.tmp 104) (.tmp 107) (.tmp 108) 49 rfl 44 3 lawB Try.underlying49 (wo.heap.size + 2) (k + 1) _ (by rfl) HF9.out (by unfold maxLen; omega) (aggV .i32 b) (klOf b) rfl (keyB HBK.out) _ rfl ?_)
            intro wH hFH hgH
            have HPN := HPL.out
            have HF10 := Lib.hid (hFH.congr (encF_put HBO.out HBK.out HPN))
            have HG10 := Lib.hid ((hgH.block _ (E.blk_lt HG9.out) (by simp)).trans HG9.out)
            have HW10 := Lib.hid (HW9.out.kept hgH (.inr (by intro h; have := (HW9.out.lt _ h).1; omega)))
            have HO10 := Lib.hid (HO9.out.kept hgH (by have := HZ1.out; simp; omega))
            have HA10 := Lib.hid (HA9.out.kept hgH (by simp))
            have HB10 := Lib.hid (below_of HB9.out hgH (fun k e => by cases e; have := HZ.out; have := HZ1.out; omega) HB9.out.size)
            have HS10 := Lib.hid (show wo.heap.size + 4 ≤ wH.heap.size by have := hgH.size; have := HS9.out; omega)
            have HKC10 := Lib.hid (show ∀ j, j < ks.length → ∃ gk', some (⟨gk, 0, none⟩ : Addr) = some ⟨gk', 0, none⟩ ∧ gk' ≠ gz ∧ wo.heap.size + 3 ≤ gk' ∧ gk' < wH.heap.size ∧ wH.cell? ⟨gk', j, none⟩ = some (.int .i64 (ks.getD j 0)) from fun j hj => by
              obtain ⟨gk', e1, e2, e3, e4, e5⟩ := HKC9.out j hj
              exact ⟨gk', e1, e2, e3, Nat.lt_of_lt_of_le e4 hgH.size, (World.cell?_of_block (hgH.block _ e4 (by simp; omega))).trans e5⟩)
            have hg1 : wH.cell? ⟨wo.heap.size + 1, 1, none⟩ = some (.map (some wo.heap.size)) := E.blk_cell HG10.out 1
            clear hFH hgH HPN HF9 HG9 HW9 HO9 HA9 HB9 HS9 HKC9
            go_wp2_with (first | (at_lookup; with_reducible refine E.halt ?_) | (at_mapUpdate; with_reducible refine E.halt ?_) | ((with_reducible refine E.gate 55 rfl ?_); with_reducible refine E.halt ?_) | ((with_reducible refine E.gate 62 rfl ?_); with_reducible refine E.halt ?_) | ((with_reducible refine E.gate 63 rfl ?_); with_reducible refine E.halt ?_) | ((with_reducible refine E.gate 64 rfl ?_); with_reducible refine E.halt ?_) | ((with_reducible refine E.gate 68 rfl ?_); with_reducible refine E.halt ?_) | ((with_reducible refine E.gate 70 rfl ?_); with_reducible refine E.halt ?_) | ((with_reducible refine E.gate 71 rfl ?_); with_reducible refine E.halt ?_))
            refine E.Halt.go (wp_store rfl (.tmp 112) (.tmp 113) (.tmp 114) 45 rfl 3 3 lawI Try.underlying45 wo.heap.size k _ rfl HA10.out (by unfold maxLen; omega) (.int .i64 x) (.int .i64 x) rfl (keyOf_int_mk Try.underlying3 HWX.out) _ rfl ?_)
            intro wI hAI hgI
            have HA11 := Lib.hid (hAI.congr (encA_put _ _ _))
            have HG11 := Lib.hid ((hgI.block _ (E.blk_lt HG10.out) (by simp)).trans HG10.out)
            have HW11 := Lib.hid (HW10.out.kept hgI (.inr (by intro h; have := (HW10.out.lt _ h).1; omega)))
            have HO11 := Lib.hid (HO10.out.kept hgI (by have := HZ1.out; simp; omega))
            have HF11 := Lib.hid (HF10.out.kept hgI (by simp))
            have HB11 := Lib.hid (below_of HB10.out hgI (fun k e => by cases e; have := HZ.out; have := HZ1.out; omega) HB10.out.size)
            have HS11 := Lib.hid (show wo.heap.size + 4 ≤ wI.heap.size by have := hgI.size; have := HS10.out; omega)
            have HKC11 := Lib.hid (show ∀ j, j < ks.length → ∃ gk', some (⟨gk, 0, none⟩ : Addr) = some ⟨gk', 0, none⟩ ∧ gk' ≠ gz ∧ wo.heap.size + 3 ≤ gk' ∧ gk' < wI.heap.size ∧ wI.cell? ⟨gk', j, none⟩ = some (.int .i64 (ks.getD j 0)) from fun j hj => by
              obtain ⟨gk', e1, e2, e3, e4, e5⟩ := HKC10.out j hj
              exact ⟨gk', e1, e2, e3, Nat.lt_of_lt_of_le e4 hgI.size, (World.cell?_of_block (hgI.block _ e4 (by simp; omega))).trans e5⟩)
            clear hAI hgI HF10 HG10 HW10 HO10 HA10 HB10 HS10 HKC10 hg1
            go_wp2
            go_roundw
            case rel =>
              have hlb : (B ++ [b]).length = B.length + 1 := by simp
              refine ⟨k + 1, B ++ [b], updA at_ x B.length, gz, cz, by omega, by go_num, ?_, ?_, ?_, HA11, HO11, HF11, Lib.hid ?_, Lib.hid ?_, HKC11, HB11, HS11, Lib.hid (by simp)⟩
              · refine Lib.hid ?_
                rw [HT9.out, HT.out, ← HX.out]
                unfold tstep
                rw [HEB.out]
                simp only [Option.getD_some]
                rw [HPL.out]
              · rw [hlb]; exact HG11
              · rw [hlb, ← HLA.out]; exact HW11
              · intro y hy
                rcases List.mem_append.1 hy with h | h
                · exact HBO.out y h
                · simp at h; rw [h]; exact HBK.out
              · have := HBL.out; rw [hlb]; omega
            case measure => simp [intOf]; omega
        · obtain rfl : k = ks.length := by omega
          have HTT := HT.out
          rw [List.take_length] at HTT
          have HTT := Lib.hid HTT
          go_wp2
          go_ret2
          refine ⟨fun _ => ⟨wo.heap.size + 1, ks, rfl, HK1.out, fun x => ?_, ?_, HB2.out⟩, fun h => absurd HN.out h⟩
          · rw [HK2.out x]; simp [encO]
          · rw [HTT.out]
            exact ⟨gq, cq, wo.heap.size, ks.length, HG.out, row_zero HW.out, HAT.out, by omega, HBO.out, by have := HBL.out; simp only; omega⟩
theorem build_bad (A : Option Addr) (c0 : Nat) (l : List (Int × Int)) (w : World) (hA : PRow w A l) (hl : l.length ≤ 1000) (hok : l.any (fun p => !okP p) = true) :
    Calls Try.prog 7 #[.slice A l.length c0] w fun e w' => e = ret none 1 ∧ Below w.heap.size w w' := by
  have HOK := Lib.hid hok
  clear hok
  go_enter Try.func7, Try.ntmps7
  go_wp2_with (go_at_call 15; refine (contains_b1 A c0 l _ hA (by omega) true HOK.out).mono ?_; rintro e w1 ⟨rfl, hb⟩; have HB := Lib.hid hb; clear hb)
  go_ret2
  exact ⟨rfl, HB.out⟩
end Go.Proofs.Ytpameikbacnpcaa.T
