/- The trie, seventh part: With. -/
import Derived.Test.YtpameikbacnpcaaTI
import Derived.ArgAppend
namespace Go.Proofs.Ytpameikbacnpcaa.T
open Go Go.RowKit Go.Maps Go.Proofs.Ytpameikbacnpcaa.M
set_option linter.unusedVariables false

/-- What With answers: the pairs that are left, and the new one. -/
def WithOut (l : List (Int × Int)) (c v : Int) (w : World) (e : Ending) (w' : World) : Prop :=
  ∃ m : List (Int × Int), (m.map Prod.fst).Nodup ∧ m.any (fun p => !okP p) = false ∧ (∀ x, findP m x = if c = x then v else findP l x) ∧ m.length ≤ l.length + 1 ∧
    ∃ (g : Nat) (ks : List Int), e = ret (some ⟨g, 0, none⟩) 0 ∧ (∀ x, x ∈ ks ↔ (own m x).isSome = true) ∧ IsTrie w' g (triOf m ks) ∧ Below w.heap.size w w'

theorem with_bad (g : Nat) (c v : Int) (w : World) (hb : okP (c, v) = false) :
    Calls Try.prog 14 #[.pointer (some ⟨g, 0, none⟩), .int .i64 c, .int .i64 v] w fun e w' => e = ret none 1 ∧ Below w.heap.size w w' := by
  have HB := Lib.hid (Below.refl w.heap.size w)
  have HBB := Lib.hid hb
  clear hb
  go_enter Try.func14, Try.ntmps14
  go_wp2_with (go_at_call 17; refine (valid_calls c v _).mono ?_; rintro e w' ⟨rfl, rfl⟩; rw [HBB.out])
  go_ret2
  exact ⟨rfl, (HB.out.alloc (Nat.le_refl _) _).alloc (by simp) _⟩
theorem findP_keep (c : Int) : ∀ (P : List (Int × Int)) (x : Int), c ≠ x → findP (keepP c P) x = findP P x
  | [], _, _ => rfl
  | p :: P, x, h => by
    by_cases e : p.1 = c
    · have : keepP c (p :: P) = keepP c P := by unfold keepP; rw [List.filter_cons_of_neg (by simp [bne, e])]
      rw [this, findP_keep c P x h, findP, if_neg (by omega)]
    · have : keepP c (p :: P) = p :: keepP c P := by unfold keepP; rw [List.filter_cons_of_pos (by simp [bne, e])]
      rw [this, findP, findP]
      by_cases e2 : p.1 = x
      · rw [if_pos e2, if_pos e2]
      · rw [if_neg e2, if_neg e2]; exact findP_keep c P x h
theorem keepP_sub (c : Int) (P : List (Int × Int)) : (keepP c P).Sublist P := List.filter_sublist
theorem keepP_not (c : Int) (P : List (Int × Int)) : c ∉ (keepP c P).map Prod.fst := by
  intro h
  obtain ⟨p, hp, e⟩ := List.mem_map.1 h
  have := (List.mem_filter.1 hp).2
  simp [bne, e] at this
/-- The pairs with one put in. -/
theorem put_pairs {P l : List (Int × Int)} {c v : Int} (hd : (P.map Prod.fst).Nodup) (hok : P.any (fun p => !okP p) = false) (hcv : okP (c, v) = true) (hf : ∀ x, findP P x = findP l x) :
    ((keepP c P ++ [(c, v)]).map Prod.fst).Nodup ∧ (keepP c P ++ [(c, v)]).any (fun p => !okP p) = false ∧ ∀ x, findP (keepP c P ++ [(c, v)]) x = if c = x then v else findP l x := by
  have hn := keepP_not c P
  refine ⟨?_, ?_, fun x => ?_⟩
  · rw [List.map_append, List.nodup_append]
    refine ⟨((keepP_sub c P).map _).nodup hd, by simp, fun a ha b hb => ?_⟩
    simp at hb
    rintro rfl
    exact hn (hb ▸ ha)
  · rw [List.any_append]
    have h1 : (keepP c P).any (fun p => !okP p) = false := by
      rw [List.any_eq_false] at hok ⊢
      exact fun p hp => hok p ((keepP_sub c P).subset hp)
    rw [h1]
    simp [hcv]
  · rw [findP_snoc _ _ _ hn]
    by_cases e : c = x
    · rw [if_pos e, if_pos e]
    · rw [if_neg e, if_neg e, findP_keep c P x e, hf]
theorem del_empty (A : Option Addr) (bc : Nat) (cc : Int) (w : World) (hc : w.cell? ⟨bc, 0, none⟩ = some (.int .i64 cc)) :
    Calls Try.prog 22 #[.slice A 0 0, .func (.func 23) #[] #[.pointer (some ⟨bc, 0, none⟩)]] w fun e w' => e = .returned (.slice A 0 0) ∧ Below w.heap.size w w' := by
  go_enter Try.func22, Try.ntmps22
  go_wp2_with fail
  refine (idx_w1 A 0 bc cc [] _ (fun i hi => absurd hi (by simp)) (by simp) hc).mono ?_
  rintro e w1 ⟨rfl, hb⟩
  have HB := Lib.hid hb
  clear hb
  rw [show idxFrom (fun p => p.1 == cc) [] 0 = -1 from rfl]
  go_wp2
  go_ret
  exact ⟨rfl, HB.out⟩
theorem cs_cells {w : World} {g : Nat} {M : List (Int × Int)} (h : Cs w g M) : ∀ j u, (cellsP M)[j]? = some u → w.cell? ⟨g, 0 + j, none⟩ = some u := fun j u hj => by
  have hlt : j < M.length * 2 := by
    have := (List.getElem?_eq_some_iff.1 hj).1
    rwa [cellsP_length] at this
  rw [Nat.zero_add]
  rcases (show j = (j / 2) * 2 ∨ j = (j / 2) * 2 + 1 by omega) with e | e
  · have h1 := (cellsP_at M (j / 2) (by omega)).1
    rw [← e, hj] at h1
    have h2 := (h (j / 2) (by omega)).1
    rw [← e] at h2
    rw [h2, h1]
  · have h1 := (cellsP_at M (j / 2) (by omega)).2
    rw [← e, hj] at h1
    have h2 := (h (j / 2) (by omega)).2
    rw [← e] at h2
    rw [h2, h1]
theorem cs_block {w : World} {g cap : Nat} {cur : Array Value} {t : TypeId} {M : List (Int × Int)} (hg : w.heap[g]? = some (.cells cur t (0, 0))) (ht : cur.toList.take (M.length * 2) = cellsP M) : Cs w g M := fun i hi => by
  obtain ⟨h1, h2⟩ := cellsP_at M i hi
  rw [← ht, List.getElem?_take_of_lt (by omega)] at h1 h2
  rw [E.blk_cell hg, E.blk_cell hg]
  exact ⟨by rw [← Array.getElem?_toList]; exact h1, by rw [← Array.getElem?_toList]; exact h2⟩
theorem fz_block {w : World} {g : Nat} {cur : Array Value} {t : TypeId} (hg : w.heap[g]? = some (.cells cur t (0, 0))) : Fz w g := fun j => by
  simp [World.frozen?, hg]
theorem cs_put {w : World} {g : Nat} {M : List (Int × Int)} (h : Cs w g M) (c v : Int) (hs : ∀ j, j < 2 → (w.cell? ⟨g, 0 + M.length * 2 + j, none⟩).isSome = true) : Cs (w.setCells g (0 + M.length * 2) [.int .i64 c, .int .i64 v]) g (M ++ [(c, v)]) := fun i hi => by
  rw [List.length_append, List.length_singleton] at hi
  by_cases e : i < M.length
  · have hg : (M ++ [(c, v)]).getD i (0, 0) = M.getD i (0, 0) := by rw [List.getD_eq_getElem?_getD, List.getElem?_append_left e, List.getD_eq_getElem?_getD]
    rw [hg, setCells_out _ _ _ _ _ (by omega), setCells_out _ _ _ _ _ (by omega)]
    exact h i e
  · obtain rfl : i = M.length := by omega
    have hg : (M ++ [(c, v)]).getD M.length (0, 0) = (c, v) := by rw [List.getD_eq_getElem?_getD, List.getElem?_append_right (Nat.le_refl _)]; simp
    rw [hg]
    have h0 := World.cell?_setCells_in g [.int .i64 c, .int .i64 v] (0 + M.length * 2) w (fun j hj => hs j (by simpa using hj)) 0 (by simp)
    have h1 := World.cell?_setCells_in g [.int .i64 c, .int .i64 v] (0 + M.length * 2) w (fun j hj => hs j (by simpa using hj)) 1 (by simp)
    rw [show 0 + M.length * 2 + 0 = M.length * 2 by omega] at h0
    rw [show 0 + M.length * 2 + 1 = M.length * 2 + 1 by omega] at h1
    exact ⟨h0, h1⟩
theorem build_put (A : Option Addr) (c0 : Nat) (m : List (Int × Int)) (w : World) (hA : PRow w A m) (hl : m.length ≤ 1000) (hd : (m.map Prod.fst).Nodup) (hok : m.any (fun p => !okP p) = false) :
    Calls Try.prog 7 #[.slice A m.length c0] w fun e w' => ∃ (g : Nat) (ks : List Int), e = ret (some ⟨g, 0, none⟩) 0 ∧ (∀ x, x ∈ ks ↔ (own m x).isSome = true) ∧ IsTrie w' g (triOf m ks) ∧ Below w.heap.size w w' :=
  (build_ok A c0 m w hA hl hok).mono fun e w' h => by
    obtain ⟨g, ks, h1, -, h2, h3, h4⟩ := h.1 hd
    exact ⟨g, ks, h1, h2, h3, h4⟩
set_option maxHeartbeats 4000000 in
theorem with_ok (g : Nat) (l : List (Int × Int)) (ks0 : List Int) (c v : Int) (w : World) (hb : okP (c, v) = true) (ht : IsTrie w g (triOf l ks0)) (hd : (l.map Prod.fst).Nodup) (hok : l.any (fun p => !okP p) = false) (hk : ∀ x, x ∈ ks0 ↔ (own l x).isSome = true) (hl : l.length ≤ 900) :
    Calls Try.prog 14 #[.pointer (some ⟨g, 0, none⟩), .int .i64 c, .int .i64 v] w (WithOut l c v w) := by
  have HB := Lib.hid (Below.refl w.heap.size w)
  have HBB := Lib.hid hb
  have HT := Lib.hid ht
  have HD := Lib.hid hd
  have HOK := Lib.hid hok
  have HK := Lib.hid hk
  clear hb ht hd hok hk
  go_enter Try.func14, Try.ntmps14
  go_wp2_with (go_at_call 17; refine (valid_calls c v _).mono ?_; rintro e w' ⟨rfl, rfl⟩; rw [HBB.out])
  have hba := (HB.out.alloc (Nat.le_refl _) (.cells #[.int .i64 c] 3)).alloc (by simp) (.cells #[.int .i64 c, .int .i64 v] 29)
  have hca : ((w.alloc (.cells #[.int .i64 c] 3)).alloc (.cells #[.int .i64 c, .int .i64 v] 29)).cell? ⟨w.heap.size, 0, none⟩ = some (.int .i64 c) := E.blk_cell (heap_alloc2_old _ _ _) 0
  refine (pairs_calls g l ks0 _ (HT.out.below hba) HD.out HOK.out HK.out).mono ?_
  rintro e w2 ⟨Ap, ks, cp, rfl, hrise, hkeys, hrow, hb⟩
  have hc2 : w2.cell? ⟨w.heap.size, 0, none⟩ = some (.int .i64 c) := (hb.cell (World.block_lt_of_cell? _ _ hca)).trans hca
  have hb2 := hba.trans (hb.mono hba.size)
  have hbs := hba.size
  have hpd := rising_nodup (prsP_rising l ks hrise)
  have hpo := prs_ok HD.out HOK.out hkeys
  obtain ⟨hm1, hm2, hm3⟩ := put_pairs hpd hpo HBB.out (prs_find HD.out HOK.out hrise hkeys)
  have hpl2 : (prsP l ks).length ≤ l.length := by
    rw [prs_len HD.out HOK.out hrise hkeys]
    exact List.length_filter_le _ _
  have hpl : (prsP l ks).length ≤ 900 := by
    rw [prs_len HD.out HOK.out hrise hkeys]
    exact Nat.le_trans (List.length_filter_le _ _) hl
  obtain ⟨P, eP⟩ : ∃ q, q = prsP l ks := ⟨_, rfl⟩
  rw [← eP] at hm1 hm2 hm3 hpl hpl2 hrow ⊢
  clear eP hpd hpo hrise hkeys hb hca hba
  have hkl : (keepP c P).length ≤ P.length := (keepP_sub c P).length_le
  have hbase : w.heap.size + 2 = ((w.alloc (.cells #[.int .i64 c] 3)).alloc (.cells #[.int .i64 c, .int .i64 v] 29)).heap.size := by simp
  rw [← hbase] at hrow
  have HC2 := Lib.hid hc2
  have HB2 := Lib.hid hb2
  have HM1 := Lib.hid hm1
  have HM2 := Lib.hid hm2
  have HM3 := Lib.hid hm3
  have HRW := Lib.hid hrow
  obtain ⟨iP, hiP, hP0, hP1, hP2⟩ := info_parts infoP
  clear hc2 hb2 hbs hbase hm1 hm2 hm3 hrow
  rcases Nat.eq_zero_or_pos P.length with hz | hpos
  · rw [hz]
    obtain rfl : P = [] := List.eq_nil_of_length_eq_zero hz
    go_wp2_with fail
    refine (del_empty Ap w.heap.size c _ HC2.out).mono ?_
    rintro e w3 ⟨rfl, hb3⟩
    have HB3 := Lib.hid (HB2.out.trans (hb3.mono HB2.out.size))
    have hc3 : w3.cell? ⟨w.heap.size, 0, none⟩ = some (.int .i64 c) := (hb3.cell (World.block_lt_of_cell? _ _ HC2.out)).trans HC2.out
    clear hb3
    go_wp2_with (first | ((with_reducible refine E.gate 22 rfl ?_); with_reducible refine E.halt ?_) | ((with_reducible refine E.gate 23 rfl ?_); with_reducible refine E.halt ?_))
    refine E.Halt.go (E.ev_one rfl 22 29 (.tmp 21) rfl 2 (.agg #[.int .i64 0, .int .i64 0]) (.agg #[.int .i64 c, .int .i64 v]) 16 Try.underlying22 infoP rfl (by omega) (by omega) rfl rfl ?_)
    intro gn wE egn hgn hgE hsE
    have HGN := Lib.hid hgn
    have HB4 := Lib.hid (HB3.out.trans (hgE.below_none.mono HB3.out.size))
    clear egn hgn hgE hsE
    go_wp2_with (first | ((with_reducible refine E.gate 22 rfl ?_); with_reducible refine E.halt ?_) | ((with_reducible refine E.gate 23 rfl ?_); with_reducible refine E.halt ?_))
    refine E.Halt.go (wpList_append_grows _ rfl (.tmp 18) (.tmp 22) 22 rfl 29 iP (.agg #[.int .i64 0, .int .i64 0]) 2 16 Try.underlying22 hiP hP0 hP1 hP2 rfl (by omega) Ap 0 0 [] rfl (fun _ => ⟨rfl, rfl⟩) rfl (fun _ _ j u h => by simp at h) ⟨gn, 0, none⟩ 1 1 [.int .i64 c, .int .i64 v] rfl rfl (World.news_of_block HGN.out) (fun u hu => by simp at hu; rcases hu with rfl | rfl <;> rfl) (by omega) (by unfold maxLen; omega) (by omega) ?_)
    intro v' wF hwF hgF
    have HB5 := Lib.hid (HB4.out.trans (hgF.below_none.mono HB4.out.size))
    have hwF2 : wF.ownsRow wE.heap.size 29 2 v' (keepP c [] ++ [(c, v)]).length (cellsP (keepP c [] ++ [(c, v)])) := hwF
    obtain ⟨Am, cm, rfl, -, hpr, -⟩ := row_pairs hwF2
    have HPR := Lib.hid hpr
    clear hwF hgF hwF2 hpr
    go_wp2_with fail
    refine (build_put Am cm _ _ HPR.out (by simp [keepP]) HM1.out HM2.out).mono ?_
    rintro e w6 ⟨g6, ks6, rfl, hk6, ht6, hb6⟩
    have HO := Lib.hid (show WithOut l c v w (ret (some ⟨g6, 0, none⟩) 0) w6 from ⟨_, HM1.out, HM2.out, HM3.out, by simp [keepP], g6, ks6, rfl, hk6, ht6, HB5.out.trans (hb6.mono HB5.out.size)⟩)
    clear hk6 ht6 hb6
    unfold ret
    go_wp2
    go_ret2
    exact HO.out
  · rcases HRW.out.2 with ⟨-, h0⟩ | ⟨gp, cap, cur, e9, hbp, hgp, hn, hmx, hs, htk⟩
    · omega
    obtain ⟨rfl, -, rfl⟩ : Ap = some ⟨gp, 0, none⟩ ∧ P.length = P.length ∧ cp = cap := by simpa using e9
    have HCS := Lib.hid (cs_block (cap := cp) hgp htk)
    have HFZ := Lib.hid (fz_block hgp)
    have hgw : w.heap.size ≤ gp := by omega
    have hne : w.heap.size ≠ gp := by omega
    have HSP := Lib.hid (show ∀ j, j < P.length * 2 → (w2.cell? ⟨gp, j, none⟩).isSome = true from fun j hj => by
      rw [E.blk_cell hgp, Array.getElem?_eq_getElem (by omega)]; rfl)
    have hgl := E.blk_lt hgp
    have HGL := Lib.hid hgl
    clear e9 hgp htk hs hmx hn hbp hgl
    go_wp2_with fail
    refine (del_calls gp P.length w.heap.size c P _ HCS.out HFZ.out hpos (by omega) (Nat.le_refl _) HC2.out hne).mono ?_
    rintro e w3 ⟨rfl, hcs3, hfz3, hg3, hs3⟩
    have HB3 := Lib.hid (below_of HB2.out hg3 (fun k e => by cases e; exact hgw) HB2.out.size)
    have HCS3 := Lib.hid hcs3
    have HFZ3 := Lib.hid hfz3
    have HSP3 := Lib.hid (show ∀ j, j < P.length * 2 → (w3.cell? ⟨gp, j, none⟩).isSome = true from fun j hj => hs3 j (HSP.out j hj))
    have HGL3 := Lib.hid (Nat.lt_of_lt_of_le HGL.out hg3.size)
    obtain ⟨K, eK⟩ : ∃ q, q = keepP c P := ⟨_, rfl⟩
    rw [← eK] at hkl HCS3 HM1 HM2 HM3 ⊢
    have hc3 : w3.cell? ⟨w.heap.size, 0, none⟩ = some (.int .i64 c) := (World.cell?_of_block (hg3.block _ (World.block_lt_of_cell? _ _ HC2.out) (by simp; omega))).trans HC2.out
    clear hcs3 hfz3 hg3 hs3 eK
    go_wp2_with (first | ((with_reducible refine E.gate 22 rfl ?_); with_reducible refine E.halt ?_) | ((with_reducible refine E.gate 23 rfl ?_); with_reducible refine E.halt ?_))
    refine E.Halt.go (E.ev_one rfl 22 29 (.tmp 21) rfl 2 (.agg #[.int .i64 0, .int .i64 0]) (.agg #[.int .i64 c, .int .i64 v]) 16 Try.underlying22 infoP rfl (by omega) (by omega) rfl rfl ?_)
    intro gn wE egn hgn hgE hsE
    have HGN := Lib.hid hgn
    have HB4 := Lib.hid (HB3.out.trans (hgE.below_none.mono HB3.out.size))
    have HCS4 := Lib.hid (HCS3.out.kept hgE (by simp))
    have HFZ4 := Lib.hid (HFZ3.out.kept hgE HGL3.out (by simp))
    have HSP4 := Lib.hid (show ∀ j, j < P.length * 2 → (wE.cell? ⟨gp, j, none⟩).isSome = true from fun j hj => by
      rw [World.cell?_of_block (hgE.block gp HGL3.out (by simp))]; exact HSP3.out j hj)
    clear egn hgn hgE hsE
    go_wp2_with (first | ((with_reducible refine E.gate 22 rfl ?_); with_reducible refine E.halt ?_) | ((with_reducible refine E.gate 23 rfl ?_); with_reducible refine E.halt ?_))
    refine E.Halt.go (wpList_append_arg _ rfl (.tmp 18) (.tmp 22) 22 rfl 29 iP (.agg #[.int .i64 0, .int .i64 0]) 2 16 Try.underlying22 hiP hP0 hP1 hP2 rfl (by omega) gp 0 K.length P.length (cellsP K) rfl (cellsP_length K) (cs_cells HCS4.out) ⟨gn, 0, none⟩ 1 1 [.int .i64 c, .int .i64 v] rfl rfl (World.news_of_block HGN.out) (fun u hu => by simp at hu; rcases hu with rfl | rfl <;> rfl) (fun hr j hj => ⟨HSP4.out _ (by simp at hj; omega), HFZ4.out _⟩) (by unfold maxLen; omega) (by omega) ?_ ?_)
    · intro hroom
      have hcs := cs_put HCS4.out c v (fun j hj => HSP4.out _ (by omega))
      have hb5 := below_of HB4.out (setCells_grown gp [.int .i64 c, .int .i64 v] (0 + K.length * 2) wE) (fun k e => by cases e; exact hgw) HB4.out.size
      obtain ⟨wF, eF⟩ : ∃ q, q = wE.setCells gp (0 + K.length * 2) [.int .i64 c, .int .i64 v] := ⟨_, rfl⟩
      rw [← eF] at hcs hb5 ⊢
      have HPR := Lib.hid hcs.prow
      have HB5 := Lib.hid hb5
      obtain ⟨m, em⟩ : ∃ q, q = K ++ [(c, v)] := ⟨_, rfl⟩
      have hml : K.length + 1 = m.length := by rw [em]; simp
      have hm9 : m.length ≤ 1000 := by omega
      have hm10 : m.length ≤ l.length + 1 := by omega
      rw [hml]
      rw [← em] at HPR HM1 HM2 HM3
      clear hcs hb5 eF hml em
      go_wp2_with fail
      refine (build_put _ _ _ _ HPR.out hm9 HM1.out HM2.out).mono ?_
      rintro e w6 ⟨g6, ks6, rfl, hk6, ht6, hb6⟩
      have HO := Lib.hid (show WithOut l c v w (ret (some ⟨g6, 0, none⟩) 0) w6 from ⟨_, HM1.out, HM2.out, HM3.out, hm10, g6, ks6, rfl, hk6, ht6, HB5.out.trans (hb6.mono HB5.out.size)⟩)
      clear hk6 ht6 hb6
      unfold ret
      go_wp2
      go_ret2
      exact HO.out
    · intro hroom v' wF hwF hgF
      have HB5 := Lib.hid (HB4.out.trans (hgF.below_none.mono HB4.out.size))
      have hwF2 : wF.ownsRow wE.heap.size 29 2 v' (K ++ [(c, v)]).length (cellsP (K ++ [(c, v)])) := by rw [cellsP_snoc]; simpa using hwF
      obtain ⟨m, em⟩ : ∃ q, q = K ++ [(c, v)] := ⟨_, rfl⟩
      have hm9 : m.length ≤ 1000 := by rw [em]; simp; omega
      have hm10 : m.length ≤ l.length + 1 := by rw [em]; simp; omega
      rw [← em] at hwF2 HM1 HM2 HM3
      obtain ⟨Am, cm, rfl, -, hpr, -⟩ := row_pairs hwF2
      have HPR := Lib.hid hpr
      clear hwF hgF hwF2 hpr em
      go_wp2_with fail
      refine (build_put Am cm _ _ HPR.out hm9 HM1.out HM2.out).mono ?_
      rintro e w6 ⟨g6, ks6, rfl, hk6, ht6, hb6⟩
      have HO := Lib.hid (show WithOut l c v w (ret (some ⟨g6, 0, none⟩) 0) w6 from ⟨_, HM1.out, HM2.out, HM3.out, hm10, g6, ks6, rfl, hk6, ht6, HB5.out.trans (hb6.mono HB5.out.size)⟩)
      clear hk6 ht6 hb6
      unfold ret
      go_wp2
      go_ret2
      exact HO.out
end Go.Proofs.Ytpameikbacnpcaa.T
