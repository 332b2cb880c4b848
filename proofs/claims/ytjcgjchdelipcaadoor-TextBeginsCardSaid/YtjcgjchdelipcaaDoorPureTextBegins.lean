/- The plain law of TextBegins: a text's first signs are a beginning of it, as many as are asked for; the rest goes on behind it. -/
import Derived.Test.YtjcgjchdelipcaaDoorGBegin
import Derived.Test.YtjcgjchdelipcaaDoorGText4
import Derived.Test.YtjcgjchdelipcaaDoorPureTextSigns
namespace Go.Proofs.YtjcgjchdelipcaaDoor.U
open Go Go.Proofs Go.Lib
/-- What is left behind the first n signs. -/
def restF : Nat → ByteArray → ByteArray
  | 0, s => s
  | n + 1, s => if s.size = 0 then s else restF n (s.extract (wd s) s.size)
theorem restF_nil (n : Nat) (s : ByteArray) (h : s.size = 0) : restF n s = s := by
  cases n with
  | zero => rfl
  | succ n => rw [restF, if_pos h]
theorem restF_le : ∀ (n : Nat) (s : ByteArray), (restF n s).size ≤ s.size
  | 0, s => Nat.le_refl _
  | n + 1, s => by
    by_cases h : s.size = 0
    · rw [restF_nil _ s h]; omega
    · rw [restF, if_neg h]
      have := restF_le n (s.extract (wd s) s.size)
      rw [cut_size] at this
      omega
theorem restF_cut : ∀ (n : Nat) (s : ByteArray), restF n s = s.extract (s.size - (restF n s).size) s.size
  | 0, s => by rw [restF, Nat.sub_self, cut0]
  | n + 1, s => by
    by_cases h : s.size = 0
    · rw [restF_nil _ s h, Nat.sub_self, cut0]
    · rw [restF, if_neg h]
      have e := restF_cut n (s.extract (wd s) s.size)
      have l := restF_le n (s.extract (wd s) s.size)
      obtain ⟨_, _, w1, w2, _⟩ := sgn_back s (by omega)
      conv => lhs; rw [e]
      rw [cut_cut, cut_size] at *
      congr 1
      omega
theorem restF_signs : ∀ (n : Nat) (s : ByteArray), signs (restF n s) = (signs s).drop n
  | 0, s => by rw [restF, List.drop_zero]
  | n + 1, s => by
    by_cases h : s.size = 0
    · rw [restF_nil _ s h, signs_nil s h, List.drop_nil]
    · rw [restF, if_neg h, restF_signs n, signs_cons s (by omega), List.drop_succ_cons]
theorem dec_cut (L : List Int) (m : Nat) (hB : Byt L) (hm : m ≤ L.length) (h0 : 0 < m) (hw : (dec L).2 ≤ m) : dec (L.take m) = dec L := by
  have hL := dec_bounds L (by omega) hB
  have hBt : Byt (L.take m) := fun x hx => hB x (List.mem_of_mem_take hx)
  have hlen : (L.take m).length = m := by rw [List.length_take]; omega
  have hM := dec_bounds (L.take m) (by omega) hBt
  by_cases hg : (dec L).1 = 65533 ∧ (dec L).2 = 1
  · by_cases hg' : (dec (L.take m)).1 = 65533 ∧ (dec (L.take m)).2 = 1
    · exact Prod.ext (hg'.1.trans hg.1.symm) (hg'.2.trans hg.2.symm)
    · exact (dec_same (L.take m) L hg' (by omega) (by omega) (by omega) (by rw [List.take_take, Nat.min_eq_left (by omega)]) hM.1).symm
  · exact dec_same L (L.take m) hg (by omega) (by omega) (by omega) (by rw [List.take_take, Nat.min_eq_left (by omega)]) hL.1
theorem bs_head (s : ByteArray) (m : Nat) : bs (s.extract 0 m) = (bs s).take m := by
  unfold bs
  rw [← List.map_take]
  congr 1
  simp [ByteArray.data_extract]
theorem wd_dec (s : ByteArray) (h : 0 < s.size) : (dec (bs s)).2 = wd s := by
  have e := sgn_list (bs s) (bs_byt s) (by rw [bs_length]; exact h)
  rw [str_bs] at e
  unfold wd
  rw [e]
  unfold sg
  split
  · rename_i h; rw [h.2]; rfl
  · rfl
theorem sgn_head (s : ByteArray) (m : Nat) (hm : m ≤ s.size) (h0 : 0 < m) (hw : wd s ≤ m) : sgn (s.extract 0 m) = sgn s := by
  have hl := bs_length s
  have e1 := sgn_list (bs s) (bs_byt s) (by omega)
  have e2 := sgn_list (bs (s.extract 0 m)) (bs_byt _) (by rw [bs_length, ByteArray.size_extract]; omega)
  rw [str_bs] at e1 e2
  rw [e1, e2, bs_head, dec_cut (bs s) m (bs_byt s) (by omega) h0 (by rw [wd_dec s (by omega)]; exact hw)]
  congr 2
  rw [List.getD_eq_getElem?_getD, List.getD_eq_getElem?_getD, List.getElem?_take_of_lt h0]
theorem begin_signs : ∀ (n : Nat) (s : ByteArray), signs (s.extract 0 (s.size - (restF n s).size)) = (signs s).take n
  | 0, s => by rw [restF, Nat.sub_self, List.take_zero, signs_nil _ (by rw [ByteArray.size_extract]; omega)]
  | n + 1, s => by
    by_cases h : s.size = 0
    · rw [restF_nil _ s h, signs_nil s h, List.take_nil, signs_nil _ (by rw [ByteArray.size_extract]; omega)]
    · rw [restF, if_neg h, signs_cons s (by omega), List.take_succ_cons]
      obtain ⟨_, _, w1, w2, _⟩ := sgn_back s (by omega)
      have l := restF_le n (s.extract (wd s) s.size)
      rw [cut_size] at l
      have ih := begin_signs n (s.extract (wd s) s.size)
      rw [cut_size] at ih
      obtain ⟨q, hq⟩ : ∃ q, q = (restF n (s.extract (wd s) s.size)).size := ⟨_, rfl⟩
      rw [← hq] at ih l ⊢
      have es : (s.extract 0 (s.size - q)).size = s.size - q := by rw [ByteArray.size_extract]; omega
      have hg := sgn_head s (s.size - q) (by omega) (by omega) (by omega)
      have hwd : wd (s.extract 0 (s.size - q)) = wd s := by unfold wd; rw [hg]
      have a1 : bs ((s.extract 0 (s.size - q)).extract (wd s) (s.extract 0 (s.size - q)).size) = bs ((s.extract (wd s) s.size).extract 0 (s.size - wd s - q)) := by
        rw [bs_cut, bs_head, bs_head, bs_cut, List.drop_take, show s.size - q - wd s = s.size - wd s - q by omega]
      have a2 : (s.extract 0 (s.size - q)).extract (wd s) (s.extract 0 (s.size - q)).size = (s.extract (wd s) s.size).extract 0 (s.size - wd s - q) := by
        rw [← str_bs ((s.extract 0 (s.size - q)).extract (wd s) (s.extract 0 (s.size - q)).size), a1, str_bs]
      rw [signs_cons (s.extract 0 (s.size - q)) (by omega), hg, hwd, a2, ih]
end Go.Proofs.YtjcgjchdelipcaaDoor.U
namespace Go.Proofs.YtjcgjchdelipcaaDoor.G
open Go.RowKit Go.Proofs.YtjcgjchdelipcaaDoorW.PrintWords Go.Proofs.YtjcgjchdelipcaaDoorW.PrintLast Go.Proofs.YtjcgjchdelipcaaDoorW.PrintMore
set_option linter.unusedVariables false
theorem begin_l0 (b : ByteArray) (hb : b.size ≤ 1000) (m : Nat) : ∀ (n : Int) (x : ByteArray), n.toNat = m → n ≤ 9223372036854775807 → -9223372036854775808 ≤ n → x.size ≤ b.size →
    Ev (fun k => utext_Begin.l0 k b n x) (b.extract 0 (b.size - (U.restF m x).size)) := by
  induction m with
  | zero =>
    intro n x hn h1 h2 hx
    refine Ev.step (f := fun _ => some (b.extract 0 (b.size - x.size))) (fun k => ?_) (Ev.now _)
    rw [utext_Begin.l0, if_neg (by omega), w64 (by omega) (by omega), if_pos (by omega), if_pos (by omega), show ((b.size : Int) - (x.size : Int)).toNat = b.size - x.size by omega]
  | succ m ih =>
    intro n x hn h1 h2 hx
    by_cases h : x.size = 0
    · refine Ev.step (f := fun _ => some (b.extract 0 (b.size - x.size))) (fun k => ?_) (by rw [U.restF_nil _ x h]; exact Ev.now _)
      rw [utext_Begin.l0, if_pos (by omega), if_pos ((toList_nil x).mpr h), w64 (by omega) (by omega), if_pos (by omega), if_pos (by omega), show ((b.size : Int) - (x.size : Int)).toNat = b.size - x.size by omega]
    · obtain ⟨a, hw, w1, w2, -⟩ := U.sgn_back x (by omega)
      rw [U.restF, if_neg h]
      refine Ev.step (f := fun k => utext_Begin.l0 k b (n - 1) (x.extract (U.wd x) x.size)) (fun k => ?_) (ih (n - 1) _ (by omega) (by omega) (by omega) (by rw [U.cut_size]; omega))
      rw [utext_Begin.l0, if_pos (by omega), if_neg (fun e => h ((toList_nil x).mp e))]
      show ((some (U.sgn x)).bind _) = _
      rw [Option.bind_some, hw, if_pos (by omega), if_pos (by omega), Int.toNat_natCast, w64 (by omega) (by omega)]
set_option maxHeartbeats 4000000 in
set_option maxRecDepth 100000 in
theorem begin_big (b : ByteArray) (n : Int) (k : Nat) (w : World) (hT : Tabs w) (hb1 : ¬ b.size ≤ 1000) (h6 : umlautlaw2_awake.f k = some true) :
    Calls Tryd.prog 7 #[.string b, .int .i64 n] w fun e w' => e = .returned (.bool true) ∧ Below w.heap.size w w' := by
  have H6 := Aside0.mk h6
  have HT := Aside0.mk hT
  have HB := Aside0.mk (Below.refl w.heap.size w)
  have hb2 : 1000 < b.size := by omega
  clear h6 hT hb1
  go_enter Tryd.func7, Tryd.ntmps7
  go_wp2_with (first
    | (go_at_call 13; refine (umlautlaw2_awake.calls k true _ H6.out (Tabs_below HT.out HB.out)).mono ?_; rintro e w2 ⟨rfl, hb⟩; have n0_ := Aside0.mk (below_step HB.out hb); clear HB hb; have HB := n0_; clear n0_))
  all_goals first | (go_ret; exact ⟨rfl, HB.out⟩) | omega
theorem TextBegins_law (b : ByteArray) (n : Int) (w : World) (hT : Tabs w) (w0 : b.size ≤ 140737488351232) (w1' : (Lit.int .i64 n).wf = true) :
    Calls Tryd.prog 7 #[.string b, .int .i64 n] w fun e w' => e = .returned (.bool true) ∧ Below w.heap.size w w' := by
  have w1 : -9223372036854775808 ≤ n ∧ n ≤ 9223372036854775807 := by
    have e1 : (Lit.int .i64 n).wf = (decide (-9223372036854775808 ≤ n) && decide (n ≤ 9223372036854775807)) := rfl
    rw [e1, Bool.and_eq_true, decide_eq_true_iff, decide_eq_true_iff] at w1'
    exact w1'
  obtain ⟨k6, h6⟩ := awake_ev
  by_cases hb : b.size ≤ 1000
  · have hl := U.signs_length b
    obtain ⟨q, hq⟩ : ∃ q, q = (U.restF n.toNat b).size := ⟨_, rfl⟩
    have hql : q ≤ b.size := hq ▸ U.restF_le _ _
    have es : (b.extract 0 (b.size - q)).size = b.size - q := by rw [ByteArray.size_extract]; omega
    have s1 : U.signs (b.extract 0 (b.size - q)) = (U.signs b).take n.toNat := by rw [hq]; exact U.begin_signs _ _
    have s2 : U.signs (b.extract (b.size - q) b.size) = (U.signs b).drop n.toNat := by rw [hq, ← U.restF_cut]; exact U.restF_signs _ _
    have e0 := begin_l0 b hb n.toNat n b rfl w1.2 w1.1 (Nat.le_refl _)
    rw [← hq] at e0
    obtain ⟨k0, h0⟩ := e0
    obtain ⟨k1, h1⟩ := refSigns_ev b (by omega)
    obtain ⟨k3, h3⟩ := Signs_ev (b.extract 0 (b.size - q)) (by omega)
    obtain ⟨k4, h4⟩ := Signs_ev (b.extract (b.size - q) b.size) (by rw [U.cut_size]; omega)
    obtain ⟨k5, h5⟩ := Same_ev (U.signs b) (U.signs b) (by omega)
    refine begin_walk b (b.extract 0 (b.size - q)) n (mn (mx n 0) ((U.signs b).length : Int)) (U.signs b) ((U.signs b).take n.toNat) ((U.signs b).drop n.toNat) (k0 + k1 + k3 + k4 + k5 + k6) w hT hb (h0 _ (by omega)) (h1 _ (by omega)) ?_ rfl (by omega) ?_ ?_ ?_ ?_ ?_ (h6 _ (by omega))
    · rw [Count_ev _ (by omega), s1, List.length_take]
      congr 1
      unfold mn mx
      split <;> split <;> omega
    · rw [es]
    · exact (h3 _ (by omega)).trans (by rw [s1])
    · rw [es]; exact (h4 _ (by omega)).trans (by rw [s2])
    · rw [List.length_take, List.length_drop]; omega
    · rw [List.take_append_drop]; exact (h5 _ (by omega)).trans (by simp)
  · exact begin_big b n k6 w hT hb (h6 _ (Nat.le_refl _))
end Go.Proofs.YtjcgjchdelipcaaDoor.G
