/- Plain laws on texts as signs, fourth part: folded signs are read as they are; a text's first signs. No program in sight. -/
import Derived.Test.YtjcgjchdelipcaaDoorGText3
namespace Go.Proofs.YtjcgjchdelipcaaDoor.U
open Go Go.Proofs Go.Lib
set_option linter.unusedVariables false
set_option linter.unusedSimpArgs false

/-- A sign's small one. -/
def fold (c : Int) : Int :=
  if (65 ≤ c ∧ c ≤ 90) ∨ (192 ≤ c ∧ c ≤ 222 ∧ c ≠ 215) ∨ (913 ≤ c ∧ c ≤ 937 ∧ c ≠ 930) ∨ (1040 ≤ c ∧ c ≤ 1071) then c + 32 else if 1024 ≤ c ∧ c ≤ 1039 then c + 80 else c
theorem fold_fold (c : Int) : fold (fold c) = fold c := by
  have key : ∀ d, d = fold c → fold d = d := by
    intro d hd
    unfold fold at hd ⊢
    split at hd
    · rw [if_neg (by omega), if_neg (by omega)]
    · split at hd
      · rw [if_neg (by omega), if_neg (by omega)]
      · subst hd
        rw [if_neg (by assumption), if_neg (by assumption)]
  exact key _ rfl
theorem fold_isS (c : Int) (h : isS c = true) : isS (fold c) = true := by
  unfold isS at h ⊢
  simp only [decide_eq_true_eq] at h ⊢
  unfold fold
  split
  · omega
  · split <;> omega
theorem fold_lt (c : Int) : fold c < 1114112 ↔ c < 1114112 := by
  unfold fold
  split
  · omega
  · split <;> omega
theorem fold_raw (c : Int) (h : 1114112 ≤ c) : fold c = c := by
  unfold fold
  rw [if_neg (by omega), if_neg (by omega)]
def Cont (x : Int) : Prop := 128 ≤ x ∧ x ≤ 191
theorem head_not (c : Int) (hc : isS c = true) (hlt : c < 1114112) : ∃ x t, one c = x :: t ∧ ¬ Cont x := by
  unfold isS at hc
  simp only [decide_eq_true_eq] at hc
  unfold one Cont
  rw [if_neg (by omega)]
  by_cases c1 : c < 128
  · rw [if_pos c1]; exact ⟨_, _, rfl, by omega⟩
  rw [if_neg c1]
  by_cases c2 : c < 2048
  · rw [if_pos c2]; exact ⟨_, _, rfl, by omega⟩
  rw [if_neg c2]
  by_cases c3 : c < 65536
  · rw [if_pos c3]; exact ⟨_, _, rfl, by omega⟩
  · rw [if_neg c3]; exact ⟨_, _, rfl, by omega⟩
theorem one_raw (c : Int) (h : 1114112 ≤ c) : one c = [c - 1114112] := by unfold one; rw [if_pos h]
theorem join_cons (c : Int) (l : List Int) : join (c :: l) = one c ++ join l := by unfold join; rw [List.flatMap_cons]
/-- Where folded signs' bytes go on a sign, the signs' own do so, too. -/
theorem fold_run : ∀ (l : List Int), (∀ c ∈ l, isS c = true) → ∀ m : Nat, (∀ i, i < m → ∃ x, (join (l.map fold))[i]? = some x ∧ Cont x) → (join l).take m = (join (l.map fold)).take m ∧ m ≤ (join l).length
  | l, hl, 0, _ => by simp
  | [], hl, m + 1, h => by
    obtain ⟨x, hx, _⟩ := h 0 (by omega)
    simp [join] at hx
  | c :: l, hl, m + 1, h => by
    have hc := hl c (by simp)
    by_cases hlt : c < 1114112
    · obtain ⟨x, t, hx, hn⟩ := head_not (fold c) (fold_isS c hc) ((fold_lt c).2 hlt)
      obtain ⟨y, hy, hcy⟩ := h 0 (by omega)
      rw [List.map_cons, join_cons, hx] at hy
      simp at hy
      exact absurd (hy ▸ hcy) hn
    · have e1 := one_raw c (by omega)
      have e2 : fold c = c := fold_raw c (by omega)
      have ih := fold_run l (fun d hd => hl d (by simp [hd])) m (fun i hi => by
        obtain ⟨y, hy, hcy⟩ := h (i + 1) (by omega)
        rw [List.map_cons, join_cons, e2, e1] at hy
        simp only [List.cons_append, List.nil_append, List.getElem?_cons_succ] at hy
        exact ⟨y, hy, hcy⟩)
      rw [List.map_cons, join_cons, join_cons, e2, e1]
      simp only [List.cons_append, List.nil_append, List.take_succ_cons, List.length_cons]
      exact ⟨by rw [ih.1], by omega⟩
theorem dec_bounds (L : List Int) (h : 0 < L.length) (hB : Byt L) : 1 ≤ (dec L).2 ∧ (dec L).2 ≤ L.length ∧ (dec L).2 ≤ 4 := by
  obtain ⟨-, b, c, d, e, -⟩ := sg_back L.length (L.getD 0 0).toNat (L.getD 1 0).toNat (L.getD 2 0).toNat (L.getD 3 0).toNat (getD_lt L hB 0) (getD_lt L hB 1) (getD_lt L hB 2) (getD_lt L hB 3) h
  unfold dec
  omega
theorem join_byt (l : List Int) (h : ∀ c ∈ l, isS c = true) : Byt (join l) := join_byte l h
theorem map_isS (l : List Int) (h : ∀ c ∈ l, isS c = true) : ∀ c ∈ l.map fold, isS c = true := by
  intro c hc
  obtain ⟨d, hd, rfl⟩ := List.mem_map.1 hc
  exact fold_isS d (h d hd)
theorem dec_bad (L : List Int) (hB : Byt L) (h : 0 < L.length) (hs : 1114112 ≤ (sgn (strOfNums L)).1) : (dec L).1 = 65533 ∧ (dec L).2 = 1 := by
  obtain ⟨-, -, -, -, -, g, -⟩ := sg_back L.length (L.getD 0 0).toNat (L.getD 1 0).toNat (L.getD 2 0).toNat (L.getD 3 0).toNat (getD_lt L hB 0) (getD_lt L hB 1) (getD_lt L hB 2) (getD_lt L hB 3) h
  rw [sgn_list L hB h] at hs
  by_cases hb : (dec L).1 = 65533 ∧ (dec L).2 = 1
  · exact hb
  · have hle := g.2 hb
    unfold dec at hs
    omega
theorem raw_keep (b0 : Int) (R R2 : List Int) (hB : Byt (b0 :: R2)) (hrun : ∀ m : Nat, (∀ i, i < m → ∃ x, R2[i]? = some x ∧ Cont x) → R.take m = R2.take m ∧ m ≤ R.length)
    (hbad : (dec (b0 :: R)).1 = 65533 ∧ (dec (b0 :: R)).2 = 1) : (dec (b0 :: R2)).1 = 65533 ∧ (dec (b0 :: R2)).2 = 1 := by
  by_cases hb : (dec (b0 :: R2)).1 = 65533 ∧ (dec (b0 :: R2)).2 = 1
  · exact hb
  · exfalso
    obtain ⟨d1, d2, d3⟩ := dec_bounds (b0 :: R2) (by simp) hB
    have hcont := decode_cont _ _ _ _ _ (dec (b0 :: R2)).1 (dec (b0 :: R2)).2 rfl hb
    have run := hrun ((dec (b0 :: R2)).2 - 1) (fun i hi => by
      have hi2 : i < R2.length := by simp at d2; omega
      refine ⟨R2[i], List.getElem?_eq_getElem hi2, ?_⟩
      have hbi := hB R2[i] (by simp)
      have hget : (b0 :: R2).getD (i + 1) 0 = R2[i] := by
        rw [List.getD_cons_succ, List.getD_eq_getElem?_getD, List.getElem?_eq_getElem hi2]
        rfl
      unfold Cont
      have : i = 0 ∨ i = 1 ∨ i = 2 := by omega
      rcases this with rfl | rfl | rfl
      · have := hcont.1 (by omega); rw [hget] at this; omega
      · have := hcont.2.1 (by omega); rw [hget] at this; omega
      · have := hcont.2.2 (by omega); rw [hget] at this; omega)
    have e : dec (b0 :: R) = dec (b0 :: R2) := by
      refine dec_same (b0 :: R2) (b0 :: R) hb (by simp) (by simp; omega) d2 ?_ d1
      obtain ⟨w, hw2⟩ : ∃ w, (dec (b0 :: R2)).2 = w + 1 := ⟨(dec (b0 :: R2)).2 - 1, by omega⟩
      rw [hw2, List.take_succ_cons, List.take_succ_cons]
      rw [hw2] at run
      rw [show w + 1 - 1 = w by omega] at run
      rw [run.1]
    rw [e] at hbad
    exact hb hbad
theorem bs_byt (s : ByteArray) : Byt (bs s) := by
  intro x hx
  unfold bs at hx
  obtain ⟨y, _, rfl⟩ := List.mem_map.1 hx
  exact ⟨by omega, by have := UInt8.toNat_lt y; omega⟩
/-- A text's folded signs are read as they are. -/
theorem fold_canon (b : ByteArray) : signs (strOfNums (join ((signs b).map fold))) = (signs b).map fold := by
  induction b using by_signs with
  | h0 s h => rw [signs_nil s h]; exact signs_nil _ rfl
  | h1 s h ih =>
    obtain ⟨hc, hw, w1, w2, w3, hone, hg⟩ := sgn_back s h
    have hS := signs_isS (s.extract (wd s) s.size)
    have hB := join_byt _ (map_isS _ hS)
    have hjs := join_signs s
    have hrun := fold_run _ hS
    have hstr := str_bs s
    have hbyt := bs_byt s
    have hlen := bs_length s
    rw [signs_cons s h] at hjs ⊢
    rw [List.map_cons]
    refine canon_cons _ _ (fold_isS _ hc) ?_ ih
    by_cases hlt : (sgn s).1 < 1114112
    · exact sgn_one _ _ hB (fold_isS _ hc) ((fold_lt _).2 hlt)
    · rw [fold_raw _ (by omega)]
      have e1 := one_raw (sgn s).1 (by omega)
      have hb0 := one_byte _ hc ((sgn s).1 - 1114112) (by rw [e1]; exact List.mem_singleton.2 rfl)
      rw [join_cons, e1, List.singleton_append] at hjs
      rw [e1, List.singleton_append]
      have hx : (sgn (strOfNums (bs s))).1 = (sgn s).1 := by rw [hstr]
      have hbs : 0 < (bs s).length := by rw [hlen]; exact h
      have hge : 1114112 ≤ (sgn (strOfNums (bs s))).1 := by rw [hx]; exact Int.not_lt.1 hlt
      have hbad := dec_bad (bs s) hbyt hbs hge
      rw [← hjs] at hbad
      have hB2 : Byt (((sgn s).1 - 1114112) :: join ((signs (s.extract (wd s) s.size)).map fold)) := by
        intro x hx
        rcases List.mem_cons.1 hx with rfl | hx
        · exact hb0
        · exact hB x hx
      have hbad2 := raw_keep _ _ _ hB2 hrun hbad
      have hr := sgn_raw _ _ hB2 hbad2
      refine hr.trans ?_
      simp
      omega

end Go.Proofs.YtjcgjchdelipcaaDoor.U
