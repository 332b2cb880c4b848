/- The trie's plain laws: what is told of a sign is what it was given; as many blocks as there are unlike ones. -/
import Derived.Test.YtpameikbacnpcaaTG
import Derived.Test.YtpameikbacnpcaaTD
namespace Go.Proofs.Ytpameikbacnpcaa.T
open Go
set_option linter.unusedVariables false

def blkF (l : List (Int × Int)) (i : Int) : List Int := (List.range 64).map fun (c : Nat) => findP l (64 * i + (c : Int))
theorem blkF_len (l : List (Int × Int)) (i : Int) : (blkF l i).length = 64 := by simp [blkF]
theorem blkF_at (l : List (Int × Int)) (i : Int) (c : Nat) (h : c < 64) : (blkF l i).getD c 0 = findP l (64 * i + (c : Int)) := by
  simp [blkF, List.getD_eq_getElem?_getD, h]
theorem zeroB_at (c : Nat) : zeroB.getD c 0 = 0 := by
  unfold zeroB
  rw [List.getD_eq_getElem?_getD, List.getElem?_replicate]
  split <;> rfl
theorem findP_none : ∀ (l : List (Int × Int)) (c : Int), c ∉ l.map Prod.fst → findP l c = 0
  | [], _, _ => rfl
  | p :: l, c, h => by
    simp only [List.map_cons, List.mem_cons, not_or] at h
    rw [findP, if_neg (fun e => h.1 e.symm), findP_none l c h.2]
theorem findP_snoc : ∀ (l : List (Int × Int)) (p : Int × Int) (c : Int), p.1 ∉ l.map Prod.fst → findP (l ++ [p]) c = if p.1 = c then p.2 else findP l c
  | [], p, c, _ => rfl
  | q :: l, p, c, h => by
    simp only [List.map_cons, List.mem_cons, not_or] at h
    rw [List.cons_append, findP, findP, findP_snoc l p c h.2]
    by_cases e : q.1 = c
    · rw [if_pos e, if_pos e, if_neg (fun e2 => h.1 (e2.trans e.symm))]
    · rw [if_neg e, if_neg e]
theorem findP_mem : ∀ (l : List (Int × Int)) (p : Int × Int), (l.map Prod.fst).Nodup → p ∈ l → findP l p.1 = p.2
  | [], p, _, h => by simp at h
  | q :: l, p, hn, h => by
    simp only [List.map_cons, List.nodup_cons] at hn
    rw [findP]
    rcases List.mem_cons.1 h with e | h
    · rw [if_pos (by rw [e]), e]
    · rw [if_neg (fun (e : q.1 = p.1) => hn.1 (e ▸ List.mem_map_of_mem h)), findP_mem l p hn.2 h]
theorem findP_ne {l : List (Int × Int)} {c : Int} (h : findP l c ≠ 0) : ∃ p ∈ l, p.1 = c ∧ p.2 = findP l c := by
  induction l with
  | nil => exact absurd rfl h
  | cons q l ih =>
    rw [findP] at h ⊢
    by_cases e : q.1 = c
    · rw [if_pos e] at h ⊢
      exact ⟨q, by simp, e, rfl⟩
    · rw [if_neg e] at h ⊢
      obtain ⟨p, hp, h2⟩ := ih h
      exact ⟨p, by simp [hp], h2⟩
theorem list_ext0 {a b : List Int} (ha : a.length = 64) (hb : b.length = 64) (h : ∀ c, c < 64 → a.getD c 0 = b.getD c 0) : a = b := by
  apply List.ext_getElem (by omega)
  intro i h1 h2
  have := h i (by omega)
  simpa [List.getD_eq_getElem?_getD, List.getElem?_eq_getElem h1, List.getElem?_eq_getElem h2] using this
theorem own_snoc (l : List (Int × Int)) (p : Int × Int) : own (l ++ [p]) = upd (own l) (p.1 / 64) (newB (own l) p.1 p.2) := by
  unfold own; rw [List.foldl_append]; rfl

/-- What the first pass fills. -/
theorem own_spec (l : List (Int × Int)) : ∀ n, n ≤ l.length → (l.map Prod.fst).Nodup → (∀ p ∈ l, 0 ≤ p.1) → (∀ i, ((own (l.take n)) i).getD zeroB = blkF (l.take n) i) ∧ ∀ i, ((own (l.take n)) i).isSome = true ↔ ∃ p ∈ l.take n, p.1 / 64 = i
  | 0, _, _, _ => by
    refine ⟨fun i => ?_, fun i => by simp [own]⟩
    apply list_ext0 (by simp [own, zeroB]) (blkF_len _ _)
    intro c hc
    rw [blkF_at _ _ _ hc]
    exact zeroB_at c
  | n + 1, hn, hd, h0 => by
    obtain ⟨ih1, ih2⟩ := own_spec l n (by omega) hd h0
    have hlt : n < l.length := by omega
    have e : l.take (n + 1) = l.take n ++ [l[n]] := List.take_succ_eq_append_getElem hlt
    obtain ⟨p, hp⟩ : ∃ p, p = l[n] := ⟨_, rfl⟩
    have hp0 : 0 ≤ p.1 := by rw [hp]; exact h0 _ (List.getElem_mem _)
    have hnm : p.1 ∉ (l.take n).map Prod.fst := by
      have h1 : l = l.take n ++ (l[n] :: l.drop (n + 1)) := by rw [← List.drop_eq_getElem_cons hlt, List.take_append_drop]
      rw [h1, List.map_append, List.nodup_append] at hd
      intro hm
      exact hd.2.2 _ hm p.1 (by rw [hp, List.map_cons]; exact List.mem_cons_self) rfl
    rw [e, ← hp, own_snoc]
    refine ⟨fun i => ?_, fun i => ?_⟩
    · unfold upd
      by_cases ei : i = p.1 / 64
      · rw [if_pos ei, Option.getD_some]
        unfold newB
        rw [ih1]
        apply list_ext0 (by rw [List.length_set, blkF_len]) (blkF_len _ _)
        intro c hc
        rw [blkF_at _ _ _ hc, findP_snoc _ _ _ hnm]
        by_cases ec : (p.1 % 64).toNat = c
        · rw [if_pos (by omega)]
          rw [List.getD_eq_getElem?_getD, ec, List.getElem?_set_self (by rw [blkF_len]; exact hc)]
          rfl
        · rw [if_neg (by omega), List.getD_eq_getElem?_getD, List.getElem?_set_ne ec, ← List.getD_eq_getElem?_getD, blkF_at _ _ _ hc, ei]
      · rw [if_neg ei, ih1]
        apply list_ext0 (blkF_len _ _) (blkF_len _ _)
        intro c hc
        rw [blkF_at _ _ _ hc, blkF_at _ _ _ hc, findP_snoc _ _ _ hnm, if_neg (by omega)]
    · unfold upd
      by_cases ei : i = p.1 / 64
      · rw [if_pos ei]
        exact ⟨fun _ => ⟨p, by simp, ei.symm⟩, fun _ => rfl⟩
      · rw [if_neg ei, ih2]
        constructor
        · rintro ⟨q, hq, e2⟩; exact ⟨q, by simp [hq], e2⟩
        · rintro ⟨q, hq, e2⟩
          rcases List.mem_append.1 hq with h | h
          · exact ⟨q, h, e2⟩
          · simp at h; subst h; exact absurd e2.symm ei
theorem own_all {l : List (Int × Int)} (hd : (l.map Prod.fst).Nodup) (h0 : ∀ p ∈ l, 0 ≤ p.1) : (∀ i, ((own l) i).getD zeroB = blkF l i) ∧ ∀ i, ((own l) i).isSome = true ↔ ∃ p ∈ l, p.1 / 64 = i := by
  have := own_spec l l.length (Nat.le_refl _) hd h0
  rwa [List.take_length] at this

/-! the fold over the keys -/
structure TSt (f : Int → Option (List Int)) (ks : List Int) (s : List (List Int) × (Int → Option Nat)) : Prop where
  nodup : s.1.Nodup
  mem : ∀ b, b ∈ s.1 ↔ b = zeroB ∨ ∃ i ∈ ks, b = (f i).getD zeroB
  at_ : ∀ i, i ∈ ks → ∃ k, s.2 i = some k ∧ s.1[k]? = some ((f i).getD zeroB)
  off : ∀ i, i ∉ ks → s.2 i = none
theorem place_some {B : List (List Int)} {b : List Int} {k : Nat} (h : place B b = some k) : B[k]? = some b := by
  unfold place at h
  obtain ⟨h1, h2, -⟩ := List.findIdx?_eq_some_iff_getElem.1 h
  rw [List.getElem?_eq_getElem h1]
  simpa using h2
theorem place_none {B : List (List Int)} {b : List Int} (h : place B b = none) : b ∉ B := by
  unfold place at h
  rw [List.findIdx?_eq_none_iff] at h
  intro hm
  have := h b hm
  simp at this
theorem TSt.zero (f : Int → Option (List Int)) : TSt f [] t0 := ⟨by simp [t0], fun b => by simp [t0], fun i h => by simp at h, fun i _ => rfl⟩
theorem TSt.step {f : Int → Option (List Int)} {ks : List Int} {s : List (List Int) × (Int → Option Nat)} (h : TSt f ks s) (i : Int) : TSt f (ks ++ [i]) (tstep f s i) := by
  unfold tstep
  cases hp : place s.1 ((f i).getD zeroB) with
  | some k =>
    have hk := place_some hp
    have hm : (f i).getD zeroB ∈ s.1 := List.mem_of_getElem? hk
    refine ⟨h.nodup, fun b => ?_, fun x hx => ?_, fun x hx => ?_⟩
    · show b ∈ s.1 ↔ _
      rw [h.mem]
      constructor
      · rintro (e | ⟨j, hj, e⟩)
        · exact .inl e
        · exact .inr ⟨j, by simp [hj], e⟩
      · rintro (e | ⟨j, hj, e⟩)
        · exact .inl e
        · rcases List.mem_append.1 hj with h1 | h1
          · exact .inr ⟨j, h1, e⟩
          · simp at h1; subst h1
            rw [e]; exact (h.mem _).1 hm
    · show ∃ k', updA s.2 i k x = some k' ∧ _
      unfold updA
      by_cases e : x = i
      · rw [if_pos e, e]; exact ⟨k, rfl, hk⟩
      · rw [if_neg e]
        rcases List.mem_append.1 hx with h1 | h1
        · exact h.at_ x h1
        · simp at h1; exact absurd h1 e
    · show updA s.2 i k x = none
      simp only [List.mem_append, List.mem_singleton, not_or] at hx
      unfold updA
      rw [if_neg hx.2]; exact h.off x hx.1
  | none =>
    have hn := place_none hp
    refine ⟨?_, fun b => ?_, fun x hx => ?_, fun x hx => ?_⟩
    · show (s.1 ++ [(f i).getD zeroB]).Nodup
      rw [List.nodup_append]
      exact ⟨h.nodup, by simp, fun a ha b hb e => by simp at hb; exact hn (hb ▸ e ▸ ha)⟩
    · show b ∈ s.1 ++ [(f i).getD zeroB] ↔ _
      rw [List.mem_append, h.mem]
      constructor
      · rintro ((e | ⟨j, hj, e⟩) | e)
        · exact .inl e
        · exact .inr ⟨j, by simp [hj], e⟩
        · exact .inr ⟨i, by simp, by simpa using e⟩
      · rintro (e | ⟨j, hj, e⟩)
        · exact .inl (.inl e)
        · rcases List.mem_append.1 hj with h1 | h1
          · exact .inl (.inr ⟨j, h1, e⟩)
          · simp at h1; subst h1; exact .inr (by simp [e])
    · show ∃ k', updA s.2 i s.1.length x = some k' ∧ (s.1 ++ [(f i).getD zeroB])[k']? = _
      unfold updA
      by_cases e : x = i
      · rw [if_pos e, e]; exact ⟨s.1.length, rfl, by simp⟩
      · rw [if_neg e]
        rcases List.mem_append.1 hx with h1 | h1
        · obtain ⟨k, h2, h3⟩ := h.at_ x h1
          refine ⟨k, h2, ?_⟩
          have hlt := (List.getElem?_eq_some_iff.1 h3).1
          rw [List.getElem?_append_left hlt]; exact h3
        · simp at h1; exact absurd h1 e
    · show updA s.2 i s.1.length x = none
      simp only [List.mem_append, List.mem_singleton, not_or] at hx
      unfold updA
      rw [if_neg hx.2]; exact h.off x hx.1
theorem TSt.fold {f : Int → Option (List Int)} : ∀ (ks pre : List Int) (s : List (List Int) × (Int → Option Nat)), TSt f pre s → TSt f (pre ++ ks) (ks.foldl (tstep f) s)
  | [], pre, s, h => by simpa using h
  | k :: ks, pre, s, h => by
    have := TSt.fold ks (pre ++ [k]) _ (h.step k)
    simpa using this

/-- The trie of pairs, as its keys stand. -/
def triOf (l : List (Int × Int)) (ks : List Int) : List (List Int) × (Int → Option Nat) := ks.foldl (tstep (own l)) t0
theorem tri_st (l : List (Int × Int)) (ks : List Int) : TSt (own l) ks (triOf l ks) := by
  have := TSt.fold ks [] t0 (TSt.zero (own l))
  rw [List.nil_append] at this
  exact this
theorem tri_ok (l : List (Int × Int)) (ks : List Int) : TOk (triOf l ks) := TOk.fold ks t0 TOk.zero

/-- EACH SIGN HAS THE NUMBER THAT IT WAS GIVEN. -/
theorem get_is {l : List (Int × Int)} {ks : List Int} (hd : (l.map Prod.fst).Nodup) (hok : l.any (fun p => !okP p) = false) (hk : ∀ x, x ∈ ks ↔ (own l x).isSome = true) (c : Int) : getP (triOf l ks) c = findP l c := by
  have hr : ∀ p ∈ l, 0 ≤ p.1 ∧ p.1 ≤ 1114367 := fun p hp => by
    have := List.any_eq_false.1 hok p hp
    simp only [okP, Bool.not_eq_true', Bool.not_eq_false, Bool.and_eq_true, decide_eq_true_eq] at this
    omega
  obtain ⟨h1, h2⟩ := own_all hd (fun p hp => (hr p hp).1)
  have st := tri_st l ks
  have hout : ∀ c, (c < 0 ∨ 1114367 < c) → findP l c = 0 := fun c hc => findP_none l c (fun hm => by
    obtain ⟨p, hp, e⟩ := List.mem_map.1 hm
    have := hr p hp
    omega)
  unfold getP
  by_cases hn : c < 0
  · rw [if_pos hn, hout c (.inl hn)]
  · rw [if_neg hn]
    by_cases hb : 1114367 < c
    · rw [if_pos hb, hout c (.inr hb)]
    · rw [if_neg hb]
      by_cases hm : c / 64 ∈ ks
      · obtain ⟨k, e1, e2⟩ := st.at_ _ hm
        rw [e1]
        show ((triOf l ks).1.getD k []).getD (c % 64).toNat 0 = _
        rw [show (triOf l ks).1.getD k [] = blkF l (c / 64) by rw [List.getD_eq_getElem?_getD, e2, Option.getD_some, h1], blkF_at _ _ _ (by omega)]
        congr 1
        omega
      · rw [st.off _ hm]
        refine (findP_none l c (fun hc => hm ?_)).symm
        obtain ⟨p, hp, e⟩ := List.mem_map.1 hc
        rw [hk, h2]
        exact ⟨p, hp, by rw [e]⟩

/-! the law's count -/
theorem eqUpto_iff (l : List (Int × Int)) (x y : Int) : eqUpto l x y 64 = true ↔ blkF l x = blkF l y := by
  unfold eqUpto
  rw [List.all_eq_true]
  constructor
  · intro h
    apply list_ext0 (blkF_len _ _) (blkF_len _ _)
    intro c hc
    rw [blkF_at _ _ _ hc, blkF_at _ _ _ hc]
    simpa using h c (by simpa using hc)
  · intro h c hc
    have hc : c < 64 := by simpa using hc
    rw [beq_iff_eq, ← blkF_at _ _ _ hc, ← blkF_at _ _ _ hc, h]
/-- The unlike blocks, as the law counts them. -/
theorem cnt_list (l : List (Int × Int)) (at_ : List Int) : ∀ m, m ≤ at_.length → ∃ E : List (List Int), E.Nodup ∧ E.length + 1 = cntN l at_ m ∧ ∀ b, b ∈ E ↔ ∃ k, k < m ∧ b = blkF l (at_.getD k 0)
  | 0, _ => ⟨[], by simp, rfl, fun b => by simp⟩
  | m + 1, hm => by
    obtain ⟨E, h1, h2, h3⟩ := cnt_list l at_ m (by omega)
    have ho : oldU l at_ m m = true ↔ blkF l (at_.getD m 0) ∈ E := by
      unfold oldU
      rw [List.any_eq_true, h3]
      constructor
      · rintro ⟨k, hk, e⟩
        exact ⟨k, by simpa using hk, (eqUpto_iff _ _ _).1 e⟩
      · rintro ⟨k, hk, e⟩
        exact ⟨k, by simpa using hk, (eqUpto_iff _ _ _).2 e⟩
    by_cases hu : oldU l at_ m m = true
    · refine ⟨E, h1, by rw [cntN, if_pos hu, h2], fun b => ?_⟩
      rw [h3]
      constructor
      · rintro ⟨k, hk, e⟩; exact ⟨k, by omega, e⟩
      · rintro ⟨k, hk, e⟩
        by_cases ek : k = m
        · subst ek; rw [e]; exact (h3 _).1 (ho.1 hu)
        · exact ⟨k, by omega, e⟩
    · refine ⟨E ++ [blkF l (at_.getD m 0)], ?_, by rw [cntN, if_neg hu]; simp; omega, fun b => ?_⟩
      · rw [List.nodup_append]
        exact ⟨h1, by simp, fun a ha b hb e => by simp at hb; exact hu (ho.2 (hb ▸ e ▸ ha))⟩
      · rw [List.mem_append, h3]
        constructor
        · rintro (⟨k, hk, e⟩ | e)
          · exact ⟨k, by omega, e⟩
          · exact ⟨m, by omega, by simpa using e⟩
        · rintro ⟨k, hk, e⟩
          by_cases ek : k = m
          · subst ek; exact .inr (by simp [e])
          · exact .inl ⟨k, by omega, e⟩
theorem mem_atL : ∀ (l acc : List (Int × Int)) (a0 : List Int) (x : Int), x ∈ l.foldl atStep a0 ↔ x ∈ a0 ∨ ∃ p ∈ l, p.2 ≠ 0 ∧ p.1 / 64 = x
  | [], _, a0, x => by simp
  | p :: l, acc, a0, x => by
    rw [List.foldl_cons, mem_atL l acc]
    have e : x ∈ atStep a0 p ↔ x ∈ a0 ∨ (p.2 ≠ 0 ∧ p.1 / 64 = x) := by
      unfold atStep
      by_cases h1 : p.2 = 0
      · simp [h1]
      · by_cases h2 : p.1 / 64 ∈ a0
        · simp [h1, h2]
          rintro rfl
          exact h2
        · simp [h1, h2]
          constructor
          · rintro (h | h)
            · exact .inl h
            · exact .inr h.symm
          · rintro (h | h)
            · exact .inl h
            · exact .inr h.symm
    rw [e]
    constructor
    · rintro ((h | h) | ⟨q, hq, h⟩)
      · exact .inl h
      · exact .inr ⟨p, by simp, h⟩
      · exact .inr ⟨q, by simp [hq], h⟩
    · rintro (h | ⟨q, hq, h⟩)
      · exact .inl (.inl h)
      · rcases List.mem_cons.1 hq with rfl | hq
        · exact .inl (.inr h)
        · exact .inr ⟨q, hq, h⟩

/-- LIKE BLOCKS STAND ONCE. -/
theorem blocks_is {l : List (Int × Int)} {ks : List Int} (hd : (l.map Prod.fst).Nodup) (hok : l.any (fun p => !okP p) = false) (hk : ∀ x, x ∈ ks ↔ (own l x).isSome = true) : (triOf l ks).1.length = cntN l (atL l) (atL l).length := by
  have hr : ∀ p ∈ l, 0 ≤ p.1 := fun p hp => by
    have := List.any_eq_false.1 hok p hp
    simp only [okP, Bool.not_eq_true', Bool.not_eq_false, Bool.and_eq_true, decide_eq_true_eq] at this
    omega
  obtain ⟨h1, h2⟩ := own_all hd hr
  have st := tri_st l ks
  obtain ⟨E, e1, e2, e3⟩ := cnt_list l (atL l) (atL l).length (Nat.le_refl _)
  have hat : ∀ x, x ∈ atL l ↔ ∃ p ∈ l, p.2 ≠ 0 ∧ p.1 / 64 = x := fun x => by
    have := mem_atL l l [] x
    simpa [atL] using this
  have hmem : ∀ b, b ∈ E ↔ ∃ x ∈ atL l, b = blkF l x := fun b => by
    rw [e3]
    constructor
    · rintro ⟨k, hk, e⟩; exact ⟨_, getD_mem hk, e⟩
    · rintro ⟨x, hx, e⟩
      obtain ⟨k, hk, rfl⟩ := List.getElem_of_mem hx
      exact ⟨k, hk, by simpa [List.getD_eq_getElem?_getD, List.getElem?_eq_getElem hk] using e⟩
  have hz : ∀ x ∈ atL l, blkF l x ≠ zeroB := fun x hx e => by
    obtain ⟨p, hp, hv, hx2⟩ := (hat x).1 hx
    have h3 := findP_mem l p hd hp
    have h4 : (blkF l x).getD (p.1 % 64).toNat 0 = zeroB.getD (p.1 % 64).toNat 0 := by rw [e]
    have hp0 := hr p hp
    rw [blkF_at _ _ _ (by omega), show 64 * x + (((p.1 % 64).toNat : Nat) : Int) = p.1 by omega, h3] at h4
    rw [zeroB_at] at h4
    exact hv h4
  have hzn : zeroB ∉ E := fun h => by
    obtain ⟨x, hx, e⟩ := (hmem _).1 h
    exact hz x hx e.symm
  have hp : ((triOf l ks).1).Perm (zeroB :: E) := by
    refine (List.perm_ext_iff_of_nodup st.nodup (by rw [List.nodup_cons]; exact ⟨hzn, e1⟩)).2 fun b => ?_
    rw [st.mem, List.mem_cons, hmem]
    constructor
    · rintro (e | ⟨i, hi, e⟩)
      · exact .inl e
      · by_cases hb : b = zeroB
        · exact .inl hb
        · right
          refine ⟨i, ?_, by rw [e, h1]⟩
          rw [h1] at e
          have hex : ∃ c : Nat, c < 64 ∧ findP l (64 * i + (c : Int)) ≠ 0 := by
            by_cases hex : ∃ c : Nat, c < 64 ∧ findP l (64 * i + (c : Int)) ≠ 0
            · exact hex
            · refine absurd ?_ hb
              rw [e]
              apply list_ext0 (blkF_len _ _) (by simp [zeroB])
              intro c hc
              rw [blkF_at _ _ _ hc]
              have : findP l (64 * i + (c : Int)) = 0 := by
                by_cases h0 : findP l (64 * i + (c : Int)) = 0
                · exact h0
                · exact absurd ⟨c, hc, h0⟩ hex
              rw [this, zeroB_at]
          obtain ⟨c, hc, hne⟩ := hex
          obtain ⟨p, hp, hp1, hp2⟩ := findP_ne hne
          exact (hat i).2 ⟨p, hp, by rw [hp2]; exact hne, by omega⟩
    · rintro (e | ⟨x, hx, e⟩)
      · exact .inl e
      · right
        obtain ⟨p, hp, hv, hx2⟩ := (hat x).1 hx
        exact ⟨x, (hk x).2 ((h2 x).2 ⟨p, hp, hx2⟩), by rw [e, h1]⟩
  have := hp.length_eq
  simp only [List.length_cons] at this
  omega
end Go.Proofs.Ytpameikbacnpcaa.T
