/- The pairs that a trie tells: their plain laws. -/
import Derived.Test.YtpameikbacnpcaaTH
namespace Go.Proofs.Ytpameikbacnpcaa.T
open Go
set_option linter.unusedVariables false

theorem mem_prsP {l : List (Int × Int)} {ks : List Int} {p : Int × Int} : p ∈ prsP l ks ↔ ∃ i ∈ ks, ∃ k : Nat, k < 64 ∧ findP l (64 * i + (k : Int)) ≠ 0 ∧ p = (64 * i + (k : Int), findP l (64 * i + (k : Int))) := by
  unfold prsP blkP
  simp only [List.mem_flatten, List.mem_map]
  constructor
  · rintro ⟨_, ⟨i, hi, rfl⟩, hp⟩
    rw [List.mem_filterMap] at hp
    obtain ⟨k, hk, e⟩ := hp
    by_cases h : findP l (64 * i + (k : Int)) = 0
    · rw [if_pos h] at e; cases e
    · rw [if_neg h] at e
      exact ⟨i, hi, k, by simpa using hk, h, (Option.some.inj e).symm⟩
  · rintro ⟨i, hi, k, hk, h, rfl⟩
    exact ⟨_, ⟨i, hi, rfl⟩, List.mem_filterMap.2 ⟨k, by simpa using hk, by rw [if_neg h]⟩⟩
theorem blkP_rising (l : List (Int × Int)) (i : Int) : ∀ n, ((blkP l i n).Pairwise fun a b => a.1 < b.1) ∧ ∀ p ∈ blkP l i n, 64 * i ≤ p.1 ∧ p.1 < 64 * i + n
  | 0 => by simp [blkP]
  | n + 1 => by
    obtain ⟨h1, h2⟩ := blkP_rising l i n
    rw [blkP_succ]
    split
    · exact ⟨h1, fun p hp => by have := h2 p hp; omega⟩
    · refine ⟨?_, fun p hp => ?_⟩
      · rw [List.pairwise_append]
        exact ⟨h1, by simp, fun a ha b hb => by have := h2 a ha; simp at hb; subst hb; simp only; omega⟩
      · rcases List.mem_append.1 hp with h | h
        · have := h2 p h; omega
        · simp at h; subst h; simp only; omega
theorem prsP_rising (l : List (Int × Int)) : ∀ ks : List Int, ks.Pairwise (· < ·) → (prsP l ks).Pairwise fun a b => a.1 < b.1
  | [], _ => by simp [prsP]
  | k :: ks, h => by
    obtain ⟨h1, h2⟩ := List.pairwise_cons.1 h
    have e : prsP l (k :: ks) = blkP l k 64 ++ prsP l ks := by simp [prsP]
    rw [e, List.pairwise_append]
    refine ⟨(blkP_rising l k 64).1, prsP_rising l ks h2, fun a ha b hb => ?_⟩
    have h3 := (blkP_rising l k 64).2 a ha
    obtain ⟨i, hi, j, hj, -, rfl⟩ := mem_prsP.1 hb
    have := h1 i hi
    simp only
    omega
theorem rising_nodup {P : List (Int × Int)} (h : P.Pairwise fun a b => a.1 < b.1) : (P.map Prod.fst).Nodup := by
  rw [List.nodup_iff_pairwise_ne, List.pairwise_map]
  exact h.imp (fun h => by omega)

theorem nodup_of_map {l : List (Int × Int)} (h : (l.map Prod.fst).Nodup) : l.Nodup := by
  rw [List.nodup_iff_pairwise_ne, List.pairwise_map] at h
  rw [List.nodup_iff_pairwise_ne]
  exact h.imp (fun h e => h (congrArg _ e))
theorem ok_of {l : List (Int × Int)} (hok : l.any (fun p => !okP p) = false) {p : Int × Int} (hp : p ∈ l) : 0 ≤ p.1 ∧ p.1 ≤ 1114367 ∧ -2147483648 ≤ p.2 ∧ p.2 ≤ 2147483647 := by
  have := List.any_eq_false.1 hok p hp
  simp only [okP, Bool.not_eq_true', Bool.not_eq_false, Bool.and_eq_true, decide_eq_true_eq] at this
  omega
theorem prs_mem {l : List (Int × Int)} {ks : List Int} (hd : (l.map Prod.fst).Nodup) (hok : l.any (fun p => !okP p) = false) (hk : ∀ x, x ∈ ks ↔ (own l x).isSome = true) (p : Int × Int) : p ∈ prsP l ks ↔ p ∈ l ∧ p.2 ≠ 0 := by
  rw [mem_prsP]
  constructor
  · rintro ⟨i, hi, k, hkk, h, rfl⟩
    obtain ⟨q, hq, h1, h2⟩ := findP_ne h
    exact ⟨by rw [← h1, ← h2] at *; exact hq, h⟩
  · rintro ⟨hp, hv⟩
    have hb := ok_of hok hp
    have hf := findP_mem l p hd hp
    refine ⟨p.1 / 64, ?_, (p.1 % 64).toNat, by omega, ?_, ?_⟩
    · rw [hk, (own_all hd (fun q hq => (ok_of hok hq).1)).2]
      exact ⟨p, hp, rfl⟩
    · rw [show 64 * (p.1 / 64) + (((p.1 % 64).toNat : Nat) : Int) = p.1 by omega, hf]; exact hv
    · rw [show 64 * (p.1 / 64) + (((p.1 % 64).toNat : Nat) : Int) = p.1 by omega, hf]
theorem prs_val {l : List (Int × Int)} {ks : List Int} (hd : (l.map Prod.fst).Nodup) (hok : l.any (fun p => !okP p) = false) (hk : ∀ x, x ∈ ks ↔ (own l x).isSome = true) {p : Int × Int} (hp : p ∈ prsP l ks) : p.2 ≠ 0 ∧ p.2 = findP l p.1 := by
  have h := (prs_mem hd hok hk p).1 hp
  exact ⟨h.2, (findP_mem l p hd h.1).symm⟩
theorem prs_len {l : List (Int × Int)} {ks : List Int} (hd : (l.map Prod.fst).Nodup) (hok : l.any (fun p => !okP p) = false) (hr : ks.Pairwise (· < ·)) (hk : ∀ x, x ∈ ks ↔ (own l x).isSome = true) : (prsP l ks).length = (l.filter fun p => decide (p.2 ≠ 0)).length := by
  have h1 : (prsP l ks).Nodup := nodup_of_map (rising_nodup (prsP_rising l ks hr))
  have h2 : (l.filter fun p => decide (p.2 ≠ 0)).Nodup := (nodup_of_map hd).filter _
  refine (List.perm_ext_iff_of_nodup h1 h2 |>.2 fun p => ?_).length_eq
  rw [prs_mem hd hok hk, List.mem_filter]
  simp
theorem prs_ok {l : List (Int × Int)} {ks : List Int} (hd : (l.map Prod.fst).Nodup) (hok : l.any (fun p => !okP p) = false) (hk : ∀ x, x ∈ ks ↔ (own l x).isSome = true) : (prsP l ks).any (fun p => !okP p) = false := by
  rw [List.any_eq_false]
  intro p hp
  have := List.any_eq_false.1 hok p ((prs_mem hd hok hk p).1 hp).1
  exact this
theorem prs_find {l : List (Int × Int)} {ks : List Int} (hd : (l.map Prod.fst).Nodup) (hok : l.any (fun p => !okP p) = false) (hr : ks.Pairwise (· < ·)) (hk : ∀ x, x ∈ ks ↔ (own l x).isSome = true) (c : Int) : findP (prsP l ks) c = findP l c := by
  have hn := rising_nodup (prsP_rising l ks hr)
  by_cases h : findP l c = 0
  · rw [h]
    refine findP_none _ _ (fun hm => ?_)
    obtain ⟨p, hp, e⟩ := List.mem_map.1 hm
    have := prs_val hd hok hk hp
    rw [e, h] at this
    exact this.1 this.2
  · obtain ⟨p, hp, h1, h2⟩ := findP_ne h
    have hm : p ∈ prsP l ks := (prs_mem hd hok hk p).2 ⟨hp, by rw [h2]; exact h⟩
    have := findP_mem _ p hn hm
    rw [h1] at this
    rw [this, h2]
theorem prs_filter {l : List (Int × Int)} {ks : List Int} (hd : (l.map Prod.fst).Nodup) (hok : l.any (fun p => !okP p) = false) (hk : ∀ x, x ∈ ks ↔ (own l x).isSome = true) : ((prsP l ks).filter fun p => decide (p.2 ≠ 0)) = prsP l ks := by
  rw [List.filter_eq_self]
  intro p hp
  exact decide_eq_true (prs_val hd hok hk hp).1
/-- THE SAME AGAIN. -/
theorem prs_blocks {l : List (Int × Int)} {ks : List Int} (hd : (l.map Prod.fst).Nodup) (hok : l.any (fun p => !okP p) = false) (hr : ks.Pairwise (· < ·)) (hk : ∀ x, x ∈ ks ↔ (own l x).isSome = true) {ks2 : List Int} (hk2 : ∀ x, x ∈ ks2 ↔ (own (prsP l ks) x).isSome = true) : (triOf (prsP l ks) ks2).1.length = (triOf l ks).1.length := by
  have hn := rising_nodup (prsP_rising l ks hr)
  have hok2 := prs_ok hd hok hk
  have st1 := tri_st l ks
  have st2 := tri_st (prsP l ks) ks2
  have o1 := own_all hd (fun q hq => (ok_of hok hq).1)
  have o2 := own_all hn (fun q hq => (ok_of hok2 hq).1)
  have hbf : ∀ i, blkF (prsP l ks) i = blkF l i := fun i => by
    unfold blkF
    apply List.map_congr_left
    intro c _
    exact prs_find hd hok hr hk _
  refine (List.perm_ext_iff_of_nodup st2.nodup st1.nodup |>.2 fun b => ?_).length_eq
  rw [st2.mem, st1.mem]
  constructor
  · rintro (e | ⟨i, hi, e⟩)
    · exact .inl e
    · right
      rw [hk2, o2.2] at hi
      obtain ⟨p, hp, hpi⟩ := hi
      refine ⟨i, ?_, by rw [e, o2.1, o1.1, hbf]⟩
      rw [hk, o1.2]
      exact ⟨p, ((prs_mem hd hok hk p).1 hp).1, hpi⟩
  · rintro (e | ⟨i, hi, e⟩)
    · exact .inl e
    · by_cases h2 : i ∈ ks2
      · exact .inr ⟨i, h2, by rw [e, o2.1, o1.1, hbf]⟩
      · left
        have h3 : (own (prsP l ks) i) = none := by
          cases ho : own (prsP l ks) i with
          | none => rfl
          | some b => exact absurd ((hk2 i).2 (by rw [ho]; rfl)) h2
        have h4 := o2.1 i
        rw [h3, Option.getD_none, hbf] at h4
        rw [e, o1.1, ← h4]
end Go.Proofs.Ytpameikbacnpcaa.T
