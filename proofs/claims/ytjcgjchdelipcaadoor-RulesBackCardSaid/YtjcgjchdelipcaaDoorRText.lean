/- Plain laws on rules as signs: how a text is read as rules, said on the list of its signs; a text's places. No program in sight. -/
import Derived.Test.YtjcgjchdelipcaaDoorGText4
namespace Go.Proofs.YtjcgjchdelipcaaDoor.U
open Go Go.Proofs Go.Lib
set_option linter.unusedVariables false
set_option linter.unusedSimpArgs false

/-- Without the blanks that it begins with. -/
def blk : List Int → List Int
  | [] => []
  | c :: m => if c = 32 ∨ c = 10 then blk m else c :: m
/-- As many '<' as there are, at most n. -/
def lts : Nat → List Int → Nat × List Int
  | 0, m => (0, m)
  | _ + 1, [] => (0, [])
  | n + 1, c :: m => if c = 60 then ((lts n m).1 + 1, (lts n m).2) else (0, c :: m)
/-- A relation, and what is behind it. -/
def relM : List Int → Int × List Int
  | [] => (0, [])
  | c :: m => if c = 38 then (1, m) else if c = 61 then (5, m) else if (lts 3 (c :: m)).1 = 0 then (0, c :: m) else (1 + ((lts 3 (c :: m)).1 : Int), (lts 3 (c :: m)).2)
def spc (c : Int) : Bool := c == 32 || c == 10 || c == 38 || c == 60 || c == 61 || c == 47
/-- A sequence. -/
def sq : List Int → List Int → List Int × Bool × List Int
  | out, [] => (out, decide (0 < out.length), [])
  | out, [c] => if spc c then (out, decide (0 < out.length), [c]) else if out.length = 3 then ([], false, [c]) else if c = 92 then ([], false, []) else (out ++ [c], true, [])
  | out, c :: d :: m => if spc c then (out, decide (0 < out.length), c :: d :: m) else if out.length = 3 then ([], false, c :: d :: m) else if c = 92 then sq (out ++ [d]) m else sq (out ++ [c]) (d :: m)
def seqM (m : List Int) : List Int × Bool × List Int := sq [] (blk m)
/-- How many bytes signs have. -/
def jl (m : List Int) : Nat := (join m).length
abbrev RuleM := Int × List Int × List Int
/-- What may stand behind a rule's sequence: what it is expanded by. -/
def expM (rel : Int) (q m : List Int) : RuleM × Bool × List Int :=
  if rel = 1 then ((rel, q, []), true, m) else
    match blk m with
    | [] => ((rel, q, []), true, m)
    | c :: m5 => if c = 47 then ((rel, q, (seqM m5).1), (seqM m5).2.1, (seqM m5).2.2) else ((rel, q, []), true, m)
/-- A rule; false: it does not go on at what is left. -/
def ruleM (first : Bool) (m : List Int) : RuleM × Bool × List Int :=
  if (relM m).1 = 0 ∨ first = true ∧ (relM m).1 ≠ 1 then (((relM m).1, [], []), false, m)
  else if (seqM (relM m).2).2.1 = false then (((relM m).1, (seqM (relM m).2).1, []), false, (seqM (relM m).2).2.2)
  else expM (relM m).1 (seqM (relM m).2).1 (seqM (relM m).2).2.2
/-- Behind a rule: it goes on, or there is an end. -/
def contM (S : Nat) (f : List RuleM → List Int → List RuleM × Int × Int) (out : List RuleM) (x : RuleM × Bool × List Int) : List RuleM × Int × Int :=
  if x.2.1 = false then ([], (S : Int) - (jl x.2.2 : Int), 10) else f (out ++ [x.1]) x.2.2
/-- Rules: what is read, or the place at which it does not go on (S: the text's length), and the error. -/
def parseM (S : Nat) : Nat → List RuleM → List Int → List RuleM × Int × Int
  | 0, out, _ => ([], 0, 0)
  | n + 1, out, m =>
    if blk m = [] then (if (out.length : Int) > 40 then ([], 0, 65) else (out, 0, 0))
    else contM S (parseM S n) out (ruleM (out.length == 0) (blk m))

/-- m is an end of l. -/
def Suf (l m : List Int) : Prop := ∃ p, l = p ++ m
theorem Suf.refl (l : List Int) : Suf l l := ⟨[], rfl⟩
theorem Suf.tail {l m : List Int} {c : Int} (h : Suf l (c :: m)) : Suf l m := by
  obtain ⟨p, rfl⟩ := h
  exact ⟨p ++ [c], by simp⟩
theorem Suf.length {l m : List Int} (h : Suf l m) : m.length ≤ l.length := by
  obtain ⟨p, rfl⟩ := h
  simp
theorem Suf.trans {l m k : List Int} (h : Suf l m) (g : Suf m k) : Suf l k := by
  obtain ⟨p, rfl⟩ := h
  obtain ⟨q, rfl⟩ := g
  exact ⟨p ++ q, by simp⟩
theorem blk_suf : ∀ m, Suf m (blk m)
  | [] => Suf.refl _
  | c :: m => by
    unfold blk
    split
    · obtain ⟨p, hp⟩ := blk_suf m
      exact ⟨c :: p, by rw [List.cons_append, ← hp]⟩
    · exact Suf.refl _
theorem blk_blk : ∀ m, blk (blk m) = blk m
  | [] => rfl
  | c :: m => by
    by_cases h : c = 32 ∨ c = 10
    · rw [blk, if_pos h]; exact blk_blk m
    · rw [blk, if_neg h, blk, if_neg h]
theorem lts_suf : ∀ n m, Suf m (lts n m).2
  | 0, m => Suf.refl _
  | n + 1, [] => Suf.refl _
  | n + 1, c :: m => by
    unfold lts
    split
    · obtain ⟨p, hp⟩ := lts_suf n m
      exact ⟨c :: p, by rw [List.cons_append, ← hp]⟩
    · exact Suf.refl _
theorem lts_le : ∀ n m, (lts n m).1 ≤ n ∧ (lts n m).1 + (lts n m).2.length = m.length
  | 0, m => by simp [lts]
  | n + 1, [] => by simp [lts]
  | n + 1, c :: m => by
    unfold lts
    have := lts_le n m
    split
    · simp; omega
    · simp
theorem relM_cons (c : Int) (m : List Int) : relM (c :: m) = if c = 38 then (1, m) else if c = 61 then (5, m) else if (lts 3 (c :: m)).1 = 0 then (0, c :: m) else (1 + ((lts 3 (c :: m)).1 : Int), (lts 3 (c :: m)).2) := rfl
theorem relM_suf : ∀ m, Suf m (relM m).2
  | [] => Suf.refl _
  | c :: m => by
    rw [relM_cons]
    by_cases h1 : c = 38
    · rw [if_pos h1]; exact (Suf.refl (c :: m)).tail
    · rw [if_neg h1]
      by_cases h2 : c = 61
      · rw [if_pos h2]; exact (Suf.refl (c :: m)).tail
      · rw [if_neg h2]
        by_cases h3 : (lts 3 (c :: m)).1 = 0
        · rw [if_pos h3]; exact Suf.refl _
        · rw [if_neg h3]; exact lts_suf 3 _
/-- A relation takes up a sign. -/
theorem relM_less (m : List Int) (h : (relM m).1 ≠ 0) : (relM m).2.length < m.length := by
  cases m with
  | nil => exact absurd rfl h
  | cons c m =>
    rw [relM_cons] at h ⊢
    have hl := lts_le 3 (c :: m)
    by_cases h1 : c = 38
    · rw [if_pos h1]; simp
    · rw [if_neg h1] at h ⊢
      by_cases h2 : c = 61
      · rw [if_pos h2]; simp
      · rw [if_neg h2] at h ⊢
        by_cases h3 : (lts 3 (c :: m)).1 = 0
        · rw [if_pos h3] at h; exact absurd rfl h
        · rw [if_neg h3]
          show (lts 3 (c :: m)).2.length < (c :: m).length
          omega
theorem relM_range (m : List Int) : 0 ≤ (relM m).1 ∧ (relM m).1 ≤ 5 := by
  cases m with
  | nil => exact ⟨by decide, by decide⟩
  | cons c m =>
    rw [relM_cons]
    have hl := lts_le 3 (c :: m)
    by_cases h1 : c = 38
    · rw [if_pos h1]; exact ⟨by simp, by simp⟩
    · rw [if_neg h1]
      by_cases h2 : c = 61
      · rw [if_pos h2]; exact ⟨by simp, by simp⟩
      · rw [if_neg h2]
        by_cases h3 : (lts 3 (c :: m)).1 = 0
        · rw [if_pos h3]; exact ⟨by simp, by simp⟩
        · rw [if_neg h3]
          show 0 ≤ 1 + ((lts 3 (c :: m)).1 : Int) ∧ 1 + ((lts 3 (c :: m)).1 : Int) ≤ 5
          omega
theorem sq_suf : ∀ m out, Suf m (sq out m).2.2
  | [], out => by unfold sq; exact Suf.refl _
  | [c], out => by
    unfold sq
    repeat' split
    · exact Suf.refl _
    · exact Suf.refl _
    · exact (Suf.refl [c]).tail
    · exact (Suf.refl [c]).tail
  | c :: d :: m, out => by
    unfold sq
    repeat' split
    · exact Suf.refl _
    · exact Suf.refl _
    · exact ((Suf.refl (c :: d :: m)).tail.tail).trans (sq_suf m _)
    · exact (Suf.refl (c :: d :: m)).tail.trans (sq_suf (d :: m) _)
theorem seqM_suf (m : List Int) : Suf m (seqM m).2.2 := (blk_suf m).trans (sq_suf _ _)
theorem contM_bad (S : Nat) (f : List RuleM → List Int → List RuleM × Int × Int) (out : List RuleM) (r : RuleM) (m : List Int) : contM S f out (r, false, m) = ([], (S : Int) - (jl m : Int), 10) := rfl
theorem contM_ok (S : Nat) (f : List RuleM → List Int → List RuleM × Int × Int) (out : List RuleM) (r : RuleM) (m : List Int) : contM S f out (r, true, m) = f (out ++ [r]) m := rfl
theorem expM_one (q m : List Int) : expM 1 q m = ((1, q, []), true, m) := by unfold expM; rw [if_pos rfl]
theorem expM_none (rel : Int) (q m : List Int) (h : rel ≠ 1) (hm : blk m = []) : expM rel q m = ((rel, q, []), true, m) := by unfold expM; rw [if_neg h, hm]
theorem expM_47 (rel : Int) (q m m5 : List Int) (h : rel ≠ 1) (hm : blk m = 47 :: m5) : expM rel q m = ((rel, q, (seqM m5).1), (seqM m5).2.1, (seqM m5).2.2) := by unfold expM; rw [if_neg h, hm]; exact if_pos rfl
theorem expM_else (rel : Int) (q m m5 : List Int) (c : Int) (h : rel ≠ 1) (hm : blk m = c :: m5) (hc : c ≠ 47) : expM rel q m = ((rel, q, []), true, m) := by unfold expM; rw [if_neg h, hm]; exact if_neg hc
theorem ruleM_bad (f : Bool) (m : List Int) (h : (relM m).1 = 0 ∨ f = true ∧ (relM m).1 ≠ 1) : ruleM f m = (((relM m).1, [], []), false, m) := by unfold ruleM; rw [if_pos h]
theorem ruleM_seq (f : Bool) (m : List Int) (h : ¬ ((relM m).1 = 0 ∨ f = true ∧ (relM m).1 ≠ 1)) (hq : (seqM (relM m).2).2.1 = false) : ruleM f m = (((relM m).1, (seqM (relM m).2).1, []), false, (seqM (relM m).2).2.2) := by unfold ruleM; rw [if_neg h, if_pos hq]
theorem ruleM_exp (f : Bool) (m : List Int) (h : ¬ ((relM m).1 = 0 ∨ f = true ∧ (relM m).1 ≠ 1)) (hq : (seqM (relM m).2).2.1 = true) : ruleM f m = expM (relM m).1 (seqM (relM m).2).1 (seqM (relM m).2).2.2 := by unfold ruleM; rw [if_neg h, if_neg (by simp [hq])]
theorem expM_suf (rel : Int) (q m : List Int) : Suf m (expM rel q m).2.2 := by
  unfold expM
  split
  · exact Suf.refl _
  · have hb := blk_suf m
    split
    · exact Suf.refl _
    · rename_i c m5 e
      rw [e] at hb
      split
      · exact hb.tail.trans (seqM_suf m5)
      · exact Suf.refl _
theorem ruleM_suf (f : Bool) (m : List Int) : Suf m (ruleM f m).2.2 := by
  unfold ruleM
  split
  · exact Suf.refl _
  · split
    · exact (relM_suf m).trans (seqM_suf _)
    · exact ((relM_suf m).trans (seqM_suf _)).trans (expM_suf _ _ _)
theorem ruleM_less (f : Bool) (m : List Int) (h : (ruleM f m).2.1 = true) : (ruleM f m).2.2.length < m.length := by
  unfold ruleM at h ⊢
  by_cases h1 : (relM m).1 = 0 ∨ f = true ∧ (relM m).1 ≠ 1
  · rw [if_pos h1] at h; cases h
  · rw [if_neg h1] at h ⊢
    have hr := relM_less m (fun e => h1 (.inl e))
    have hs := (seqM_suf (relM m).2).length
    by_cases h2 : (seqM (relM m).2).2.1 = false
    · rw [if_pos h2] at h; cases h
    · rw [if_neg h2]
      have := (expM_suf (relM m).1 (seqM (relM m).2).1 (seqM (relM m).2).2.2).length
      omega
theorem jl_cons (c : Int) (m : List Int) : jl (c :: m) = (one c).length + jl m := by unfold jl; rw [join_cons, List.length_append]
theorem jl_app (p m : List Int) : jl (p ++ m) = jl p + jl m := by unfold jl join; rw [List.flatMap_append, List.length_append]
theorem jl_signs (s : ByteArray) : jl (signs s) = s.size := by unfold jl; rw [join_signs, bs_length]
/-- Where an end of a text's signs begins. -/
theorem at_suf : ∀ (p : List Int) (s : ByteArray) (m : List Int), signs s = p ++ m → jl m ≤ s.size ∧ signs (s.extract (s.size - jl m) s.size) = m
  | [], s, m, h => by
    have e := jl_signs s
    have h' : signs s = m := h
    rw [h'] at e
    refine ⟨by omega, ?_⟩
    rw [e, Nat.sub_self, cut0, h']
  | c :: p, s, m, h => by
    have h0 : 0 < s.size := by
      rcases Nat.eq_zero_or_pos s.size with h0 | h0
      · rw [signs_nil s h0] at h; cases h
      · exact h0
    obtain ⟨_, _, w1, w2, _⟩ := sgn_back s h0
    rw [signs_cons s h0] at h
    injection h with h1 h2
    have ih := at_suf p (s.extract (wd s) s.size) m h2
    rw [cut_size] at ih
    refine ⟨by omega, ?_⟩
    have e := cut_cut s (wd s) (s.size - wd s - jl m)
    rw [cut_size] at e
    rw [show s.size - jl m = wd s + (s.size - wd s - jl m) by omega, ← e]
    exact ih.2
/-- The sign at a place, its bytes, and the place behind it. -/
theorem at_cons (s : ByteArray) (c : Int) (m : List Int) (h : Suf (signs s) (c :: m)) :
    isS c = true ∧ jl (c :: m) ≤ s.size ∧ 0 < jl (c :: m) ∧ sgn (s.extract (s.size - jl (c :: m)) s.size) = (c, ((one c).length : Int)) ∧ 0 < (s.extract (s.size - jl (c :: m)) s.size).size ∧ 1 ≤ (one c).length ∧ (one c).length ≤ 4 ∧
    (((s.get! (s.size - jl (c :: m))).toNat : Int) = c ∨ (128 ≤ c ∧ 128 ≤ (s.get! (s.size - jl (c :: m))).toNat)) ∧ (c < 128 → (one c).length = 1) := by
  have hc : isS c = true := by
    obtain ⟨p, hp⟩ := h
    exact signs_isS s c (by rw [hp]; simp)
  obtain ⟨p, hp⟩ := h
  obtain ⟨h1, h2⟩ := at_suf p s (c :: m) hp
  have ho := one_len c hc
  have ho4 := one_length c
  have hj := jl_cons c m
  obtain ⟨r, hr⟩ : ∃ r, r = s.extract (s.size - jl (c :: m)) s.size := ⟨_, rfl⟩
  have hrs : r.size = jl (c :: m) := by rw [hr, cut_size]; omega
  rw [← hr] at h2 ⊢
  have hr0 : 0 < r.size := by omega
  have hs := signs_cons r hr0
  rw [h2] at hs
  injection hs with e1 e2
  obtain ⟨b1, b2, b3, b4, b5, b6, b7⟩ := sgn_back r hr0
  rw [← e1] at b6
  have hlen : (one c).length = wd r := by rw [b6, List.length_take, bs_length]; omega
  have hget : s.get! (s.size - jl (c :: m)) = r.get! 0 := by rw [hr, get_cut, Nat.add_zero]
  have hfirst : (one c)[0]? = some ((r.get! 0).toNat : Int) := by
    rw [b6, List.getElem?_take_of_lt (by omega), bs_at r 0 hr0]
  have h128 : c < 128 → one c = [c] := by
    intro hc1
    unfold one
    unfold isS at hc
    simp at hc
    repeat' split
    all_goals first | omega | rfl | skip
  refine ⟨hc, h1, by omega, ?_, hr0, ho, ho4, ?_, fun h => by rw [h128 h]; rfl⟩
  · refine Prod.ext e1.symm ?_; rw [b2, hlen]
  · rw [hget]
    by_cases hc1 : c < 128
    · rw [h128 hc1] at hfirst
      simp at hfirst
      exact .inl hfirst.symm
    · refine .inr ⟨by omega, ?_⟩
      unfold one at hfirst
      unfold isS at hc
      simp at hc
      have hb := UInt8.toNat_lt (r.get! 0)
      split at hfirst
      · simp at hfirst; omega
      · split at hfirst
        · simp at hfirst; omega
        · split at hfirst
          · simp at hfirst; omega
          · simp at hfirst; omega
/-- The places of a text's signs, one behind the other. -/
def pre : Int → List Int → List Int
  | _, [] => []
  | a, c :: l => a :: pre (a + ((one c).length : Int)) l
theorem pre_length : ∀ (l : List Int) (a : Int), (pre a l).length = l.length
  | [], _ => rfl
  | c :: l, a => by simp [pre, pre_length l]
theorem pre_at : ∀ (p m : List Int) (a : Int), (pre a (p ++ m) ++ [a + (jl (p ++ m) : Int)])[p.length]? = some (a + (jl p : Int))
  | [], [], a => by simp [pre, jl, join]
  | [], c :: m, a => by simp [pre, jl, join]
  | c :: p, m, a => by
    have ih := pre_at p m (a + ((one c).length : Int))
    simp only [List.cons_append, pre, List.length_cons, List.getElem?_cons_succ]
    rw [jl_cons, jl_cons]
    simp only [Int.natCast_add]
    rw [← Int.add_assoc, ← Int.add_assoc]
    exact ih
end Go.Proofs.YtjcgjchdelipcaaDoor.U
