/- Plain laws on rules as a text: how rules are told, and that what is told is read again. No program in sight. -/
import Derived.Test.YtjcgjchdelipcaaDoorRText
namespace Go.Proofs.YtjcgjchdelipcaaDoor.U
open Go Go.Proofs Go.Lib
set_option linter.unusedVariables false
set_option linter.unusedSimpArgs false

/-- Signs that stand for themselves behind a backslash alone. -/
def spb (c : Int) : Bool := spc c || c == 92
def esc1 (c : Int) : List Int := if spb c = true then [92, c] else [c]
def esc (l : List Int) : List Int := l.flatMap esc1
def txt1 (c : Int) : List Int := (if spb c = true then [92] else []) ++ (if isS c = true then one c else [])
/-- A sequence's bytes. -/
def txt (l : List Int) : List Int := l.flatMap txt1
def nameB (rel : Int) : List Int := if rel = 1 then [38] else if rel = 2 then [60] else if rel = 3 then [60, 60] else if rel = 4 then [60, 60, 60] else [61]
def wordsOf (r : RuleM) : List (List Int) := [nameB r.1, txt r.2.1] ++ (if 0 < r.2.2.length then [[47], txt r.2.2] else [])
/-- Words, blanks between them. -/
def joinW : List (List Int) → List Int
  | [] => []
  | [a] => a
  | a :: b :: l => a ++ 32 :: joinW (b :: l)
def words (l : List RuleM) : List (List Int) := l.flatMap wordsOf
/-- Rules' bytes. -/
def textM (l : List RuleM) : List Int := joinW (words l)
def ruleT (r : RuleM) : List Int := nameB r.1 ++ 32 :: txt r.2.1 ++ (if 0 < r.2.2.length then 32 :: 47 :: 32 :: txt r.2.2 else [])
theorem joinW_cons (a : List Int) (l : List (List Int)) (h : l ≠ []) : joinW (a :: l) = a ++ 32 :: joinW l := by
  cases l with
  | nil => exact absurd rfl h
  | cons b l => rfl
theorem joinW_app : ∀ (W V : List (List Int)), W ≠ [] → V ≠ [] → joinW (W ++ V) = joinW W ++ 32 :: joinW V
  | [], V, h, _ => absurd rfl h
  | [a], V, _, hv => joinW_cons a V hv
  | a :: b :: W, V, _, hv => by
    have ih := joinW_app (b :: W) V (by simp) hv
    rw [List.cons_append, joinW_cons a _ (by simp), ih, joinW_cons a (b :: W) (by simp)]
    simp
theorem wordsOf_ne (r : RuleM) : wordsOf r ≠ [] := by unfold wordsOf; simp
theorem joinW_words (r : RuleM) : joinW (wordsOf r) = ruleT r := by
  unfold wordsOf ruleT
  by_cases h : 0 < r.2.2.length
  · rw [if_pos h, if_pos h]; simp [joinW]
  · rw [if_neg h, if_neg h]; simp [joinW]
theorem words_ne (r : RuleM) (l : List RuleM) : words (l ++ [r]) ≠ [] := by
  unfold words
  rw [List.flatMap_append]
  have := wordsOf_ne r
  simp [this]
theorem words_snoc (l : List RuleM) (r : RuleM) : words (l ++ [r]) = words l ++ wordsOf r := by unfold words; rw [List.flatMap_append]; simp
theorem textM_snoc (l : List RuleM) (r : RuleM) : textM (l ++ [r]) = (if 0 < l.length then textM l ++ [32] else []) ++ ruleT r := by
  unfold textM
  rw [words_snoc]
  by_cases h : l = []
  · subst h
    simp [words, joinW_words]
  · rw [if_pos (List.length_pos_iff.2 h)]
    have h2 : words l ≠ [] := by
      obtain ⟨p, x, rfl⟩ : ∃ p x, l = p ++ [x] := ⟨l.dropLast, l.getLast h, (List.dropLast_concat_getLast h).symm⟩
      exact words_ne _ _
    rw [joinW_app _ _ h2 (wordsOf_ne r), joinW_words]
    simp
theorem txt1_length (c : Int) : (txt1 c).length ≤ 5 := by
  unfold txt1
  have := one_length c
  split <;> split <;> simp <;> omega
theorem txt_length (l : List Int) : (txt l).length ≤ 5 * l.length := by
  induction l with
  | nil => simp [txt]
  | cons c l ih =>
    have := txt1_length c
    unfold txt at ih ⊢
    rw [List.flatMap_cons, List.length_append, List.length_cons]
    omega
theorem nameB_length (rel : Int) : 1 ≤ (nameB rel).length ∧ (nameB rel).length ≤ 3 := by
  unfold nameB
  repeat' split
  all_goals simp
theorem ruleT_length (r : RuleM) : (ruleT r).length ≤ 7 + 5 * (r.2.1.length + r.2.2.length) := by
  unfold ruleT
  have h1 := nameB_length r.1
  have h2 := txt_length r.2.1
  have h3 := txt_length r.2.2
  split <;> simp <;> omega
theorem textM_cons (r : RuleM) (l : List RuleM) : textM (r :: l) = ruleT r ++ (if l = [] then [] else 32 :: textM l) := by
  have e : words (r :: l) = wordsOf r ++ words l := by unfold words; rw [List.flatMap_cons]
  unfold textM
  rw [e]
  cases l with
  | nil => simp [words, joinW_words]
  | cons x l =>
    have h2 : words (x :: l) ≠ [] := by
      unfold words
      rw [List.flatMap_cons]
      have := wordsOf_ne x
      simp [this]
    rw [joinW_app _ _ (wordsOf_ne r) h2, joinW_words, if_neg (by simp)]
theorem textM_length (N : Nat) : ∀ l : List RuleM, (∀ r ∈ l, r.2.1.length + r.2.2.length ≤ N) → (textM l).length ≤ l.length * (8 + 5 * N)
  | [], _ => by simp [textM, words, joinW]
  | r :: l, h => by
    have h1 := textM_length N l (fun x hx => h x (by simp [hx]))
    have h2 := ruleT_length r
    have h3 := h r (by simp)
    rw [textM_cons, List.length_append, List.length_cons, Nat.add_mul, Nat.one_mul]
    have h4 : 5 * (r.2.1.length + r.2.2.length) ≤ 5 * N := Nat.mul_le_mul_left 5 h3
    generalize l.length * (8 + 5 * N) = Q at *
    split
    · simp; omega
    · simp; omega
theorem spb_isS {c : Int} (h : spb c = true) : isS c = true := by
  unfold spb spc at h
  simp at h
  unfold isS
  simp
  omega
theorem one_ascii {c : Int} (h : c < 128) : one c = [c] := by
  unfold one
  rw [if_neg (by omega), if_pos h]
theorem txt1_esc (c : Int) (h : isS c = true) : txt1 c = join (esc1 c) := by
  unfold txt1 esc1
  rw [if_pos h]
  split
  · rw [join_cons, one_ascii (c := 92) (by decide)]; simp [join]
  · simp [join]
theorem txt_esc : ∀ (l : List Int), (∀ c ∈ l, isS c = true) → txt l = join (esc l)
  | [], _ => rfl
  | c :: l, h => by
    have ih := txt_esc l (fun x hx => h x (by simp [hx]))
    unfold txt esc at ih ⊢
    rw [List.flatMap_cons, List.flatMap_cons, ih, txt1_esc c (h c (by simp))]
    unfold join
    rw [List.flatMap_append]
theorem one_byt (c : Int) (h : isS c = true) : ∀ x ∈ one c, 0 ≤ x ∧ x < 256 := one_byte c h
theorem txt_byt (l : List Int) : ∀ x ∈ txt l, 0 ≤ x ∧ x < 256 := by
  intro x hx
  obtain ⟨c, -, hx⟩ := List.mem_flatMap.1 hx
  unfold txt1 at hx
  rcases List.mem_append.1 hx with hx | hx
  · split at hx
    · simp at hx; omega
    · cases hx
  · split at hx
    · exact one_byte c (by assumption) x hx
    · cases hx

/-! what is read -/
def GoodR (r : RuleM) : Prop := (∀ c ∈ r.2.1, isS c = true) ∧ (∀ c ∈ r.2.2, isS c = true)
theorem sq_good : ∀ (m out : List Int), (∀ c ∈ m, isS c = true) → (∀ c ∈ out, isS c = true) → ∀ c ∈ (sq out m).1, isS c = true
  | [], out, hm, ho => by unfold sq; exact ho
  | [c], out, hm, ho => by
    unfold sq
    repeat' split
    · exact ho
    · simp
    · simp
    · intro x hx
      rcases List.mem_append.1 hx with hx | hx
      · exact ho x hx
      · exact hm x hx
  | c :: d :: m, out, hm, ho => by
    unfold sq
    repeat' split
    · exact ho
    · simp
    · refine sq_good m _ (fun x hx => hm x (by simp [hx])) (fun x hx => ?_)
      rcases List.mem_append.1 hx with hx | hx
      · exact ho x hx
      · exact hm x (by simp at hx; simp [hx])
    · refine sq_good (d :: m) _ (fun x hx => hm x (List.mem_cons_of_mem _ hx)) (fun x hx => ?_)
      rcases List.mem_append.1 hx with hx | hx
      · exact ho x hx
      · exact hm x (by simp at hx; simp [hx])
theorem Suf.all {l m : List Int} (h : Suf l m) (hl : ∀ c ∈ l, isS c = true) : ∀ c ∈ m, isS c = true := by
  obtain ⟨p, rfl⟩ := h
  exact fun c hc => hl c (by simp [hc])
theorem seqM_good (m : List Int) (h : ∀ c ∈ m, isS c = true) : ∀ c ∈ (seqM m).1, isS c = true := sq_good _ _ ((blk_suf m).all h) (by simp)
theorem expM_good (rel : Int) (q m : List Int) (hq : ∀ c ∈ q, isS c = true) (h : ∀ c ∈ m, isS c = true) : GoodR (expM rel q m).1 := by
  unfold expM
  split
  · exact ⟨hq, by simp⟩
  · have hb := (blk_suf m).all h
    split
    · exact ⟨hq, by simp⟩
    · rename_i c m5 e
      rw [e] at hb
      split
      · exact ⟨hq, seqM_good m5 (fun x hx => hb x (by simp [hx]))⟩
      · exact ⟨hq, by simp⟩
theorem ruleM_good (f : Bool) (m : List Int) (h : ∀ c ∈ m, isS c = true) : GoodR (ruleM f m).1 := by
  have h2 := (relM_suf m).all h
  unfold ruleM
  split
  · exact ⟨by simp, by simp⟩
  · split
    · exact ⟨seqM_good _ h2, by simp⟩
    · exact expM_good _ _ _ (seqM_good _ h2) ((seqM_suf _).all h2)
theorem parseM_good (S : Nat) : ∀ (n : Nat) (out : List RuleM) (m : List Int), (∀ c ∈ m, isS c = true) → (∀ r ∈ out, GoodR r) → ∀ r ∈ (parseM S n out m).1, GoodR r
  | 0, out, m, hm, ho => by simp [parseM]
  | n + 1, out, m, hm, ho => by
    have hb := (blk_suf m).all hm
    unfold parseM
    split
    · split
      · simp
      · exact ho
    · have hg := ruleM_good (out.length == 0) (blk m) hb
      have hs := (ruleM_suf (out.length == 0) (blk m)).all hb
      unfold contM
      split
      · simp
      · refine parseM_good S n _ _ hs (fun r hr => ?_)
        rcases List.mem_append.1 hr with hr | hr
        · exact ho r hr
        · have : r = (ruleM (out.length == 0) (blk m)).1 := by simpa using hr
          rw [this]; exact hg
/-- Where nothing is wrong no place is told. -/
theorem parseM_at (S : Nat) : ∀ (n : Nat) (out : List RuleM) (m : List Int), (parseM S n out m).2.2 = 0 → (parseM S n out m).2.1 = 0
  | 0, out, m, h => by simp [parseM]
  | n + 1, out, m, h => by
    unfold parseM at h ⊢
    by_cases h1 : blk m = []
    · rw [if_pos h1] at h ⊢
      split <;> rfl
    · rw [if_neg h1] at h ⊢
      unfold contM at h ⊢
      by_cases h2 : (ruleM (out.length == 0) (blk m)).2.1 = false
      · rw [if_pos h2] at h; simp at h
      · rw [if_neg h2] at h ⊢
        exact parseM_at S n _ _ h

/-! what is told is read again -/
theorem signs_join : ∀ (l : List Int), (∀ c ∈ l, isS c = true ∧ c < 1114112) → signs (strOfNums (join l)) = l
  | [], _ => signs_nil _ rfl
  | c :: l, h => by
    have hc := h c (by simp)
    have hl : ∀ x ∈ l, isS x = true ∧ x < 1114112 := fun x hx => h x (by simp [hx])
    exact canon_cons c l hc.1 (sgn_one c (join l) (join_byt l (fun x hx => (hl x hx).1)) hc.1 hc.2) (signs_join l hl)
theorem sq_esc (c : Int) (m out : List Int) (h : out.length ≠ 3) : sq out (esc1 c ++ m) = sq (out ++ [c]) m := by
  unfold esc1
  by_cases hc : spb c = true
  · rw [if_pos hc]
    show sq out (92 :: c :: m) = _
    conv => lhs; rw [sq]
    rw [if_neg (by decide), if_neg h, if_pos rfl]
  · rw [if_neg hc]
    have hc' : spb c = false := by simpa using hc
    unfold spb at hc'
    rw [Bool.or_eq_false_iff] at hc'
    have h92 : c ≠ 92 := by intro e; simp [e] at hc'
    cases m with
    | nil =>
      show sq out [c] = sq (out ++ [c]) []
      conv => lhs; rw [sq]
      rw [if_neg (by simp [hc'.1]), if_neg h, if_neg h92, sq]
      simp
    | cons d m =>
      show sq out (c :: d :: m) = _
      conv => lhs; rw [sq]
      rw [if_neg (by simp [hc'.1]), if_neg h, if_neg h92]
theorem esc_cons (c : Int) (l : List Int) : esc (c :: l) = esc1 c ++ esc l := by unfold esc; rw [List.flatMap_cons]
theorem sq_escs : ∀ (l m out : List Int), out.length + l.length ≤ 3 → sq out (esc l ++ m) = sq (out ++ l) m
  | [], m, out, h => by simp [esc]
  | c :: l, m, out, h => by
    simp only [List.length_cons] at h
    rw [esc_cons, List.append_assoc, sq_esc c _ out (by omega), sq_escs l m (out ++ [c]) (by simp; omega)]
    simp
theorem sq_end (q : List Int) (h : 0 < q.length) : sq q [] = (q, true, []) := by unfold sq; simp [h]
theorem sq_blank (q m : List Int) (h : 0 < q.length) : sq q (32 :: m) = (q, true, 32 :: m) := by
  cases m with
  | nil => unfold sq; rw [if_pos (by decide)]; simp [h]
  | cons d m => unfold sq; rw [if_pos (by decide)]; simp [h]
theorem blk_esc (c : Int) (l m : List Int) : blk (esc (c :: l) ++ m) = esc (c :: l) ++ m := by
  rw [esc_cons]
  unfold esc1
  by_cases hc : spb c = true
  · rw [if_pos hc]; rfl
  · rw [if_neg hc]
    have hc' : spb c = false := by simpa using hc
    unfold spb spc at hc'
    simp at hc'
    show blk (c :: _) = _
    rw [blk, if_neg (by omega)]
    rfl
theorem seqM_esc (c : Int) (l m : List Int) (h : (c :: l).length ≤ 3) : seqM (32 :: (esc (c :: l) ++ 32 :: m)) = (c :: l, true, 32 :: m) := by
  unfold seqM
  rw [show blk (32 :: (esc (c :: l) ++ 32 :: m)) = blk (esc (c :: l) ++ 32 :: m) from rfl, blk_esc, sq_escs _ _ _ (by simpa using h)]
  exact sq_blank _ _ (by simp)
theorem seqM_end (c : Int) (l : List Int) (h : (c :: l).length ≤ 3) : seqM (32 :: esc (c :: l)) = (c :: l, true, []) := by
  unfold seqM
  have e := blk_esc c l []
  rw [List.append_nil] at e
  rw [show blk (32 :: esc (c :: l)) = blk (esc (c :: l)) from rfl, e]
  have e2 := sq_escs (c :: l) [] [] (by simpa using h)
  rw [List.append_nil] at e2
  rw [e2]
  exact sq_end _ (by simp)
/-- Two rules told: a reset, and a second difference that is expanded. -/
theorem two_read (S n : Nat) (a b c : Int) :
    parseM S (n + 3) [] (38 :: 32 :: (esc [a] ++ 32 :: 60 :: 60 :: 32 :: (esc [b, c] ++ 32 :: 47 :: 32 :: esc [a, b, c]))) = ([(1, [a], []), (3, [b, c], [a, b, c])], 0, 0) := by
  have r1 : ruleM true (38 :: 32 :: (esc [a] ++ 32 :: 60 :: 60 :: 32 :: (esc [b, c] ++ 32 :: 47 :: 32 :: esc [a, b, c]))) = ((1, [a], []), true, 32 :: 60 :: 60 :: 32 :: (esc [b, c] ++ 32 :: 47 :: 32 :: esc [a, b, c])) := by
    have e : relM (38 :: 32 :: (esc [a] ++ 32 :: 60 :: 60 :: 32 :: (esc [b, c] ++ 32 :: 47 :: 32 :: esc [a, b, c]))) = (1, 32 :: (esc [a] ++ 32 :: 60 :: 60 :: 32 :: (esc [b, c] ++ 32 :: 47 :: 32 :: esc [a, b, c]))) := by rw [relM_cons, if_pos rfl]
    have s := seqM_esc a [] (60 :: 60 :: 32 :: (esc [b, c] ++ 32 :: 47 :: 32 :: esc [a, b, c])) (by simp)
    rw [ruleM_exp _ _ (by rw [e]; simp) (by rw [e]; rw [s]), e]
    dsimp only
    rw [s]
    exact expM_one _ _
  have r2 : ruleM false (60 :: 60 :: 32 :: (esc [b, c] ++ 32 :: 47 :: 32 :: esc [a, b, c])) = ((3, [b, c], [a, b, c]), true, []) := by
    have e : relM (60 :: 60 :: 32 :: (esc [b, c] ++ 32 :: 47 :: 32 :: esc [a, b, c])) = (3, 32 :: (esc [b, c] ++ 32 :: 47 :: 32 :: esc [a, b, c])) := by
      rw [relM_cons, if_neg (by decide), if_neg (by decide)]
      have e2 : lts 3 (60 :: 60 :: 32 :: (esc [b, c] ++ 32 :: 47 :: 32 :: esc [a, b, c])) = (2, 32 :: (esc [b, c] ++ 32 :: 47 :: 32 :: esc [a, b, c])) := by
        simp [lts]
      rw [e2]
      rfl
    have s := seqM_esc b [c] (47 :: 32 :: esc [a, b, c]) (by simp)
    rw [ruleM_exp _ _ (by rw [e]; simp) (by rw [e]; rw [s]), e]
    dsimp only
    rw [s]
    dsimp only
    rw [expM_47 3 [b, c] _ (32 :: esc [a, b, c]) (by decide) rfl, seqM_end a [b, c] (by simp)]
  rw [parseM, show blk (38 :: 32 :: (esc [a] ++ 32 :: 60 :: 60 :: 32 :: (esc [b, c] ++ 32 :: 47 :: 32 :: esc [a, b, c]))) = 38 :: 32 :: (esc [a] ++ 32 :: 60 :: 60 :: 32 :: (esc [b, c] ++ 32 :: 47 :: 32 :: esc [a, b, c])) from rfl, if_neg (by simp)]
  rw [show (([] : List RuleM).length == 0) = true from rfl, r1, contM_ok]
  rw [parseM, show blk (32 :: 60 :: 60 :: 32 :: (esc [b, c] ++ 32 :: 47 :: 32 :: esc [a, b, c])) = 60 :: 60 :: 32 :: (esc [b, c] ++ 32 :: 47 :: 32 :: esc [a, b, c]) from rfl, if_neg (by simp)]
  rw [show ((([] : List RuleM) ++ [((1, [a], []) : RuleM)]).length == 0) = false from rfl, r2, contM_ok]
  rw [parseM, show blk [] = [] from rfl, if_pos rfl, if_neg (by simp)]
  rfl
end Go.Proofs.YtjcgjchdelipcaaDoor.U
