/- What the printed functions of the rules' readers answer, in the plain words of RText. -/
import Derived.Test.YtjcgjchdelipcaaDoorREvP
import Derived.Test.YtjcgjchdelipcaaDoorRText
namespace Go.Proofs.YtjcgjchdelipcaaDoor.R
open Go.RowKit Go.Proofs.YtjcgjchdelipcaaDoorW.PrintWords Go.Proofs.YtjcgjchdelipcaaDoorW.PrintLast Go.Proofs.YtjcgjchdelipcaaDoorW.PrintMore
open Go.Proofs.YtjcgjchdelipcaaDoor.U (Suf blk lts relM spc sq seqM jl parseM RuleM expM ruleM)
set_option linter.unusedVariables false
set_option linter.unusedSimpArgs false

def hdI : List Int → Int
  | [] => -1
  | c :: _ => c
def idx (l m : List Int) : Int := (l.length : Int) - (m.length : Int)
def relV (x : Nat) : Int := if x = 0 then 0 else 1 + (x : Int)
theorem relV_pos (x : Nat) (h : x ≠ 0) : relV x = 1 + (x : Int) := if_neg h
section
variable (l ats : List Int) (hl : l.length ≤ 8000) (hp : ∀ c ∈ l, 0 ≤ c)
include hl in
theorem idx_lt {m : List Int} (h : Suf l m) : 0 ≤ idx l m ∧ idx l m ≤ 8000 := by
  have := h.length
  unfold idx
  omega
theorem idx_tail (c : Int) (m : List Int) : idx l (c :: m) + 1 = idx l m := by unfold idx; simp only [List.length_cons, Int.natCast_add, Int.cast_ofNat_Int]; omega
include hl in
theorem sign_at {m : List Int} (h : Suf l m) : rules_reader_sign.f l ats (idx l m) = some (hdI m, idx l m) := by
  unfold rules_reader_sign.f
  cases m with
  | nil =>
    rw [if_pos (by unfold idx; simp)]
    rfl
  | cons c m =>
    have hlen := h.length
    simp only [List.length_cons] at hlen
    rw [if_neg (by unfold idx; simp only [List.length_cons]; omega), if_pos (by unfold idx; simp only [List.length_cons]; omega), if_pos (by unfold idx; simp only [List.length_cons]; omega)]
    obtain ⟨p, rfl⟩ := h
    have e : idx (p ++ c :: m) (c :: m) = (p.length : Int) := by unfold idx; simp only [List.length_append, List.length_cons]; omega
    rw [e, rd_nat _ p.length (by simp)]
    simp [hdI]
include hl in
theorem next_at {c : Int} {m : List Int} (h : Suf l (c :: m)) : rules_reader_sign.f l ats (wrap64 (idx l (c :: m) + 1)) = some (hdI m, idx l m) := by
  rw [idx_tail]
  have := idx_lt l hl h.tail
  rw [w64 (by omega) (by omega)]
  exact sign_at l ats hl h.tail
include hl in
theorem blank_l0 : ∀ m, Suf l m → Ev (fun k => rules_reader_blank.l0 k (hdI m) l ats (idx l m)) (idx l (blk m))
  | [], h => Ev.step (f := fun _ => some (idx l [])) (fun k => by rw [rules_reader_blank.l0, if_neg (by decide), if_neg (by decide)]) (Ev.now _)
  | c :: m, h => by
    by_cases h1 : c = 32 ∨ c = 10
    · rw [blk, if_pos h1]
      refine Ev.step (f := fun k => rules_reader_blank.l0 k (hdI m) l ats (idx l m)) (fun k => ?_) (blank_l0 m h.tail)
      show rules_reader_blank.l0 (k + 1) c l ats (idx l (c :: m)) = _
      rw [rules_reader_blank.l0, next_at l ats hl h]
      by_cases h2 : c = 32
      · rw [if_pos h2]; rfl
      · rw [if_neg h2, if_pos (by omega)]; rfl
    · rw [blk, if_neg h1]
      refine Ev.step (f := fun _ => some (idx l (c :: m))) (fun k => ?_) (Ev.now _)
      show rules_reader_blank.l0 (k + 1) c l ats (idx l (c :: m)) = _
      rw [rules_reader_blank.l0, if_neg (by omega), if_neg (by omega)]
include hl in
theorem blank_ev {m : List Int} (h : Suf l m) : Ev (fun k => rules_reader_blank.f k l ats (idx l m)) (idx l (blk m)) := by
  refine Ev.congr (f := fun k => rules_reader_blank.l0 k (hdI m) l ats (idx l m)) (fun k => ?_) (blank_l0 l ats hl m h)
  unfold rules_reader_blank.f
  rw [sign_at l ats hl h]
  rfl
include hl in
theorem rel_l0 : ∀ (d : Nat) (n : Nat) (m : List Int), n + d = 3 → Suf l m → Ev (fun k => rules_reader_relation.l0 k (n : Int) l ats (idx l m)) (relV (n + (lts d m).1), idx l (lts d m).2)
  | 0, n, m, hn, h => by
    refine Ev.step (f := fun _ => some _) (fun k => ?_) (Ev.now _)
    rw [rules_reader_relation.l0, if_neg (by omega), if_neg (by omega), w64 (x := 2 + (n : Int)) (by omega) (by omega), w64 (by omega) (by omega)]
    rw [show lts 0 m = (0, m) from rfl, Nat.add_zero, relV_pos _ (by omega)]
    congr 2
    omega
  | d + 1, n, [], hn, h => by
    refine Ev.step (f := fun _ => some _) (fun k => ?_) (Ev.now _)
    rw [rules_reader_relation.l0, if_pos (by omega), sign_at l ats hl h, Option.bind_some, if_neg (by simp [hdI]), w64 (x := 2 + (n : Int)) (by omega) (by omega), w64 (by omega) (by omega)]
    rw [show lts (d + 1) [] = (0, []) from rfl, Nat.add_zero]
    by_cases h0 : n = 0
    · rw [if_pos (by omega), h0]; rfl
    · rw [if_neg (by omega), relV_pos _ (by omega)]
      congr 2
      omega
  | d + 1, n, c :: m, hn, h => by
    by_cases hc : c = 60
    · have ih := rel_l0 d (n + 1) m (by omega) h.tail
      refine Ev.step (f := fun k => rules_reader_relation.l0 k ((n + 1 : Nat) : Int) l ats (idx l m)) (fun k => ?_) ?_
      · have hi := idx_lt l hl h.tail
        have e := idx_tail l c m
        rw [rules_reader_relation.l0, if_pos (by omega), sign_at l ats hl h, Option.bind_some, if_pos (c := (hdI (c :: m), idx l (c :: m)).1 = 60) hc]
        dsimp only [hdI]
        rw [e, w64 (x := (n : Int) + 1) (by omega) (by omega), w64 (by omega) (by omega)]
        rfl
      · rw [show lts (d + 1) (c :: m) = ((lts d m).1 + 1, (lts d m).2) by rw [lts, if_pos hc]]
        dsimp only
        rw [show n + ((lts d m).1 + 1) = n + 1 + (lts d m).1 by omega]
        exact ih
    · refine Ev.step (f := fun _ => some _) (fun k => ?_) (Ev.now _)
      rw [rules_reader_relation.l0, if_pos (by omega), sign_at l ats hl h, Option.bind_some, if_neg (c := (hdI (c :: m), idx l (c :: m)).1 = 60) hc]
      dsimp only [hdI]
      rw [w64 (x := 2 + (n : Int)) (by omega) (by omega), w64 (by omega) (by omega)]
      rw [show lts (d + 1) (c :: m) = (0, c :: m) by rw [lts, if_neg hc], Nat.add_zero]
      by_cases h0 : n = 0
      · rw [if_pos (by omega), h0]; rfl
      · rw [if_neg (by omega), relV_pos _ (by omega)]
        congr 2
        omega
include hl in
theorem relation_ev {m : List Int} (h : Suf l m) : Ev (fun k => rules_reader_relation.f k l ats (idx l m)) ((relM m).1, idx l (relM m).2) := by
  cases m with
  | nil =>
    have := rel_l0 l ats hl 3 0 [] rfl h
    refine Ev.congr (fun k => ?_) this
    unfold rules_reader_relation.f
    rw [sign_at l ats hl h, Option.bind_some, if_neg (c := (hdI [], idx l []).1 = 38) (by simp [hdI]), if_neg (c := (hdI [], idx l []).1 = 61) (by simp [hdI])]
    rfl
  | cons c m =>
    have hi := idx_lt l hl h.tail
    have e := idx_tail l c m
    rw [U.relM_cons]
    by_cases h1 : c = 38
    · rw [if_pos h1]
      refine Ev.congr (f := fun _ => some (1, idx l m)) (fun k => ?_) (Ev.now _)
      unfold rules_reader_relation.f
      rw [sign_at l ats hl h, Option.bind_some, if_pos (c := (hdI (c :: m), idx l (c :: m)).1 = 38) h1]
      dsimp only [hdI]
      rw [e, w64 (by omega) (by omega)]
    · rw [if_neg h1]
      by_cases h2 : c = 61
      · rw [if_pos h2]
        refine Ev.congr (f := fun _ => some (5, idx l m)) (fun k => ?_) (Ev.now _)
        unfold rules_reader_relation.f
        rw [sign_at l ats hl h, Option.bind_some, if_neg (c := (hdI (c :: m), idx l (c :: m)).1 = 38) h1, if_pos (c := (hdI (c :: m), idx l (c :: m)).1 = 61) h2]
        dsimp only [hdI]
        rw [e, w64 (by omega) (by omega)]
      · rw [if_neg h2]
        have := rel_l0 l ats hl 3 0 (c :: m) rfl h
        rw [Nat.zero_add] at this
        have e2 : ((if (lts 3 (c :: m)).1 = 0 then (0, c :: m) else (1 + ((lts 3 (c :: m)).1 : Int), (lts 3 (c :: m)).2) : Int × List Int).1, idx l (if (lts 3 (c :: m)).1 = 0 then (0, c :: m) else (1 + ((lts 3 (c :: m)).1 : Int), (lts 3 (c :: m)).2) : Int × List Int).2) = (relV (lts 3 (c :: m)).1, idx l (lts 3 (c :: m)).2) := by
          by_cases h3 : (lts 3 (c :: m)).1 = 0
          · rw [if_pos h3, h3]
            have hc : c ≠ 60 := by
              intro hc
              rw [show lts 3 (c :: m) = ((lts 2 m).1 + 1, (lts 2 m).2) by rw [lts, if_pos hc]] at h3
              simp at h3
            rw [show lts 3 (c :: m) = (0, c :: m) by rw [lts, if_neg hc]]
            rfl
          · rw [if_neg h3, relV_pos _ h3]
        rw [e2]
        refine Ev.congr (fun k => ?_) this
        unfold rules_reader_relation.f
        rw [sign_at l ats hl h, Option.bind_some, if_neg (c := (hdI (c :: m), idx l (c :: m)).1 = 38) h1, if_neg (c := (hdI (c :: m), idx l (c :: m)).1 = 61) h2]
        rfl
theorem special_eq (c : Int) : rules_special.f c = some (spc c || c == 92) := by
  unfold rules_special.f spc
  repeat' split
  all_goals simp_all
theorem seq_end (out : List Int) (x : Int) (i : Int) (k : Nat) : rules_reader_seq.j1 (k + 1) out x false l ats i = some (out, decide (0 < out.length), i) := by
  rw [rules_reader_seq.j1, if_neg (by simp)]
  show some _ = some _
  congr 2
  simp
theorem seq_go {out : List Int} {c : Int} {i : Int} {v : List Int × Bool × Int} (hc : 0 ≤ c) (h : Ev (fun k => rules_reader_seq.j1 k out c (!spc c) l ats i) v) : Ev (fun k => rules_reader_seq.l0 k out c l ats i) v := by
  refine Ev.step (fun k => ?_) h
  rw [rules_reader_seq.l0, if_pos hc, special_eq, Option.bind_some]
  by_cases h92 : c = 92
  · subst h92
    rw [if_pos (by decide)]
    rfl
  · have e : (c == 92) = false := by simpa using h92
    rw [e, Bool.or_false]
    cases spc c with
    | true => rw [if_pos rfl]; rfl
    | false => rw [if_neg (by simp)]; rfl
theorem seq_full {c : Int} {m out : List Int} (h : Suf l (c :: m)) (h3 : out.length = 3) : Ev (fun k => rules_reader_seq.j1 k out c true l ats (idx l (c :: m))) ([], false, idx l (c :: m)) :=
  Ev.step (f := fun _ => some _) (fun k => by rw [rules_reader_seq.j1, if_pos rfl, if_pos (by omega)]) (Ev.now _)
include hl in
theorem seq_one {c : Int} {m out : List Int} {v : List Int × Bool × Int} (h : Suf l (c :: m)) (h3 : ¬ out.length = 3) (ho : out.length ≤ 3) (h92 : ¬ c = 92) (g : Ev (fun k => rules_reader_seq.l0 k (out ++ [c]) (hdI m) l ats (idx l m)) v) : Ev (fun k => rules_reader_seq.j1 k out c true l ats (idx l (c :: m))) v := by
  refine Ev.step (fun k => ?_) g
  rw [rules_reader_seq.j1, if_pos rfl, if_neg (by omega), if_neg h92, if_pos (by omega), next_at l ats hl h, Option.bind_some]
include hl hp in
theorem seq_l0 : ∀ (m out : List Int), out.length ≤ 3 → Suf l m → Ev (fun k => rules_reader_seq.l0 k out (hdI m) l ats (idx l m)) ((sq out m).1, (sq out m).2.1, idx l (sq out m).2.2)
  | [], out, ho, h => by
    refine Ev.step (f := fun k => rules_reader_seq.j1 k out (hdI []) false l ats (idx l [])) (fun k => ?_) (Ev.step (f := fun _ => some _) (fun k => seq_end l ats _ _ _ _) (Ev.now _))
    rw [rules_reader_seq.l0, if_neg (by decide)]
  | [c], out, ho, h => by
    have hc : 0 ≤ c := hp c (by obtain ⟨p, rfl⟩ := h; simp)
    refine seq_go l ats (c := c) hc ?_
    cases hs : spc c with
    | true =>
      rw [show sq out [c] = (out, decide (0 < out.length), [c]) by rw [sq, if_pos hs]]
      exact Ev.step (f := fun _ => some _) (fun k => seq_end l ats _ _ _ _) (Ev.now _)
    | false =>
      by_cases h3 : out.length = 3
      · rw [show sq out [c] = ([], false, [c]) by rw [sq, if_neg (by simp [hs]), if_pos h3]]
        exact seq_full l ats h h3
      · by_cases h92 : c = 92
        · rw [show sq out [c] = ([], false, []) by rw [sq, if_neg (by simp [hs]), if_neg h3, if_pos h92]]
          refine Ev.step (f := fun _ => some _) (fun k => ?_) (Ev.now _)
          rw [show (!false) = true from rfl, rules_reader_seq.j1, if_pos rfl, if_neg (by omega), if_pos h92, next_at l ats hl h, Option.bind_some, if_pos (c := (hdI [], idx l []).1 < 0) (by show (-1 : Int) < 0; decide)]
        · rw [show sq out [c] = (out ++ [c], true, []) by rw [sq, if_neg (by simp [hs]), if_neg h3, if_neg h92]]
          have ih := seq_l0 [] (out ++ [c]) (by simp; omega) h.tail
          rw [show sq (out ++ [c]) [] = (out ++ [c], true, []) by rw [sq]; simp] at ih
          exact seq_one l ats hl h h3 ho h92 ih
  | c :: d :: m, out, ho, h => by
    have hc : 0 ≤ c := hp c (by obtain ⟨p, rfl⟩ := h; simp)
    have hd : 0 ≤ d := hp d (by obtain ⟨p, rfl⟩ := h; simp)
    refine seq_go l ats (c := c) hc ?_
    cases hs : spc c with
    | true =>
      rw [show sq out (c :: d :: m) = (out, decide (0 < out.length), c :: d :: m) by rw [sq, if_pos hs]]
      exact Ev.step (f := fun _ => some _) (fun k => seq_end l ats _ _ _ _) (Ev.now _)
    | false =>
      by_cases h3 : out.length = 3
      · rw [show sq out (c :: d :: m) = ([], false, c :: d :: m) by rw [sq, if_neg (by simp [hs]), if_pos h3]]
        exact seq_full l ats h h3
      · by_cases h92 : c = 92
        · rw [show sq out (c :: d :: m) = sq (out ++ [d]) m by rw [sq, if_neg (by simp [hs]), if_neg h3, if_pos h92]]
          have ih := seq_l0 m (out ++ [d]) (by simp; omega) h.tail.tail
          refine Ev.step (fun k => ?_) ih
          rw [show (!false) = true from rfl, rules_reader_seq.j1, if_pos rfl, if_neg (by omega), if_pos h92, next_at l ats hl h, Option.bind_some, if_neg (c := (hdI (d :: m), idx l (d :: m)).1 < 0) (by show ¬ d < 0; omega), if_pos (by omega)]
          show (rules_reader_sign.f l ats (wrap64 (idx l (d :: m) + 1))).bind _ = _
          rw [next_at l ats hl h.tail, Option.bind_some]
          rfl
        · rw [show sq out (c :: d :: m) = sq (out ++ [c]) (d :: m) by rw [sq, if_neg (by simp [hs]), if_neg h3, if_neg h92]]
          exact seq_one l ats hl h h3 ho h92 (seq_l0 (d :: m) (out ++ [c]) (by simp; omega) h.tail)
include hl hp in
theorem seq_ev {m : List Int} (h : Suf l m) : Ev (fun k => rules_reader_seq.f k l ats (idx l m)) ((seqM m).1, (seqM m).2.1, idx l (seqM m).2.2) := by
  have hb := h.trans (U.blk_suf m)
  refine Ev.bind (blank_ev l ats hl h) ?_
  refine Ev.congr (fun k => ?_) (seq_l0 l ats hl hp (blk m) [] (by simp) hb)
  rw [sign_at l ats hl hb, Option.bind_some]
def rt (l : List Int) (r : RuleM × Bool × List Int) : Int × List Int × List Int × Bool × Int := (r.1.1, r.1.2.1, r.1.2.2, r.2.1, idx l r.2.2)
include hl hp in
theorem exp_ev {m : List Int} (rel : Int) (q : List Int) (h : Suf l m) : Ev (fun k => (rules_reader_blank.f k l ats (idx l m)).bind fun t => (if rel = 1 then (some (rel, q, ([] : List Int), true, idx l m)) else ((rules_reader_sign.f l ats t).bind fun b => (if b.1 = 47 then ((rules_reader_seq.f k l ats (wrap64 (b.2 + 1))).bind fun b2 => (some (rel, q, b2.1, b2.2.1, b2.2.2))) else (some (rel, q, ([] : List Int), true, idx l m)))))) (rt l (expM rel q m)) := by
  have hb := h.trans (U.blk_suf m)
  refine Ev.bind (blank_ev l ats hl h) ?_
  unfold expM
  by_cases h1 : rel = 1
  · rw [if_pos h1]
    exact Ev.congr (f := fun _ => some _) (fun k => by rw [if_pos h1]; rfl) (Ev.now _)
  · rw [if_neg h1]
    cases hm : blk m with
    | nil =>
      rw [hm] at hb
      refine Ev.congr (f := fun _ => some _) (fun k => ?_) (Ev.now _)
      rw [if_neg h1, sign_at l ats hl hb, Option.bind_some, if_neg (c := (hdI [], idx l []).1 = 47) (by show ¬ (-1 : Int) = 47; decide)]
      rfl
    | cons c m5 =>
      rw [hm] at hb
      by_cases h2 : c = 47
      · dsimp only
        rw [if_pos h2]
        have hi := idx_lt l hl hb.tail
        have e := idx_tail l c m5
        refine Ev.congr (f := fun k => (rules_reader_seq.f k l ats (idx l m5)).bind fun b2 => (some (rel, q, b2.1, b2.2.1, b2.2.2))) (fun k => ?_) (Ev.bind (seq_ev l ats hl hp hb.tail) (Ev.now _))
        rw [if_neg h1, sign_at l ats hl hb, Option.bind_some, if_pos (c := (hdI (c :: m5), idx l (c :: m5)).1 = 47) h2]
        dsimp only
        rw [e, w64 (by omega) (by omega)]
      · dsimp only
        rw [if_neg h2]
        refine Ev.congr (f := fun _ => some _) (fun k => ?_) (Ev.now _)
        rw [if_neg h1, sign_at l ats hl hb, Option.bind_some, if_neg (c := (hdI (c :: m5), idx l (c :: m5)).1 = 47) h2]
        rfl
include hl hp in
theorem rule_ev {m : List Int} (f : Bool) (h : Suf l m) : Ev (fun k => rules_reader_rule.f k l ats (idx l m) f) (rt l (ruleM f m)) := by
  have hr := h.trans (U.relM_suf m)
  refine Ev.bind (relation_ev l ats hl h) ?_
  have bad : ∀ x : Bool, x = true → Ev (fun k => rules_reader_rule.j0 k (idx l m) x l ats (idx l (relM m).2) (relM m).1) (rt l (((relM m).1, [], []), false, m)) := by
    intro x hx
    subst hx
    exact Ev.step (f := fun _ => some _) (fun k => by rw [rules_reader_rule.j0, if_pos rfl]; rfl) (Ev.now _)
  have good : Ev (fun k => rules_reader_rule.j0 k (idx l m) false l ats (idx l (relM m).2) (relM m).1) (rt l (if (seqM (relM m).2).2.1 = false then (((relM m).1, (seqM (relM m).2).1, []), false, (seqM (relM m).2).2.2) else expM (relM m).1 (seqM (relM m).2).1 (seqM (relM m).2).2.2)) := by
    refine Ev.step (fun k => by rw [rules_reader_rule.j0, if_neg (by simp)]) (Ev.bind (seq_ev l ats hl hp hr) ?_)
    by_cases hq : (seqM (relM m).2).2.1 = false
    · rw [if_pos hq]
      refine Ev.congr (f := fun _ => some _) (fun k => ?_) (Ev.now _)
      dsimp only
      rw [hq, if_neg (by simp)]
      rfl
    · rw [if_neg hq]
      have ht : (seqM (relM m).2).2.1 = true := by simpa using hq
      refine Ev.congr (fun k => ?_) (exp_ev l ats hl hp (relM m).1 (seqM (relM m).2).1 (hr.trans (U.seqM_suf _)))
      dsimp only
      rw [ht, if_pos rfl]
  unfold ruleM
  by_cases h0 : (relM m).1 = 0
  · rw [if_pos (.inl h0)]
    refine Ev.congr (fun k => ?_) (bad true rfl)
    rw [if_pos (c := ((relM m).1, idx l (relM m).2).1 = 0) h0]
  · cases f with
    | false =>
      rw [if_neg (by simp [h0])]
      refine Ev.congr (fun k => ?_) good
      rw [if_neg (c := ((relM m).1, idx l (relM m).2).1 = 0) h0, if_neg (by simp)]
    | true =>
      by_cases h1 : (relM m).1 = 1
      · rw [if_neg (by simp [h0, h1])]
        refine Ev.congr (fun k => ?_) good
        rw [if_neg (c := ((relM m).1, idx l (relM m).2).1 = 0) h0, if_pos rfl]
        dsimp only
        rw [show ((relM m).1 != 1) = false by simp [h1]]
      · rw [if_pos (.inr ⟨rfl, h1⟩)]
        refine Ev.congr (fun k => ?_) (bad ((relM m).1 != 1) (by simp [h1]))
        rw [if_neg (c := ((relM m).1, idx l (relM m).2).1 = 0) h0, if_pos rfl]
end
def pos (s : ByteArray) (m : List Int) : Int := (s.size : Int) - (jl m : Int)
end Go.Proofs.YtjcgjchdelipcaaDoor.R
