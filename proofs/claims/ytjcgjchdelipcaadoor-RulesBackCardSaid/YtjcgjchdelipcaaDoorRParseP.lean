/- What the program's reader of rules answers, in the plain words of RText. -/
import Derived.Test.YtjcgjchdelipcaaDoorRRules
namespace Go.Proofs.YtjcgjchdelipcaaDoor.R
open Go.RowKit Go.Proofs.YtjcgjchdelipcaaDoorW.PrintWords Go.Proofs.YtjcgjchdelipcaaDoorW.PrintLast Go.Proofs.YtjcgjchdelipcaaDoorW.PrintMore
open Go.Proofs.YtjcgjchdelipcaaDoor.U (Suf blk lts relM spc sq seqM jl parseM RuleM expM ruleM)
set_option linter.unusedVariables false
set_option linter.unusedSimpArgs false
theorem p0_ev : ∀ (l acc : List Int) (a : Int), (∀ c ∈ l, U.isS c = true) → acc.length + l.length ≤ 8000 → 0 ≤ a → a + 4 * (l.length : Int) ≤ 1000000 → Ev (fun k => rules_Parse.p0 k l acc a) (acc ++ U.pre a l, a + (jl l : Int))
  | [], acc, a, hS, h1, h2, h3 => Ev.congr (f := fun _ => some _) (fun k => by rw [rules_Parse.p0]; simp [U.pre, jl, U.join]) (Ev.now _)
  | c :: l, acc, a, hS, h1, h2, h3 => by
    simp only [List.length_cons, Int.natCast_add, Int.cast_ofNat_Int] at h1 h3
    have ho4 := U.one_length c
    have hj : U.join [c] = U.one c := by simp [U.join]
    have hp := Put_ev [c] (fun x hx => hS x (by simp at hx; simp [hx])) (by simp)
    rw [hj] at hp
    have ih := p0_ev l (acc ++ [a]) (a + ((U.one c).length : Int)) (fun x hx => hS x (by simp [hx])) (by simp; omega) (by omega) (by omega)
    have e : (acc ++ U.pre a (c :: l), a + (jl (c :: l) : Int)) = ((acc ++ [a]) ++ U.pre (a + ((U.one c).length : Int)) l, a + ((U.one c).length : Int) + (jl l : Int)) := by
      rw [U.jl_cons]
      simp [U.pre]
      omega
    rw [e]
    refine Ev.congr (f := fun k => (utext_Put.f k [c]).bind fun s => if acc.length < 17592186044415 then rules_Parse.p0 k l (acc ++ [a]) (wrap64 (a + (s.size : Int))) else none) (fun k => by rw [rules_Parse.p0]) (Ev.bind hp (Ev.congr (fun k => ?_) ih))
    rw [if_pos (by omega), strOfNums_size, w64 (by omega) (by omega)]
def to63 (r : RuleM) : S63 := ⟨r.1, r.2.1, r.2.2⟩
section
variable (s : ByteArray) (hs : s.size ≤ 8000)
def atsOf : List Int := U.pre 0 (U.signs s) ++ [0 + (jl (U.signs s) : Int)]
theorem ats_at {m : List Int} (h : Suf (U.signs s) m) : 0 ≤ idx (U.signs s) m ∧ idx (U.signs s) m < ((atsOf s).length : Int) ∧ rd (atsOf s) (idx (U.signs s) m) = pos s m := by
  have hlen := h.length
  have hj := U.jl_signs s
  obtain ⟨p, hp⟩ := h
  have e : idx (U.signs s) m = (p.length : Int) := by unfold idx; rw [hp, List.length_append]; omega
  have hal : (atsOf s).length = (U.signs s).length + 1 := by unfold atsOf; rw [List.length_append, U.pre_length]; rfl
  have hpl : p.length + m.length = (U.signs s).length := by rw [hp, List.length_append]
  have g := U.pre_at p m 0
  rw [← hp] at g
  have ha : (atsOf s)[p.length]? = some (0 + (jl p : Int)) := g
  have hj2 := U.jl_app p m
  rw [← hp, hj] at hj2
  refine ⟨by omega, by omega, ?_⟩
  rw [e, rd_nat _ p.length (by omega)]
  have := List.getElem?_eq_some_iff.mp ha
  obtain ⟨h1, h2⟩ := this
  rw [h2]
  unfold pos
  omega
def QEv (g : Nat → Option (List S63 × Int × Int × Int)) (r : List RuleM × Int × Int) : Prop := ∃ q4, Ev g (r.1.map to63, r.2.1, r.2.2, q4)
include hs in
theorem parse_l0 : ∀ (n : Nat) (out : List RuleM) (m : List Int), m.length < n → out.length + m.length ≤ 8000 → Suf (U.signs s) m → QEv (fun k => rules_Parse.l0 k (out.map to63) (U.signs s) (atsOf s) (idx (U.signs s) (blk m))) (parseM s.size n out m)
  | 0, out, m, hm, ho, h => absurd hm (Nat.not_lt_zero _)
  | n + 1, out, m, hm, ho, h => by
    have hl : (U.signs s).length ≤ 8000 := by have := U.signs_length s; omega
    have hp : ∀ c ∈ U.signs s, 0 ≤ c := by
      intro c hc
      have := U.signs_isS s c hc
      unfold U.isS at this
      simp at this
      omega
    have hb := h.trans (U.blk_suf m)
    have hbl := (U.blk_suf m).length
    have hlen : (out.map to63).length = out.length := by simp
    unfold parseM
    cases hm1 : blk m with
    | nil =>
      rw [hm1] at hb
      rw [if_pos rfl]
      by_cases h40 : (out.length : Int) > 40
      · rw [if_pos h40]
        refine ⟨idx (U.signs s) [], Ev.step (f := fun _ => some _) (fun k => ?_) (Ev.now _)⟩
        rw [rules_Parse.l0, sign_at _ _ hl hb, Option.bind_some, if_neg (c := (hdI [], idx (U.signs s) []).1 ≥ 0) (by show ¬ (-1 : Int) ≥ 0; decide), if_pos (by omega)]
        rfl
      · rw [if_neg h40]
        refine ⟨idx (U.signs s) [], Ev.step (f := fun _ => some _) (fun k => ?_) (Ev.now _)⟩
        rw [rules_Parse.l0, sign_at _ _ hl hb, Option.bind_some, if_neg (c := (hdI [], idx (U.signs s) []).1 ≥ 0) (by show ¬ (-1 : Int) ≥ 0; decide), if_neg (by omega)]
        rfl
    | cons c m1 =>
      rw [hm1] at hb hbl
      rw [if_neg (by simp)]
      have hc : 0 ≤ c := hp c (by obtain ⟨p, e⟩ := hb; rw [e]; simp)
      have hr := rule_ev (U.signs s) (atsOf s) hl hp (out.length == 0) hb
      have hsuf := hb.trans (U.ruleM_suf (out.length == 0) (c :: m1))
      have hfl : (((out.map to63).length : Int) == 0) = (out.length == 0) := by rw [hlen, Bool.eq_iff_iff, beq_iff_eq, beq_iff_eq]; omega
      have top : ∀ k, rules_Parse.l0 (k + 1) (out.map to63) (U.signs s) (atsOf s) (idx (U.signs s) (c :: m1)) = (rules_reader_rule.f k (U.signs s) (atsOf s) (idx (U.signs s) (c :: m1)) (out.length == 0)).bind fun bt202 => (if bt202.2.2.2.1 = true then (if (out.map to63).length < 2513169434916 then ((rules_reader_blank.f k (U.signs s) (atsOf s) bt202.2.2.2.2).bind fun t215 => (rules_Parse.l0 k ((out.map to63) ++ [(⟨bt202.1, bt202.2.1, bt202.2.2.1⟩ : S63)]) (U.signs s) (atsOf s) t215)) else (none)) else (if 0 ≤ bt202.2.2.2.2 then (if bt202.2.2.2.2 < ((atsOf s).length : Int) then (some (([] : List (S63)), rd (atsOf s) bt202.2.2.2.2, 10, bt202.2.2.2.2)) else (none)) else (none))) := by
        intro k
        rw [rules_Parse.l0, sign_at _ _ hl hb, Option.bind_some, if_pos (c := (hdI (c :: m1), idx (U.signs s) (c :: m1)).1 ≥ 0) hc, hfl]
      cases hx : ruleM (out.length == 0) (c :: m1) with
      | mk r x =>
        cases x with
        | mk ok m' =>
          rw [hx] at hr hsuf
          cases ok with
          | false =>
            rw [U.contM_bad]
            obtain ⟨a1, a2, a3⟩ := ats_at s hsuf
            refine ⟨idx (U.signs s) m', Ev.step top (Ev.bind hr (Ev.congr (f := fun _ => some _) (fun k => ?_) (Ev.now _)))⟩
            show (if false = true then _ else (if 0 ≤ idx (U.signs s) m' then (if idx (U.signs s) m' < ((atsOf s).length : Int) then (some (([] : List (S63)), rd (atsOf s) (idx (U.signs s) m'), 10, idx (U.signs s) m')) else none) else none)) = _
            rw [if_neg (by simp), if_pos a1, if_pos a2, a3]
            rfl
          | true =>
            rw [U.contM_ok]
            have hless := U.ruleM_less (out.length == 0) (c :: m1) (by rw [hx])
            rw [hx] at hless
            dsimp only at hless hsuf
            obtain ⟨q4, ih⟩ := parse_l0 n (out ++ [r]) m' (by omega) (by simp; omega) hsuf
            rw [List.map_append] at ih
            refine ⟨q4, Ev.step top (Ev.bind hr (Ev.congr (f := fun k => (rules_reader_blank.f k (U.signs s) (atsOf s) (idx (U.signs s) m')).bind fun t => rules_Parse.l0 k (out.map to63 ++ [to63 r]) (U.signs s) (atsOf s) t) (fun k => ?_) (Ev.bind (blank_ev _ _ hl hsuf) ih)))⟩
            show (if true = true then (if (out.map to63).length < 2513169434916 then _ else none) else _) = _
            rw [if_pos rfl, if_pos (by omega)]
            rfl
def resM : List RuleM × Int × Int := parseM s.size ((U.signs s).length + 1) [] (U.signs s)
include hs in
theorem Parse_ev : Ev (fun k => rules_Parse.f k s) ((resM s).1.map to63, (resM s).2.1, (resM s).2.2) := by
  have hsl := U.signs_length s
  have hS := U.signs_isS s
  have h0 := p0_ev (U.signs s) [] 0 hS (by simp; omega) (by omega) (by omega)
  rw [List.nil_append] at h0
  obtain ⟨q4, hq⟩ := parse_l0 s hs ((U.signs s).length + 1) [] (U.signs s) (by omega) (by simp; omega) (Suf.refl _)
  refine Ev.bind (Signs_ev s (by omega)) (Ev.bind h0 (Ev.congr (f := fun k => (rules_Parse.fS k s (U.signs s) (atsOf s) 0).bind fun r => some (r.1, r.2.1, r.2.2.1)) (fun k => ?_) (Ev.bind (a := ((resM s).1.map to63, (resM s).2.1, (resM s).2.2, q4)) ?_ (Ev.now _))))
  · dsimp only
    rw [if_pos (by rw [U.pre_length]; omega)]
    rfl
  · have hb := blank_ev (U.signs s) (atsOf s) (by omega) (Suf.refl (U.signs s))
    have e : idx (U.signs s) (U.signs s) = 0 := by unfold idx; omega
    rw [e] at hb
    exact Ev.bind hb hq
end
theorem awake_ev : Ev (fun k => umlautlaw6_awake.f k) true := Ev.of (fun k => umlautlaw6_awake.mono k) (k := 30) (by kernel_rfl)
end Go.Proofs.YtjcgjchdelipcaaDoor.R
