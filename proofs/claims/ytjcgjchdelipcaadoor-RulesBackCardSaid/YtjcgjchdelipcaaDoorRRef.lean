/- What the printed functions of the document's reader of rules answer, in the plain words of RText. -/
import Derived.Test.YtjcgjchdelipcaaDoorRRules
import Derived.Test.YtjcgjchdelipcaaDoorREvA
namespace Go.Proofs.YtjcgjchdelipcaaDoor.R
open Go.RowKit Go.Proofs.YtjcgjchdelipcaaDoorW.PrintWords Go.Proofs.YtjcgjchdelipcaaDoorW.PrintLast Go.Proofs.YtjcgjchdelipcaaDoorW.PrintMore
open Go.Proofs.YtjcgjchdelipcaaDoor.U (Suf blk lts relM spc sq seqM jl parseM RuleM expM ruleM)
set_option linter.unusedVariables false
set_option linter.unusedSimpArgs false
section
variable (s : ByteArray) (hs : s.size ≤ 8000)
include hs in
theorem pos_rng {m : List Int} (h : Suf (U.signs s) m) : 0 ≤ pos s m ∧ pos s m ≤ 8000 := by
  obtain ⟨p, hp⟩ := h
  have := (U.at_suf p s m hp).1
  unfold pos
  omega
theorem pos_nil : pos s [] = (s.size : Int) := by unfold pos; simp [jl, U.join]
/-- At a sign: its place in the text, its first byte, the sign itself. -/
theorem at_sign {c : Int} {m : List Int} (h : Suf (U.signs s) (c :: m)) :
    0 ≤ pos s (c :: m) ∧ pos s (c :: m) < (s.size : Int) ∧ pos s (c :: m) + ((U.one c).length : Int) = pos s m ∧ 1 ≤ (U.one c).length ∧ (U.one c).length ≤ 4 ∧ 0 ≤ c ∧
    (bt s (pos s (c :: m)) = c ∨ (128 ≤ c ∧ 128 ≤ bt s (pos s (c :: m)))) ∧ (c < 128 → (U.one c).length = 1) ∧ Ev (fun k => umlautref1_Sign.f k (s.extract (pos s (c :: m)).toNat s.size)) (c, ((U.one c).length : Int)) := by
  obtain ⟨a1, a2, a3, a4, a5, a6, a7, a8, a9⟩ := U.at_cons s c m h
  have hj := U.jl_cons c m
  have hp : pos s (c :: m) = ((s.size - jl (c :: m) : Nat) : Int) := by unfold pos; omega
  have hc0 : 0 ≤ c := by
    unfold U.isS at a1
    simp at a1
    omega
  refine ⟨by omega, by omega, by unfold pos; omega, a6, a7, hc0, ?_, a9, ?_⟩
  · rw [hp, bt_eq s _ (by omega)]
    rcases a8 with h | h
    · exact .inl h
    · exact .inr ⟨h.1, by omega⟩
  · rw [hp, Int.toNat_natCast]
    have := refSign_Ev _ a5
    rw [a4] at this
    exact this
/-- A byte below 128 is the sign. -/
theorem byte_is {c : Int} {m : List Int} (h : Suf (U.signs s) (c :: m)) (v : Int) (hv : v < 128) : (bt s (pos s (c :: m)) = v ↔ c = v) := by
  obtain ⟨_, _, _, _, _, _, hb, _⟩ := at_sign s h
  constructor
  · intro e; rcases hb with h | h <;> omega
  · intro e; rcases hb with h | h <;> omega
include hs in
theorem small_next {c : Int} {m : List Int} (h : Suf (U.signs s) (c :: m)) (hc : c < 128) : wrap64 (pos s (c :: m) + 1) = pos s m := by
  obtain ⟨_, _, h3, _, _, _, _, h8, _⟩ := at_sign s h
  have := h8 hc
  have hr := pos_rng s hs h.tail
  rw [show pos s (c :: m) + 1 = pos s m by omega, w64 (by omega) (by omega)]
include hs in
theorem rblank_ev : ∀ m, Suf (U.signs s) m → Ev (fun k => umlautref5_reader_blank.l0 k s (pos s m)) (s, pos s (blk m))
  | [], h => Ev.step (f := fun _ => some _) (fun k => by rw [umlautref5_reader_blank.l0, if_neg (by rw [pos_nil]; omega)]; rfl) (Ev.now _)
  | c :: m, h => by
    obtain ⟨h1, h2, h3, h4, h5, h6, h7, h8, h9⟩ := at_sign s h
    have b32 := byte_is s h 32 (by decide)
    have b10 := byte_is s h 10 (by decide)
    by_cases hc : c = 32 ∨ c = 10
    · rw [blk, if_pos hc]
      refine Ev.step (fun k => ?_) (rblank_ev m h.tail)
      rw [umlautref5_reader_blank.l0, if_pos h2, if_pos h1, small_next s hs h (by omega)]
      by_cases hc2 : c = 32
      · rw [if_pos (b32.mpr hc2)]
      · rw [if_neg (fun e => hc2 (b32.mp e)), if_pos (b10.mpr (by omega))]
    · rw [blk, if_neg hc]
      refine Ev.step (f := fun _ => some _) (fun k => ?_) (Ev.now _)
      rw [umlautref5_reader_blank.l0, if_pos h2, if_pos h1, if_neg (fun e => hc (.inl (b32.mp e))), if_neg (fun e => hc (.inr (b10.mp e)))]
/-- The '<' behind the first one. -/
theorem lts_drop (m : List Int) : ∀ (d n : Nat), (lts d (m.drop n)).1 + n = (lts d (m.drop n)).1 + n := fun _ _ => rfl
include hs in
theorem rrel_l0 : ∀ (d n : Nat) (m0 m : List Int), n + d = 3 → Suf (U.signs s) m → pos s m0 + (n : Int) = pos s m → pos s m0 + 3 ≤ 8003 → 0 ≤ pos s m0 → Ev (fun k => umlautref5_reader_rel.l0 k (n : Int) s (pos s m0)) (1 + ((n + (lts d m).1 : Nat) : Int), s, pos s (lts d m).2)
  | 0, n, m0, m, hn, h, hp, h3, h0 => by
    refine Ev.step (f := fun _ => some _) (fun k => ?_) (Ev.now _)
    rw [umlautref5_reader_rel.l0, if_neg (by omega), w64 (x := 1 + (n : Int)) (by omega) (by omega), w64 (by omega) (by omega), hp]
    rfl
  | d + 1, n, m0, [], hn, h, hp, h3, h0 => by
    refine Ev.step (f := fun _ => some _) (fun k => ?_) (Ev.now _)
    rw [umlautref5_reader_rel.l0, if_pos (by omega), w64 (x := pos s m0 + (n : Int)) (by omega) (by omega), hp, if_neg (by rw [pos_nil]; omega), w64 (x := 1 + (n : Int)) (by omega) (by omega)]
    rfl
  | d + 1, n, m0, c :: m, hn, h, hp, h3, h0 => by
    obtain ⟨h1, h2, h3', h4, h5, h6, h7, h8, h9⟩ := at_sign s h
    have b60 := byte_is s h 60 (by decide)
    by_cases hc : c = 60
    · rw [show lts (d + 1) (c :: m) = ((lts d m).1 + 1, (lts d m).2) by rw [lts, if_pos hc]]
      have := h8 (by omega)
      have ih := rrel_l0 d (n + 1) m0 m (by omega) h.tail (by omega) h3 h0
      dsimp only
      rw [show n + ((lts d m).1 + 1) = n + 1 + (lts d m).1 by omega]
      refine Ev.step (fun k => ?_) ih
      rw [umlautref5_reader_rel.l0, if_pos (by omega), w64 (x := pos s m0 + (n : Int)) (by omega) (by omega), hp, if_pos h2, if_pos h1, if_pos (b60.mpr hc), w64 (x := (n : Int) + 1) (by omega) (by omega)]
      rfl
    · rw [show lts (d + 1) (c :: m) = (0, c :: m) by rw [lts, if_neg hc]]
      refine Ev.step (f := fun _ => some _) (fun k => ?_) (Ev.now _)
      rw [umlautref5_reader_rel.l0, if_pos (by omega), w64 (x := pos s m0 + (n : Int)) (by omega) (by omega), hp, if_pos h2, if_pos h1, if_neg (fun e => hc (b60.mp e)), w64 (x := 1 + (n : Int)) (by omega) (by omega)]
      rfl
include hs in
theorem rrel_ev {c : Int} {m : List Int} (h : Suf (U.signs s) (c :: m)) : Ev (fun k => umlautref5_reader_rel.f k s (pos s (c :: m))) ((relM (c :: m)).1, s, pos s (relM (c :: m)).2) := by
  obtain ⟨h1, h2, h3, h4, h5, h6, h7, h8, h9⟩ := at_sign s h
  have hr := pos_rng s hs h
  have b38 := byte_is s h 38 (by decide)
  have b61 := byte_is s h 61 (by decide)
  have b60 := byte_is s h 60 (by decide)
  rw [U.relM_cons]
  by_cases c1 : c = 38
  · rw [if_pos c1]
    refine Ev.congr (f := fun _ => some _) (fun k => ?_) (Ev.now _)
    unfold umlautref5_reader_rel.f
    rw [if_pos h1, if_pos h2, if_pos (b38.mpr c1), small_next s hs h (by omega)]
  · rw [if_neg c1]
    by_cases c2 : c = 61
    · rw [if_pos c2]
      refine Ev.congr (f := fun _ => some _) (fun k => ?_) (Ev.now _)
      unfold umlautref5_reader_rel.f
      rw [if_pos h1, if_pos h2, if_neg (fun e => c1 (b38.mp e)), if_pos (b61.mpr c2), small_next s hs h (by omega)]
    · rw [if_neg c2]
      by_cases c3 : c = 60
      · have hl : lts 3 (c :: m) = ((lts 2 m).1 + 1, (lts 2 m).2) := by rw [lts, if_pos c3]
        rw [hl, if_neg (by simp)]
        have ho := h8 (by omega)
        have := rrel_l0 s hs 2 1 (c :: m) m rfl h.tail (by omega) (by omega) (by omega)
        refine Ev.congr (fun k => ?_) (by rw [show 1 + (((lts 2 m).1 + 1 : Nat) : Int) = 1 + ((1 + (lts 2 m).1 : Nat) : Int) by omega]; exact this)
        unfold umlautref5_reader_rel.f
        rw [if_pos h1, if_pos h2, if_neg (fun e => c1 (b38.mp e)), if_neg (fun e => c2 (b61.mp e)), if_pos (b60.mpr c3)]
        rfl
      · have hl : lts 3 (c :: m) = (0, c :: m) := by rw [lts, if_neg c3]
        rw [hl, if_pos rfl]
        refine Ev.congr (f := fun _ => some _) (fun k => ?_) (Ev.now _)
        unfold umlautref5_reader_rel.f
        rw [if_pos h1, if_pos h2, if_neg (fun e => c1 (b38.mp e)), if_neg (fun e => c2 (b61.mp e)), if_neg (fun e => c3 (b60.mp e))]
theorem rspecial_eq (c : Int) : umlautref5_special.f c = some (spc c) := by
  unfold umlautref5_special.f spc
  repeat' split
  all_goals simp_all
include hs in
theorem rseq_l0 : ∀ (m out : List Int), out.length ≤ 3 → Suf (U.signs s) m → Ev (fun k => umlautref5_reader_seq.l0 k out s (pos s m)) ((sq out m).1, (sq out m).2.1, s, pos s (sq out m).2.2)
  | [], out, ho, h => by
    refine Ev.step (f := fun _ => some _) (fun k => ?_) (Ev.now _)
    rw [umlautref5_reader_seq.l0, if_neg (by rw [pos_nil]; omega)]
    simp [sq]
  | [c], out, ho, h => by
    obtain ⟨h1, h2, h3, h4, h5, h6, h7, h8, h9⟩ := at_sign s h
    have hr := pos_rng s hs h.tail
    have hn := pos_nil s
    refine Ev.step (f := fun k => (umlautref1_Sign.f k (s.extract (pos s [c]).toNat s.size)).bind _) (fun k => by rw [umlautref5_reader_seq.l0, if_pos h2, if_pos h1, if_pos (by omega)]) (Ev.bind h9 ?_)
    cases hsp : spc c with
    | true =>
      rw [show sq out [c] = (out, decide (0 < out.length), [c]) by rw [sq, if_pos hsp]]
      refine Ev.congr (f := fun _ => some _) (fun k => ?_) (Ev.now _)
      rw [rspecial_eq, Option.bind_some]
      dsimp only
      rw [if_pos hsp]
      simp
    | false =>
      have hns : ¬ spc c = true := by simp [hsp]
      by_cases g3 : out.length = 3
      · rw [show sq out [c] = ([], false, [c]) by rw [sq, if_neg hns, if_pos g3]]
        refine Ev.congr (f := fun _ => some _) (fun k => ?_) (Ev.now _)
        rw [rspecial_eq, Option.bind_some, if_neg (c := spc (c, ((U.one c).length : Int)).1 = true) hns, if_pos (by omega)]
      · by_cases h92 : c = 92
        · rw [show sq out [c] = ([], false, []) by rw [sq, if_neg hns, if_neg g3, if_pos h92]]
          refine Ev.congr (f := fun _ => some _) (fun k => ?_) (Ev.now _)
          have hw := small_next s hs h (by omega)
          rw [rspecial_eq, Option.bind_some, if_neg (c := spc (c, ((U.one c).length : Int)).1 = true) hns, if_neg (by omega), if_pos (c := (c, ((U.one c).length : Int)).1 = 92) h92, hw, if_pos (by omega)]
        · rw [show sq out [c] = (out ++ [c], true, []) by rw [sq, if_neg hns, if_neg g3, if_neg h92]]
          have ih := rseq_l0 [] (out ++ [c]) (by simp; omega) h.tail
          rw [show sq (out ++ [c]) [] = (out ++ [c], true, []) by rw [sq]; simp] at ih
          refine Ev.congr (fun k => ?_) ih
          rw [rspecial_eq, Option.bind_some, if_neg (c := spc (c, ((U.one c).length : Int)).1 = true) hns, if_neg (by omega), if_neg (c := (c, ((U.one c).length : Int)).1 = 92) h92, if_pos (by omega)]
          dsimp only
          rw [h3, w64 (by omega) (by omega)]
  | c :: d :: m, out, ho, h => by
    obtain ⟨h1, h2, h3, h4, h5, h6, h7, h8, h9⟩ := at_sign s h
    obtain ⟨d1, d2, d3, d4, d5, d6, d7, d8, d9⟩ := at_sign s h.tail
    have hr := pos_rng s hs h.tail
    have hr2 := pos_rng s hs h.tail.tail
    refine Ev.step (f := fun k => (umlautref1_Sign.f k (s.extract (pos s (c :: d :: m)).toNat s.size)).bind _) (fun k => by rw [umlautref5_reader_seq.l0, if_pos h2, if_pos h1, if_pos (by omega)]) (Ev.bind h9 ?_)
    cases hsp : spc c with
    | true =>
      rw [show sq out (c :: d :: m) = (out, decide (0 < out.length), c :: d :: m) by rw [sq, if_pos hsp]]
      refine Ev.congr (f := fun _ => some _) (fun k => ?_) (Ev.now _)
      rw [rspecial_eq, Option.bind_some]
      dsimp only
      rw [if_pos hsp]
      simp
    | false =>
      have hns : ¬ spc c = true := by simp [hsp]
      by_cases g3 : out.length = 3
      · rw [show sq out (c :: d :: m) = ([], false, c :: d :: m) by rw [sq, if_neg hns, if_pos g3]]
        refine Ev.congr (f := fun _ => some _) (fun k => ?_) (Ev.now _)
        rw [rspecial_eq, Option.bind_some, if_neg (c := spc (c, ((U.one c).length : Int)).1 = true) hns, if_pos (by omega)]
      · by_cases h92 : c = 92
        · rw [show sq out (c :: d :: m) = sq (out ++ [d]) m by rw [sq, if_neg hns, if_neg g3, if_pos h92]]
          have ih := rseq_l0 m (out ++ [d]) (by simp; omega) h.tail.tail
          have hw := small_next s hs h (by omega)
          have hone := h8 (by omega)
          refine Ev.congr (f := fun k => (umlautref1_Sign.f k (s.extract (pos s (d :: m)).toNat s.size)).bind fun bt => (if out.length < 17592186044416 then (umlautref5_reader_seq.l0 k (out ++ [bt.1]) s (wrap64 (pos s (c :: d :: m) + (wrap64 (1 + bt.2))))) else none)) (fun k => ?_) (Ev.bind d9 (Ev.congr (fun k => ?_) ih))
          · rw [rspecial_eq, Option.bind_some, if_neg (c := spc (c, ((U.one c).length : Int)).1 = true) hns, if_neg (by omega), if_pos (c := (c, ((U.one c).length : Int)).1 = 92) h92, hw, if_neg (by omega), if_pos d1, if_pos (by omega)]
          · rw [if_pos (by omega)]
            dsimp only
            rw [w64 (x := 1 + ((U.one d).length : Int)) (by omega) (by omega), show pos s (c :: d :: m) + (1 + ((U.one d).length : Int)) = pos s m by omega, w64 (by omega) (by omega)]
        · rw [show sq out (c :: d :: m) = sq (out ++ [c]) (d :: m) by rw [sq, if_neg hns, if_neg g3, if_neg h92]]
          have ih := rseq_l0 (d :: m) (out ++ [c]) (by simp; omega) h.tail
          refine Ev.congr (fun k => ?_) ih
          rw [rspecial_eq, Option.bind_some, if_neg (c := spc (c, ((U.one c).length : Int)).1 = true) hns, if_neg (by omega), if_neg (c := (c, ((U.one c).length : Int)).1 = 92) h92, if_pos (by omega)]
          dsimp only
          rw [h3, w64 (by omega) (by omega)]
include hs in
theorem rseq_ev {m : List Int} (h : Suf (U.signs s) m) : Ev (fun k => umlautref5_reader_seq.f k s (pos s m)) ((seqM m).1, (seqM m).2.1, s, pos s (seqM m).2.2) :=
  Ev.bind (rblank_ev s hs m h) (rseq_l0 s hs (blk m) [] (by simp) (h.trans (U.blk_suf m)))
def to57 (r : RuleM) : S57 := ⟨r.1, r.2.1, r.2.2⟩
theorem parseM_blk (S n : Nat) (out : List RuleM) (m : List Int) : parseM S n out (blk m) = parseM S n out m := by
  cases n with
  | zero => rfl
  | succ n => unfold parseM; rw [U.blk_blk]
/-- What Parse answers, its reader left out. -/
def PEv (g : Nat → Option (List S57 × Int × Int × ByteArray × Int)) (r : List RuleM × Int × Int) : Prop := ∃ q4 q5, Ev g (r.1.map to57, r.2.1, r.2.2, q4, q5)
include hs in
theorem rj2_ev {out : List RuleM} {rel : Int} {q m3 : List Int} {n : Nat} (hout : out.length ≤ 8000) (h : Suf (U.signs s) m3) (hn : m3.length < n)
    (ih : ∀ (r : RuleM) (m' : List Int), m'.length ≤ m3.length → Suf (U.signs s) m' → PEv (fun k => umlautref5_Parse.l0 k (out.map to57 ++ [to57 r]) s (pos s m')) (parseM s.size n (out ++ [r]) m')) :
    PEv (fun k => (umlautref5_reader_blank.f k s (pos s m3)).bind fun b => (if rel = 1 then (umlautref5_Parse.j2 k (out.map to57) false b.1 b.2 rel q) else (if b.2 < (b.1.size : Int) then (if 0 ≤ b.2 then (umlautref5_Parse.j2 k (out.map to57) ((bt b.1 b.2) == 47) b.1 b.2 rel q) else (none)) else (umlautref5_Parse.j2 k (out.map to57) false b.1 b.2 rel q))))
      (U.contM s.size (parseM s.size n) out (expM rel q m3)) := by
  have hb := h.trans (U.blk_suf m3)
  have hbl := (U.blk_suf m3).length
  have hlen : (out.map to57).length = out.length := by simp
  have plain : PEv (fun k => umlautref5_Parse.j2 k (out.map to57) false s (pos s (blk m3)) rel q) (parseM s.size n (out ++ [(rel, q, [])]) m3) := by
    obtain ⟨q4, q5, hq⟩ := ih (rel, q, []) (blk m3) (by omega) hb
    rw [parseM_blk] at hq
    refine ⟨q4, q5, Ev.step (fun k => ?_) hq⟩
    rw [umlautref5_Parse.j2, if_neg (by simp), if_pos (by omega)]
    rfl
  by_cases h1 : rel = 1
  · subst h1
    rw [U.expM_one, U.contM_ok]
    obtain ⟨q4, q5, hq⟩ := plain
    refine ⟨q4, q5, Ev.bind (rblank_ev s hs m3 h) (Ev.congr (fun k => ?_) hq)⟩
    rw [if_pos rfl]
  · cases hm : blk m3 with
    | nil =>
      rw [U.expM_none rel q m3 h1 hm, U.contM_ok]
      rw [hm] at plain
      obtain ⟨q4, q5, hq⟩ := plain
      have hr := rblank_ev s hs m3 h
      rw [hm] at hr
      refine ⟨q4, q5, Ev.bind hr (Ev.congr (fun k => ?_) hq)⟩
      rw [if_neg h1, if_neg (by show ¬ pos s [] < (s.size : Int); rw [pos_nil]; omega)]
    | cons c m5 =>
      rw [hm] at hb plain hbl
      obtain ⟨h1', h2, h3, h4, h5, h6, h7, h8, h9⟩ := at_sign s hb
      have b47 := byte_is s hb 47 (by decide)
      have hr := rblank_ev s hs m3 h
      rw [hm] at hr
      by_cases hc : c = 47
      · subst hc
        rw [U.expM_47 rel q m3 m5 h1 hm]
        have hw := small_next s hs hb (by omega)
        have hsl := (U.seqM_suf m5).length
        have hs5 := hb.tail.trans (U.seqM_suf m5)
        simp only [List.length_cons] at hbl
        have hsq := rseq_ev s hs hb.tail
        rw [← hw] at hsq
        have top : ∀ k, (if rel = 1 then (umlautref5_Parse.j2 k (out.map to57) false s (pos s (47 :: m5)) rel q) else (if pos s (47 :: m5) < (s.size : Int) then (if 0 ≤ pos s (47 :: m5) then (umlautref5_Parse.j2 k (out.map to57) ((bt s (pos s (47 :: m5))) == 47) s (pos s (47 :: m5)) rel q) else (none)) else (umlautref5_Parse.j2 k (out.map to57) false s (pos s (47 :: m5)) rel q))) = umlautref5_Parse.j2 k (out.map to57) true s (pos s (47 :: m5)) rel q := by
          intro k
          rw [if_neg h1, if_pos h2, if_pos h1', show (bt s (pos s (47 :: m5)) == 47) = true from beq_iff_eq.mpr (b47.mpr rfl)]
        cases hok : (seqM m5).2.1 with
        | false =>
          rw [U.contM_bad]
          refine ⟨s, pos s (seqM m5).2.2, Ev.bind hr (Ev.congr top (Ev.step (f := fun k => (umlautref5_reader_seq.f k s (wrap64 (pos s (47 :: m5) + 1))).bind _) (fun k => by rw [umlautref5_Parse.j2, if_pos rfl]) (Ev.bind hsq (Ev.congr (f := fun _ => some _) (fun k => ?_) (Ev.now _)))))⟩
          dsimp only
          rw [hok, if_neg (by simp)]
          rfl
        | true =>
          rw [U.contM_ok]
          obtain ⟨q4, q5, hq⟩ := ih (rel, q, (seqM m5).1) (seqM m5).2.2 (by omega) hs5
          refine ⟨q4, q5, Ev.bind hr (Ev.congr top (Ev.step (f := fun k => (umlautref5_reader_seq.f k s (wrap64 (pos s (47 :: m5) + 1))).bind _) (fun k => by rw [umlautref5_Parse.j2, if_pos rfl]) (Ev.bind hsq (Ev.congr (fun k => ?_) hq))))⟩
          dsimp only
          rw [hok, if_pos rfl, if_pos (by omega)]
          rfl
      · rw [U.expM_else rel q m3 m5 c h1 hm hc, U.contM_ok]
        obtain ⟨q4, q5, hq⟩ := plain
        refine ⟨q4, q5, Ev.bind hr (Ev.congr (fun k => ?_) hq)⟩
        rw [if_neg h1, if_pos h2, if_pos h1']
        dsimp only
        rw [show (bt s (pos s (c :: m5)) == 47) = false from beq_eq_false_iff_ne.mpr (fun e => hc (b47.mp e))]
include hs in
theorem rparse_l0 : ∀ (n : Nat) (out : List RuleM) (m : List Int), m.length < n → out.length + m.length ≤ 8000 → Suf (U.signs s) m → PEv (fun k => umlautref5_Parse.l0 k (out.map to57) s (pos s m)) (parseM s.size n out m)
  | 0, out, m, hm, ho, h => absurd hm (Nat.not_lt_zero _)
  | n + 1, out, m, hm, ho, h => by
    have hb := h.trans (U.blk_suf m)
    have hbl := (U.blk_suf m).length
    have hbe := rblank_ev s hs m h
    have hlen : (out.map to57).length = out.length := by simp
    unfold parseM
    cases hm1 : blk m with
    | nil =>
      rw [hm1] at hbe
      rw [if_pos rfl]
      by_cases h40 : (out.length : Int) > 40
      · rw [if_pos h40]
        refine ⟨s, pos s [], Ev.step (f := fun k => (umlautref5_reader_blank.f k s (pos s m)).bind _) (fun k => by rw [umlautref5_Parse.l0]) (Ev.bind hbe (Ev.congr (f := fun _ => some _) (fun k => ?_) (Ev.now _)))⟩
        rw [if_pos (c := ((s, pos s []) : ByteArray × Int).2 = ((s, pos s []) : ByteArray × Int).1.size) (pos_nil s), if_pos (by omega)]
        rfl
      · rw [if_neg h40]
        refine ⟨s, pos s [], Ev.step (f := fun k => (umlautref5_reader_blank.f k s (pos s m)).bind _) (fun k => by rw [umlautref5_Parse.l0]) (Ev.bind hbe (Ev.congr (f := fun _ => some _) (fun k => ?_) (Ev.now _)))⟩
        rw [if_pos (c := ((s, pos s []) : ByteArray × Int).2 = ((s, pos s []) : ByteArray × Int).1.size) (pos_nil s), if_neg (by omega)]
    | cons c m1 =>
      rw [hm1] at hb hbl hbe
      rw [if_neg (by simp)]
      obtain ⟨a1, a2, _, _, _, _, _, _, _⟩ := at_sign s hb
      have hre := rrel_ev s hs hb
      have hr2 := hb.trans (U.relM_suf (c :: m1))
      have key : PEv (fun k => (if (relM (c :: m1)).1 = 0 then (umlautref5_Parse.j1 k (out.map to57) (pos s (c :: m1)) (relM (c :: m1)).1 true s (pos s (relM (c :: m1)).2)) else (if ((out.map to57).length : Int) = 0 then (umlautref5_Parse.j1 k (out.map to57) (pos s (c :: m1)) (relM (c :: m1)).1 ((relM (c :: m1)).1 != 1) s (pos s (relM (c :: m1)).2)) else (umlautref5_Parse.j1 k (out.map to57) (pos s (c :: m1)) (relM (c :: m1)).1 false s (pos s (relM (c :: m1)).2)))))
          (U.contM s.size (parseM s.size n) out (ruleM (out.length == 0) (c :: m1))) := by
        have bad : PEv (fun k => umlautref5_Parse.j1 k (out.map to57) (pos s (c :: m1)) (relM (c :: m1)).1 true s (pos s (relM (c :: m1)).2)) ([], (s.size : Int) - (jl (c :: m1) : Int), 10) :=
          ⟨s, pos s (relM (c :: m1)).2, Ev.step (f := fun _ => some _) (fun k => by rw [umlautref5_Parse.j1, if_pos rfl]; rfl) (Ev.now _)⟩
        have good : ∀ hx : ¬ ((relM (c :: m1)).1 = 0 ∨ (out.length == 0) = true ∧ (relM (c :: m1)).1 ≠ 1), PEv (fun k => umlautref5_Parse.j1 k (out.map to57) (pos s (c :: m1)) (relM (c :: m1)).1 false s (pos s (relM (c :: m1)).2)) (U.contM s.size (parseM s.size n) out (ruleM (out.length == 0) (c :: m1))) := by
          intro hx
          have hless := U.relM_less (c :: m1) (fun e => hx (.inl e))
          have hsl := (U.seqM_suf (relM (c :: m1)).2).length
          have hsq := rseq_ev s hs hr2
          cases hq : (seqM (relM (c :: m1)).2).2.1 with
          | false =>
            rw [U.ruleM_seq _ _ hx hq, U.contM_bad]
            refine ⟨s, pos s (seqM (relM (c :: m1)).2).2.2, Ev.step (f := fun k => (umlautref5_reader_seq.f k s (pos s (relM (c :: m1)).2)).bind _) (fun k => by rw [umlautref5_Parse.j1, if_neg (by simp)]) (Ev.bind hsq (Ev.congr (f := fun _ => some _) (fun k => ?_) (Ev.now _)))⟩
            dsimp only
            rw [hq, if_neg (by simp)]
            rfl
          | true =>
            rw [U.ruleM_exp _ _ hx hq]
            have := rj2_ev s hs (out := out) (rel := (relM (c :: m1)).1) (q := (seqM (relM (c :: m1)).2).1) (n := n) (by omega) (hr2.trans (U.seqM_suf _)) (by omega) (fun r m' hm' hs' => by
              have := rparse_l0 n (out ++ [r]) m' (by omega) (by simp; omega) hs'
              rw [List.map_append] at this
              exact this)
            obtain ⟨q4, q5, hq'⟩ := this
            refine ⟨q4, q5, Ev.step (f := fun k => (umlautref5_reader_seq.f k s (pos s (relM (c :: m1)).2)).bind _) (fun k => by rw [umlautref5_Parse.j1, if_neg (by simp)]) (Ev.bind hsq (Ev.congr (fun k => ?_) hq'))⟩
            dsimp only
            rw [hq, if_pos rfl]
        by_cases h0 : (relM (c :: m1)).1 = 0
        · rw [U.ruleM_bad _ _ (.inl h0), U.contM_bad]
          obtain ⟨q4, q5, hq⟩ := bad
          exact ⟨q4, q5, Ev.congr (fun k => if_pos h0) hq⟩
        · by_cases hf : out.length = 0
          · by_cases h1 : (relM (c :: m1)).1 = 1
            · obtain ⟨q4, q5, hq⟩ := good (by simp [h0, h1])
              refine ⟨q4, q5, Ev.congr (fun k => ?_) hq⟩
              rw [if_neg h0, if_pos (by omega), show ((relM (c :: m1)).1 != 1) = false by simp [h1]]
            · rw [U.ruleM_bad _ _ (.inr ⟨by simp [hf], h1⟩), U.contM_bad]
              obtain ⟨q4, q5, hq⟩ := bad
              refine ⟨q4, q5, Ev.congr (fun k => ?_) hq⟩
              rw [if_neg h0, if_pos (by omega), show ((relM (c :: m1)).1 != 1) = true by simp [h1]]
          · obtain ⟨q4, q5, hq⟩ := good (by simp [h0, hf])
            refine ⟨q4, q5, Ev.congr (fun k => ?_) hq⟩
            rw [if_neg h0, if_neg (by omega)]
      obtain ⟨q4, q5, hk⟩ := key
      exact ⟨q4, q5, Ev.step (f := fun k => (umlautref5_reader_blank.f k s (pos s m)).bind _) (fun k => by rw [umlautref5_Parse.l0]) (Ev.bind hbe (Ev.congr (f := fun k => (umlautref5_reader_rel.f k s (pos s (c :: m1))).bind _) (fun k => by rw [if_neg (c := ((s, pos s (c :: m1)) : ByteArray × Int).2 = ((s, pos s (c :: m1)) : ByteArray × Int).1.size) (by dsimp only; omega)]) (Ev.bind hre hk)))⟩
end
end Go.Proofs.YtjcgjchdelipcaaDoor.R
