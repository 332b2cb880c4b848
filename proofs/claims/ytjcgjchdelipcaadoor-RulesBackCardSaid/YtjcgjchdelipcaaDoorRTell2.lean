/- What the document's way of telling rules answers, in the plain words of RTell. -/
import Derived.Test.YtjcgjchdelipcaaDoorRParse
import Derived.Test.YtjcgjchdelipcaaDoorRTell
import Derived.Test.YtjcgjchdelipcaaDoorR10
import Derived.Test.YtjcgjchdelipcaaDoorR11
import Derived.Test.YtjcgjchdelipcaaDoorR12
import Derived.Test.YtjcgjchdelipcaaDoorR13
namespace Go.Proofs.YtjcgjchdelipcaaDoor.R
open Go.RowKit Go.Proofs.YtjcgjchdelipcaaDoorW.PrintWords Go.Proofs.YtjcgjchdelipcaaDoorW.PrintLast Go.Proofs.YtjcgjchdelipcaaDoorW.PrintMore
open Go.Proofs.YtjcgjchdelipcaaDoor.U (Suf blk lts relM spc sq seqM jl parseM RuleM expM ruleM spb txt txt1 nameB ruleT textM words wordsOf joinW GoodR)
set_option linter.unusedVariables false
set_option linter.unusedSimpArgs false
theorem IsSign_ev (c : Int) : umlautref1_IsSign.f c = some (U.isS c) := by
  unfold umlautref1_IsSign.f U.isS
  repeat' split
  all_goals (congr 1; rw [Bool.eq_iff_iff]; simp; try omega)
theorem One_ev (c : Int) (hc : U.isS c = true) : umlautref1_One.f c = some (strOfNums (U.one c)) := by
  rw [isS_iff] at hc
  unfold umlautref1_One.f U.one
  have hd : ∀ y : Int, 0 ≤ c → Int.tdiv c y = c / y := fun y h => Int.tdiv_eq_ediv_of_nonneg h
  have hm : ∀ x y : Int, 0 ≤ x → Int.tmod x y = x % y := fun x y h => Int.tmod_eq_emod_of_nonneg h
  by_cases c1 : c ≥ 1114112
  · rw [if_pos c1, if_pos (by omega), w64 (by omega) (by omega), show (c - 1114112) % 256 = c - 1114112 by omega]
  have c1' : ¬ 1114112 ≤ c := by omega
  rw [if_neg c1, if_neg c1']
  by_cases c2 : c < 128
  · rw [if_pos c2, if_pos c2, show c % 256 = c by omega]
  rw [if_neg c2, if_neg c2]
  by_cases c3 : c < 2048
  · rw [if_pos c3, if_pos c3, hd _ (by omega), hm _ _ (by omega), w64 (x := c / 64) (by omega) (by omega), w64 (x := 192 + c / 64) (by omega) (by omega), w64 (x := 128 + c % 64) (by omega) (by omega), show (192 + c / 64) % 256 = 192 + c / 64 by omega, show (128 + c % 64) % 256 = 128 + c % 64 by omega]
  rw [if_neg c3, if_neg c3]
  by_cases c4 : c < 65536
  · rw [if_pos c4, if_pos c4, hd _ (by omega), hd _ (by omega), hm c _ (by omega), w64 (x := c / 4096) (by omega) (by omega), w64 (x := c / 64) (by omega) (by omega), hm _ _ (by omega), w64 (x := 224 + c / 4096) (by omega) (by omega), w64 (x := 128 + c / 64 % 64) (by omega) (by omega), w64 (x := 128 + c % 64) (by omega) (by omega), show (224 + c / 4096) % 256 = 224 + c / 4096 by omega, show (128 + c / 64 % 64) % 256 = 128 + c / 64 % 64 by omega, show (128 + c % 64) % 256 = 128 + c % 64 by omega]
  · rw [if_neg c4, if_neg c4, hd _ (by omega), hd _ (by omega), hd _ (by omega), hm c _ (by omega), w64 (x := c / 262144) (by omega) (by omega), w64 (x := c / 4096) (by omega) (by omega), w64 (x := c / 64) (by omega) (by omega), hm _ _ (by omega), hm _ _ (by omega), w64 (x := 240 + c / 262144) (by omega) (by omega), w64 (x := 128 + c / 4096 % 64) (by omega) (by omega), w64 (x := 128 + c / 64 % 64) (by omega) (by omega), w64 (x := 128 + c % 64) (by omega) (by omega), show (240 + c / 262144) % 256 = 240 + c / 262144 by omega, show (128 + c / 4096 % 64) % 256 = 128 + c / 4096 % 64 by omega, show (128 + c / 64 % 64) % 256 = 128 + c / 64 % 64 by omega, show (128 + c % 64) % 256 = 128 + c % 64 by omega]
theorem str_append (a b : List Int) : strOfNums a ++ strOfNums b = strOfNums (a ++ b) := by
  apply ByteArray.ext
  simp [strOfNums]
theorem word_l0 (q : List Int) (hS : ∀ c ∈ q, U.isS c = true) (hq : q.length ≤ 1000) (d : Nat) : ∀ (i : Nat) (acc : List Int), i + d = q.length → acc.length ≤ 5 * i → Ev (fun k => umlautref5_word.l0 k q (strOfNums acc) (i : Int)) (strOfNums (acc ++ txt (q.drop i))) := by
  induction d with
  | zero =>
    intro i acc hi ha
    refine Ev.step (f := fun _ => some _) (fun k => ?_) (Ev.now _)
    rw [umlautref5_word.l0, if_neg (by omega), List.drop_of_length_le (by omega)]
    simp [txt]
  | succ d ih =>
    intro i acc hi ha
    have hlt : i < q.length := by omega
    have hc := hS q[i] (List.getElem_mem hlt)
    have h5 := U.txt1_length q[i]
    have ih := ih (i + 1) (acc ++ txt1 q[i]) (by omega) (by rw [List.length_append]; omega)
    have e : acc ++ txt (q.drop i) = acc ++ txt1 q[i] ++ txt (q.drop (i + 1)) := by
      rw [List.drop_eq_getElem_cons hlt]
      unfold txt
      rw [List.flatMap_cons, List.append_assoc]
    rw [e]
    refine Ev.step (fun k => ?_) ih
    have ho4 := U.one_length q[i]
    have s92 : (⟨#[92]⟩ : ByteArray) = strOfNums [92] := rfl
    have hw : wrap64 ((i : Int) + 1) = ((i + 1 : Nat) : Int) := by rw [w64 (by omega) (by omega)]; rfl
    have h1 : txt1 q[i] = (if spb q[i] = true then [92] else []) ++ U.one q[i] := by unfold txt1; rw [if_pos hc]
    have hsz : (strOfNums acc).size = acc.length := strOfNums_size acc
    have hsz1 : (strOfNums (acc ++ [92])).size = acc.length + 1 := by rw [strOfNums_size]; simp
    have hsz2 : (strOfNums (U.one q[i])).size = (U.one q[i]).length := strOfNums_size _
    rw [umlautref5_word.l0, if_pos (by omega), if_pos (by omega), rd_nat q i hlt, rspecial_eq, Option.bind_some, hw, One_ev _ hc, s92]
    simp only [Option.bind_some, str_append, hsz1, hsz2, hsz]
    unfold spb at h1
    by_cases hs : spc q[i] = true
    · rw [if_pos hs, if_pos (by omega), if_pos (by omega), h1, if_pos (by simp [hs]), List.append_assoc]
    · rw [if_neg hs]
      by_cases h92 : q[i] = 92
      · rw [if_pos h92, if_pos (by omega), if_pos (by omega), h1, if_pos (by simp [h92]), List.append_assoc]
      · rw [if_neg h92, if_pos (by omega), h1, if_neg (by simp [hs, h92]), List.nil_append]
theorem word_ev (q : List Int) (hS : ∀ c ∈ q, U.isS c = true) (hq : q.length ≤ 1000) : Ev (fun k => umlautref5_word.f k q) (strOfNums (txt q)) := by
  have := word_l0 q hS hq q.length 0 [] (by omega) (by simp)
  simp only [List.drop_zero, List.nil_append] at this
  exact Ev.congr (fun k => rfl) this
/-- Rules that can be told. -/
def goodB (r : RuleM) : Bool := decide (1 ≤ r.1 ∧ r.1 ≤ 5) && r.2.1.all U.isS && r.2.2.all U.isS
theorem goodB_good {r : RuleM} (h : goodB r = true) : (1 ≤ r.1 ∧ r.1 ≤ 5) ∧ GoodR r := by
  unfold goodB at h
  simp only [Bool.and_eq_true, decide_eq_true_eq, List.all_eq_true] at h
  exact ⟨h.1.1, h.1.2, h.2⟩
/-- Are rules told by a text read as they are? -/
def backB (l : List RuleM) : Bool := decide ((resM (strOfNums (textM l))).2.2 = 0 ∧ (resM (strOfNums (textM l))).1 = l)
def tellM (l : List RuleM) : ByteArray × Bool := if l.all goodB = true then (if (resM (strOfNums (textM l))).2.2 = 0 then (strOfNums (textM l), decide ((resM (strOfNums (textM l))).1 = l)) else (strOfNums (textM l), false)) else (⟨#[]⟩, false)
def rnames : List ByteArray := [(⟨#[38]⟩ : ByteArray), (⟨#[60]⟩ : ByteArray), (⟨#[60, 60]⟩ : ByteArray), (⟨#[60, 60, 60]⟩ : ByteArray), (⟨#[61]⟩ : ByteArray)]
theorem rname_at (rel : Int) (h : 1 ≤ rel ∧ rel ≤ 5) : rdOf ByteArray.empty rnames (wrap64 (rel - 1)) = strOfNums (nameB rel) ∧ 0 ≤ wrap64 (rel - 1) ∧ wrap64 (rel - 1) < (rnames.length : Int) := by
  rw [w64 (by omega) (by omega)]
  rcases (show rel = 1 ∨ rel = 2 ∨ rel = 3 ∨ rel = 4 ∨ rel = 5 by omega) with rfl | rfl | rfl | rfl | rfl
  all_goals exact ⟨rfl, by decide, by decide⟩
theorem sameRules_ev (a b : List RuleM) (ha : a.length ≤ 1000) (hs : ∀ r ∈ a, r.2.1.length ≤ 1000 ∧ r.2.2.length ≤ 1000) : Ev (fun k => umlautref5_sameRules.f k (a.map to57) (b.map to57)) (decide (a = b)) := by
  have ea : (a.map to57).length = a.length := by simp
  have eb : (b.map to57).length = b.length := by simp
  by_cases hab : a.length = b.length
  · have key : ∀ d i : Nat, i + d = a.length → Ev (fun k => umlautref5_sameRules.l0 k (a.map to57) (b.map to57) (i : Int)) (decide (a.drop i = b.drop i)) := by
      intro d
      induction d with
      | zero =>
        intro i hi
        refine Ev.step (f := fun _ => some _) (fun k => ?_) (Ev.now _)
        rw [umlautref5_sameRules.l0, if_neg (by omega), List.drop_of_length_le (by omega), List.drop_of_length_le (by omega)]
        rfl
      | succ d ih =>
        intro i hi
        have hlt : i < a.length := by omega
        have hlt2 : i < b.length := by omega
        have ih := ih (i + 1) (by omega)
        have ra : rd_T57 (a.map to57) (i : Int) = to57 a[i] := by simp [rd_T57, List.getD_eq_getElem?_getD, List.getElem?_eq_getElem hlt]
        have rb : rd_T57 (b.map to57) (i : Int) = to57 b[i] := by simp [rd_T57, List.getD_eq_getElem?_getD, List.getElem?_eq_getElem hlt2]
        have hm := hs a[i] (List.getElem_mem hlt)
        have s1 := Same_ev a[i].2.1 b[i].2.1 (by omega)
        have s2 := Same_ev a[i].2.2 b[i].2.2 (by omega)
        have hw : wrap64 ((i : Int) + 1) = ((i + 1 : Nat) : Int) := by rw [w64 (by omega) (by omega)]; rfl
        rw [List.drop_eq_getElem_cons hlt, List.drop_eq_getElem_cons hlt2]
        have hd : decide (a[i] :: a.drop (i + 1) = b[i] :: b.drop (i + 1)) = if a[i].1 = b[i].1 then (if decide (a[i].2.1 = b[i].2.1) = true then (if decide (a[i].2.2 = b[i].2.2) = true then decide (a.drop (i + 1) = b.drop (i + 1)) else false) else false) else false := by
          generalize a[i] = x
          generalize b[i] = y
          obtain ⟨x1, x2, x3⟩ := x
          obtain ⟨y1, y2, y3⟩ := y
          simp only [List.cons.injEq, Prod.mk.injEq, decide_eq_true_eq]
          by_cases e1 : x1 = y1 <;> by_cases e2 : x2 = y2 <;> by_cases e3 : x3 = y3 <;> simp [e1, e2, e3]
        rw [hd]
        refine Ev.step (f := fun k => if a[i].1 = b[i].1 then ((umlautref1_SameInts.f k a[i].2.1 b[i].2.1).bind fun t => (if t = true then ((umlautref1_SameInts.f k a[i].2.2 b[i].2.2).bind fun t2 => (if t2 = true then (umlautref5_sameRules.l0 k (a.map to57) (b.map to57) ((i + 1 : Nat) : Int)) else (some false))) else (some false))) else some false) (fun k => ?_) ?_
        · rw [umlautref5_sameRules.l0, if_pos (by omega), if_pos (by omega), if_pos (by omega), ra, rb, hw]
          rfl
        · by_cases e1 : a[i].1 = b[i].1
          · rw [if_pos e1]
            refine Ev.congr (fun k => if_pos e1) (Ev.bind s1 ?_)
            by_cases e2 : decide (a[i].2.1 = b[i].2.1) = true
            · rw [if_pos e2, e2]
              refine Ev.congr (fun k => if_pos rfl) (Ev.bind s2 ?_)
              by_cases e3 : decide (a[i].2.2 = b[i].2.2) = true
              · rw [if_pos e3, e3]
                exact Ev.congr (fun k => if_pos rfl) ih
              · rw [if_neg e3]
                exact Ev.congr (f := fun _ => some false) (fun k => if_neg e3) (Ev.now _)
            · rw [if_neg e2]
              exact Ev.congr (f := fun _ => some false) (fun k => if_neg e2) (Ev.now _)
          · rw [if_neg e1]
            exact Ev.congr (f := fun _ => some false) (fun k => if_neg e1) (Ev.now _)
    have := key a.length 0 (by omega)
    simp only [List.drop_zero] at this
    refine Ev.congr (fun k => ?_) this
    unfold umlautref5_sameRules.f
    rw [if_pos (by omega)]
    rfl
  · have hd : decide (a = b) = false := by simp; intro e; exact hab (by rw [e])
    rw [hd]
    refine Ev.congr (f := fun _ => some false) (fun k => ?_) (Ev.now _)
    unfold umlautref5_sameRules.f
    rw [if_neg (by omega)]
section
variable (l : List RuleM) (hl : l.length ≤ 60) (hz : ∀ r ∈ l, r.2.1.length + r.2.2.length ≤ 20)
theorem rd57 (i : Nat) (h : i < l.length) : rd_T57 (l.map to57) (i : Int) = to57 l[i] := by simp [rd_T57, List.getD_eq_getElem?_getD, List.getElem?_eq_getElem h]
include hz in
theorem take_size (i : Nat) (h : i ≤ 60) : (textM (l.take i)).length ≤ 6480 := by
  have h1 := U.textM_length 20 (l.take i) (fun r hr => hz r (List.mem_of_mem_take hr))
  have h2 : (l.take i).length ≤ i := List.length_take_le _ _
  have h3 : (l.take i).length * (8 + 5 * 20) ≤ 60 * (8 + 5 * 20) := Nat.mul_le_mul_right _ (by omega)
  omega
theorem all_take (i : Nat) (h : i < l.length) : l.all goodB = true ↔ (l.take i).all goodB = true ∧ goodB l[i] = true ∧ (l.drop (i + 1)).all goodB = true := by
  conv => lhs; rw [← List.take_append_drop i l, List.drop_eq_getElem_cons h]
  simp only [List.all_append, List.all_cons, Bool.and_eq_true]
/-- The signs of what a rule is expanded by are looked at. -/
theorem text_l2 (s : ByteArray) (i : Nat) (h : i < l.length) (he : l[i].2.2.length ≤ 20) (v : ByteArray × Bool) (hv : l[i].2.2.all U.isS = true → Ev (fun k => umlautref5_Text.l2 k (l.map to57) rnames s (i : Int) (l[i].2.2.length : Int)) v) (hn : l[i].2.2.all U.isS = false → v = (⟨#[]⟩, false)) (d : Nat) :
    ∀ j : Nat, j + d = l[i].2.2.length → (l[i].2.2.take j).all U.isS = true → Ev (fun k => umlautref5_Text.l2 k (l.map to57) rnames s (i : Int) (j : Int)) v := by
  have e57 : (l.map to57).length = l.length := by simp
  induction d with
  | zero =>
    intro j hj ha
    obtain rfl : j = l[i].2.2.length := by omega
    rw [List.take_length] at ha
    exact hv ha
  | succ d ih =>
    intro j hj ha
    have hlt : j < l[i].2.2.length := by omega
    have hw : wrap64 ((j : Int) + 1) = ((j + 1 : Nat) : Int) := by rw [w64 (by omega) (by omega)]; rfl
    have f2 : (to57 l[i]).f2 = l[i].2.2 := rfl
    by_cases hc : U.isS l[i].2.2[j] = true
    · refine Ev.step (fun k => ?_) (ih (j + 1) (by omega) (by rw [List.take_succ_eq_append_getElem hlt, List.all_append, ha]; simp [hc]))
      rw [umlautref5_Text.l2, if_pos (by omega), if_pos (by omega), rd57 l i h, f2, if_pos (by omega), if_pos (by omega), rd_nat _ j hlt, IsSign_ev, hc, Option.bind_some, if_pos rfl, hw]
    · have hc : U.isS l[i].2.2[j] = false := by simpa using hc
      have hf : l[i].2.2.all U.isS = false := List.all_eq_false.2 ⟨_, List.getElem_mem hlt, by simp [hc]⟩
      rw [hn hf]
      refine Ev.step (f := fun _ => some _) (fun k => ?_) (Ev.now _)
      rw [umlautref5_Text.l2, if_pos (by omega), if_pos (by omega), rd57 l i h, f2, if_pos (by omega), if_pos (by omega), rd_nat _ j hlt, IsSign_ev, hc, Option.bind_some, if_neg (by simp)]
/-- The signs of a rule's sequence are looked at. -/
theorem text_l1 (s : ByteArray) (i : Nat) (h : i < l.length) (he : l[i].2.1.length ≤ 20) (v : ByteArray × Bool) (hv : l[i].2.1.all U.isS = true → Ev (fun k => umlautref5_Text.l1 k (l.map to57) rnames s (i : Int) (l[i].2.1.length : Int)) v) (hn : l[i].2.1.all U.isS = false → v = (⟨#[]⟩, false)) (d : Nat) :
    ∀ j : Nat, j + d = l[i].2.1.length → (l[i].2.1.take j).all U.isS = true → Ev (fun k => umlautref5_Text.l1 k (l.map to57) rnames s (i : Int) (j : Int)) v := by
  have e57 : (l.map to57).length = l.length := by simp
  induction d with
  | zero =>
    intro j hj ha
    obtain rfl : j = l[i].2.1.length := by omega
    rw [List.take_length] at ha
    exact hv ha
  | succ d ih =>
    intro j hj ha
    have hlt : j < l[i].2.1.length := by omega
    have hw : wrap64 ((j : Int) + 1) = ((j + 1 : Nat) : Int) := by rw [w64 (by omega) (by omega)]; rfl
    have f1 : (to57 l[i]).f1 = l[i].2.1 := rfl
    by_cases hc : U.isS l[i].2.1[j] = true
    · refine Ev.step (fun k => ?_) (ih (j + 1) (by omega) (by rw [List.take_succ_eq_append_getElem hlt, List.all_append, ha]; simp [hc]))
      rw [umlautref5_Text.l1, if_pos (by omega), if_pos (by omega), rd57 l i h, f1, if_pos (by omega), if_pos (by omega), rd_nat _ j hlt, IsSign_ev, hc, Option.bind_some, if_pos rfl, hw]
    · have hc : U.isS l[i].2.1[j] = false := by simpa using hc
      have hf : l[i].2.1.all U.isS = false := List.all_eq_false.2 ⟨_, List.getElem_mem hlt, by simp [hc]⟩
      rw [hn hf]
      refine Ev.step (f := fun _ => some _) (fun k => ?_) (Ev.now _)
      rw [umlautref5_Text.l1, if_pos (by omega), if_pos (by omega), rd57 l i h, f1, if_pos (by omega), if_pos (by omega), rd_nat _ j hlt, IsSign_ev, hc, Option.bind_some, if_neg (by simp)]
/-- What a rule's text is laid behind. -/
def sepB (i : Nat) (s : List Int) : List Int := if 0 < i then s ++ [32] else s
include hl in
theorem text_j4 (acc : List Int) (ha : acc.length ≤ 7000) (i : Nat) (h : i < l.length) (he : l[i].2.1.length + l[i].2.2.length ≤ 20) (hg : goodB l[i] = true) (v : ByteArray × Bool)
    (hv : Ev (fun k => umlautref5_Text.l0 k (l.map to57) rnames (strOfNums (acc ++ ruleT l[i])) ((i + 1 : Nat) : Int)) v) : Ev (fun k => umlautref5_Text.j4 k (l.map to57) rnames (strOfNums acc) (i : Int)) v := by
  have e57 : (l.map to57).length = l.length := by simp
  obtain ⟨hrel, hq, hx⟩ := goodB_good hg
  obtain ⟨n1, n2, n3⟩ := rname_at l[i].1 hrel
  have hw : wrap64 ((i : Int) + 1) = ((i + 1 : Nat) : Int) := by rw [w64 (by omega) (by omega)]; rfl
  have f0 : (to57 l[i]).f0 = l[i].1 := rfl
  have f1 : (to57 l[i]).f1 = l[i].2.1 := rfl
  have f2 : (to57 l[i]).f2 = l[i].2.2 := rfl
  have s32 : (⟨#[32]⟩ : ByteArray) = strOfNums [32] := rfl
  have s47 : (⟨#[32, 47, 32]⟩ : ByteArray) = strOfNums [32, 47, 32] := rfl
  have w1 := word_ev l[i].2.1 hq (by omega)
  have w2 := word_ev l[i].2.2 hx (by omega)
  have t1 := U.txt_length l[i].2.1
  have t2 := U.txt_length l[i].2.2
  have t3 := U.nameB_length l[i].1
  have z1 : (strOfNums acc).size = acc.length := strOfNums_size _
  have z2 : (strOfNums (nameB l[i].1)).size = (nameB l[i].1).length := strOfNums_size _
  have z3 : (strOfNums (txt l[i].2.1)).size = (txt l[i].2.1).length := strOfNums_size _
  have z4 : (strOfNums (txt l[i].2.2)).size = (txt l[i].2.2).length := strOfNums_size _
  have z5 : (strOfNums (acc ++ nameB l[i].1)).size = acc.length + (nameB l[i].1).length := by rw [strOfNums_size, List.length_append]
  have z6 : (strOfNums (acc ++ nameB l[i].1 ++ [32])).size = acc.length + (nameB l[i].1).length + 1 := by rw [strOfNums_size, List.length_append, List.length_append]; rfl
  have z7 : (strOfNums (acc ++ nameB l[i].1 ++ [32] ++ txt l[i].2.1)).size = acc.length + (nameB l[i].1).length + 1 + (txt l[i].2.1).length := by rw [strOfNums_size, List.length_append, List.length_append, List.length_append]; rfl
  have z8 : (strOfNums (acc ++ nameB l[i].1 ++ [32] ++ txt l[i].2.1 ++ [32, 47, 32])).size = acc.length + (nameB l[i].1).length + 1 + (txt l[i].2.1).length + 3 := by rw [strOfNums_size, List.length_append, List.length_append, List.length_append, List.length_append]; rfl
  refine Ev.step (f := fun k => (umlautref5_word.f k l[i].2.1).bind fun t => if (strOfNums (acc ++ nameB l[i].1 ++ [32])).size + t.size ≤ 9223372036854775807 then (if 0 < (l[i].2.2.length : Int) then (if (strOfNums (acc ++ nameB l[i].1 ++ [32]) ++ t).size + 3 ≤ 9223372036854775807 then ((umlautref5_word.f k l[i].2.2).bind fun u => (if ((strOfNums (acc ++ nameB l[i].1 ++ [32]) ++ t) ++ strOfNums [32, 47, 32]).size + u.size ≤ 9223372036854775807 then (umlautref5_Text.l0 k (l.map to57) rnames (((strOfNums (acc ++ nameB l[i].1 ++ [32]) ++ t) ++ strOfNums [32, 47, 32]) ++ u) ((i + 1 : Nat) : Int)) else none)) else none) else (umlautref5_Text.l0 k (l.map to57) rnames (strOfNums (acc ++ nameB l[i].1 ++ [32]) ++ t) ((i + 1 : Nat) : Int))) else none) (fun k => ?_) ?_
  · rw [umlautref5_Text.j4, if_pos (by omega), if_pos (by omega), rd57 l i h, f0, f1, f2, if_pos n2, if_pos n3, n1, str_append, z1, z2, z5, if_pos (by omega), if_pos (by omega), s32, str_append, hw, s47]
    try rfl
  · refine Ev.bind w1 ?_
    rw [z6, z3]
    simp only [str_append]
    by_cases hx0 : 0 < l[i].2.2.length
    · refine Ev.congr (f := fun k => (umlautref5_word.f k l[i].2.2).bind fun u => (if (strOfNums (acc ++ nameB l[i].1 ++ [32] ++ txt l[i].2.1 ++ [32, 47, 32])).size + u.size ≤ 9223372036854775807 then (umlautref5_Text.l0 k (l.map to57) rnames (strOfNums (acc ++ nameB l[i].1 ++ [32] ++ txt l[i].2.1 ++ [32, 47, 32]) ++ u) ((i + 1 : Nat) : Int)) else none)) (fun k => ?_) (Ev.bind w2 ?_)
      · rw [if_pos (by omega), if_pos (by omega), if_pos (by rw [z7]; omega)]
      · refine Ev.congr (fun k => ?_) hv
        rw [z8, z4, if_pos (by omega), str_append]
        unfold ruleT
        rw [if_pos hx0]
        simp
    · refine Ev.congr (fun k => ?_) hv
      rw [if_pos (by omega), if_neg (by omega)]
      unfold ruleT
      rw [if_neg hx0]
      simp
include hl hz in
theorem text_l0 (d : Nat) : ∀ i : Nat, i + d = l.length → (l.take i).all goodB = true → Ev (fun k => umlautref5_Text.l0 k (l.map to57) rnames (strOfNums (textM (l.take i))) (i : Int)) (tellM l) := by
  have e57 : (l.map to57).length = l.length := by simp
  induction d with
  | zero =>
    intro i hi ha
    have hsz := take_size l hz i (by omega)
    obtain rfl : i = l.length := by omega
    rw [List.take_length] at ha hsz ⊢
    have hp := rParse_ev (strOfNums (textM l)) (by rw [strOfNums_size]; omega)
    unfold tellM
    rw [if_pos ha]
    refine Ev.step (f := fun k => (umlautref5_Parse.f k (strOfNums (textM l))).bind fun bt => if bt.2.2 = 0 then ((umlautref5_sameRules.f k bt.1 (l.map to57)).bind fun t => some (strOfNums (textM l), t)) else some (strOfNums (textM l), false)) (fun k => ?_) (Ev.bind hp ?_)
    · rw [umlautref5_Text.l0, if_neg (by omega)]
    · dsimp only
      by_cases h0 : (resM (strOfNums (textM l))).2.2 = 0
      · rw [if_pos h0]
        obtain ⟨h1, h2⟩ := parseM_short (strOfNums (textM l)).size ((U.signs (strOfNums (textM l))).length + 1) [] (U.signs (strOfNums (textM l))) (by simp)
        refine Ev.congr (fun k => if_pos h0) (Ev.bind (sameRules_ev _ l (by unfold resM; omega) (fun r hr => by have := h1 r hr; exact ⟨by have := this.1; omega, by have := this.2; omega⟩)) (Ev.now _))
      · rw [if_neg h0]
        exact Ev.congr (f := fun _ => some (strOfNums (textM l), false)) (fun k => if_neg h0) (Ev.now _)
  | succ d ih =>
    intro i hi ha
    have hlt : i < l.length := by omega
    have hm := hz l[i] (List.getElem_mem hlt)
    have hsz := take_size l hz i (by omega)
    have hsz2 := take_size l hz (i + 1) (by omega)
    have hall := all_take l i hlt
    have f0 : (to57 l[i]).f0 = l[i].1 := rfl
    have f1 : (to57 l[i]).f1 = l[i].2.1 := rfl
    have f2 : (to57 l[i]).f2 = l[i].2.2 := rfl
    have s32 : (⟨#[32]⟩ : ByteArray) = strOfNums [32] := rfl
    have hbad : goodB l[i] = false → tellM l = (⟨#[]⟩, false) := by
      intro hb
      unfold tellM
      rw [if_neg]
      intro h
      have := (hall.1 h).2.1
      rw [hb] at this
      cases this
    have hts : textM (l.take (i + 1)) = sepB i (textM (l.take i)) ++ ruleT l[i] := by
      rw [List.take_succ_eq_append_getElem hlt, U.textM_snoc]
      unfold sepB
      have e : (l.take i).length = i := by rw [List.length_take]; omega
      rw [e]
      by_cases h0 : 0 < i
      · rw [if_pos h0, if_pos h0]
      · obtain rfl : i = 0 := by omega
        rw [if_neg h0, if_neg h0]
        simp [textM, words, joinW]
    have hsep : (sepB i (textM (l.take i))).length ≤ 6481 := by
      unfold sepB
      by_cases h0 : 0 < i
      · rw [if_pos h0, List.length_append]; simp; omega
      · rw [if_neg h0]; omega
    by_cases hrel : 1 ≤ l[i].1 ∧ l[i].1 ≤ 5
    · -- the relation is one
      have h1 : Ev (fun k => umlautref5_Text.l1 k (l.map to57) rnames (strOfNums (textM (l.take i))) (i : Int) ((0 : Nat) : Int)) (tellM l) := by
        refine text_l1 l _ i hlt (by omega) _ (fun hq => ?_) (fun hq => hbad (by unfold goodB; simp [hq])) l[i].2.1.length 0 (by omega) (by simp)
        have h2 : Ev (fun k => umlautref5_Text.l2 k (l.map to57) rnames (strOfNums (textM (l.take i))) (i : Int) ((0 : Nat) : Int)) (tellM l) := by
          refine text_l2 l _ i hlt (by omega) _ (fun hx => ?_) (fun hx => hbad (by unfold goodB; simp [hx])) l[i].2.2.length 0 (by omega) (by simp)
          have hg : goodB l[i] = true := by unfold goodB; rw [hq, hx, decide_eq_true hrel]; rfl
          have ih := ih (i + 1) (by omega) (by rw [List.take_succ_eq_append_getElem hlt, List.all_append, ha]; simp [hg])
          rw [hts] at ih
          have h4 := text_j4 l hl (sepB i (textM (l.take i))) (by omega) i hlt hm hg _ ih
          refine Ev.step (fun k => ?_) h4
          rw [umlautref5_Text.l2, if_pos (by omega), if_pos (by omega), rd57 l i hlt, f2, if_neg (by omega)]
          unfold sepB
          by_cases h0 : 0 < i
          · rw [if_pos (by omega), if_pos (by rw [strOfNums_size]; omega), s32, str_append, if_pos h0]
          · rw [if_neg (by omega), if_neg h0]
        refine Ev.step (fun k => ?_) h2
        rw [umlautref5_Text.l1, if_pos (by omega), if_pos (by omega), rd57 l i hlt, f1, if_neg (by omega)]
        rfl
      have hj : Ev (fun k => umlautref5_Text.j1 k (l.map to57) rnames (strOfNums (textM (l.take i))) (i : Int) (decide (l[i].1 > 5))) (tellM l) := by
        refine Ev.step (fun k => ?_) h1
        rw [umlautref5_Text.j1, if_neg (by simp; omega)]
        rfl
      refine Ev.step (fun k => ?_) hj
      rw [umlautref5_Text.l0, if_pos (by omega), if_pos (by omega), rd57 l i hlt, f0, if_neg (by omega)]
    · rw [hbad (by unfold goodB; rw [decide_eq_false hrel]; rfl)]
      have hj : ∀ b : Bool, b = true → Ev (fun k => umlautref5_Text.j1 k (l.map to57) rnames (strOfNums (textM (l.take i))) (i : Int) b) ((⟨#[]⟩, false) : ByteArray × Bool) := by
        rintro b rfl
        exact Ev.step (f := fun _ => some _) (fun k => by rw [umlautref5_Text.j1, if_pos rfl]) (Ev.now _)
      by_cases h1 : l[i].1 < 1
      · refine Ev.step (fun k => ?_) (hj true rfl)
        rw [umlautref5_Text.l0, if_pos (by omega), if_pos (by omega), rd57 l i hlt, f0, if_pos h1]
      · refine Ev.step (fun k => ?_) (hj (decide (l[i].1 > 5)) (by simp; omega))
        rw [umlautref5_Text.l0, if_pos (by omega), if_pos (by omega), rd57 l i hlt, f0, if_neg h1]
include hl hz in
theorem rText_ev : Ev (fun k => umlautref5_Text.f k (l.map to57)) (tellM l) := by
  have := text_l0 l hl hz l.length 0 (by omega) (by simp)
  exact Ev.congr (fun k => rfl) this
end
end Go.Proofs.YtjcgjchdelipcaaDoor.R
