/- RulesSigns, its plain part: two rules out of three signs are told as a text that is read as them. -/
import Derived.Test.YtjcgjchdelipcaaDoorRTW3
import Derived.Test.YtjcgjchdelipcaaDoorRParseP
namespace Go.Proofs.YtjcgjchdelipcaaDoor.R
open Go.RowKit Go.Proofs.YtjcgjchdelipcaaDoorW.PrintWords Go.Proofs.YtjcgjchdelipcaaDoorW.PrintLast Go.Proofs.YtjcgjchdelipcaaDoorW.PrintMore
open Go.Proofs.YtjcgjchdelipcaaDoor.U (spc spb txt txt1 esc RuleM nameB words wordsOf joinW textM ruleT parseM)
set_option linter.unusedVariables false
set_option linter.unusedSimpArgs false

def two (a b c : Int) : List S63 := [⟨1, [a], []⟩, ⟨3, [b, c], [a, b, c]⟩]
def twoL (a b c : Int) : List Int := 38 :: 32 :: (esc [a] ++ 32 :: 60 :: 60 :: 32 :: (esc [b, c] ++ 32 :: 47 :: 32 :: esc [a, b, c]))
theorem eq63_self (x : S63) : eq63 x x = true := by simp [eq63]
theorem eqs63_self : ∀ l : List S63, eqs63 l l = true
  | [] => rfl
  | x :: l => by rw [eqs63, eq63_self, eqs63_self l]; rfl
theorem join_lit (c : Int) (l : List Int) (h : c < 128) : U.join (c :: l) = c :: U.join l := by rw [U.join_cons, U.one_ascii h]; rfl
theorem join_app (a b : List Int) : U.join (a ++ b) = U.join a ++ U.join b := by unfold U.join; rw [List.flatMap_append]
theorem two_text (a b c : Int) (ha : U.isS a = true) (hb : U.isS b = true) (hc : U.isS c = true) : textM ((two a b c).map toM) = U.join (twoL a b c) := by
  have e1 : txt [a] = U.join (esc [a]) := U.txt_esc _ (by simp [ha])
  have e2 : txt [b, c] = U.join (esc [b, c]) := U.txt_esc _ (by simp [hb, hc])
  have e3 : txt [a, b, c] = U.join (esc [a, b, c]) := U.txt_esc _ (by simp [ha, hb, hc])
  unfold two twoL
  rw [List.map_cons, List.map_cons, List.map_nil, U.textM_cons, U.textM_cons]
  simp only [join_lit _ _ (show (38 : Int) < 128 by decide), join_lit _ _ (show (32 : Int) < 128 by decide), join_lit _ _ (show (60 : Int) < 128 by decide), join_lit _ _ (show (47 : Int) < 128 by decide), join_app]
  rw [← e1, ← e2, ← e3]
  simp [ruleT, toM, nameB]
theorem esc_ok (l : List Int) (h : ∀ c ∈ l, U.isS c = true ∧ c < 1114112) : ∀ c ∈ esc l, U.isS c = true ∧ c < 1114112 := by
  intro c hc
  obtain ⟨x, hx, hc⟩ := List.mem_flatMap.1 hc
  unfold U.esc1 at hc
  split at hc
  · simp at hc
    rcases hc with rfl | rfl
    · exact ⟨by decide, by decide⟩
    · exact h _ hx
  · simp at hc
    rw [hc]; exact h _ hx
theorem two_back (a b c : Int) (ha : U.isS a = true ∧ a < 1114112) (hb : U.isS b = true ∧ b < 1114112) (hc : U.isS c = true ∧ c < 1114112) : resM (strT (two a b c)) = ([(1, [a], []), (3, [b, c], [a, b, c])], 0, 0) := by
  have h0 : ∀ x ∈ twoL a b c, U.isS x = true ∧ x < 1114112 := by
    intro x hx
    unfold twoL at hx
    have e1 := esc_ok [a] (by simp [ha])
    have e2 := esc_ok [b, c] (by simp [hb, hc])
    have e3 := esc_ok [a, b, c] (by simp [ha, hb, hc])
    simp only [List.mem_cons, List.mem_append] at hx
    rcases hx with rfl | rfl | hx | rfl | rfl | rfl | rfl | hx | rfl | rfl | rfl | hx
    all_goals first | exact ⟨by decide, by decide⟩ | exact e1 _ hx | exact e2 _ hx | exact e3 _ hx
  have hs : U.signs (strT (two a b c)) = twoL a b c := by
    unfold strT
    rw [two_text a b c ha.1 hb.1 hc.1]
    exact U.signs_join _ h0
  unfold resM
  rw [hs]
  have hl : (twoL a b c).length + 1 = ((twoL a b c).length - 2) + 3 := by
    have : 2 ≤ (twoL a b c).length := by unfold twoL; simp
    omega
  rw [hl]
  exact U.two_read _ _ a b c
theorem two_ev (a b c : Int) (ha : U.isS a = true ∧ a < 1114112) (hb : U.isS b = true ∧ b < 1114112) (hc : U.isS c = true ∧ c < 1114112) :
    ∃ k, rules_Text.f k (two a b c) = some (strT (two a b c), 0) ∧ rules_Parse.f k (strT (two a b c)) = some (two a b c, 0, 0) ∧ umlautlaw6_awake.f k = some true := by
  have hsz : (strT (two a b c)).size ≤ 8000 := by
    unfold strT
    rw [strOfNums_size]
    have := U.textM_length 20 ((two a b c).map toM) (fun r hr => by
      unfold two toM at hr
      simp at hr
      rcases hr with rfl | rfl <;> simp)
    have e : ((two a b c).map toM).length = 2 := rfl
    rw [e] at this
    omega
  have hp := Parse_ev (strT (two a b c)) hsz
  rw [two_back a b c ha hb hc] at hp
  obtain ⟨K1, h1⟩ := hp
  obtain ⟨K2, h2⟩ := awake_ev
  have hk := h1 (max K1 K2) (by omega)
  have hk' : rules_Parse.f (max K1 K2) (strT (two a b c)) = some (two a b c, 0, 0) := hk
  refine ⟨max K1 K2, ?_, hk', h2 _ (by omega)⟩
  unfold rules_Text.f
  rw [if_pos (by unfold fits two; simp), if_pos (by simp [two, relOk]), hk', Option.bind_some, if_pos rfl, if_pos (eqs63_self _)]
end Go.Proofs.YtjcgjchdelipcaaDoor.R
