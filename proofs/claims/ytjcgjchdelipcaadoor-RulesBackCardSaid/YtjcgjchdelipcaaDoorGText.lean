/- Plain laws on texts as signs: no program in sight. -/
import Derived.Test.YtjcgjchdelipcaaDoorGPure
import Derived.Lib.ValidU
import Derived.Lib.SpaceU
import Derived.Lib.LazyBuf
import Derived.Lib.IndexBytes
import Derived.Laws.BytesArg
namespace Go.Proofs.YtjcgjchdelipcaaDoor.U
open Go Go.Proofs Go.Lib
set_option linter.unusedVariables false
set_option linter.unusedSimpArgs false

/-- Is a number a sign? -/
def isS (c : Int) : Bool := decide ((0 ≤ c ∧ c < 55296) ∨ (57344 ≤ c ∧ c < 1114112) ∨ (1114240 ≤ c ∧ c ≤ 1114367))
/-- A sign's bytes. -/
def one (c : Int) : List Int :=
  if 1114112 ≤ c then [c - 1114112] else if c < 128 then [c] else if c < 2048 then [192 + c / 64, 128 + c % 64]
  else if c < 65536 then [224 + c / 4096, 128 + c / 64 % 64, 128 + c % 64] else [240 + c / 262144, 128 + c / 4096 % 64, 128 + c / 64 % 64, 128 + c % 64]
/-- What a decoded rune and its width are as a sign. -/
def sg (p : Nat × Nat) (b0 : Nat) : Int × Int := if p.1 = 65533 ∧ p.2 = 1 then (1114112 + (b0 : Int), 1) else ((p.1 : Int), (p.2 : Int))
theorem sgn_eq (s : ByteArray) (h : 0 < s.size) : sgn s = sg (decodeN s.size (s.get! 0).toNat (s.get! 1).toNat (s.get! 2).toNat (s.get! 3).toNat) (s.get! 0).toNat := by
  have e : Lib.decodeGo s = decodeN s.size (s.get! 0).toNat (s.get! 1).toNat (s.get! 2).toNat (s.get! 3).toNat := by
    unfold Lib.decodeGo
    rw [if_neg (by omega), Lib.decode_at]
    simp
  unfold sgn sg
  rw [e]
/-- A first sign: it is one, its bytes are the text's first ones. -/
theorem sg_back (n b0 b1 b2 b3 : Nat) (h0 : b0 < 256) (h1 : b1 < 256) (h2 : b2 < 256) (h3 : b3 < 256) (hn : 1 ≤ n) :
    isS (sg (decodeN n b0 b1 b2 b3) b0).1 = true ∧ 1 ≤ (sg (decodeN n b0 b1 b2 b3) b0).2 ∧ (sg (decodeN n b0 b1 b2 b3) b0).2 ≤ n ∧ (sg (decodeN n b0 b1 b2 b3) b0).2 ≤ 4 ∧
    (sg (decodeN n b0 b1 b2 b3) b0).2 = ((decodeN n b0 b1 b2 b3).2 : Int) ∧
    ((sg (decodeN n b0 b1 b2 b3) b0).1 ≤ 1114111 ↔ ¬ ((decodeN n b0 b1 b2 b3).1 = 65533 ∧ (decodeN n b0 b1 b2 b3).2 = 1)) ∧
    one (sg (decodeN n b0 b1 b2 b3) b0).1 = [(b0 : Int), b1, b2, b3].take (sg (decodeN n b0 b1 b2 b3) b0).2.toNat := by
  have key : ∀ p : Nat × Nat, p = decodeN n b0 b1 b2 b3 → isS (sg p b0).1 = true ∧ 1 ≤ (sg p b0).2 ∧ (sg p b0).2 ≤ n ∧ (sg p b0).2 ≤ 4 ∧ (sg p b0).2 = (p.2 : Int) ∧ ((sg p b0).1 ≤ 1114111 ↔ ¬ (p.1 = 65533 ∧ p.2 = 1)) ∧ one (sg p b0).1 = [(b0 : Int), b1, b2, b3].take (sg p b0).2.toNat := by
    intro p hp
    unfold decodeN at hp
    by_cases c1 : b0 < 128
    · rw [if_pos c1] at hp
      subst hp
      unfold sg
      rw [if_neg (by simp only []; omega)]
      refine ⟨by unfold isS; simp; omega, by simp, by simp; omega, by simp, by simp, by simp; omega, ?_⟩
      unfold one
      rw [if_neg (by simp; omega), if_pos (by simp; omega)]
      rfl
    · rw [if_neg c1] at hp
      have bad : p = (65533, 1) → isS (sg p b0).1 = true ∧ 1 ≤ (sg p b0).2 ∧ (sg p b0).2 ≤ n ∧ (sg p b0).2 ≤ 4 ∧ (sg p b0).2 = (p.2 : Int) ∧ ((sg p b0).1 ≤ 1114111 ↔ ¬ (p.1 = 65533 ∧ p.2 = 1)) ∧ one (sg p b0).1 = [(b0 : Int), b1, b2, b3].take (sg p b0).2.toNat := by
        intro e
        subst e
        unfold sg
        rw [if_pos ⟨rfl, rfl⟩]
        refine ⟨by unfold isS; simp; omega, by simp, by simp; omega, by simp, by simp, by simp; omega, ?_⟩
        unfold one
        rw [if_pos (by simp only []; omega)]
        simp
        omega
      split at hp
      · rename_i c2
        split at hp
        · rename_i c3
          subst hp
          unfold sg
          rw [if_neg (by simp only []; omega)]
          refine ⟨by unfold isS; simp; omega, by simp, by simp; omega, by simp, by simp, by simp; omega, ?_⟩
          unfold one
          rw [if_neg (by simp; omega), if_neg (by simp; omega), if_pos (by simp; omega)]
          simp
          omega
        · exact bad hp
      · split at hp
        · rename_i c2
          split at hp
          · rename_i c3
            subst hp
            unfold sg
            rw [if_neg (by simp only []; omega)]
            refine ⟨by unfold isS; simp; omega, by simp, by simp; omega, by simp, by simp, by simp; omega, ?_⟩
            unfold one
            rw [if_neg (by simp; omega), if_neg (by simp; omega), if_neg (by simp; omega), if_pos (by simp; omega)]
            simp
            omega
          · exact bad hp
        · split at hp
          · rename_i c2
            split at hp
            · rename_i c3
              subst hp
              unfold sg
              rw [if_neg (by simp only []; omega)]
              refine ⟨by unfold isS; simp; omega, by simp, by simp; omega, by simp, by simp, by simp; omega, ?_⟩
              unfold one
              rw [if_neg (by simp; omega), if_neg (by simp; omega), if_neg (by simp; omega), if_neg (by simp; omega)]
              simp
              omega
            · exact bad hp
          · exact bad hp
  exact key _ rfl

/-- A text's bytes, as numbers. -/
def bs (s : ByteArray) : List Int := s.data.toList.map fun b => (b.toNat : Int)
theorem bs_length (s : ByteArray) : (bs s).length = s.size := by rw [bs, List.length_map, Lib.size_eq]
theorem bs_at (s : ByteArray) (i : Nat) (h : i < s.size) : (bs s)[i]? = some ((s.get! i).toNat : Int) := by
  unfold bs
  have h2 : i < s.data.toList.length := by rw [← Lib.size_eq]; exact h
  rw [List.getElem?_map, List.getElem?_eq_getElem h2, Utf8W.get!_of_lt s i h]
  rfl
theorem str_bs (s : ByteArray) : strOfNums (bs s) = s := by
  have e : (strOfNums (bs s)).data.toList = s.data.toList := by
    unfold bs
    rw [strOfNums_data, List.map_map]
    conv => rhs; rw [← List.map_id s.data.toList]
    exact List.map_congr_left fun x _ => by simp
  cases h : strOfNums (bs s)
  cases s
  rw [h] at e
  simpa using e
theorem bs_str (l : List Int) (h : ∀ x ∈ l, 0 ≤ x ∧ x < 256) : bs (strOfNums l) = l := by
  unfold bs
  rw [strOfNums_data, List.map_map]
  conv => rhs; rw [← List.map_id l]
  refine List.map_congr_left fun x hx => ?_
  have := h x hx
  simp only [Function.comp, id, UInt8.toNat_ofNat']
  omega
theorem bs_cut (s : ByteArray) (n : Nat) : bs (s.extract n s.size) = (bs s).drop n := by
  unfold bs
  rw [Lib.extract_to_end, List.map_drop]
theorem cut_size (s : ByteArray) (n : Nat) : (s.extract n s.size).size = s.size - n := by simp
theorem take4 (s : ByteArray) (w : Nat) (h4 : w ≤ 4) (hs : w ≤ s.size) : [((s.get! 0).toNat : Int), (s.get! 1).toNat, (s.get! 2).toNat, (s.get! 3).toNat].take w = (bs s).take w := by
  apply List.ext_getElem?
  intro i
  by_cases hi : i < w
  · rw [List.getElem?_take_of_lt hi, List.getElem?_take_of_lt hi, bs_at s i (by omega)]
    match i, hi with
    | 0, _ => rfl
    | 1, _ => rfl
    | 2, _ => rfl
    | 3, _ => rfl
    | n + 4, hi => omega
  · rw [List.getElem?_eq_none (by simp; omega), List.getElem?_eq_none (by simp [bs_length]; omega)]
/-- How many bytes the first sign has. -/
def wd (s : ByteArray) : Nat := (sgn s).2.toNat
theorem sgn_back (s : ByteArray) (h : 0 < s.size) : isS (sgn s).1 = true ∧ (sgn s).2 = (wd s : Int) ∧ 1 ≤ wd s ∧ wd s ≤ s.size ∧ wd s = (Lib.decodeGo s).2 ∧ one (sgn s).1 = (bs s).take (wd s) ∧
    ((sgn s).1 ≤ 1114111 ↔ ¬ ((Lib.decodeGo s).1 = 65533 ∧ (Lib.decodeGo s).2 = 1)) := by
  have e : Lib.decodeGo s = decodeN s.size (s.get! 0).toNat (s.get! 1).toNat (s.get! 2).toNat (s.get! 3).toNat := by
    unfold Lib.decodeGo
    rw [if_neg (by omega), Lib.decode_at]
    simp
  obtain ⟨a, b, c, d, f, g, k⟩ := sg_back s.size (s.get! 0).toNat (s.get! 1).toNat (s.get! 2).toNat (s.get! 3).toNat (UInt8.toNat_lt _) (UInt8.toNat_lt _) (UInt8.toNat_lt _) (UInt8.toNat_lt _) h
  rw [← sgn_eq s h] at a b c d f g k
  rw [← e] at f g
  have hw : (sgn s).2 = (wd s : Int) := by unfold wd; omega
  refine ⟨a, hw, by omega, by omega, by omega, ?_, g⟩
  rw [k]
  exact take4 s (wd s) (by omega) (by omega)

/-- A text's signs. -/
def signsF : Nat → ByteArray → List Int
  | 0, _ => []
  | k + 1, s => if s.size = 0 then [] else (sgn s).1 :: signsF k (s.extract (wd s) s.size)
def signs (s : ByteArray) : List Int := signsF s.size s
theorem signsF_more : ∀ (k : Nat) (s : ByteArray), s.size ≤ k → signsF (k + 1) s = signsF k s
  | 0, s, h => by
    have h0 : s.size = 0 := by omega
    simp [signsF, h0]
  | k + 1, s, h => by
    by_cases h0 : s.size = 0
    · simp [signsF, h0]
    · rw [signsF, if_neg h0]
      conv => rhs; rw [signsF, if_neg h0]
      have := (sgn_back s (by omega)).2.2
      rw [signsF_more k _ (by rw [cut_size]; omega)]
theorem signsF_eq (k : Nat) (s : ByteArray) (h : s.size ≤ k) : signsF k s = signs s := by
  obtain ⟨d, rfl⟩ : ∃ d, k = s.size + d := ⟨k - s.size, by omega⟩
  clear h
  induction d with
  | zero => rfl
  | succ d ih => rw [← ih]; exact signsF_more _ _ (Nat.le_add_right _ _)
theorem signs_nil (s : ByteArray) (h : s.size = 0) : signs s = [] := by unfold signs; rw [h]; rfl
theorem signs_cons (s : ByteArray) (h : 0 < s.size) : signs s = (sgn s).1 :: signs (s.extract (wd s) s.size) := by
  obtain ⟨k, hk⟩ : ∃ k, s.size = k + 1 := ⟨s.size - 1, by omega⟩
  have e : signs s = signsF (k + 1) s := by unfold signs; rw [hk]
  have := (sgn_back s h).2.2
  rw [e, signsF, if_neg (by omega), signsF_eq]
  rw [cut_size]
  omega
/-- Induction over a text, sign by sign. -/
theorem by_signs {p : ByteArray → Prop} (h0 : ∀ s, s.size = 0 → p s) (h1 : ∀ s, 0 < s.size → p (s.extract (wd s) s.size) → p s) (s : ByteArray) : p s := by
  obtain ⟨n, hn⟩ : ∃ n, s.size ≤ n := ⟨_, Nat.le_refl _⟩
  induction n generalizing s with
  | zero => exact h0 s (by omega)
  | succ n ih =>
    by_cases h : s.size = 0
    · exact h0 s h
    · have := (sgn_back s (by omega)).2.2
      exact h1 s (by omega) (ih _ (by rw [cut_size]; omega))
theorem signs_isS (s : ByteArray) : ∀ c ∈ signs s, isS c = true := by
  induction s using by_signs with
  | h0 s h => rw [signs_nil s h]; simp
  | h1 s h ih =>
    rw [signs_cons s h]
    intro c hc
    rcases List.mem_cons.1 hc with rfl | hc
    · exact (sgn_back s h).1
    · exact ih c hc
theorem signs_length (s : ByteArray) : (signs s).length ≤ s.size := by
  induction s using by_signs with
  | h0 s h => rw [signs_nil s h]; simp
  | h1 s h ih =>
    have := (sgn_back s h).2.2
    rw [signs_cons s h, List.length_cons]
    rw [cut_size] at ih
    omega
/-- The bytes of signs, one behind the other. -/
def join (l : List Int) : List Int := l.flatMap one
theorem join_signs (s : ByteArray) : join (signs s) = bs s := by
  induction s using by_signs with
  | h0 s h =>
    rw [signs_nil s h]
    have : (bs s).length = 0 := by rw [bs_length, h]
    rw [List.eq_nil_of_length_eq_zero this]
    rfl
  | h1 s h ih =>
    rw [signs_cons s h]
    unfold join at ih ⊢
    rw [List.flatMap_cons, ih, bs_cut, (sgn_back s h).2.2.2.2.2.1, List.take_append_drop]
theorem one_byte (c : Int) (h : isS c = true) : ∀ x ∈ one c, 0 ≤ x ∧ x < 256 := by
  unfold isS at h
  simp only [decide_eq_true_eq] at h
  unfold one
  intro x hx
  split at hx
  · simp at hx; omega
  · split at hx
    · simp at hx; omega
    · split at hx
      · simp at hx; omega
      · split at hx
        · simp at hx; omega
        · simp at hx; omega
theorem join_byte (l : List Int) (h : ∀ c ∈ l, isS c = true) : ∀ x ∈ join l, 0 ≤ x ∧ x < 256 := by
  intro x hx
  obtain ⟨c, hc, hx⟩ := List.mem_flatMap.1 hx
  exact one_byte c (h c hc) x hx
theorem one_length (c : Int) : (one c).length ≤ 4 := by
  unfold one
  repeat' split
  all_goals simp
theorem join_length (l : List Int) : (join l).length ≤ 4 * l.length := by
  induction l with
  | nil => simp [join]
  | cons c l ih =>
    have := one_length c
    unfold join at ih ⊢
    rw [List.flatMap_cons, List.length_append, List.length_cons]
    omega
/-- The text of signs: what is none is refused, what would be read otherwise, too. -/
def bytes (l : List Int) : ByteArray × Int :=
  if (l.any fun c => !isS c) = true then (⟨#[]⟩, 1) else if signs (strOfNums (join l)) = l then (strOfNums (join l), 0) else (⟨#[]⟩, 3)
theorem any_isS (l : List Int) : (l.any fun c => !isS c) = false ↔ ∀ c ∈ l, isS c = true := by
  rw [List.any_eq_false]
  simp
theorem bytes_signs (s : ByteArray) : bytes (signs s) = (s, 0) := by
  unfold bytes
  rw [(any_isS _).2 (signs_isS s), join_signs, str_bs]
  simp

end Go.Proofs.YtjcgjchdelipcaaDoor.U
