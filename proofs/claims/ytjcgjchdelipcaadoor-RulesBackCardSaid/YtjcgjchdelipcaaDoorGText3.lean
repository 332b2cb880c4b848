/- Plain laws on texts as signs, third part: a sign's bytes are read as it, whatever follows; what is read hangs on its own bytes alone; folded signs are read as they are. No program in sight. -/
import Derived.Test.YtjcgjchdelipcaaDoorGText2
namespace Go.Proofs.YtjcgjchdelipcaaDoor.U
open Go Go.Proofs Go.Lib
set_option linter.unusedVariables false
set_option linter.unusedSimpArgs false

def Byt (L : List Int) : Prop := ∀ x ∈ L, 0 ≤ x ∧ x < 256
theorem get_str (L : List Int) (h : Byt L) (i : Nat) : ((strOfNums L).get! i).toNat = (L.getD i 0).toNat := by
  rw [get_list, strOfNums_data, List.getElem?_map, List.getD_eq_getElem?_getD]
  cases hx : L[i]? with
  | none => rfl
  | some x =>
    have := h x (List.mem_of_getElem? hx)
    simp only [Option.map_some, Option.getD_some, UInt8.toNat_ofNat']
    omega
theorem getD_lt (L : List Int) (h : Byt L) (i : Nat) : (L.getD i 0).toNat < 256 := by
  rw [← get_str L h i]
  exact UInt8.toNat_lt _
/-- What a list of bytes begins with. -/
def dec (L : List Int) : Nat × Nat := decodeN L.length (L.getD 0 0).toNat (L.getD 1 0).toNat (L.getD 2 0).toNat (L.getD 3 0).toNat
theorem sgn_list (L : List Int) (hB : Byt L) (h : 0 < L.length) : sgn (strOfNums L) = sg (dec L) (L.getD 0 0).toNat := by
  rw [sgn_eq _ (by rw [strOfNums_size]; exact h), strOfNums_size, get_str L hB, get_str L hB, get_str L hB, get_str L hB]
  rfl
theorem decode_same (n n' b0 b1 b2 b3 c1 c2 c3 r w : Nat) (hn : 1 ≤ n') (h : decodeN n b0 b1 b2 b3 = (r, w)) (hg : ¬ (r = 65533 ∧ w = 1)) (hw : w ≤ n') (h1 : 2 ≤ w → c1 = b1) (h2 : 3 ≤ w → c2 = b2) (h3 : 4 ≤ w → c3 = b3) :
    decodeN n' b0 c1 c2 c3 = (r, w) := by
  have bad : decodeN n b0 b1 b2 b3 ≠ (65533, 1) := fun e => hg (by rw [e] at h; exact ⟨(Prod.mk.inj h).1.symm, (Prod.mk.inj h).2.symm⟩)
  unfold decodeN at h bad ⊢
  by_cases a1 : b0 < 128
  · rw [if_pos a1] at h ⊢
    exact h
  rw [if_neg a1] at h bad ⊢
  by_cases a2 : b0 / 32 = 6 ∧ 1 < n ∧ b1 / 64 = 2
  · rw [if_pos a2] at h bad
    by_cases a3 : b0 % 32 * 64 + b1 % 64 ≥ 128
    · rw [if_pos a3] at h
      obtain ⟨rfl, rfl⟩ := Prod.mk.inj h
      obtain rfl := h1 (by omega)
      rw [if_pos ⟨a2.1, by omega, a2.2.2⟩, if_pos a3]
    · exact absurd (if_neg a3) bad
  rw [if_neg a2] at h bad
  by_cases a3 : b0 / 16 = 14 ∧ (1 < n ∧ b1 / 64 = 2) ∧ (2 < n ∧ b2 / 64 = 2)
  · rw [if_pos a3] at h bad
    split at h
    · rename_i a4
      obtain ⟨rfl, rfl⟩ := Prod.mk.inj h
      obtain rfl := h1 (by omega)
      obtain rfl := h2 (by omega)
      rw [if_neg (by omega), if_pos ⟨a3.1, ⟨by omega, a3.2.1.2⟩, by omega, a3.2.2.2⟩, if_pos a4]
    · rename_i a4
      exact absurd (if_neg a4) bad
  rw [if_neg a3] at h bad
  by_cases a4 : b0 / 8 = 30 ∧ (1 < n ∧ b1 / 64 = 2) ∧ (2 < n ∧ b2 / 64 = 2) ∧ (3 < n ∧ b3 / 64 = 2)
  · rw [if_pos a4] at h bad
    split at h
    · rename_i a5
      obtain ⟨rfl, rfl⟩ := Prod.mk.inj h
      obtain rfl := h1 (by omega)
      obtain rfl := h2 (by omega)
      obtain rfl := h3 (by omega)
      rw [if_neg (by omega), if_neg (by omega), if_pos ⟨a4.1, ⟨by omega, a4.2.1.2⟩, ⟨by omega, a4.2.2.1.2⟩, by omega, a4.2.2.2.2⟩, if_pos a5]
    · rename_i a5
      exact absurd (if_neg a5) bad
  · exact absurd (if_neg a4) bad
theorem decode_cont (n b0 b1 b2 b3 r w : Nat) (h : decodeN n b0 b1 b2 b3 = (r, w)) (hg : ¬ (r = 65533 ∧ w = 1)) : (2 ≤ w → b1 / 64 = 2) ∧ (3 ≤ w → b2 / 64 = 2) ∧ (4 ≤ w → b3 / 64 = 2) := by
  have bad : decodeN n b0 b1 b2 b3 ≠ (65533, 1) := fun e => hg (by rw [e] at h; exact ⟨(Prod.mk.inj h).1.symm, (Prod.mk.inj h).2.symm⟩)
  unfold decodeN at h bad
  by_cases a1 : b0 < 128
  · rw [if_pos a1] at h
    obtain ⟨rfl, rfl⟩ := Prod.mk.inj h
    omega
  rw [if_neg a1] at h bad
  by_cases a2 : b0 / 32 = 6 ∧ 1 < n ∧ b1 / 64 = 2
  · rw [if_pos a2] at h bad
    split at h
    · obtain ⟨rfl, rfl⟩ := Prod.mk.inj h
      omega
    · rename_i a4
      exact absurd (if_neg a4) bad
  rw [if_neg a2] at h bad
  by_cases a3 : b0 / 16 = 14 ∧ (1 < n ∧ b1 / 64 = 2) ∧ (2 < n ∧ b2 / 64 = 2)
  · rw [if_pos a3] at h bad
    split at h
    · obtain ⟨rfl, rfl⟩ := Prod.mk.inj h
      omega
    · rename_i a4
      exact absurd (if_neg a4) bad
  rw [if_neg a3] at h bad
  by_cases a4 : b0 / 8 = 30 ∧ (1 < n ∧ b1 / 64 = 2) ∧ (2 < n ∧ b2 / 64 = 2) ∧ (3 < n ∧ b3 / 64 = 2)
  · rw [if_pos a4] at h bad
    split at h
    · obtain ⟨rfl, rfl⟩ := Prod.mk.inj h
      omega
    · rename_i a5
      exact absurd (if_neg a5) bad
  · exact absurd (if_neg a4) bad
/-- What is read hangs on its own bytes alone. -/
theorem dec_same (L M : List Int) (hg : ¬ ((dec L).1 = 65533 ∧ (dec L).2 = 1)) (hM : 0 < M.length) (hw : (dec L).2 ≤ M.length) (hL : (dec L).2 ≤ L.length) (he : M.take (dec L).2 = L.take (dec L).2) (h1 : 1 ≤ (dec L).2) : dec M = dec L := by
  have at_ : ∀ i, i < (dec L).2 → M.getD i 0 = L.getD i 0 := by
    intro i hi
    have e : (M.take (dec L).2)[i]? = (L.take (dec L).2)[i]? := by rw [he]
    rw [List.getElem?_take_of_lt hi, List.getElem?_take_of_lt hi] at e
    rw [List.getD_eq_getElem?_getD, List.getD_eq_getElem?_getD, e]
  have h0 := at_ 0 (by omega)
  unfold dec
  rw [h0]
  refine (decode_same L.length M.length _ _ _ _ _ _ _ (dec L).1 (dec L).2 (by omega) rfl hg hw (fun h => by rw [at_ 1 (by omega)]) (fun h => by rw [at_ 2 (by omega)]) (fun h => by rw [at_ 3 (by omega)])).trans rfl
theorem one_len (c : Int) (hc : isS c = true) : 1 ≤ (one c).length := by
  unfold one
  repeat' split
  all_goals simp
/-- A code point's bytes are read as it, whatever follows. -/
theorem dec_one (c : Int) (R : List Int) (hc : isS c = true) (hlt : c < 1114112) : dec (one c ++ R) = (c.toNat, (one c).length) ∧ ¬ (c.toNat = 65533 ∧ (one c).length = 1) := by
  unfold isS at hc
  simp only [decide_eq_true_eq] at hc
  by_cases c1 : c < 128
  · have e : one c = [c] := by unfold one; rw [if_neg (by omega), if_pos c1]
    rw [e]
    unfold dec decodeN
    simp only [List.cons_append, List.nil_append, List.getD_cons_zero]
    rw [if_pos (by omega)]
    exact ⟨rfl, by omega⟩
  by_cases c2 : c < 2048
  · have e : one c = [192 + c / 64, 128 + c % 64] := by unfold one; rw [if_neg (by omega), if_neg c1, if_pos c2]
    rw [e]
    unfold dec decodeN
    simp only [List.cons_append, List.nil_append, List.getD_cons_zero, List.getD_cons_succ, List.length_cons, List.length_nil]
    rw [if_neg (by omega), if_pos (by omega), if_pos (by omega)]
    exact ⟨by ext <;> simp; omega, by omega⟩
  by_cases c3 : c < 65536
  · have e : one c = [224 + c / 4096, 128 + c / 64 % 64, 128 + c % 64] := by unfold one; rw [if_neg (by omega), if_neg c1, if_neg c2, if_pos c3]
    rw [e]
    unfold dec decodeN
    simp only [List.cons_append, List.nil_append, List.getD_cons_zero, List.getD_cons_succ, List.length_cons, List.length_nil]
    rw [if_neg (by omega), if_neg (by omega), if_pos (by omega), if_pos (by omega)]
    exact ⟨by ext <;> simp; omega, by omega⟩
  · have e : one c = [240 + c / 262144, 128 + c / 4096 % 64, 128 + c / 64 % 64, 128 + c % 64] := by unfold one; rw [if_neg (by omega), if_neg c1, if_neg c2, if_neg c3]
    rw [e]
    unfold dec decodeN
    simp only [List.cons_append, List.nil_append, List.getD_cons_zero, List.getD_cons_succ, List.length_cons, List.length_nil]
    rw [if_neg (by omega), if_neg (by omega), if_neg (by omega), if_pos (by omega), if_pos (by omega)]
    exact ⟨by ext <;> simp; omega, by omega⟩
theorem sgn_one (c : Int) (R : List Int) (hR : Byt R) (hc : isS c = true) (hlt : c < 1114112) : sgn (strOfNums (one c ++ R)) = (c, ((one c).length : Int)) := by
  have hB : Byt (one c ++ R) := by
    intro x hx
    rcases List.mem_append.1 hx with h | h
    · exact one_byte c hc x h
    · exact hR x h
  have h1 := one_len c hc
  obtain ⟨d1, d2⟩ := dec_one c R hc hlt
  rw [sgn_list _ hB (by simp; omega), d1]
  unfold sg
  rw [if_neg d2]
  have : 0 ≤ c := by unfold isS at hc; simp at hc; omega
  simp [Int.toNat_of_nonneg this]
/-- A byte that begins nothing is read as a sign of its own. -/
theorem sgn_raw (b0 : Int) (R : List Int) (hB : Byt (b0 :: R)) (hbad : (dec (b0 :: R)).1 = 65533 ∧ (dec (b0 :: R)).2 = 1) : sgn (strOfNums (b0 :: R)) = (1114112 + b0, 1) := by
  have := hB b0 (by simp)
  rw [sgn_list _ hB (by simp)]
  unfold sg
  rw [if_pos hbad]
  simp
  omega
theorem str_inj_cut (L : List Int) (n : Nat) : (strOfNums L).extract n (strOfNums L).size = strOfNums (L.drop n) := by
  apply ByteArray.ext
  apply Array.toList_inj.1
  rw [Lib.extract_to_end, strOfNums_data, strOfNums_data, List.map_drop]
/-- Signs are read as they are, if the first one is and the others are. -/
theorem canon_cons (c : Int) (l : List Int) (hc : isS c = true) (hs : sgn (strOfNums (one c ++ join l)) = (c, ((one c).length : Int))) (hl : signs (strOfNums (join l)) = l) : signs (strOfNums (join (c :: l))) = c :: l := by
  have e : join (c :: l) = one c ++ join l := by unfold join; rw [List.flatMap_cons]
  have h1 := one_len c hc
  have hw : wd (strOfNums (one c ++ join l)) = (one c).length := by unfold wd; rw [hs]; simp
  rw [e, signs_cons _ (by rw [strOfNums_size]; simp; omega), hs, hw, str_inj_cut, List.drop_left, hl]
theorem bytes_good (c : Int) (hc : isS c = true) (hlt : c < 1114112) : bytes [c] = (strOfNums (one c), 0) := by
  have h : signs (strOfNums (join [c])) = [c] := canon_cons c [] hc (by
    have : join ([] : List Int) = [] := rfl
    rw [this]
    exact sgn_one c [] (fun x h => by cases h) hc hlt) (by
    have : join ([] : List Int) = [] := rfl
    rw [this]
    exact signs_nil _ rfl)
  have e : join [c] = one c := by simp [join]
  unfold bytes
  rw [if_neg (by simp [hc]), if_pos h, e]
theorem dec_bare (b : Int) (h0 : 128 ≤ b) (h1 : b < 256) : dec [b] = (65533, 1) := by
  unfold dec decodeN
  simp only [List.length_cons, List.length_nil, List.getD_cons_zero]
  rw [if_neg (by omega), if_neg (by omega), if_neg (by omega), if_neg (by omega)]
theorem signs_bare (b : Int) (h0 : 128 ≤ b) (h1 : b < 256) : signs (strOfNums [b]) = [1114112 + b] := by
  have hB : Byt [b] := by intro x hx; simp at hx; omega
  have hs := sgn_raw b [] hB (by rw [dec_bare b h0 h1]; exact ⟨rfl, rfl⟩)
  have hw : wd (strOfNums [b]) = 1 := by unfold wd; rw [hs]; rfl
  rw [signs_cons _ (by rw [strOfNums_size]; simp), hs, hw, str_inj_cut, signs_nil]
  rfl
theorem signs_ascii (b : Int) (h0 : 0 ≤ b) (h1 : b < 128) : signs (strOfNums [b]) = [b] := by
  have hc : isS b = true := by unfold isS; simp; omega
  have e : one b = [b] := by unfold one; rw [if_neg (by omega), if_pos h1]
  have := bytes_good b hc (by omega)
  rw [e] at this
  unfold bytes at this
  rw [if_neg (by simp [hc])] at this
  have e2 : join [b] = [b] := by simp [join, e]
  rw [e2] at this
  split at this
  · assumption
  · exact absurd (Prod.mk.inj this).2 (by simp)
theorem bytes_raw (c : Int) (h0 : 1114240 ≤ c) (h1 : c ≤ 1114367) : bytes [c] = (strOfNums [c - 1114112], 0) := by
  have hc : isS c = true := by unfold isS; simp; omega
  have e : one c = [c - 1114112] := by unfold one; rw [if_pos (by omega)]
  have e2 : join [c] = [c - 1114112] := by simp [join, e]
  unfold bytes
  rw [if_neg (by simp [hc]), e2, signs_bare _ (by omega) (by omega), if_pos (by simp; omega)]
theorem bytes_none (c : Int) (hc : isS c = false) : bytes [c] = (⟨#[]⟩, 1) := by
  unfold bytes
  rw [if_pos (by simp [hc])]
theorem encode_one (c : Int) (hc : isS c = true) (hlt : c < 1114112) : Utf8.encode c = strOfNums (one c) := by
  unfold isS at hc
  simp only [decide_eq_true_eq] at hc
  have hv : Utf8.valid c = true := by unfold Utf8.valid; simp; omega
  unfold Utf8.encode one
  simp only [hv, if_true]
  rw [if_neg (c := 1114112 ≤ c) (by omega)]
  by_cases c1 : c < 128
  · rw [if_pos (by omega), if_pos c1]
    rfl
  rw [if_neg (by omega), if_neg c1]
  by_cases c2 : c < 2048
  · rw [if_pos (by omega), if_pos c2]
    unfold strOfNums
    simp only [List.map_cons, List.map_nil]
    rw [show (192 + c / 64).toNat = 192 + c.toNat / 64 by omega, show (128 + c % 64).toNat = 128 + c.toNat % 64 by omega]
  rw [if_neg (by omega), if_neg c2]
  by_cases c3 : c < 65536
  · rw [if_pos (by omega), if_pos c3]
    unfold strOfNums
    simp only [List.map_cons, List.map_nil]
    rw [show (224 + c / 4096).toNat = 224 + c.toNat / 4096 by omega, show (128 + c / 64 % 64).toNat = 128 + c.toNat / 64 % 64 by omega, show (128 + c % 64).toNat = 128 + c.toNat % 64 by omega]
  · rw [if_neg (by omega), if_neg c3]
    unfold strOfNums
    simp only [List.map_cons, List.map_nil]
    rw [show (240 + c / 262144).toNat = 240 + c.toNat / 262144 by omega, show (128 + c / 4096 % 64).toNat = 128 + c.toNat / 4096 % 64 by omega, show (128 + c / 64 % 64).toNat = 128 + c.toNat / 64 % 64 by omega, show (128 + c % 64).toNat = 128 + c.toNat % 64 by omega]

end Go.Proofs.YtjcgjchdelipcaaDoor.U
