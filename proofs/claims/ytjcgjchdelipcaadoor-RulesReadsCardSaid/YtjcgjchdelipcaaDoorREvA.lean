/- What the printed functions on texts answer (the rules' own prints), in the plain words of GText: numbers and lists alone. -/
import Derived.Test.YtjcgjchdelipcaaDoorR9
import Derived.Test.YtjcgjchdelipcaaDoorGText
namespace Go.Proofs.YtjcgjchdelipcaaDoor.R
open Go.RowKit Go.Proofs.YtjcgjchdelipcaaDoorW.PrintWords Go.Proofs.YtjcgjchdelipcaaDoorW.PrintLast Go.Proofs.YtjcgjchdelipcaaDoorW.PrintMore
set_option linter.unusedVariables false
set_option linter.unusedSimpArgs false

theorem w64 {x : Int} (h0 : -9223372036854775808 ≤ x) (h1 : x ≤ 9223372036854775807) : wrap64 x = x := by unfold wrap64; omega
theorem bt_eq (s : ByteArray) (i : Nat) (h : i < s.size) : bt s (i : Int) = ((s.get! i).toNat : Int) := by
  unfold bt
  rw [dif_pos (by simpa using h), Utf8W.get!_of_lt s i h]
  rfl
theorem tail_ev (x : Int) : umlautref1_tail.f x = some (decide (128 ≤ x ∧ x ≤ 191)) := by
  unfold umlautref1_tail.f
  by_cases h : x ≥ 128
  · rw [if_pos h]; simp [h]
  · rw [if_neg h]; simp; omega
theorem refSign_ev (s : ByteArray) (h : 0 < s.size) (k : Nat) : umlautref1_Sign.f (k + 1 + 1 + 1 + 1 + 1 + 1) s = some (U.sgn s) := by
  rw [U.sgn_eq s h]
  have hb : ∀ i : Nat, (s.get! i).toNat < 256 := fun i => UInt8.toNat_lt _
  have e0 : bt s 0 = ((s.get! 0).toNat : Int) := bt_eq s 0 h
  have e1 : 1 < s.size → bt s 1 = ((s.get! 1).toNat : Int) := bt_eq s 1
  have e2 : 2 < s.size → bt s 2 = ((s.get! 2).toNat : Int) := bt_eq s 2
  have e3 : 3 < s.size → bt s 3 = ((s.get! 3).toNat : Int) := bt_eq s 3
  have h0 := hb 0
  have h1 := hb 1
  have h2 := hb 2
  have h3 := hb 3
  simp only [umlautref1_Sign.f, umlautref1_Sign.j0, umlautref1_Sign.j1, umlautref1_Sign.j2, umlautref1_Sign.j3, umlautref1_Sign.j4, tail_ev, Option.bind_some, e0]
  clear hb e0
  generalize (s.get! 0).toNat = b0 at *
  generalize (s.get! 1).toNat = b1 at *
  generalize (s.get! 2).toNat = b2 at *
  generalize (s.get! 3).toNat = b3 at *
  generalize bt s 1 = x1 at *
  generalize bt s 2 = x2 at *
  generalize bt s 3 = x3 at *
  generalize s.size = n at *
  have w0 : wrap64 (b0 : Int) = b0 := w64 (by omega) (by omega)
  have w1 : wrap64 (1114112 + (b0 : Int)) = 1114112 + (b0 : Int) := w64 (by omega) (by omega)
  rw [if_pos (by omega)]
  simp only [w0, w1]
  have fin : ∀ (p q : Nat × Nat) (r : Int × Int), p = q → U.sg q b0 = r → some r = some (U.sg p b0) := by
    intro p q r hp hr
    rw [hp, hr]
  have bad : U.sg (65533, 1) b0 = (1114112 + (b0 : Int), 1) := by unfold U.sg; rw [if_pos ⟨rfl, rfl⟩]
  have good : ∀ (c w : Nat) (r : Int × Int), 2 ≤ w → r = ((c : Int), (w : Int)) → U.sg (c, w) b0 = r := by
    intro c w r hw hr
    unfold U.sg
    rw [if_neg (by simp only []; omega), hr]
  by_cases c1 : b0 < 128
  · rw [if_pos (by omega)]
    refine fin _ (b0, 1) _ (by unfold Lib.decodeN; rw [if_pos c1]) ?_
    unfold U.sg
    rw [if_neg (by simp only []; omega)]
    rfl
  rw [if_neg (by omega)]
  by_cases c2 : b0 < 194
  · rw [if_neg (by omega), if_neg (by simp), if_neg (by omega), if_neg (by simp), if_neg (by omega), if_neg (by simp)]
    refine fin _ _ _ ?_ bad
    unfold Lib.decodeN
    rw [if_neg c1]
    split
    · rw [if_neg (by omega)]
    · rw [if_neg (by omega), if_neg (by omega)]
  rw [if_pos (by omega)]
  by_cases c3 : b0 ≤ 223
  · rw [if_pos (by simp; omega)]
    by_cases n1 : 1 < n
    · have e1 := e1 n1
      subst e1
      rw [if_pos (by omega), if_pos (by omega)]
      have w2 : wrap64 ((wrap64 ((wrap64 ((wrap64 ((b0 : Int) - 192)) * 64)) + (wrap64 (b1 : Int)))) - 128) = (b0 : Int) * 64 + b1 - 12416 := by
        rw [w64 (x := (b0 : Int) - 192) (by omega) (by omega), w64 (x := ((b0 : Int) - 192) * 64) (by omega) (by omega), w64 (x := (b1 : Int)) (by omega) (by omega), w64 (x := ((b0 : Int) - 192) * 64 + (b1 : Int)) (by omega) (by omega), w64 (by omega) (by omega)]
        omega
      by_cases t1 : 128 ≤ b1 ∧ b1 ≤ 191
      · rw [if_pos (by simp; omega), w2]
        refine fin _ (b0 % 32 * 64 + b1 % 64, 2) _ ?_ (good _ _ _ (by omega) (by ext <;> simp; omega))
        unfold Lib.decodeN
        rw [if_neg c1, if_pos (by omega), if_pos (by omega)]
      · rw [if_neg (by simp; omega)]
        refine fin _ _ _ ?_ bad
        unfold Lib.decodeN
        rw [if_neg c1, if_neg (by omega), if_neg (by omega), if_neg (by omega)]
    · rw [if_neg (by omega)]
      refine fin _ _ _ ?_ bad
      unfold Lib.decodeN
      rw [if_neg c1, if_neg (by omega), if_neg (by omega), if_neg (by omega)]
  rw [if_neg (by simp; omega), if_pos (by omega)]
  by_cases c4 : b0 ≤ 239
  · rw [if_pos (by simp; omega)]
    by_cases n2 : 2 < n
    · have e1 := e1 (by omega)
      have e2 := e2 n2
      subst e1 e2
      rw [if_pos (by omega), if_pos (by omega)]
      have w2 : wrap64 ((wrap64 ((wrap64 ((wrap64 ((wrap64 ((b0 : Int) - 224)) * 4096)) + (wrap64 ((wrap64 ((wrap64 (b1 : Int)) - 128)) * 64)))) + (wrap64 (b2 : Int)))) - 128) = (b0 : Int) * 4096 + b1 * 64 + b2 - 925824 := by
        rw [w64 (x := (b0 : Int) - 224) (by omega) (by omega), w64 (x := ((b0 : Int) - 224) * 4096) (by omega) (by omega), w64 (x := (b1 : Int)) (by omega) (by omega), w64 (x := (b1 : Int) - 128) (by omega) (by omega), w64 (x := ((b1 : Int) - 128) * 64) (by omega) (by omega), w64 (x := (b2 : Int)) (by omega) (by omega), w64 (x := ((b0 : Int) - 224) * 4096 + ((b1 : Int) - 128) * 64) (by omega) (by omega), w64 (x := ((b0 : Int) - 224) * 4096 + ((b1 : Int) - 128) * 64 + (b2 : Int)) (by omega) (by omega), w64 (by omega) (by omega)]
        omega
      by_cases t1 : 128 ≤ b1 ∧ b1 ≤ 191
      · rw [if_pos (by simp; omega), if_pos (by omega)]
        by_cases t2 : 128 ≤ b2 ∧ b2 ≤ 191
        · rw [if_pos (by simp; omega), if_pos (by omega), if_pos (by omega), w2]
          by_cases v1 : 2048 ≤ b0 % 16 * 4096 + b1 % 64 * 64 + b2 % 64 ∧ (b0 % 16 * 4096 + b1 % 64 * 64 + b2 % 64 < 55296 ∨ (57344 ≤ b0 % 16 * 4096 + b1 % 64 * 64 + b2 % 64 ∧ b0 % 16 * 4096 + b1 % 64 * 64 + b2 % 64 ≤ 1114111))
          · have hD : Lib.decodeN n b0 b1 b2 b3 = (b0 % 16 * 4096 + b1 % 64 * 64 + b2 % 64, 3) := by
              unfold Lib.decodeN
              rw [if_neg c1, if_neg (by omega), if_pos (by omega), if_pos (by omega)]
            rw [if_pos (by omega)]
            have hg : U.sg (b0 % 16 * 4096 + b1 % 64 * 64 + b2 % 64, 3) b0 = ((b0 : Int) * 4096 + b1 * 64 + b2 - 925824, 3) := good _ _ _ (by omega) (by ext <;> simp; omega)
            rw [hD, hg]
            by_cases v2 : (b0 : Int) * 4096 + b1 * 64 + b2 - 925824 < 55296
            · rw [if_pos v2]
            · rw [if_neg v2, if_pos (by omega)]
          · have hD : Lib.decodeN n b0 b1 b2 b3 = (65533, 1) := by
              unfold Lib.decodeN
              rw [if_neg c1, if_neg (by omega), if_pos (by omega), if_neg (by omega)]
            rw [hD, bad]
            by_cases v2 : (b0 : Int) * 4096 + b1 * 64 + b2 - 925824 ≥ 2048
            · rw [if_pos v2, if_neg (by omega), if_neg (by omega)]
            · rw [if_neg v2]
        · rw [if_neg (by simp; omega)]
          refine fin _ _ _ ?_ bad
          unfold Lib.decodeN
          rw [if_neg c1, if_neg (by omega), if_neg (by omega), if_neg (by omega)]
      · rw [if_neg (by simp; omega), if_neg (by simp)]
        refine fin _ _ _ ?_ bad
        unfold Lib.decodeN
        rw [if_neg c1, if_neg (by omega), if_neg (by omega), if_neg (by omega)]
    · rw [if_neg (by omega), if_neg (by simp)]
      refine fin _ _ _ ?_ bad
      unfold Lib.decodeN
      rw [if_neg c1, if_neg (by omega), if_neg (by omega), if_neg (by omega)]
  rw [if_neg (by simp; omega), if_pos (by omega)]
  by_cases c5 : b0 ≤ 244
  · rw [if_pos (by simp; omega)]
    by_cases n3 : 3 < n
    · have e1 := e1 (by omega)
      have e2 := e2 (by omega)
      have e3 := e3 n3
      subst e1 e2 e3
      rw [if_pos (by omega), if_pos (by omega)]
      have w2 : wrap64 ((wrap64 ((wrap64 ((wrap64 ((wrap64 ((wrap64 ((b0 : Int) - 240)) * 262144)) + (wrap64 ((wrap64 ((wrap64 (b1 : Int)) - 128)) * 4096)))) + (wrap64 ((wrap64 ((wrap64 (b2 : Int)) - 128)) * 64)))) + (wrap64 (b3 : Int)))) - 128) = (b0 : Int) * 262144 + b1 * 4096 + b2 * 64 + b3 - 63447168 := by
        rw [w64 (x := (b0 : Int) - 240) (by omega) (by omega), w64 (x := ((b0 : Int) - 240) * 262144) (by omega) (by omega), w64 (x := (b1 : Int)) (by omega) (by omega), w64 (x := (b1 : Int) - 128) (by omega) (by omega), w64 (x := ((b1 : Int) - 128) * 4096) (by omega) (by omega), w64 (x := (b2 : Int)) (by omega) (by omega), w64 (x := (b2 : Int) - 128) (by omega) (by omega), w64 (x := ((b2 : Int) - 128) * 64) (by omega) (by omega), w64 (x := (b3 : Int)) (by omega) (by omega), w64 (x := ((b0 : Int) - 240) * 262144 + ((b1 : Int) - 128) * 4096) (by omega) (by omega), w64 (x := ((b0 : Int) - 240) * 262144 + ((b1 : Int) - 128) * 4096 + ((b2 : Int) - 128) * 64) (by omega) (by omega), w64 (x := ((b0 : Int) - 240) * 262144 + ((b1 : Int) - 128) * 4096 + ((b2 : Int) - 128) * 64 + (b3 : Int)) (by omega) (by omega), w64 (by omega) (by omega)]
        omega
      by_cases t1 : 128 ≤ b1 ∧ b1 ≤ 191
      · rw [if_pos (by simp; omega), if_pos (by omega)]
        by_cases t2 : 128 ≤ b2 ∧ b2 ≤ 191
        · rw [if_pos (by simp; omega), if_pos (by omega)]
          by_cases t3 : 128 ≤ b3 ∧ b3 ≤ 191
          · rw [if_pos (by simp; omega), if_pos (by omega), if_pos (by omega), if_pos (by omega), w2]
            by_cases v1 : 65536 ≤ b0 % 8 * 262144 + b1 % 64 * 4096 + b2 % 64 * 64 + b3 % 64 ∧ b0 % 8 * 262144 + b1 % 64 * 4096 + b2 % 64 * 64 + b3 % 64 ≤ 1114111
            · have hD : Lib.decodeN n b0 b1 b2 b3 = (b0 % 8 * 262144 + b1 % 64 * 4096 + b2 % 64 * 64 + b3 % 64, 4) := by
                unfold Lib.decodeN
                rw [if_neg c1, if_neg (by omega), if_neg (by omega), if_pos (by omega), if_pos (by omega)]
              have hg : U.sg (b0 % 8 * 262144 + b1 % 64 * 4096 + b2 % 64 * 64 + b3 % 64, 4) b0 = ((b0 : Int) * 262144 + b1 * 4096 + b2 * 64 + b3 - 63447168, 4) := good _ _ _ (by omega) (by ext <;> simp; omega)
              rw [hD, hg, if_pos (by omega), if_pos (by omega)]
            · have hD : Lib.decodeN n b0 b1 b2 b3 = (65533, 1) := by
                unfold Lib.decodeN
                rw [if_neg c1, if_neg (by omega), if_neg (by omega), if_pos (by omega), if_neg (by omega)]
              rw [hD, bad]
              by_cases v2 : (b0 : Int) * 262144 + b1 * 4096 + b2 * 64 + b3 - 63447168 ≥ 65536
              · rw [if_pos v2, if_neg (by omega)]
              · rw [if_neg v2]
          · rw [if_neg (by simp; omega)]
            refine fin _ _ _ ?_ bad
            unfold Lib.decodeN
            rw [if_neg c1, if_neg (by omega), if_neg (by omega), if_neg (by omega)]
        · rw [if_neg (by simp; omega), if_neg (by simp)]
          refine fin _ _ _ ?_ bad
          unfold Lib.decodeN
          rw [if_neg c1, if_neg (by omega), if_neg (by omega), if_neg (by omega)]
      · rw [if_neg (by simp; omega), if_neg (by simp)]
        refine fin _ _ _ ?_ bad
        unfold Lib.decodeN
        rw [if_neg c1, if_neg (by omega), if_neg (by omega), if_neg (by omega)]
    · rw [if_neg (by omega), if_neg (by simp)]
      refine fin _ _ _ ?_ bad
      unfold Lib.decodeN
      rw [if_neg c1, if_neg (by omega), if_neg (by omega), if_neg (by omega)]
  rw [if_neg (by simp; omega)]
  refine fin _ _ _ ?_ bad
  unfold Lib.decodeN
  rw [if_neg c1, if_neg (by omega), if_neg (by omega)]
  split
  · rw [if_neg (by omega)]
  · rfl
theorem toList_nil (s : ByteArray) : s.toList = ([] : List UInt8) ↔ s.size = 0 := by
  rw [Lib.toList_data, Lib.size_eq]
  exact List.length_eq_zero_iff.symm
theorem signs_ev (s : ByteArray) : ∀ acc : List Int, acc.length + s.size < 17592186044416 → Ev (fun k => utext_Signs.l0 k s acc) (acc ++ U.signs s) := by
  induction s using U.by_signs with
  | h0 s h =>
    intro acc hl
    refine Ev.step (f := fun _ => some (acc ++ U.signs s)) (fun k => ?_) (Ev.now _)
    rw [utext_Signs.l0, if_neg (by omega), U.signs_nil s h, List.append_nil]
    rfl
  | h1 s h ih =>
    intro acc hl
    obtain ⟨a, hw, w1, w2, -⟩ := U.sgn_back s h
    refine Ev.step (f := fun k => utext_Signs.l0 k (s.extract (U.wd s) s.size) (acc ++ [(U.sgn s).1])) (fun k => ?_) ?_
    · rw [utext_Signs.l0, if_pos (by omega)]
      show ((some (U.sgn s)).bind _) = _
      rw [Option.bind_some, if_pos (by omega), hw, if_pos (by omega), if_pos (by omega), Int.toNat_natCast]
    · have := ih (acc ++ [(U.sgn s).1]) (by rw [U.cut_size]; simp; omega)
      rw [U.signs_cons s h]
      simpa using this
theorem Signs_ev (s : ByteArray) (h : s.size < 17592186044416) : Ev (fun k => utext_Signs.f k s) (U.signs s) := by
  have := signs_ev s [] (by simpa using h)
  simp only [List.nil_append, List.drop_zero] at this
  exact Ev.congr (fun k => rfl) this
theorem refSign_Ev (s : ByteArray) (h : 0 < s.size) : Ev (fun k => umlautref1_Sign.f k s) (U.sgn s) := ⟨6, fun k hk => by
  obtain ⟨m, rfl⟩ : ∃ m, k = m + 1 + 1 + 1 + 1 + 1 + 1 := ⟨k - 6, by omega⟩
  exact refSign_ev s h m⟩
theorem rd_nat (l : List Int) (i : Nat) (h : i < l.length) : rd l (i : Int) = l[i] := by
  unfold rd
  rw [List.getD_eq_getElem?_getD, Int.toNat_natCast, List.getElem?_eq_getElem h]
  rfl
theorem or192 (x : Int) (h0 : 0 ≤ x) (h1 : x < 32) : Go.bits .or .u8 192 x = 192 + x := by
  have : ∀ y : Fin 32, Go.bits .or .u8 192 ((y.val : Nat) : Int) = 192 + ((y.val : Nat) : Int) := by decide
  have e := this ⟨x.toNat, by omega⟩
  simpa [Int.toNat_of_nonneg h0] using e
theorem or224 (x : Int) (h0 : 0 ≤ x) (h1 : x < 16) : Go.bits .or .u8 224 x = 224 + x := by
  have : ∀ y : Fin 16, Go.bits .or .u8 224 ((y.val : Nat) : Int) = 224 + ((y.val : Nat) : Int) := by decide
  have e := this ⟨x.toNat, by omega⟩
  simpa [Int.toNat_of_nonneg h0] using e
theorem or240 (x : Int) (h0 : 0 ≤ x) (h1 : x < 8) : Go.bits .or .u8 240 x = 240 + x := by
  have : ∀ y : Fin 8, Go.bits .or .u8 240 ((y.val : Nat) : Int) = 240 + ((y.val : Nat) : Int) := by decide
  have e := this ⟨x.toNat, by omega⟩
  simpa [Int.toNat_of_nonneg h0] using e
theorem isS_iff (c : Int) : U.isS c = true ↔ (0 ≤ c ∧ c < 55296) ∨ (57344 ≤ c ∧ c < 1114112) ∨ (1114240 ≤ c ∧ c ≤ 1114367) := by unfold U.isS; simp
theorem put_ev (acc : List Int) (c : Int) (hc : U.isS c = true) (hl : acc.length + 4 < 140737488355328) : utext_put.f acc c = some (acc ++ U.one c) := by
  rw [isS_iff] at hc
  unfold utext_put.f U.one
  by_cases c1 : c ≥ 1114112
  · rw [if_pos c1, if_pos (by omega), if_pos (by omega), show c % 256 = c - 1114112 by omega]
  have c1' : ¬ 1114112 ≤ c := by omega
  rw [if_neg c1, if_neg c1']
  by_cases c2 : c < 128
  · rw [if_pos c2, if_pos (by omega), if_pos c2, show c % 256 = c by omega]
  rw [if_neg c2, if_neg c2]
  by_cases c3 : c < 2048
  · rw [if_pos c3, Option.bind_some, if_pos (by simp; omega), if_pos c3, or192 _ (by omega) (by omega), show c / 64 % 256 = c / 64 by omega]
  rw [if_neg c3, if_neg c3]
  by_cases c4 : c < 65536
  · rw [if_pos c4, Option.bind_some, if_pos (by simp; omega), if_pos c4, or224 _ (by omega) (by omega), show c / 4096 % 256 = c / 4096 by omega]
  · rw [if_neg c4, Option.bind_some, if_pos (by simp; omega), if_neg c4, or240 _ (by omega) (by omega), show c / 262144 % 256 = c / 262144 by omega]
theorem Put_l0 (l : List Int) (hS : ∀ c ∈ l, U.isS c = true) (d : Nat) : ∀ (i : Nat) (acc : List Int), i + d = l.length → acc.length + 4 * d + 4 < 140737488355328 → l.length < 17592186044416 →
    Ev (fun k => utext_Put.l0 k acc l (l.length : Int) (i : Int)) (strOfNums (acc ++ U.join (l.drop i))) := by
  induction d with
  | zero =>
    intro i acc hi ha hl
    refine Ev.step (f := fun _ => some (strOfNums (acc ++ U.join (l.drop i)))) (fun k => ?_) (Ev.now _)
    rw [utext_Put.l0, if_neg (by omega), List.drop_of_length_le (by omega)]
    simp [U.join]
  | succ d ih =>
    intro i acc hi ha hl
    have hlt : i < l.length := by omega
    refine Ev.step (f := fun k => utext_Put.l0 k (acc ++ U.one l[i]) l (l.length : Int) ((i + 1 : Nat) : Int)) (fun k => ?_) ?_
    · rw [utext_Put.l0, if_pos (by omega), if_pos (by omega), if_pos (by omega), rd_nat l i hlt, put_ev acc _ (hS _ (List.getElem_mem hlt)) (by omega), Option.bind_some, w64 (by omega) (by omega)]
      rfl
    · have := U.one_length l[i]
      have := ih (i + 1) (acc ++ U.one l[i]) (by omega) (by simp; omega) hl
      rw [List.drop_eq_getElem_cons hlt]
      have e : U.join (l[i] :: l.drop (i + 1)) = U.one l[i] ++ U.join (l.drop (i + 1)) := by unfold U.join; rw [List.flatMap_cons]
      rw [e, ← List.append_assoc]
      exact this
theorem Put_ev (l : List Int) (hS : ∀ c ∈ l, U.isS c = true) (hl : l.length < 17592186044416) : Ev (fun k => utext_Put.f k l) (strOfNums (U.join l)) := by
  have := Put_l0 l hS l.length 0 [] (by omega) (by simp; omega) hl
  simp only [List.nil_append, List.drop_zero] at this
  exact Ev.congr (fun k => rfl) this
theorem dec_eq {x y : Int} (xs ys : List Int) (h : x = y) : decide (x :: xs = y :: ys) = decide (xs = ys) := by subst h; simp
theorem dec_ne {x y : Int} (xs ys : List Int) (h : ¬ x = y) : decide (x :: xs = y :: ys) = false := by simp [h]
theorem same_l0 (a b : List Int) (hab : a.length = b.length) (hl : a.length < 17592186044416) (d : Nat) : ∀ i : Nat, i + d = a.length →
    Ev (fun k => umlautref1_SameInts.l0 k a b (i : Int)) (decide (a.drop i = b.drop i)) := by
  induction d with
  | zero =>
    intro i hi
    refine Ev.step (f := fun _ => some (decide (a.drop i = b.drop i))) (fun k => ?_) (Ev.now _)
    rw [umlautref1_SameInts.l0, if_neg (by omega), List.drop_of_length_le (by omega), List.drop_of_length_le (by omega)]
    simp
  | succ d ih =>
    intro i hi
    have h1 : i < a.length := by omega
    have h2 : i < b.length := by omega
    rw [List.drop_eq_getElem_cons h1, List.drop_eq_getElem_cons h2]
    by_cases he : a[i] = b[i]
    · refine Ev.step (f := fun k => umlautref1_SameInts.l0 k a b ((i + 1 : Nat) : Int)) (fun k => ?_) ?_
      · rw [umlautref1_SameInts.l0, if_pos (by omega), if_pos (by omega), if_pos (by omega), rd_nat a i h1, rd_nat b i h2, if_pos he, w64 (by omega) (by omega)]
        rfl
      · rw [dec_eq _ _ he]
        exact ih (i + 1) (by omega)
    · refine Ev.step (f := fun _ => some false) (fun k => ?_) ?_
      · rw [umlautref1_SameInts.l0, if_pos (by omega), if_pos (by omega), if_pos (by omega), rd_nat a i h1, rd_nat b i h2, if_neg he]
      · rw [dec_ne _ _ he]
        exact Ev.now _
theorem Same_ev (a b : List Int) (hl : a.length < 17592186044416) : Ev (fun k => umlautref1_SameInts.f k a b) (decide (a = b)) := by
  by_cases hab : a.length = b.length
  · have := same_l0 a b hab hl a.length 0 (by omega)
    refine Ev.congr (fun k => ?_) this
    rw [umlautref1_SameInts.f, if_pos (by omega)]
    rfl
  · refine Ev.congr (f := fun _ => some (decide (a = b))) (fun k => ?_) (Ev.now _)
    rw [umlautref1_SameInts.f, if_neg (by omega)]
    have : ¬ a = b := fun e => hab (by rw [e])
    simp [this]

end Go.Proofs.YtjcgjchdelipcaaDoor.R
