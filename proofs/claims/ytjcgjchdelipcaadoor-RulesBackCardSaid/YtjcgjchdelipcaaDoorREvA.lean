/- What the printed functions on texts answer (the rules' own prints), in the plain words of GText: numbers and lists alone. -/
import Derived.Test.YtjcgjchdelipcaaDoorREvP
import Derived.Test.YtjcgjchdelipcaaDoorR7
import Derived.Test.YtjcgjchdelipcaaDoorR8
namespace Go.Proofs.YtjcgjchdelipcaaDoor.R
open Go.RowKit Go.Proofs.YtjcgjchdelipcaaDoorW.PrintWords Go.Proofs.YtjcgjchdelipcaaDoorW.PrintLast Go.Proofs.YtjcgjchdelipcaaDoorW.PrintMore
set_option linter.unusedVariables false
set_option linter.unusedSimpArgs false

theorem bt_eq (s : ByteArray) (i : Nat) (h : i < s.size) : bt s (i : Int) = ((s.get! i).toNat : Int) := by
  unfold bt
  rw [dif_pos (by simpa using h), Utf8W.get!_of_lt s i h]
  rfl
theorem tail_ev (x : Int) : umlautref1_tail.f x = some (decide (128 ≤ x ∧ x ≤ 191)) := by
  unfold umlautref1_tail.f
  by_cases h : x ≥ 128
  · rw [if_pos h]; simp [h]
  · rw [if_neg h]; simp; omega
theorem refSign_ev (s : ByteArray) (h : 0 < s.size) (k : Nat) : umlautref1_Sign.f (k + 1 + 1 + 1 + 1 + 1 + 1) s = some (U.sgn s) := by
  rw [U.sgn_eq s h]
  have hb : ∀ i : Nat, (s.get! i).toNat < 256 := fun i => UInt8.toNat_lt _
  have e0 : bt s 0 = ((s.get! 0).toNat : Int) := bt_eq s 0 h
  have e1 : 1 < s.size → bt s 1 = ((s.get! 1).toNat : Int) := bt_eq s 1
  have e2 : 2 < s.size → bt s 2 = ((s.get! 2).toNat : Int) := bt_eq s 2
  have e3 : 3 < s.size → bt s 3 = ((s.get! 3).toNat : Int) := bt_eq s 3
  have h0 := hb 0
  have h1 := hb 1
  have h2 := hb 2
  have h3 := hb 3
  simp only [umlautref1_Sign.f, umlautref1_Sign.j0, umlautref1_Sign.j1, umlautref1_Sign.j2, umlautref1_Sign.j3, umlautref1_Sign.j4, tail_ev, Option.bind_some, e0]
  clear hb e0
  generalize (s.get! 0).toNat = b0 at *
  generalize (s.get! 1).toNat = b1 at *
  generalize (s.get! 2).toNat = b2 at *
  generalize (s.get! 3).toNat = b3 at *
  generalize bt s 1 = x1 at *
  generalize bt s 2 = x2 at *
  generalize bt s 3 = x3 at *
  generalize s.size = n at *
  have w0 : wrap64 (b0 : Int) = b0 := w64 (by omega) (by omega)
  have w1 : wrap64 (1114112 + (b0 : Int)) = 1114112 + (b0 : Int) := w64 (by omega) (by omega)
  rw [if_pos (by omega)]
  simp only [w0, w1]
  have fin : ∀ (p q : Nat × Nat) (r : Int × Int), p = q → U.sg q b0 = r → some r = some (U.sg p b0) := by
    intro p q r hp hr
    rw [hp, hr]
  have bad : U.sg (65533, 1) b0 = (1114112 + (b0 : Int), 1) := by unfold U.sg; rw [if_pos ⟨rfl, rfl⟩]
  have good : ∀ (c w : Nat) (r : Int × Int), 2 ≤ w → r = ((c : Int), (w : Int)) → U.sg (c, w) b0 = r := by
    intro c w r hw hr
    unfold U.sg
    rw [if_neg (by simp only []; omega), hr]
  by_cases c1 : b0 < 128
  · rw [if_pos (by omega)]
    refine fin _ (b0, 1) _ (by unfold Lib.decodeN; rw [if_pos c1]) ?_
    unfold U.sg
    rw [if_neg (by simp only []; omega)]
    rfl
  rw [if_neg (by omega)]
  by_cases c2 : b0 < 194
  · rw [if_neg (by omega), if_neg (by simp), if_neg (by omega), if_neg (by simp), if_neg (by omega), if_neg (by simp)]
    refine fin _ _ _ ?_ bad
    unfold Lib.decodeN
    rw [if_neg c1]
    split
    · rw [if_neg (by omega)]
    · rw [if_neg (by omega), if_neg (by omega)]
  rw [if_pos (by omega)]
  by_cases c3 : b0 ≤ 223
  · rw [if_pos (by simp; omega)]
    by_cases n1 : 1 < n
    · have e1 := e1 n1
      subst e1
      rw [if_pos (by omega), if_pos (by omega)]
      have w2 : wrap64 ((wrap64 ((wrap64 ((wrap64 ((b0 : Int) - 192)) * 64)) + (wrap64 (b1 : Int)))) - 128) = (b0 : Int) * 64 + b1 - 12416 := by
        rw [w64 (x := (b0 : Int) - 192) (by omega) (by omega), w64 (x := ((b0 : Int) - 192) * 64) (by omega) (by omega), w64 (x := (b1 : Int)) (by omega) (by omega), w64 (x := ((b0 : Int) - 192) * 64 + (b1 : Int)) (by omega) (by omega), w64 (by omega) (by omega)]
        omega
      by_cases t1 : 128 ≤ b1 ∧ b1 ≤ 191
      · rw [if_pos (by simp; omega), w2]
        refine fin _ (b0 % 32 * 64 + b1 % 64, 2) _ ?_ (good _ _ _ (by omega) (by ext <;> simp; omega))
        unfold Lib.decodeN
        rw [if_neg c1, if_pos (by omega), if_pos (by omega)]
      · rw [if_neg (by simp; omega)]
        refine fin _ _ _ ?_ bad
        unfold Lib.decodeN
        rw [if_neg c1, if_neg (by omega), if_neg (by omega), if_neg (by omega)]
    · rw [if_neg (by omega)]
      refine fin _ _ _ ?_ bad
      unfold Lib.decodeN
      rw [if_neg c1, if_neg (by omega), if_neg (by omega), if_neg (by omega)]
  rw [if_neg (by simp; omega), if_pos (by omega)]
  by_cases c4 : b0 ≤ 239
  · rw [if_pos (by simp; omega)]
    by_cases n2 : 2 < n
    · have e1 := e1 (by omega)
      have e2 := e2 n2
      subst e1 e2
      rw [if_pos (by omega), if_pos (by omega)]
      have w2 : wrap64 ((wrap64 ((wrap64 ((wrap64 ((wrap64 ((b0 : Int) - 224)) * 4096)) + (wrap64 ((wrap64 ((wrap64 (b1 : Int)) - 128)) * 64)))) + (wrap64 (b2 : Int)))) - 128) = (b0 : Int) * 4096 + b1 * 64 + b2 - 925824 := by
        rw [w64 (x := (b0 : Int) - 224) (by omega) (by omega), w64 (x := ((b0 : Int) - 224) * 4096) (by omega) (by omega), w64 (x := (b1 : Int)) (by omega) (by omega), w64 (x := (b1 : Int) - 128) (by omega) (by omega), w64 (x := ((b1 : Int) - 128) * 64) (by omega) (by omega), w64 (x := (b2 : Int)) (by omega) (by omega), w64 (x := ((b0 : Int) - 224) * 4096 + ((b1 : Int) - 128) * 64) (by omega) (by omega), w64 (x := ((b0 : Int) - 224) * 4096 + ((b1 : Int) - 128) * 64 + (b2 : Int)) (by omega) (by omega), w64 (by omega) (by omega)]
        omega
      by_cases t1 : 128 ≤ b1 ∧ b1 ≤ 191
      · rw [if_pos (by simp; omega), if_pos (by omega)]
        by_cases t2 : 128 ≤ b2 ∧ b2 ≤ 191
        · rw [if_pos (by simp; omega), if_pos (by omega), if_pos (by omega), w2]
          by_cases v1 : 2048 ≤ b0 % 16 * 4096 + b1 % 64 * 64 + b2 % 64 ∧ (b0 % 16 * 4096 + b1 % 64 * 64 + b2 % 64 < 55296 ∨ (57344 ≤ b0 % 16 * 4096 + b1 % 64 * 64 + b2 % 64 ∧ b0 % 16 * 4096 + b1 % 64 * 64 + b2 % 64 ≤ 1114111))
          · have hD : Lib.decodeN n b0 b1 b2 b3 = (b0 % 16 * 4096 + b1 % 64 * 64 + b2 % 64, 3) := by
              unfold Lib.decodeN
              rw [if_neg c1, if_neg (by omega), if_pos (by omega), if_pos (by omega)]
            rw [if_pos (by omega)]
            have hg : U.sg (b0 % 16 * 4096 + b1 % 64 * 64 + b2 % 64, 3) b0 = ((b0 : Int) * 4096 + b1 * 64 + b2 - 925824, 3) := good _ _ _ (by omega) (by ext <;> simp; omega)
            rw [hD, hg]
            by_cases v2 : (b0 : Int) * 4096 + b1 * 64 + b2 - 925824 < 55296
            · rw [if_pos v2]
            · rw [if_neg v2, if_pos (by omega)]
          · have hD : Lib.decodeN n b0 b1 b2 b3 = (65533, 1) := by
              unfold Lib.decodeN
              rw [if_neg c1, if_neg (by omega), if_pos (by omega), if_neg (by omega)]
            rw [hD, bad]
            by_cases v2 : (b0 : Int) * 4096 + b1 * 64 + b2 - 925824 ≥ 2048
            · rw [if_pos v2, if_neg (by omega), if_neg (by omega)]
            · rw [if_neg v2]
        · rw [if_neg (by simp; omega)]
          refine fin _ _ _ ?_ bad
          unfold Lib.decodeN
          rw [if_neg c1, if_neg (by omega), if_neg (by omega), if_neg (by omega)]
      · rw [if_neg (by simp; omega), if_neg (by simp)]
        refine fin _ _ _ ?_ bad
        unfold Lib.decodeN
        rw [if_neg c1, if_neg (by omega), if_neg (by omega), if_neg (by omega)]
    · rw [if_neg (by omega), if_neg (by simp)]
      refine fin _ _ _ ?_ bad
      unfold Lib.decodeN
      rw [if_neg c1, if_neg (by omega), if_neg (by omega), if_neg (by omega)]
  rw [if_neg (by simp; omega), if_pos (by omega)]
  by_cases c5 : b0 ≤ 244
  · rw [if_pos (by simp; omega)]
    by_cases n3 : 3 < n
    · have e1 := e1 (by omega)
      have e2 := e2 (by omega)
      have e3 := e3 n3
      subst e1 e2 e3
      rw [if_pos (by omega), if_pos (by omega)]
      have w2 : wrap64 ((wrap64 ((wrap64 ((wrap64 ((wrap64 ((wrap64 ((b0 : Int) - 240)) * 262144)) + (wrap64 ((wrap64 ((wrap64 (b1 : Int)) - 128)) * 4096)))) + (wrap64 ((wrap64 ((wrap64 (b2 : Int)) - 128)) * 64)))) + (wrap64 (b3 : Int)))) - 128) = (b0 : Int) * 262144 + b1 * 4096 + b2 * 64 + b3 - 63447168 := by
        rw [w64 (x := (b0 : Int) - 240) (by omega) (by omega), w64 (x := ((b0 : Int) - 240) * 262144) (by omega) (by omega), w64 (x := (b1 : Int)) (by omega) (by omega), w64 (x := (b1 : Int) - 128) (by omega) (by omega), w64 (x := ((b1 : Int) - 128) * 4096) (by omega) (by omega), w64 (x := (b2 : Int)) (by omega) (by omega), w64 (x := (b2 : Int) - 128) (by omega) (by omega), w64 (x := ((b2 : Int) - 128) * 64) (by omega) (by omega), w64 (x := (b3 : Int)) (by omega) (by omega), w64 (x := ((b0 : Int) - 240) * 262144 + ((b1 : Int) - 128) * 4096) (by omega) (by omega), w64 (x := ((b0 : Int) - 240) * 262144 + ((b1 : Int) - 128) * 4096 + ((b2 : Int) - 128) * 64) (by omega) (by omega), w64 (x := ((b0 : Int) - 240) * 262144 + ((b1 : Int) - 128) * 4096 + ((b2 : Int) - 128) * 64 + (b3 : Int)) (by omega) (by omega), w64 (by omega) (by omega)]
        omega
      by_cases t1 : 128 ≤ b1 ∧ b1 ≤ 191
      · rw [if_pos (by simp; omega), if_pos (by omega)]
        by_cases t2 : 128 ≤ b2 ∧ b2 ≤ 191
        · rw [if_pos (by simp; omega), if_pos (by omega)]
          by_cases t3 : 128 ≤ b3 ∧ b3 ≤ 191
          · rw [if_pos (by simp; omega), if_pos (by omega), if_pos (by omega), if_pos (by omega), w2]
            by_cases v1 : 65536 ≤ b0 % 8 * 262144 + b1 % 64 * 4096 + b2 % 64 * 64 + b3 % 64 ∧ b0 % 8 * 262144 + b1 % 64 * 4096 + b2 % 64 * 64 + b3 % 64 ≤ 1114111
            · have hD : Lib.decodeN n b0 b1 b2 b3 = (b0 % 8 * 262144 + b1 % 64 * 4096 + b2 % 64 * 64 + b3 % 64, 4) := by
                unfold Lib.decodeN
                rw [if_neg c1, if_neg (by omega), if_neg (by omega), if_pos (by omega), if_pos (by omega)]
              have hg : U.sg (b0 % 8 * 262144 + b1 % 64 * 4096 + b2 % 64 * 64 + b3 % 64, 4) b0 = ((b0 : Int) * 262144 + b1 * 4096 + b2 * 64 + b3 - 63447168, 4) := good _ _ _ (by omega) (by ext <;> simp; omega)
              rw [hD, hg, if_pos (by omega), if_pos (by omega)]
            · have hD : Lib.decodeN n b0 b1 b2 b3 = (65533, 1) := by
                unfold Lib.decodeN
                rw [if_neg c1, if_neg (by omega), if_neg (by omega), if_pos (by omega), if_neg (by omega)]
              rw [hD, bad]
              by_cases v2 : (b0 : Int) * 262144 + b1 * 4096 + b2 * 64 + b3 - 63447168 ≥ 65536
              · rw [if_pos v2, if_neg (by omega)]
              · rw [if_neg v2]
          · rw [if_neg (by simp; omega)]
            refine fin _ _ _ ?_ bad
            unfold Lib.decodeN
            rw [if_neg c1, if_neg (by omega), if_neg (by omega), if_neg (by omega)]
        · rw [if_neg (by simp; omega), if_neg (by simp)]
          refine fin _ _ _ ?_ bad
          unfold Lib.decodeN
          rw [if_neg c1, if_neg (by omega), if_neg (by omega), if_neg (by omega)]
      · rw [if_neg (by simp; omega), if_neg (by simp)]
        refine fin _ _ _ ?_ bad
        unfold Lib.decodeN
        rw [if_neg c1, if_neg (by omega), if_neg (by omega), if_neg (by omega)]
    · rw [if_neg (by omega), if_neg (by simp)]
      refine fin _ _ _ ?_ bad
      unfold Lib.decodeN
      rw [if_neg c1, if_neg (by omega), if_neg (by omega), if_neg (by omega)]
  rw [if_neg (by simp; omega)]
  refine fin _ _ _ ?_ bad
  unfold Lib.decodeN
  rw [if_neg c1, if_neg (by omega), if_neg (by omega)]
  split
  · rw [if_neg (by omega)]
  · rfl
theorem refSign_Ev (s : ByteArray) (h : 0 < s.size) : Ev (fun k => umlautref1_Sign.f k s) (U.sgn s) := ⟨6, fun k hk => by
  obtain ⟨m, rfl⟩ : ∃ m, k = m + 1 + 1 + 1 + 1 + 1 + 1 := ⟨k - 6, by omega⟩
  exact refSign_ev s h m⟩

end Go.Proofs.YtjcgjchdelipcaaDoor.R
