/- rules.text: a sequence's text, walked by hand. -/
import Derived.Test.YtjcgjchdelipcaaDoorShelf2
import Derived.Test.YtjcgjchdelipcaaDoorREvP
import Derived.Test.YtjcgjchdelipcaaDoorR9b
import Derived.Test.YtjcgjchdelipcaaDoorRTell
import Derived.Outline
import Derived.Lib.Hide
namespace Go.Proofs.YtjcgjchdelipcaaDoor.R
open Go.RowKit Go.Proofs.YtjcgjchdelipcaaDoorW.PrintWords Go.Proofs.YtjcgjchdelipcaaDoorW.PrintLast Go.Proofs.YtjcgjchdelipcaaDoorW.PrintMore
open Go.Proofs.YtjcgjchdelipcaaDoor.U (spc spb txt txt1)
set_option linter.unusedVariables false
set_option linter.unusedSimpArgs false

theorem builder_below {T e : TypeId} {B b : Nat} {bs : List Value} {w w' : World} (h : Lib.IsBuilder T e B b bs w) (hb : Below w.heap.size w w') : Lib.IsBuilder T e B b bs w' := by
  have key : ∀ p, Lib.BuilderAt T e B b p bs w → Lib.BuilderAt T e B b p bs w' := by
    rintro p ⟨h1, v, h2, h3, h4⟩
    have hlt : b < w.heap.size := (Array.getElem?_eq_some_iff.1 h2).1
    refine ⟨h1, v, (hb.block b hlt).trans h2, ?_, h4⟩
    rcases h3 with ⟨k1, k2 | ⟨g, cap, cur, e1, k3, k4, k5⟩⟩
    · exact ⟨k1, .inl k2⟩
    · exact ⟨k1, .inr ⟨g, cap, cur, e1, k3, (hb.block g (Array.getElem?_eq_some_iff.1 k4).1).trans k4, k5⟩⟩
  exact h.elim (fun h => .inl (key _ h)) (fun h => .inr (key _ h))
theorem builder_new (w : World) : Lib.IsBuilder 103 5 w.heap.size w.heap.size [] (w.alloc (.cells #[.pointer none, .slice none 0 0] 103)) :=
  .inl ⟨Nat.le_refl _, .slice none 0 0, heap_alloc_new _ _, World.ownsRow_nil _ _ _ _, by simp [Value.ownBlock]⟩
def u8s (L : List Int) : List Value := L.map (Value.int .u8)
theorem u8s_str (L : List Int) (h : ∀ x ∈ L, 0 ≤ x ∧ x < 256) : Lib.strCells (strOfNums L) = u8s L := by
  unfold Lib.strCells u8s
  rw [strOfNums_data, List.map_map]
  refine List.map_congr_left fun x hx => ?_
  have := h x hx
  simp only [Function.comp, UInt8.toNat_ofNat']
  congr 1
  omega
theorem u8s_bytes (L : List Int) (h : ∀ x ∈ L, 0 ≤ x ∧ x < 256) : Lib.byteCells (L.map fun n => UInt8.ofNat n.toNat) = u8s L := u8s_str L h
theorem special_spb (c : Int) : rules_special.f c = some (spb c) := by
  unfold rules_special.f spb spc
  by_cases h1 : c = 32 <;> by_cases h2 : c = 10 <;> by_cases h3 : c = 38 <;> by_cases h4 : c = 60 <;> by_cases h5 : c = 61 <;> by_cases h6 : c = 47 <;> by_cases h7 : c = 92 <;> simp [h1, h2, h3, h4, h5, h6, h7]
theorem Sign_isS (c : Int) : utext_Sign.f c = some (U.isS c) := by
  unfold utext_Sign.f U.isS
  repeat' split
  all_goals (congr 1; rw [Bool.eq_iff_iff]; simp; try omega)
theorem put_one (c : Int) (hc : U.isS c = true) : ∃ k, utext_Put.f k [c] = some (strOfNums (U.one c)) := by
  obtain ⟨K, h⟩ := Put_ev [c] (fun x hx => by simp at hx; rw [hx]; exact hc) (by simp)
  refine ⟨K, ?_⟩
  refine (h K (Nat.le_refl _)).trans ?_
  simp [U.join]
theorem below_drawn (w : World) (n : Nat) : Below w.heap.size w (w.drewN n) := Drawn0.below ⟨⟨n, rfl⟩⟩
theorem u8s_app (a b : List Int) : u8s (a ++ b) = u8s a ++ u8s b := by unfold u8s; rw [List.map_append]
theorem u8s_length (a : List Int) : (u8s a).length = a.length := by unfold u8s; rw [List.length_map]
set_option maxHeartbeats 2000000 in
set_option maxRecDepth 100000 in
theorem text_calls (A : Option Addr) (c0 : Nat) (l : List Int) (w : World) (hA : Kd.C (Kd.int .i64) w A l.length l) (hl : l.length ≤ 1000) :
    Calls Tryd.prog 58 #[.slice A l.length c0] w fun e w' => e = .returned (.string (strOfNums (txt l))) ∧ Below w.heap.size w w' := by
  have HA := Lib.hid hA
  have HB0 := Lib.hid (Below.refl w.heap.size w)
  have HI0 := Lib.hid (builder_new w)
  have HB1 := Lib.hid ((Below.refl w.heap.size w).alloc (Nat.le_refl _) (.cells #[.pointer none, .slice none 0 0] 103))
  clear hA
  go_enter Tryd.func58, Tryd.ntmps58
  go_wp2
  go_loopw [8] (fun v8 w' => ∃ i : Nat, i ≤ l.length ∧ v8 = .int .i64 i ∧ Hid (Lib.IsBuilder 103 5 w.heap.size w.heap.size (u8s (txt (l.take i))) w') ∧ Hid (Below w.heap.size w w')) (fun v8 _ => l.length - (intOf v8).toNat)
  case atStart => exact ⟨0, Nat.zero_le _, rfl, HI0, HB1⟩
  case round =>
    clear HI0 HB1
    obtain ⟨i, hi, rfl, HI, HB⟩ := hrel
    have hL5 := U.txt_length (l.take i)
    have hLi : (l.take i).length ≤ i := List.length_take_le _ _
    have HL := Lib.hid (show (txt (l.take i)).length ≤ 5000 by omega)
    clear hL5 hLi
    by_cases hlt : i < l.length
    · obtain ⟨ad, ea, hx⟩ := Kd.at_int (Kd.C_below HA.out HB.out) (i : Int) (by omega) (by omega)
      subst ea
      simp only [Int.toNat_natCast] at hx
      have hrd : rd l (i : Int) = l[i] := rd_nat l i hlt
      rw [hrd] at hx
      clear hrd
      have HTK := Lib.hid (show txt (l.take (i + 1)) = txt (l.take i) ++ txt1 l[i] by rw [List.take_succ_eq_append_getElem hlt]; unfold txt; rw [List.flatMap_append]; simp)
      have HIS := Lib.hid (show ∀ c, spb c = true → U.isS c = true from fun c => U.spb_isS)
      generalize l[i] = c at hx HTK
      have HSZ := Lib.hid HB.out.size
      have hlenT := HL.out
      have HLT := Lib.hid (show (u8s (txt (l.take i))).length ≤ 5000 by rw [u8s_length]; exact hlenT)
      clear hlenT
      by_cases hs : spb c = true
      · have hS : U.isS c = true := HIS.out c hs
        obtain ⟨k, hk⟩ := put_one c hS
        have HK := Lib.hid hk
        have HT1 := Lib.hid (show txt1 c = [92] ++ U.one c by unfold txt1; rw [if_pos hs, if_pos hS])
        have HO := Lib.hid (U.one_byte c hS)
        have HO4 := Lib.hid (U.one_length c)
        have HF1 := Lib.hid (show rules_special.f c = some true by rw [special_spb, hs])
        have HF2 := Lib.hid (show utext_Sign.f c = some true by rw [Sign_isS, hS])
        clear hk hs hS
        go_wp2_with (first
          | (go_at_call 73; refine (rules_special.calls c true _ HF1.out).mono ?_; rintro e w1 ⟨rfl, ⟨n1, rfl⟩⟩; have HI1 := Lib.hid (builder_below HI.out (below_drawn wr n1)); have HB1 := Lib.hid (HB.out.trans ((below_drawn wr n1).mono HSZ.out)))
          | (go_at_call 74; refine (Tryd.Builder_WriteByte w.heap.size w.heap.size (u8s (txt (l.take i))) 92 _ HI1.out (by have := HLT.out; omega) HB1.out.size).mono ?_; rintro e w2 ⟨rfl, hb2, hB2⟩; have HI2 := Lib.hid (show Lib.IsBuilder 103 5 w.heap.size w.heap.size (u8s (txt (l.take i) ++ [92])) w2 from by rw [u8s_app]; exact Or.inr hb2); have HB2 := Lib.hid (HB1.out.trans hB2); clear hb2 hB2)
          | (go_at_call 40; refine (utext_Sign.calls c true _ HF2.out).mono ?_; rintro e w3 ⟨rfl, ⟨n3, rfl⟩⟩; have HI3 := Lib.hid (builder_below HI2.out (below_drawn w2 n3)); have HB3 := Lib.hid (HB2.out.trans ((below_drawn w2 n3).mono HB2.out.size)))
          | (go_at_call 41; refine (utext_Put.calls k _ 1 [c] (strOfNums (U.one c)) _ (C_one _ _ c rfl) (Nat.le_refl _) HK.out).mono ?_; rintro e w4 ⟨rfl, hB4⟩; have HI4 := Lib.hid (builder_below (builder_below HI3.out ((Below.refl _ _).alloc (Nat.le_refl _) (.cells #[.int .i64 c] 3))) hB4); have HB4 := Lib.hid ((HB3.out.alloc HB3.out.size (.cells #[.int .i64 c] 3)).trans (hB4.mono (HB3.out.alloc HB3.out.size (.cells #[.int .i64 c] 3)).size)); clear hB4)
          | (go_at_call 75; refine (Tryd.Builder_WriteString w.heap.size w.heap.size (u8s (txt (l.take i) ++ [92])) (strOfNums (U.one c)) _ HI4.out (by rw [strOfNums_size, u8s_app]; have := HLT.out; have := HO4.out; simp [u8s]; simp [u8s] at *; omega) HB4.out.size).mono ?_; rintro e w5 ⟨rfl, hb5, hB5⟩; have HI5 := Lib.hid (show Lib.IsBuilder 103 5 w.heap.size w.heap.size (u8s (txt (l.take (i + 1)))) w5 from by rw [HTK.out, HT1.out, ← List.append_assoc, u8s_app, ← u8s_str _ HO.out]; exact Or.inr hb5); have HB5 := Lib.hid (HB4.out.trans hB5); clear hb5 hB5))
        go_roundw
        case rel => exact ⟨i + 1, by omega, by go_num, HI5, HB5⟩
        case measure => simp [intOf]; omega
      · by_cases hS : U.isS c = true
        · obtain ⟨k, hk⟩ := put_one c hS
          have HK := Lib.hid hk
          have HT1 := Lib.hid (show txt1 c = U.one c by unfold txt1; rw [if_neg hs, if_pos hS]; rfl)
          have HO := Lib.hid (U.one_byte c hS)
          have HO4 := Lib.hid (U.one_length c)
          have HF1 := Lib.hid (show rules_special.f c = some false by rw [special_spb]; simpa using hs)
          have HF2 := Lib.hid (show utext_Sign.f c = some true by rw [Sign_isS, hS])
          clear hk hs hS
          go_wp2_with (first
            | (go_at_call 73; refine (rules_special.calls c false _ HF1.out).mono ?_; rintro e w1 ⟨rfl, ⟨n1, rfl⟩⟩; have HI1 := Lib.hid (builder_below HI.out (below_drawn wr n1)); have HB1 := Lib.hid (HB.out.trans ((below_drawn wr n1).mono HSZ.out)))
            | (go_at_call 40; refine (utext_Sign.calls c true _ HF2.out).mono ?_; rintro e w3 ⟨rfl, hD3⟩; have HI3 := Lib.hid (builder_below HI1.out hD3.below); have HB3 := Lib.hid (HB1.out.trans (hD3.below.mono HB1.out.size)); clear hD3)
            | (go_at_call 41; refine (utext_Put.calls k _ 1 [c] (strOfNums (U.one c)) _ (C_one _ _ c rfl) (Nat.le_refl _) HK.out).mono ?_; rintro e w4 ⟨rfl, hB4⟩; have HI4 := Lib.hid (builder_below (builder_below HI3.out ((Below.refl _ _).alloc (Nat.le_refl _) (.cells #[.int .i64 c] 3))) hB4); have HB4 := Lib.hid ((HB3.out.alloc HB3.out.size (.cells #[.int .i64 c] 3)).trans (hB4.mono (HB3.out.alloc HB3.out.size (.cells #[.int .i64 c] 3)).size)); clear hB4)
            | (go_at_call 75; refine (Tryd.Builder_WriteString w.heap.size w.heap.size (u8s (txt (l.take i))) (strOfNums (U.one c)) _ HI4.out (by rw [strOfNums_size]; have := HLT.out; have := HO4.out; omega) HB4.out.size).mono ?_; rintro e w5 ⟨rfl, hb5, hB5⟩; have HI5 := Lib.hid (show Lib.IsBuilder 103 5 w.heap.size w.heap.size (u8s (txt (l.take (i + 1)))) w5 from by rw [HTK.out, HT1.out, u8s_app, ← u8s_str _ HO.out]; exact Or.inr hb5); have HB5 := Lib.hid (HB4.out.trans hB5); clear hb5 hB5))
          go_roundw
          case rel => exact ⟨i + 1, by omega, by go_num, HI5, HB5⟩
          case measure => simp [intOf]; omega
        · have HT1 := Lib.hid (show txt1 c = [] by unfold txt1; rw [if_neg hs, if_neg hS]; rfl)
          have HF1 := Lib.hid (show rules_special.f c = some false by rw [special_spb]; simpa using hs)
          have HF2 := Lib.hid (show utext_Sign.f c = some false by rw [Sign_isS]; simpa using hS)
          clear hs hS
          go_wp2_with (first
            | (go_at_call 73; refine (rules_special.calls c false _ HF1.out).mono ?_; rintro e w1 ⟨rfl, ⟨n1, rfl⟩⟩; have HI1 := Lib.hid (builder_below HI.out (below_drawn wr n1)); have HB1 := Lib.hid (HB.out.trans ((below_drawn wr n1).mono HSZ.out)))
            | (go_at_call 40; refine (utext_Sign.calls c false _ HF2.out).mono ?_; rintro e w3 ⟨rfl, hD3⟩; have HI3 := Lib.hid (show Lib.IsBuilder 103 5 w.heap.size w.heap.size (u8s (txt (l.take (i + 1)))) w3 from by rw [HTK.out, HT1.out, List.append_nil]; exact builder_below HI1.out hD3.below); have HB3 := Lib.hid (HB1.out.trans (hD3.below.mono HB1.out.size)); clear hD3))
          go_roundw
          case rel => exact ⟨i + 1, by omega, by go_num, HI3, HB3⟩
          case measure => simp [intOf]; omega
    · obtain rfl : i = l.length := by omega
      rw [List.take_length] at HI
      have HS := Lib.hid (show (⟨((txt l).map fun n => UInt8.ofNat n.toNat).toArray⟩ : ByteArray) = strOfNums (txt l) from rfl)
      have HU := Lib.hid (u8s_bytes (txt l) (U.txt_byt l))
      go_wp2_with (go_at_call 76; refine (Tryd.Builder_String_any w.heap.size w.heap.size ((txt l).map fun n => UInt8.ofNat n.toNat) _ (by rw [HU.out]; exact HI.out) HB.out.size).mono ?_; rintro e w6 ⟨rfl, hB6⟩; rw [HS.out]; have HB6 := Lib.hid (HB.out.trans hB6); clear hB6)
      go_ret
      exact ⟨rfl, HB6.out⟩
end Go.Proofs.YtjcgjchdelipcaaDoor.R
