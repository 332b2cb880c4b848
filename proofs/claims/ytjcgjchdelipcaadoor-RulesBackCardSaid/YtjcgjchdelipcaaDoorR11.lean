-- Written by this session's program wip/gp/gprint.py round the kit's printer. Not trusted: Lean checks it.
import Derived.Test.YtjcgjchdelipcaaDoorR0
import Derived.Test.YtjcgjchdelipcaaDoorR6
import Derived.Test.YtjcgjchdelipcaaDoorR10
namespace Go.Proofs.YtjcgjchdelipcaaDoor.R
open Go.RowKit Go.Proofs.YtjcgjchdelipcaaDoorW.PrintWords Go.Proofs.YtjcgjchdelipcaaDoorW.PrintLast Go.Proofs.YtjcgjchdelipcaaDoorW.PrintMore
attribute [local go_sem] max2_int min2_int max_two min_two max_three min_three max_four min_four   -- for this text's walks alone
set_option linter.unusedVariables false
set_option linter.unusedSimpArgs false

/-! ### umlautref5_word: function 62 -/
def umlautref5_word.l0 : Nat → List Int → ByteArray → Int → Option (ByteArray)
  | 0, _, _, _ => none
  | k + 1, x0, x3, x4 => if x4 < (x0.length : Int) then (if 0 ≤ x4 then ((umlautref5_special.f (rd x0 x4)).bind fun t342 => (if t342 = true then (if x3.size + 1 ≤ 9223372036854775807 then ((umlautref1_One.f (rd x0 x4)).bind fun t344 => (if (x3 ++ (⟨#[92]⟩ : ByteArray)).size + t344.size ≤ 9223372036854775807 then (umlautref5_word.l0 k x0 ((x3 ++ (⟨#[92]⟩ : ByteArray)) ++ t344) (wrap64 (x4 + 1))) else (none))) else (none)) else (if (rd x0 x4) = 92 then (if x3.size + 1 ≤ 9223372036854775807 then ((umlautref1_One.f (rd x0 x4)).bind fun t347 => (if (x3 ++ (⟨#[92]⟩ : ByteArray)).size + t347.size ≤ 9223372036854775807 then (umlautref5_word.l0 k x0 ((x3 ++ (⟨#[92]⟩ : ByteArray)) ++ t347) (wrap64 (x4 + 1))) else (none))) else (none)) else ((umlautref1_One.f (rd x0 x4)).bind fun t349 => (if x3.size + t349.size ≤ 9223372036854775807 then (umlautref5_word.l0 k x0 (x3 ++ t349) (wrap64 (x4 + 1))) else (none)))))) else (none)) else (some x3)
def umlautref5_word.f (k : Nat) (l0 : List Int) : Option (ByteArray) := umlautref5_word.l0 k l0 (⟨#[]⟩ : ByteArray) 0
theorem umlautref5_word.mono_l : ∀ k, (∀ y0 y1 y2, LeO (umlautref5_word.l0 k y0 y1 y2) (umlautref5_word.l0 (k + 1) y0 y1 y2))
  | 0 => fun _ _ _ r h => by simp [umlautref5_word.l0] at h
  | k + 1 => by
    have ih0 := umlautref5_word.mono_l k
    · intro y0 y1 y2
      unfold umlautref5_word.l0
      repeat' first
      | (with_reducible exact ih0 _ _ _)
      | (with_reducible exact LeO.refl _)
      | (with_reducible exact LeO.none _)
      | (with_reducible refine LeO.ite ?_ ?_)
      | (with_reducible refine LeO.bind ?_ (fun _ => ?_))
      | exact ih0 _ _ _
      | exact LeO.none _
      | refine LeO.ite ?_ ?_
      | refine LeO.bind ?_ (fun _ => ?_)
theorem umlautref5_word.mono : ∀ a0 k, LeO (umlautref5_word.f k a0) (umlautref5_word.f (k + 1) a0) := by
  intro a0 k
  have ih0 := umlautref5_word.mono_l k
  unfold umlautref5_word.f
  repeat' first
      | (with_reducible exact ih0 _ _ _)
      | (with_reducible exact LeO.refl _)
      | (with_reducible exact LeO.none _)
      | (with_reducible refine LeO.ite ?_ ?_)
      | (with_reducible refine LeO.bind ?_ (fun _ => ?_))
      | exact ih0 _ _ _
      | exact LeO.none _
      | refine LeO.ite ?_ ?_
      | refine LeO.bind ?_ (fun _ => ?_)
set_option maxHeartbeats 8000000 in
set_option maxRecDepth 100000 in
theorem umlautref5_word.calls (k : Nat) (A0 : Option Addr) (c0 : Nat) (l0 : List Int) (r : ByteArray) (w : World) (hr0 : Kd.C (Kd.int .i64) w A0 l0.length l0) (hc0 : l0.length ≤ c0) (h : umlautref5_word.f k l0 = some r) :
    Calls Tryd.prog 62 #[.slice A0 l0.length c0] w fun e w' => e = .returned (.string r) ∧ Below w.heap.size w w' := by
  have HR0 := Aside0.mk hr0
  have HC0 := Aside0.mk hc0
  clear hr0 hc0
  have HB := Aside0.mk (Below.refl w.heap.size w)
  have H : (umlautref5_word.l0 k l0 (⟨#[]⟩ : ByteArray) 0) = some r := h
  clear h
  have H' := Aside0.mk H
  clear H
  go_enter Tryd.func62, Tryd.ntmps62
  go_wp2
  go_loopg [3, 4] k (fun kq v3 v4 w' => ∃ (x3_1 : ByteArray) (x4_1 : Int), v3 = .string x3_1 ∧ v4 = .int .i64 x4_1 ∧ Aside0 (umlautref5_word.l0 kq l0 x3_1 x4_1 = some r) ∧ Aside0 (kq ≤ k) ∧ Aside0 (Below w.heap.size w w'))
  case atStart => exact ⟨((⟨#[]⟩ : ByteArray)), (0), (by first | rfl | (simp; done) | (simp [*]; done)), (by first | rfl | (simp; done) | (simp [*]; done)), H', ⟨Nat.le_refl _⟩, ⟨by repeat (first | (with_reducible first | exact HB.out | apply below_alloc | apply pw_below_drewN | apply below_drew1) | exact HB.out)⟩⟩
  case round =>
    clear H'
    obtain ⟨x3_1, x4_1, rfl, rfl, HA, HK1, HB⟩ := hrel
    cases gk with
    | zero => exact absurd HA.out (by simp [umlautref5_word.l0])
    | succ k1 =>
      have H := HA.out
      clear HA
      simp only [umlautref5_word.l0] at H
      by_cases c2 : x4_1 < (l0.length : Int)
      · rw [if_pos c2] at H
        have c2b0 : decide (x4_1 < (l0.length : Int)) = true := decide_eq_true c2
        clear c2
        by_cases c3 : 0 ≤ x4_1
        · rw [if_pos c3] at H
          have c3b0 : decide (0 ≤ x4_1) = true := decide_eq_true c3
          clear c3
          replace H := Option.bind_eq_some_iff.mp H
          obtain ⟨t342, A40, H⟩ := H
          replace H : (if t342 = true then (if x3_1.size + 1 ≤ 9223372036854775807 then ((umlautref1_One.f (rd l0 x4_1)).bind fun t344 => (if (x3_1 ++ (⟨#[92]⟩ : ByteArray)).size + t344.size ≤ 9223372036854775807 then (umlautref5_word.l0 k1 l0 ((x3_1 ++ (⟨#[92]⟩ : ByteArray)) ++ t344) (wrap64 (x4_1 + 1))) else (none))) else (none)) else (if (rd l0 x4_1) = 92 then (if x3_1.size + 1 ≤ 9223372036854775807 then ((umlautref1_One.f (rd l0 x4_1)).bind fun t347 => (if (x3_1 ++ (⟨#[92]⟩ : ByteArray)).size + t347.size ≤ 9223372036854775807 then (umlautref5_word.l0 k1 l0 ((x3_1 ++ (⟨#[92]⟩ : ByteArray)) ++ t347) (wrap64 (x4_1 + 1))) else (none))) else (none)) else ((umlautref1_One.f (rd l0 x4_1)).bind fun t349 => (if x3_1.size + t349.size ≤ 9223372036854775807 then (umlautref5_word.l0 k1 l0 (x3_1 ++ t349) (wrap64 (x4_1 + 1))) else (none))))) = some r := H
          have A4 := Aside0.mk A40
          clear A40
          by_cases c5 : t342 = true
          · subst c5
            have H1 : (if x3_1.size + 1 ≤ 9223372036854775807 then ((umlautref1_One.f (rd l0 x4_1)).bind fun t344 => (if (x3_1 ++ (⟨#[92]⟩ : ByteArray)).size + t344.size ≤ 9223372036854775807 then (umlautref5_word.l0 k1 l0 ((x3_1 ++ (⟨#[92]⟩ : ByteArray)) ++ t344) (wrap64 (x4_1 + 1))) else (none))) else (none)) = some r := by rw [if_pos rfl] at H; exact H
            clear H
            have H := H1
            clear H1
            by_cases c6 : x3_1.size + 1 ≤ 9223372036854775807
            · rw [if_pos c6] at H
              have c6b0 := eq_true c6
              have c6b1 : decide (x3_1.size + 1 ≤ 9223372036854775807) = true := decide_eq_true c6
              try have c6b2 : (9223372036854775807 < x3_1.size + 1) = False := eq_false (Nat.not_lt.2 c6)
              replace H := Option.bind_eq_some_iff.mp H
              obtain ⟨t344, A70, H⟩ := H
              replace H : (if (x3_1 ++ (⟨#[92]⟩ : ByteArray)).size + t344.size ≤ 9223372036854775807 then (umlautref5_word.l0 k1 l0 ((x3_1 ++ (⟨#[92]⟩ : ByteArray)) ++ t344) (wrap64 (x4_1 + 1))) else (none)) = some r := H
              have A7 := Aside0.mk A70
              clear A70
              by_cases c8 : (x3_1 ++ (⟨#[92]⟩ : ByteArray)).size + t344.size ≤ 9223372036854775807
              · rw [if_pos c8] at H
                have c8b0 := eq_true c8
                have c8b1 : decide ((x3_1 ++ (⟨#[92]⟩ : ByteArray)).size + t344.size ≤ 9223372036854775807) = true := decide_eq_true c8
                try have c8b2 : (9223372036854775807 < (x3_1 ++ (⟨#[92]⟩ : ByteArray)).size + t344.size) = False := eq_false (Nat.not_lt.2 c8)
                have c8b9 := c8b2
                try simp only [ByteArray.size_append, show (⟨#[92]⟩ : ByteArray).size = 1 from rfl, show (⟨#[32]⟩ : ByteArray).size = 1 from rfl, show (⟨#[32, 47, 32]⟩ : ByteArray).size = 3 from rfl] at c8b9
                have H' := Aside0.mk H
                clear H
                have p341 : 0 ≤ (x4_1 : Int) := of_decide_eq_true (by first | (with_reducible assumption) | assumption)
                have q341 : x4_1 < (l0.length : Int) := of_decide_eq_true (by first | (with_reducible assumption) | assumption)
                obtain ⟨ad341, e341, hx341_0⟩ := Kd.at_int HR0.out x4_1 p341 q341
                cases e341
                replace hx341_0 := (HB.out.cell (World.block_lt_of_cell? w _ hx341_0)).trans hx341_0
                replace p341 := eq_true p341
                replace q341 := eq_true q341
                go_wp2_with (first | ((with_reducible refine gate_callee (f := 70) rfl ?_); refine goesL_ (some 15) rfl rfl Tryd.func70 (by kernel_rfl) rfl #[.int .i64 (rd l0 x4_1)] rfl (by (try simp only [List.map_toArray, List.map_cons, List.map_nil]); first | done | rfl | (simp only [List.length_drop, List.length_take]; rfl)) ?_; (with_reducible refine (umlautref5_special.calls (rd l0 x4_1) true _ A4.out).mono ?_); rintro e w' ⟨rfl, ⟨nd, rfl⟩⟩; refine ⟨_, rfl, ?_⟩; have p343 : 0 ≤ (x4_1 : Int) := of_decide_eq_true (by first | (with_reducible assumption) | assumption); have q343 : x4_1 < (l0.length : Int) := of_decide_eq_true (by first | (with_reducible assumption) | assumption); obtain ⟨ad343, e343, hx343_0⟩ := Kd.at_int HR0.out x4_1 p343 q343; obtain rfl : ad341 = ad343 := (by injection e343); replace hx343_0 := (HB.out.cell (World.block_lt_of_cell? w _ hx343_0)).trans hx343_0; replace p343 := eq_true p343; replace q343 := eq_true q343) | ((with_reducible refine gate_callee (f := 46) rfl ?_); refine goesL_ (some 30) rfl rfl Tryd.func46 (by kernel_rfl) rfl #[.int .i64 (rd l0 x4_1)] rfl (by (try simp only [List.map_toArray, List.map_cons, List.map_nil]); first | done | rfl | (simp only [List.length_drop, List.length_take]; rfl)) ?_; (with_reducible refine (umlautref1_One.calls (rd l0 x4_1) t344 _ A7.out).mono ?_); rintro e w9 ⟨rfl, hb⟩; refine ⟨_, rfl, ?_⟩; have n0_ := Aside0.mk (below_step (by repeat (first | (with_reducible first | exact HB.out | apply below_alloc | apply pw_below_drewN | apply below_drew1) | exact HB.out)) hb); clear HB; have HB := n0_; clear n0_; (try clear hb); (try clear hb2); (try clear hk); (try clear hi)))
                go_roundg k1
                case measure => have := HK1.out; omega
                case rel => exact ⟨((x3_1 ++ (⟨#[92]⟩ : ByteArray)) ++ t344), (wrap64 (x4_1 + 1)), (by first | rfl | (simp; done) | (simp [*]; done)), (by first | rfl | (simp; done) | (simp [*]; done)), H', ⟨by have := HK1.out; omega⟩, ⟨by repeat (first | (with_reducible first | exact HB.out | apply below_alloc | apply pw_below_drewN | apply below_drew1) | exact HB.out)⟩⟩
              · rw [if_neg c8] at H
                exact absurd H (by simp)
            · rw [if_neg c6] at H
              exact absurd H (by simp)
          · replace c5 := Bool.eq_false_iff.mpr c5
            subst c5
            have H1 : (if (rd l0 x4_1) = 92 then (if x3_1.size + 1 ≤ 9223372036854775807 then ((umlautref1_One.f (rd l0 x4_1)).bind fun t347 => (if (x3_1 ++ (⟨#[92]⟩ : ByteArray)).size + t347.size ≤ 9223372036854775807 then (umlautref5_word.l0 k1 l0 ((x3_1 ++ (⟨#[92]⟩ : ByteArray)) ++ t347) (wrap64 (x4_1 + 1))) else (none))) else (none)) else ((umlautref1_One.f (rd l0 x4_1)).bind fun t349 => (if x3_1.size + t349.size ≤ 9223372036854775807 then (umlautref5_word.l0 k1 l0 (x3_1 ++ t349) (wrap64 (x4_1 + 1))) else (none)))) = some r := by rw [if_neg (show ¬ (false = true) by decide)] at H; exact H
            clear H
            have H := H1
            clear H1
            by_cases c10 : (rd l0 x4_1) = 92
            · rw [if_pos c10] at H
              have c10b0 : ((rd l0 x4_1) == 92) = true := beq_iff_eq.mpr c10
              have c10b1 : ((rd l0 x4_1) != 92) = false := bne_eq_false_iff_eq.mpr c10
              clear c10
              by_cases c11 : x3_1.size + 1 ≤ 9223372036854775807
              · rw [if_pos c11] at H
                have c11b0 := eq_true c11
                have c11b1 : decide (x3_1.size + 1 ≤ 9223372036854775807) = true := decide_eq_true c11
                try have c11b2 : (9223372036854775807 < x3_1.size + 1) = False := eq_false (Nat.not_lt.2 c11)
                replace H := Option.bind_eq_some_iff.mp H
                obtain ⟨t347, A120, H⟩ := H
                replace H : (if (x3_1 ++ (⟨#[92]⟩ : ByteArray)).size + t347.size ≤ 9223372036854775807 then (umlautref5_word.l0 k1 l0 ((x3_1 ++ (⟨#[92]⟩ : ByteArray)) ++ t347) (wrap64 (x4_1 + 1))) else (none)) = some r := H
                have A12 := Aside0.mk A120
                clear A120
                by_cases c13 : (x3_1 ++ (⟨#[92]⟩ : ByteArray)).size + t347.size ≤ 9223372036854775807
                · rw [if_pos c13] at H
                  have c13b0 := eq_true c13
                  have c13b1 : decide ((x3_1 ++ (⟨#[92]⟩ : ByteArray)).size + t347.size ≤ 9223372036854775807) = true := decide_eq_true c13
                  try have c13b2 : (9223372036854775807 < (x3_1 ++ (⟨#[92]⟩ : ByteArray)).size + t347.size) = False := eq_false (Nat.not_lt.2 c13)
                  have c13b9 := c13b2
                  try simp only [ByteArray.size_append, show (⟨#[92]⟩ : ByteArray).size = 1 from rfl, show (⟨#[32]⟩ : ByteArray).size = 1 from rfl, show (⟨#[32, 47, 32]⟩ : ByteArray).size = 3 from rfl] at c13b9
                  have H' := Aside0.mk H
                  clear H
                  have p341 : 0 ≤ (x4_1 : Int) := of_decide_eq_true (by first | (with_reducible assumption) | assumption)
                  have q341 : x4_1 < (l0.length : Int) := of_decide_eq_true (by first | (with_reducible assumption) | assumption)
                  obtain ⟨ad341, e341, hx341_0⟩ := Kd.at_int HR0.out x4_1 p341 q341
                  cases e341
                  replace hx341_0 := (HB.out.cell (World.block_lt_of_cell? w _ hx341_0)).trans hx341_0
                  replace p341 := eq_true p341
                  replace q341 := eq_true q341
                  go_wp2_with (first | ((with_reducible refine gate_callee (f := 70) rfl ?_); refine goesL_ (some 15) rfl rfl Tryd.func70 (by kernel_rfl) rfl #[.int .i64 (rd l0 x4_1)] rfl (by (try simp only [List.map_toArray, List.map_cons, List.map_nil]); first | done | rfl | (simp only [List.length_drop, List.length_take]; rfl)) ?_; (with_reducible refine (umlautref5_special.calls (rd l0 x4_1) false _ A4.out).mono ?_); rintro e w' ⟨rfl, ⟨nd, rfl⟩⟩; refine ⟨_, rfl, ?_⟩; have p345 : 0 ≤ (x4_1 : Int) := of_decide_eq_true (by first | (with_reducible assumption) | assumption); have q345 : x4_1 < (l0.length : Int) := of_decide_eq_true (by first | (with_reducible assumption) | assumption); obtain ⟨ad345, e345, hx345_0⟩ := Kd.at_int HR0.out x4_1 p345 q345; obtain rfl : ad341 = ad345 := (by injection e345); replace hx345_0 := (HB.out.cell (World.block_lt_of_cell? w _ hx345_0)).trans hx345_0; replace p345 := eq_true p345; replace q345 := eq_true q345; have p346 : 0 ≤ (x4_1 : Int) := of_decide_eq_true (by first | (with_reducible assumption) | assumption); have q346 : x4_1 < (l0.length : Int) := of_decide_eq_true (by first | (with_reducible assumption) | assumption); obtain ⟨ad346, e346, hx346_0⟩ := Kd.at_int HR0.out x4_1 p346 q346; obtain rfl : ad341 = ad346 := (by injection e346); replace hx346_0 := (HB.out.cell (World.block_lt_of_cell? w _ hx346_0)).trans hx346_0; replace p346 := eq_true p346; replace q346 := eq_true q346) | ((with_reducible refine gate_callee (f := 46) rfl ?_); refine goesL_ (some 30) rfl rfl Tryd.func46 (by kernel_rfl) rfl #[.int .i64 (rd l0 x4_1)] rfl (by (try simp only [List.map_toArray, List.map_cons, List.map_nil]); first | done | rfl | (simp only [List.length_drop, List.length_take]; rfl)) ?_; (with_reducible refine (umlautref1_One.calls (rd l0 x4_1) t347 _ A12.out).mono ?_); rintro e w14 ⟨rfl, hb⟩; refine ⟨_, rfl, ?_⟩; have n0_ := Aside0.mk (below_step (by repeat (first | (with_reducible first | exact HB.out | apply below_alloc | apply pw_below_drewN | apply below_drew1) | exact HB.out)) hb); clear HB; have HB := n0_; clear n0_; (try clear hb); (try clear hb2); (try clear hk); (try clear hi)))
                  go_roundg k1
                  case measure => have := HK1.out; omega
                  case rel => exact ⟨((x3_1 ++ (⟨#[92]⟩ : ByteArray)) ++ t347), (wrap64 (x4_1 + 1)), (by first | rfl | (simp; done) | (simp [*]; done)), (by first | rfl | (simp; done) | (simp [*]; done)), H', ⟨by have := HK1.out; omega⟩, ⟨by repeat (first | (with_reducible first | exact HB.out | apply below_alloc | apply pw_below_drewN | apply below_drew1) | exact HB.out)⟩⟩
                · rw [if_neg c13] at H
                  exact absurd H (by simp)
              · rw [if_neg c11] at H
                exact absurd H (by simp)
            · rw [if_neg c10] at H
              have c10b0 : ((rd l0 x4_1) == 92) = false := beq_eq_false_iff_ne.mpr c10
              have c10b1 : ((rd l0 x4_1) != 92) = true := bne_iff_ne.mpr c10
              replace H := Option.bind_eq_some_iff.mp H
              obtain ⟨t349, A150, H⟩ := H
              replace H : (if x3_1.size + t349.size ≤ 9223372036854775807 then (umlautref5_word.l0 k1 l0 (x3_1 ++ t349) (wrap64 (x4_1 + 1))) else (none)) = some r := H
              have A15 := Aside0.mk A150
              clear A150
              by_cases c16 : x3_1.size + t349.size ≤ 9223372036854775807
              · rw [if_pos c16] at H
                have c16b0 := eq_true c16
                have c16b1 : decide (x3_1.size + t349.size ≤ 9223372036854775807) = true := decide_eq_true c16
                try have c16b2 : (9223372036854775807 < x3_1.size + t349.size) = False := eq_false (Nat.not_lt.2 c16)
                have H' := Aside0.mk H
                clear H
                have p341 : 0 ≤ (x4_1 : Int) := of_decide_eq_true (by first | (with_reducible assumption) | assumption)
                have q341 : x4_1 < (l0.length : Int) := of_decide_eq_true (by first | (with_reducible assumption) | assumption)
                obtain ⟨ad341, e341, hx341_0⟩ := Kd.at_int HR0.out x4_1 p341 q341
                cases e341
                replace hx341_0 := (HB.out.cell (World.block_lt_of_cell? w _ hx341_0)).trans hx341_0
                replace p341 := eq_true p341
                replace q341 := eq_true q341
                go_wp2_with (first | ((with_reducible refine gate_callee (f := 70) rfl ?_); refine goesL_ (some 15) rfl rfl Tryd.func70 (by kernel_rfl) rfl #[.int .i64 (rd l0 x4_1)] rfl (by (try simp only [List.map_toArray, List.map_cons, List.map_nil]); first | done | rfl | (simp only [List.length_drop, List.length_take]; rfl)) ?_; (with_reducible refine (umlautref5_special.calls (rd l0 x4_1) false _ A4.out).mono ?_); rintro e w' ⟨rfl, ⟨nd, rfl⟩⟩; refine ⟨_, rfl, ?_⟩; have p345 : 0 ≤ (x4_1 : Int) := of_decide_eq_true (by first | (with_reducible assumption) | assumption); have q345 : x4_1 < (l0.length : Int) := of_decide_eq_true (by first | (with_reducible assumption) | assumption); obtain ⟨ad345, e345, hx345_0⟩ := Kd.at_int HR0.out x4_1 p345 q345; obtain rfl : ad341 = ad345 := (by injection e345); replace hx345_0 := (HB.out.cell (World.block_lt_of_cell? w _ hx345_0)).trans hx345_0; replace p345 := eq_true p345; replace q345 := eq_true q345; have p348 : 0 ≤ (x4_1 : Int) := of_decide_eq_true (by first | (with_reducible assumption) | assumption); have q348 : x4_1 < (l0.length : Int) := of_decide_eq_true (by first | (with_reducible assumption) | assumption); obtain ⟨ad348, e348, hx348_0⟩ := Kd.at_int HR0.out x4_1 p348 q348; obtain rfl : ad341 = ad348 := (by injection e348); replace hx348_0 := (HB.out.cell (World.block_lt_of_cell? w _ hx348_0)).trans hx348_0; replace p348 := eq_true p348; replace q348 := eq_true q348) | ((with_reducible refine gate_callee (f := 46) rfl ?_); refine goesL_ (some 30) rfl rfl Tryd.func46 (by kernel_rfl) rfl #[.int .i64 (rd l0 x4_1)] rfl (by (try simp only [List.map_toArray, List.map_cons, List.map_nil]); first | done | rfl | (simp only [List.length_drop, List.length_take]; rfl)) ?_; (with_reducible refine (umlautref1_One.calls (rd l0 x4_1) t349 _ A15.out).mono ?_); rintro e w17 ⟨rfl, hb⟩; refine ⟨_, rfl, ?_⟩; have n0_ := Aside0.mk (below_step (by repeat (first | (with_reducible first | exact HB.out | apply below_alloc | apply pw_below_drewN | apply below_drew1) | exact HB.out)) hb); clear HB; have HB := n0_; clear n0_; (try clear hb); (try clear hb2); (try clear hk); (try clear hi)))
                go_roundg k1
                case measure => have := HK1.out; omega
                case rel => exact ⟨(x3_1 ++ t349), (wrap64 (x4_1 + 1)), (by first | rfl | (simp; done) | (simp [*]; done)), (by first | rfl | (simp; done) | (simp [*]; done)), H', ⟨by have := HK1.out; omega⟩, ⟨by repeat (first | (with_reducible first | exact HB.out | apply below_alloc | apply pw_below_drewN | apply below_drew1) | exact HB.out)⟩⟩
              · rw [if_neg c16] at H
                exact absurd H (by simp)
        · rw [if_neg c3] at H
          exact absurd H (by simp)
      · rw [if_neg c2] at H
        have c2b0 : decide (x4_1 < (l0.length : Int)) = false := decide_eq_false c2
        clear c2
        obtain rfl := Option.some.inj H
        go_wp2
        go_ret
        exact ⟨by first | rfl | (simp [errW_none, errW_some] <;> rfl) | (simp [*, errW_none, errW_some] <;> rfl), by repeat (first | (with_reducible first | exact HB.out | apply below_alloc | apply pw_below_drewN | apply below_drew1) | exact HB.out)⟩

end Go.Proofs.YtjcgjchdelipcaaDoor.R
