-- Written by this session's program wip/gp/gprint.py round the kit's printer. Not trusted: Lean checks it.
import Derived.Test.YtjcgjchdelipcaaDoorR0
import Derived.Test.YtjcgjchdelipcaaDoorR4
namespace Go.Proofs.YtjcgjchdelipcaaDoor.R
open Go.RowKit Go.Proofs.YtjcgjchdelipcaaDoorW.PrintWords Go.Proofs.YtjcgjchdelipcaaDoorW.PrintLast Go.Proofs.YtjcgjchdelipcaaDoorW.PrintMore
attribute [local go_sem] max2_int min2_int max_two min_two max_three min_three max_four min_four   -- for this text's walks alone
set_option linter.unusedVariables false
set_option linter.unusedSimpArgs false

/-! ### umlautref1_Sign: function 48 -/
mutual
def umlautref1_Sign.j0 : Nat → ByteArray → Int → Int → Bool → Option (Int × Int)
 | 0, _, _, _, _ => none
 | k + 1, x0, x4, x5, x19 => if x19 = true then (if (x0.size : Int) > 1 then (if 1 < (x0.size : Int) then ((umlautref1_tail.f (bt x0 1)).bind fun t233 => (if t233 = true then (some (wrap64 ((wrap64 ((wrap64 ((wrap64 (x5 - 192)) * 64)) + (wrap64 (bt x0 1)))) - 128), 2)) else (some (x4, 1)))) else (none)) else (some (x4, 1))) else (if x5 ≥ 224 then (umlautref1_Sign.j1 k x0 x4 x5 (decide (x5 ≤ 239))) else (umlautref1_Sign.j1 k x0 x4 x5 false))
def umlautref1_Sign.j1 : Nat → ByteArray → Int → Int → Bool → Option (Int × Int)
 | 0, _, _, _, _ => none
 | k + 1, x0, x4, x5, x42 => if x42 = true then (if (x0.size : Int) > 2 then (if 1 < (x0.size : Int) then ((umlautref1_tail.f (bt x0 1)).bind fun t234 => (if t234 = true then (if 2 < (x0.size : Int) then ((umlautref1_tail.f (bt x0 2)).bind fun t235 => (umlautref1_Sign.j2 k x0 x4 x5 t235)) else (none)) else (umlautref1_Sign.j2 k x0 x4 x5 false))) else (none)) else (umlautref1_Sign.j2 k x0 x4 x5 false)) else (if x5 ≥ 240 then (umlautref1_Sign.j3 k x0 x4 x5 (decide (x5 ≤ 244))) else (umlautref1_Sign.j3 k x0 x4 x5 false))
def umlautref1_Sign.j2 : Nat → ByteArray → Int → Int → Bool → Option (Int × Int)
 | 0, _, _, _, _ => none
 | k + 1, x0, x4, x5, x61 => if x61 = true then (if 1 < (x0.size : Int) then (if 2 < (x0.size : Int) then (if (wrap64 ((wrap64 ((wrap64 ((wrap64 ((wrap64 (x5 - 224)) * 4096)) + (wrap64 ((wrap64 ((wrap64 (bt x0 1)) - 128)) * 64)))) + (wrap64 (bt x0 2)))) - 128)) ≥ 2048 then (if (wrap64 ((wrap64 ((wrap64 ((wrap64 ((wrap64 (x5 - 224)) * 4096)) + (wrap64 ((wrap64 ((wrap64 (bt x0 1)) - 128)) * 64)))) + (wrap64 (bt x0 2)))) - 128)) < 55296 then (some (wrap64 ((wrap64 ((wrap64 ((wrap64 ((wrap64 (x5 - 224)) * 4096)) + (wrap64 ((wrap64 ((wrap64 (bt x0 1)) - 128)) * 64)))) + (wrap64 (bt x0 2)))) - 128), 3)) else (if (wrap64 ((wrap64 ((wrap64 ((wrap64 ((wrap64 (x5 - 224)) * 4096)) + (wrap64 ((wrap64 ((wrap64 (bt x0 1)) - 128)) * 64)))) + (wrap64 (bt x0 2)))) - 128)) > 57343 then (some (wrap64 ((wrap64 ((wrap64 ((wrap64 ((wrap64 (x5 - 224)) * 4096)) + (wrap64 ((wrap64 ((wrap64 (bt x0 1)) - 128)) * 64)))) + (wrap64 (bt x0 2)))) - 128), 3)) else (some (x4, 1)))) else (some (x4, 1))) else (none)) else (none)) else (some (x4, 1))
def umlautref1_Sign.j3 : Nat → ByteArray → Int → Int → Bool → Option (Int × Int)
 | 0, _, _, _, _ => none
 | k + 1, x0, x4, x5, x87 => if x87 = true then (if (x0.size : Int) > 3 then (if 1 < (x0.size : Int) then ((umlautref1_tail.f (bt x0 1)).bind fun t236 => (if t236 = true then (if 2 < (x0.size : Int) then ((umlautref1_tail.f (bt x0 2)).bind fun t237 => (if t237 = true then (if 3 < (x0.size : Int) then ((umlautref1_tail.f (bt x0 3)).bind fun t238 => (umlautref1_Sign.j4 k x0 x4 x5 t238)) else (none)) else (umlautref1_Sign.j4 k x0 x4 x5 false))) else (none)) else (umlautref1_Sign.j4 k x0 x4 x5 false))) else (none)) else (umlautref1_Sign.j4 k x0 x4 x5 false)) else (some (x4, 1))
def umlautref1_Sign.j4 : Nat → ByteArray → Int → Int → Bool → Option (Int × Int)
 | 0, _, _, _, _ => none
 | k + 1, x0, x4, x5, x111 => if x111 = true then (if 1 < (x0.size : Int) then (if 2 < (x0.size : Int) then (if 3 < (x0.size : Int) then (if (wrap64 ((wrap64 ((wrap64 ((wrap64 ((wrap64 ((wrap64 (x5 - 240)) * 262144)) + (wrap64 ((wrap64 ((wrap64 (bt x0 1)) - 128)) * 4096)))) + (wrap64 ((wrap64 ((wrap64 (bt x0 2)) - 128)) * 64)))) + (wrap64 (bt x0 3)))) - 128)) ≥ 65536 then (if (wrap64 ((wrap64 ((wrap64 ((wrap64 ((wrap64 ((wrap64 (x5 - 240)) * 262144)) + (wrap64 ((wrap64 ((wrap64 (bt x0 1)) - 128)) * 4096)))) + (wrap64 ((wrap64 ((wrap64 (bt x0 2)) - 128)) * 64)))) + (wrap64 (bt x0 3)))) - 128)) ≤ 1114111 then (some (wrap64 ((wrap64 ((wrap64 ((wrap64 ((wrap64 ((wrap64 (x5 - 240)) * 262144)) + (wrap64 ((wrap64 ((wrap64 (bt x0 1)) - 128)) * 4096)))) + (wrap64 ((wrap64 ((wrap64 (bt x0 2)) - 128)) * 64)))) + (wrap64 (bt x0 3)))) - 128), 4)) else (some (x4, 1))) else (some (x4, 1))) else (none)) else (none)) else (none)) else (some (x4, 1))
end
def umlautref1_Sign.f (k : Nat) (a0 : ByteArray) : Option (Int × Int) := if 0 < (a0.size : Int) then (if (wrap64 (bt a0 0)) < 128 then (some (wrap64 (bt a0 0), 1)) else (if (wrap64 (bt a0 0)) ≥ 194 then (umlautref1_Sign.j0 k a0 (wrap64 (1114112 + (wrap64 (bt a0 0)))) (wrap64 (bt a0 0)) (decide ((wrap64 (bt a0 0)) ≤ 223))) else (umlautref1_Sign.j0 k a0 (wrap64 (1114112 + (wrap64 (bt a0 0)))) (wrap64 (bt a0 0)) false))) else (none)
theorem umlautref1_Sign.mono_l : ∀ k, (∀ y0 y1 y2 y3, LeO (umlautref1_Sign.j0 k y0 y1 y2 y3) (umlautref1_Sign.j0 (k + 1) y0 y1 y2 y3)) ∧ (∀ y0 y1 y2 y3, LeO (umlautref1_Sign.j1 k y0 y1 y2 y3) (umlautref1_Sign.j1 (k + 1) y0 y1 y2 y3)) ∧ (∀ y0 y1 y2 y3, LeO (umlautref1_Sign.j2 k y0 y1 y2 y3) (umlautref1_Sign.j2 (k + 1) y0 y1 y2 y3)) ∧ (∀ y0 y1 y2 y3, LeO (umlautref1_Sign.j3 k y0 y1 y2 y3) (umlautref1_Sign.j3 (k + 1) y0 y1 y2 y3)) ∧ (∀ y0 y1 y2 y3, LeO (umlautref1_Sign.j4 k y0 y1 y2 y3) (umlautref1_Sign.j4 (k + 1) y0 y1 y2 y3))
 | 0 => ⟨fun _ _ _ _ r h => by simp [umlautref1_Sign.j0] at h, fun _ _ _ _ r h => by simp [umlautref1_Sign.j1] at h, fun _ _ _ _ r h => by simp [umlautref1_Sign.j2] at h, fun _ _ _ _ r h => by simp [umlautref1_Sign.j3] at h, fun _ _ _ _ r h => by simp [umlautref1_Sign.j4] at h⟩
 | k + 1 => by
  obtain ⟨ih0, ih1, ih2, ih3, ih4⟩ := umlautref1_Sign.mono_l k
  refine ⟨?_, ?_, ?_, ?_, ?_⟩
  ·intro y0 y1 y2 y3
   unfold umlautref1_Sign.j0
   repeat' first
   | (with_reducible exact ih0 _ _ _ _)
   | (with_reducible exact ih1 _ _ _ _)
   | (with_reducible exact ih2 _ _ _ _)
   | (with_reducible exact ih3 _ _ _ _)
   | (with_reducible exact ih4 _ _ _ _)
   | (with_reducible exact LeO.refl _)
   | (with_reducible exact LeO.none _)
   | (with_reducible refine LeO.ite ?_ ?_)
   | (with_reducible refine LeO.bind ?_ (fun _ => ?_))
   | exact ih0 _ _ _ _
   | exact ih1 _ _ _ _
   | exact ih2 _ _ _ _
   | exact ih3 _ _ _ _
   | exact ih4 _ _ _ _
   | exact LeO.none _
   | refine LeO.ite ?_ ?_
   | refine LeO.bind ?_ (fun _ => ?_)
  ·intro y0 y1 y2 y3
   unfold umlautref1_Sign.j1
   repeat' first
   | (with_reducible exact ih0 _ _ _ _)
   | (with_reducible exact ih1 _ _ _ _)
   | (with_reducible exact ih2 _ _ _ _)
   | (with_reducible exact ih3 _ _ _ _)
   | (with_reducible exact ih4 _ _ _ _)
   | (with_reducible exact LeO.refl _)
   | (with_reducible exact LeO.none _)
   | (with_reducible refine LeO.ite ?_ ?_)
   | (with_reducible refine LeO.bind ?_ (fun _ => ?_))
   | exact ih0 _ _ _ _
   | exact ih1 _ _ _ _
   | exact ih2 _ _ _ _
   | exact ih3 _ _ _ _
   | exact ih4 _ _ _ _
   | exact LeO.none _
   | refine LeO.ite ?_ ?_
   | refine LeO.bind ?_ (fun _ => ?_)
  ·intro y0 y1 y2 y3
   unfold umlautref1_Sign.j2
   repeat' first
   | (with_reducible exact ih0 _ _ _ _)
   | (with_reducible exact ih1 _ _ _ _)
   | (with_reducible exact ih2 _ _ _ _)
   | (with_reducible exact ih3 _ _ _ _)
   | (with_reducible exact ih4 _ _ _ _)
   | (with_reducible exact LeO.refl _)
   | (with_reducible exact LeO.none _)
   | (with_reducible refine LeO.ite ?_ ?_)
   | (with_reducible refine LeO.bind ?_ (fun _ => ?_))
   | exact ih0 _ _ _ _
   | exact ih1 _ _ _ _
   | exact ih2 _ _ _ _
   | exact ih3 _ _ _ _
   | exact ih4 _ _ _ _
   | exact LeO.none _
   | refine LeO.ite ?_ ?_
   | refine LeO.bind ?_ (fun _ => ?_)
  ·intro y0 y1 y2 y3
   unfold umlautref1_Sign.j3
   repeat' first
   | (with_reducible exact ih0 _ _ _ _)
   | (with_reducible exact ih1 _ _ _ _)
   | (with_reducible exact ih2 _ _ _ _)
   | (with_reducible exact ih3 _ _ _ _)
   | (with_reducible exact ih4 _ _ _ _)
   | (with_reducible exact LeO.refl _)
   | (with_reducible exact LeO.none _)
   | (with_reducible refine LeO.ite ?_ ?_)
   | (with_reducible refine LeO.bind ?_ (fun _ => ?_))
   | exact ih0 _ _ _ _
   | exact ih1 _ _ _ _
   | exact ih2 _ _ _ _
   | exact ih3 _ _ _ _
   | exact ih4 _ _ _ _
   | exact LeO.none _
   | refine LeO.ite ?_ ?_
   | refine LeO.bind ?_ (fun _ => ?_)
  ·intro y0 y1 y2 y3
   unfold umlautref1_Sign.j4
   repeat' first
   | (with_reducible exact ih0 _ _ _ _)
   | (with_reducible exact ih1 _ _ _ _)
   | (with_reducible exact ih2 _ _ _ _)
   | (with_reducible exact ih3 _ _ _ _)
   | (with_reducible exact ih4 _ _ _ _)
   | (with_reducible exact LeO.refl _)
   | (with_reducible exact LeO.none _)
   | (with_reducible refine LeO.ite ?_ ?_)
   | (with_reducible refine LeO.bind ?_ (fun _ => ?_))
   | exact ih0 _ _ _ _
   | exact ih1 _ _ _ _
   | exact ih2 _ _ _ _
   | exact ih3 _ _ _ _
   | exact ih4 _ _ _ _
   | exact LeO.none _
   | refine LeO.ite ?_ ?_
   | refine LeO.bind ?_ (fun _ => ?_)
theorem umlautref1_Sign.mono : ∀ a0 k, LeO (umlautref1_Sign.f k a0) (umlautref1_Sign.f (k + 1) a0) := by
 intro a0 k
 obtain ⟨ih0, ih1, ih2, ih3, ih4⟩ := umlautref1_Sign.mono_l k
 unfold umlautref1_Sign.f
 repeat' first
   | (with_reducible exact ih0 _ _ _ _)
   | (with_reducible exact ih1 _ _ _ _)
   | (with_reducible exact ih2 _ _ _ _)
   | (with_reducible exact ih3 _ _ _ _)
   | (with_reducible exact ih4 _ _ _ _)
   | (with_reducible exact LeO.refl _)
   | (with_reducible exact LeO.none _)
   | (with_reducible refine LeO.ite ?_ ?_)
   | (with_reducible refine LeO.bind ?_ (fun _ => ?_))
   | exact ih0 _ _ _ _
   | exact ih1 _ _ _ _
   | exact ih2 _ _ _ _
   | exact ih3 _ _ _ _
   | exact ih4 _ _ _ _
   | exact LeO.none _
   | refine LeO.ite ?_ ?_
   | refine LeO.bind ?_ (fun _ => ?_)
set_option maxHeartbeats 8000000 in
set_option maxRecDepth 100000 in
theorem umlautref1_Sign.calls (k : Nat) (a0 : ByteArray) (r1 : Int) (r2 : Int) (w : World) (h : umlautref1_Sign.f k a0 = some (r1, r2)) :
  Calls Tryd.prog 48 #[.string a0] w fun e w' => e = .returned (.tuple #[.int .i64 r1, .int .i64 r2]) ∧ Drawn0 w w' := by
 have H : (if 0 < (a0.size : Int) then (if (wrap64 (bt a0 0)) < 128 then (some (wrap64 (bt a0 0), 1)) else (if (wrap64 (bt a0 0)) ≥ 194 then (umlautref1_Sign.j0 k a0 (wrap64 (1114112 + (wrap64 (bt a0 0)))) (wrap64 (bt a0 0)) (decide ((wrap64 (bt a0 0)) ≤ 223))) else (umlautref1_Sign.j0 k a0 (wrap64 (1114112 + (wrap64 (bt a0 0)))) (wrap64 (bt a0 0)) false))) else (none)) = some (r1, r2) := h
 clear h
 by_cases c2 : 0 < (a0.size : Int)
 ·rw [if_pos c2] at H
  have c2b0 : decide (0 < (a0.size : Int)) = true := decide_eq_true c2
  have c2b1 : decide (0 < a0.size) = true := decide_eq_true (by omega)
  clear c2
  by_cases c5 : (wrap64 (bt a0 0)) < 128
  ·rw [if_pos c5] at H
   have c5b0 : decide ((wrap64 (bt a0 0)) < 128) = true := decide_eq_true c5
   clear c5
   simp only [Option.some.injEq, Prod.mk.injEq] at H
   obtain ⟨rfl, rfl⟩ := H
   have p3 : 0 ≤ (0 : Int) := (by omega)
   have q3 : 0 < a0.size := (by have : (0 : Int) < (a0.size : Int) := of_decide_eq_true (by first | (with_reducible assumption) | assumption); omega)
   have hx3 : ∀ h : 0 < a0.size, ((a0[0]'h).toNat : Int) = bt a0 0 := bt_at a0 0
   clear p3
   have qi3 : (0 < (a0.size : Int)) = True := eq_true (of_decide_eq_true (by first | (with_reducible assumption) | assumption))
   replace q3 := eq_true q3
   have p4 : 0 ≤ (0 : Int) := (by omega)
   have q4 : 0 < a0.size := (by have : (0 : Int) < (a0.size : Int) := of_decide_eq_true (by first | (with_reducible assumption) | assumption); omega)
   have hx4 : ∀ h : 0 < a0.size, ((a0[0]'h).toNat : Int) = bt a0 0 := bt_at a0 0
   clear p4
   have qi4 : (0 < (a0.size : Int)) = True := eq_true (of_decide_eq_true (by first | (with_reducible assumption) | assumption))
   replace q4 := eq_true q4
   go_enter Tryd.func48, Tryd.ntmps48
   go_wp2
   repeat (go_quiet (fail); try go_wp2)
   go_ret2
   exact ⟨by first | rfl | (simp; done) | (simp [*]; done), by repeat (first | exact Drawn0.refl _ | apply Drawn0.step)⟩
  ·rw [if_neg c5] at H
   have c5b0 : decide ((wrap64 (bt a0 0)) < 128) = false := decide_eq_false c5
   clear c5
   have HC6 := Aside0.mk H
   clear H
   have p3 : 0 ≤ (0 : Int) := (by omega)
   have q3 : 0 < a0.size := (by have : (0 : Int) < (a0.size : Int) := of_decide_eq_true (by first | (with_reducible assumption) | assumption); omega)
   have hx3 : ∀ h : 0 < a0.size, ((a0[0]'h).toNat : Int) = bt a0 0 := bt_at a0 0
   clear p3
   have qi3 : (0 < (a0.size : Int)) = True := eq_true (of_decide_eq_true (by first | (with_reducible assumption) | assumption))
   replace q3 := eq_true q3
   have p4 : 0 ≤ (0 : Int) := (by omega)
   have q4 : 0 < a0.size := (by have : (0 : Int) < (a0.size : Int) := of_decide_eq_true (by first | (with_reducible assumption) | assumption); omega)
   have hx4 : ∀ h : 0 < a0.size, ((a0[0]'h).toNat : Int) = bt a0 0 := bt_at a0 0
   clear p4
   have qi4 : (0 < (a0.size : Int)) = True := eq_true (of_decide_eq_true (by first | (with_reducible assumption) | assumption))
   replace q4 := eq_true q4
   go_enter Tryd.func48, Tryd.ntmps48
   go_upto_region 5 with (fail)
   repeat (go_quiet (fail); go_upto_region 5 with (fail))
   go_cut [19] (fun v19 wc => ∃ (kq : Nat) (x19_5 : Bool), v19 = .bool x19_5 ∧ Aside0 (umlautref1_Sign.j0 kq a0 (wrap64 (1114112 + (wrap64 (bt a0 0)))) (wrap64 (bt a0 0)) x19_5 = some (r1, r2)) ∧ Aside0 (kq ≤ k) ∧ Drawn0 w wc)
   case first =>
    have H := HC6.out
    clear HC6
    by_cases c7 : (wrap64 (bt a0 0)) ≥ 194
    ·rw [if_pos c7] at H
     have c7b0 : decide (194 ≤ (wrap64 (bt a0 0))) = true := decide_eq_true c7
     clear c7
     (first | rw [c7b0] | (simp only [i64_w, i32_w]; rw [c7b0]) | skip)
     have H' := Aside0.mk H
     clear H
     go_wp2
     repeat (go_quiet (fail); try go_wp2)
     go_meet
     case rel => exact ⟨_, (decide ((wrap64 (bt a0 0)) ≤ 223)), (by first | rfl | (simp; done) | (simp [*]; done)), H', ⟨by first | omega | exact Nat.le_refl _⟩, by repeat (first | exact Drawn0.refl _ | apply Drawn0.step)⟩
    ·rw [if_neg c7] at H
     have c7b0 : decide (194 ≤ (wrap64 (bt a0 0))) = false := decide_eq_false c7
     clear c7
     (first | rw [c7b0] | (simp only [i64_w, i32_w]; rw [c7b0]) | skip)
     have H' := Aside0.mk H
     clear H
     go_wp2
     repeat (go_quiet (fail); try go_wp2)
     go_meet
     case rel => exact ⟨_, (false), (by first | rfl | (simp; done) | (simp [*]; done)), H', ⟨by first | omega | exact Nat.le_refl _⟩, by repeat (first | exact Drawn0.refl _ | apply Drawn0.step)⟩
   case rest =>
    clear HC6
    try clear c2
    try clear c2b0
    try clear c2b1
    try clear p2
    try clear p3
    try clear q3
    try clear hx3
    try clear qi3
    try clear c4
    try clear p4
    try clear q4
    try clear hx4
    try clear qi4
    try clear c5
    try clear c5b0
    try clear p6
    try clear c7
    try clear c7b0
    try clear p3
    try clear p4
    try clear q3
    try clear q4
    obtain ⟨kq, x19_5, rfl, HA, HJ5, ⟨mc5, rfl⟩⟩ := hcut
    cases kq with
    | zero => exact absurd HA.out (by simp [umlautref1_Sign.j0])
    | succ kj5 =>
     have H := HA.out
     clear HA
     simp only [umlautref1_Sign.j0] at H
     by_cases c8 : x19_5 = true
     ·subst c8
      have H1 : (if (a0.size : Int) > 1 then (if 1 < (a0.size : Int) then ((umlautref1_tail.f (bt a0 1)).bind fun t233 => (if t233 = true then (some (wrap64 ((wrap64 ((wrap64 ((wrap64 ((wrap64 (bt a0 0)) - 192)) * 64)) + (wrap64 (bt a0 1)))) - 128), 2)) else (some ((wrap64 (1114112 + (wrap64 (bt a0 0)))), 1)))) else (none)) else (some ((wrap64 (1114112 + (wrap64 (bt a0 0)))), 1))) = some (r1, r2) := by rw [if_pos rfl] at H; exact H
      clear H
      have H := H1
      clear H1
      by_cases c9 : (a0.size : Int) > 1
      ·rw [if_pos c9] at H
       have c9b0 : decide (1 < (a0.size : Int)) = true := decide_eq_true c9
       have c9b1 : decide (1 < a0.size) = true := decide_eq_true (by omega)
       clear c9
       by_cases c10 : 1 < (a0.size : Int)
       ·rw [if_pos c10] at H
        have c10b0 : decide (1 < (a0.size : Int)) = true := decide_eq_true c10
        have c10b1 : decide (1 < a0.size) = true := decide_eq_true (by omega)
        clear c10
        replace H := Option.bind_eq_some_iff.mp H
        obtain ⟨t233, A120, H⟩ := H
        replace H : (if t233 = true then (some (wrap64 ((wrap64 ((wrap64 ((wrap64 ((wrap64 (bt a0 0)) - 192)) * 64)) + (wrap64 (bt a0 1)))) - 128), 2)) else (some ((wrap64 (1114112 + (wrap64 (bt a0 0)))), 1))) = some (r1, r2) := H
        have A12 := Aside0.mk A120
        clear A120
        by_cases c13 : t233 = true
        ·subst c13
         have H1 : (some (wrap64 ((wrap64 ((wrap64 ((wrap64 ((wrap64 (bt a0 0)) - 192)) * 64)) + (wrap64 (bt a0 1)))) - 128), 2)) = some (r1, r2) := by rw [if_pos rfl] at H; exact H
         clear H
         have H := H1
         clear H1
         simp only [Option.some.injEq, Prod.mk.injEq] at H
         obtain ⟨rfl, rfl⟩ := H
         have p11 : 0 ≤ (1 : Int) := (by omega)
         have q11 : 1 < a0.size := (by have : (1 : Int) < (a0.size : Int) := of_decide_eq_true (by first | (with_reducible assumption) | assumption); omega)
         have hx11 : ∀ h : 1 < a0.size, ((a0[1]'h).toNat : Int) = bt a0 1 := bt_at a0 1
         clear p11
         have qi11 : (1 < (a0.size : Int)) = True := eq_true (of_decide_eq_true (by first | (with_reducible assumption) | assumption))
         replace q11 := eq_true q11
         go_wp2_with (first | (go_at_call 67; (with_reducible refine (umlautref1_tail.calls (bt a0 1) true _ A12.out).mono ?_); rintro e w' ⟨rfl, ⟨nd, rfl⟩⟩; (try first | exact ⟨rfl, _, World.drewN_drewN _ _ _⟩ | exact ⟨rfl, _, Eq.trans (World.drewN_drewN _ _ _) (congrArg (World.drewN _) (Nat.add_assoc _ _ _))⟩); have p14 : 0 ≤ (1 : Int) := (by omega); have q14 : 1 < a0.size := (by have : (1 : Int) < (a0.size : Int) := of_decide_eq_true (by first | (with_reducible assumption) | assumption); omega); have hx14 : ∀ h : 1 < a0.size, ((a0[1]'h).toNat : Int) = bt a0 1 := bt_at a0 1; clear p14; have qi14 : (1 < (a0.size : Int)) = True := eq_true (of_decide_eq_true (by first | (with_reducible assumption) | assumption)); replace q14 := eq_true q14))
         go_ret2
         exact ⟨by first | rfl | (simp; done) | (simp [*]; done), by repeat (first | exact Drawn0.refl _ | apply Drawn0.step)⟩
        ·replace c13 := Bool.eq_false_iff.mpr c13
         subst c13
         have H1 : (some ((wrap64 (1114112 + (wrap64 (bt a0 0)))), 1)) = some (r1, r2) := by rw [if_neg (show ¬ (false = true) by decide)] at H; exact H
         clear H
         have H := H1
         clear H1
         simp only [Option.some.injEq, Prod.mk.injEq] at H
         obtain ⟨rfl, rfl⟩ := H
         have p11 : 0 ≤ (1 : Int) := (by omega)
         have q11 : 1 < a0.size := (by have : (1 : Int) < (a0.size : Int) := of_decide_eq_true (by first | (with_reducible assumption) | assumption); omega)
         have hx11 : ∀ h : 1 < a0.size, ((a0[1]'h).toNat : Int) = bt a0 1 := bt_at a0 1
         clear p11
         have qi11 : (1 < (a0.size : Int)) = True := eq_true (of_decide_eq_true (by first | (with_reducible assumption) | assumption))
         replace q11 := eq_true q11
         go_wp2_with (first | (go_at_call 67; (with_reducible refine (umlautref1_tail.calls (bt a0 1) false _ A12.out).mono ?_); rintro e w' ⟨rfl, ⟨nd, rfl⟩⟩; (try first | exact ⟨rfl, _, World.drewN_drewN _ _ _⟩ | exact ⟨rfl, _, Eq.trans (World.drewN_drewN _ _ _) (congrArg (World.drewN _) (Nat.add_assoc _ _ _))⟩)))
         go_ret2
         exact ⟨by first | rfl | (simp; done) | (simp [*]; done), by repeat (first | exact Drawn0.refl _ | apply Drawn0.step)⟩
       ·rw [if_neg c10] at H
        exact absurd H (by simp)
      ·rw [if_neg c9] at H
       have c9b0 : decide (1 < (a0.size : Int)) = false := decide_eq_false c9
       have c9b1 : decide (1 < a0.size) = false := decide_eq_false (by omega)
       clear c9
       simp only [Option.some.injEq, Prod.mk.injEq] at H
       obtain ⟨rfl, rfl⟩ := H
       go_wp2
       repeat (go_quiet (fail); try go_wp2)
       go_ret2
       exact ⟨by first | rfl | (simp; done) | (simp [*]; done), by repeat (first | exact Drawn0.refl _ | apply Drawn0.step)⟩
     ·replace c8 := Bool.eq_false_iff.mpr c8
      subst c8
      have H1 : (if (wrap64 (bt a0 0)) ≥ 224 then (umlautref1_Sign.j1 kj5 a0 (wrap64 (1114112 + (wrap64 (bt a0 0)))) (wrap64 (bt a0 0)) (decide ((wrap64 (bt a0 0)) ≤ 239))) else (umlautref1_Sign.j1 kj5 a0 (wrap64 (1114112 + (wrap64 (bt a0 0)))) (wrap64 (bt a0 0)) false)) = some (r1, r2) := by rw [if_neg (show ¬ (false = true) by decide)] at H; exact H
      clear H
      have H := H1
      clear H1
      have HC15 := Aside0.mk H
      clear H
      go_upto_region 8 with (fail)
      repeat (go_quiet (fail); go_upto_region 8 with (fail))
      go_cut [42] (fun v42 wc => ∃ (kq : Nat) (x42_14 : Bool), v42 = .bool x42_14 ∧ Aside0 (umlautref1_Sign.j1 kq a0 (wrap64 (1114112 + (wrap64 (bt a0 0)))) (wrap64 (bt a0 0)) x42_14 = some (r1, r2)) ∧ Aside0 (kq ≤ kj5) ∧ Drawn0 w wc)
      case first =>
       have H := HC15.out
       clear HC15
       by_cases c16 : (wrap64 (bt a0 0)) ≥ 224
       ·rw [if_pos c16] at H
        have c16b0 : decide (224 ≤ (wrap64 (bt a0 0))) = true := decide_eq_true c16
        clear c16
        (first | rw [c16b0] | (simp only [i64_w, i32_w]; rw [c16b0]) | skip)
        have H' := Aside0.mk H
        clear H
        go_wp2
        repeat (go_quiet (fail); try go_wp2)
        go_meet
        case rel => exact ⟨_, (decide ((wrap64 (bt a0 0)) ≤ 239)), (by first | rfl | (simp; done) | (simp [*]; done)), H', ⟨by have := HJ5.out; first | omega | exact Nat.le_refl _⟩, by repeat (first | exact Drawn0.refl _ | apply Drawn0.step)⟩
       ·rw [if_neg c16] at H
        have c16b0 : decide (224 ≤ (wrap64 (bt a0 0))) = false := decide_eq_false c16
        clear c16
        (first | rw [c16b0] | (simp only [i64_w, i32_w]; rw [c16b0]) | skip)
        have H' := Aside0.mk H
        clear H
        go_wp2
        repeat (go_quiet (fail); try go_wp2)
        go_meet
        case rel => exact ⟨_, (false), (by first | rfl | (simp; done) | (simp [*]; done)), H', ⟨by have := HJ5.out; first | omega | exact Nat.le_refl _⟩, by repeat (first | exact Drawn0.refl _ | apply Drawn0.step)⟩
      case rest =>
       clear HC15
       try clear c1
       try clear p1
       try clear q1
       try clear hx1
       try clear qi1
       try clear c2
       try clear c2b0
       try clear c2b1
       try clear p2
       try clear p3
       try clear q3
       try clear hx3
       try clear qi3
       try clear c4
       try clear p4
       try clear q4
       try clear hx4
       try clear qi4
       try clear c5
       try clear c5b0
       try clear p6
       try clear c7
       try clear c7b0
       try clear c8
       try clear c9
       try clear c9b0
       try clear c9b1
       try clear c10
       try clear c10b0
       try clear c10b1
       try clear p11
       try clear q11
       try clear hx11
       try clear qi11
       try clear c13
       try clear p14
       try clear q14
       try clear hx14
       try clear qi14
       try clear c16
       try clear c16b0
       try clear p11
       try clear p14
       try clear p2
       try clear p3
       try clear p4
       try clear p6
       try clear q11
       try clear q14
       try clear q3
       try clear q4
       obtain ⟨kq, x42_14, rfl, HA, HJ14, ⟨mc14, rfl⟩⟩ := hcut
       cases kq with
       | zero => exact absurd HA.out (by simp [umlautref1_Sign.j1])
       | succ kj14 =>
        have H := HA.out
        clear HA
        simp only [umlautref1_Sign.j1] at H
        by_cases c17 : x42_14 = true
        ·subst c17
         have H1 : (if (a0.size : Int) > 2 then (if 1 < (a0.size : Int) then ((umlautref1_tail.f (bt a0 1)).bind fun t234 => (if t234 = true then (if 2 < (a0.size : Int) then ((umlautref1_tail.f (bt a0 2)).bind fun t235 => (umlautref1_Sign.j2 kj14 a0 (wrap64 (1114112 + (wrap64 (bt a0 0)))) (wrap64 (bt a0 0)) t235)) else (none)) else (umlautref1_Sign.j2 kj14 a0 (wrap64 (1114112 + (wrap64 (bt a0 0)))) (wrap64 (bt a0 0)) false))) else (none)) else (umlautref1_Sign.j2 kj14 a0 (wrap64 (1114112 + (wrap64 (bt a0 0)))) (wrap64 (bt a0 0)) false)) = some (r1, r2) := by rw [if_pos rfl] at H; exact H
         clear H
         have H := H1
         clear H1
         have HC18 := Aside0.mk H
         clear H
         go_upto_region 9 with (fail)
         repeat (go_quiet (fail); go_upto_region 9 with (fail))
         go_cut [61] (fun v61 wc => ∃ (kq : Nat) (x61_17 : Bool), v61 = .bool x61_17 ∧ Aside0 (umlautref1_Sign.j2 kq a0 (wrap64 (1114112 + (wrap64 (bt a0 0)))) (wrap64 (bt a0 0)) x61_17 = some (r1, r2)) ∧ Aside0 (kq ≤ kj14) ∧ Drawn0 w wc)
         case first =>
          have H := HC18.out
          clear HC18
          by_cases c19 : (a0.size : Int) > 2
          ·rw [if_pos c19] at H
           have c19b0 : decide (2 < (a0.size : Int)) = true := decide_eq_true c19
           have c19b1 : decide (2 < a0.size) = true := decide_eq_true (by omega)
           clear c19
           (first | rw [c19b0] | (simp only [i64_w, i32_w]; rw [c19b0]) | skip)
           by_cases c20 : 1 < (a0.size : Int)
           ·rw [if_pos c20] at H
            have c20b0 : decide (1 < (a0.size : Int)) = true := decide_eq_true c20
            have c20b1 : decide (1 < a0.size) = true := decide_eq_true (by omega)
            clear c20
            replace H := Option.bind_eq_some_iff.mp H
            obtain ⟨t234, A220, H⟩ := H
            replace H : (if t234 = true then (if 2 < (a0.size : Int) then ((umlautref1_tail.f (bt a0 2)).bind fun t235 => (umlautref1_Sign.j2 kj14 a0 (wrap64 (1114112 + (wrap64 (bt a0 0)))) (wrap64 (bt a0 0)) t235)) else (none)) else (umlautref1_Sign.j2 kj14 a0 (wrap64 (1114112 + (wrap64 (bt a0 0)))) (wrap64 (bt a0 0)) false)) = some (r1, r2) := H
            have A22 := Aside0.mk A220
            clear A220
            by_cases c23 : t234 = true
            ·subst c23
             have H1 : (if 2 < (a0.size : Int) then ((umlautref1_tail.f (bt a0 2)).bind fun t235 => (umlautref1_Sign.j2 kj14 a0 (wrap64 (1114112 + (wrap64 (bt a0 0)))) (wrap64 (bt a0 0)) t235)) else (none)) = some (r1, r2) := by rw [if_pos rfl] at H; exact H
             clear H
             have H := H1
             clear H1
             by_cases c24 : 2 < (a0.size : Int)
             ·rw [if_pos c24] at H
              have c24b0 : decide (2 < (a0.size : Int)) = true := decide_eq_true c24
              have c24b1 : decide (2 < a0.size) = true := decide_eq_true (by omega)
              clear c24
              replace H := Option.bind_eq_some_iff.mp H
              obtain ⟨t235, A260, H⟩ := H
              replace H : (umlautref1_Sign.j2 kj14 a0 (wrap64 (1114112 + (wrap64 (bt a0 0)))) (wrap64 (bt a0 0)) t235) = some (r1, r2) := H
              have A26 := Aside0.mk A260
              clear A260
              have H' := Aside0.mk H
              clear H
              have p21 : 0 ≤ (1 : Int) := (by omega)
              have q21 : 1 < a0.size := (by have : (1 : Int) < (a0.size : Int) := of_decide_eq_true (by first | (with_reducible assumption) | assumption); omega)
              have hx21 : ∀ h : 1 < a0.size, ((a0[1]'h).toNat : Int) = bt a0 1 := bt_at a0 1
              clear p21
              have qi21 : (1 < (a0.size : Int)) = True := eq_true (of_decide_eq_true (by first | (with_reducible assumption) | assumption))
              replace q21 := eq_true q21
              go_wp2_with (first | (go_at_call 67; (with_reducible refine (umlautref1_tail.calls (bt a0 1) true _ A22.out).mono ?_); rintro e w' ⟨rfl, ⟨nd, rfl⟩⟩; (try first | exact ⟨rfl, _, World.drewN_drewN _ _ _⟩ | exact ⟨rfl, _, Eq.trans (World.drewN_drewN _ _ _) (congrArg (World.drewN _) (Nat.add_assoc _ _ _))⟩); have p25 : 0 ≤ (2 : Int) := (by omega); have q25 : 2 < a0.size := (by have : (2 : Int) < (a0.size : Int) := of_decide_eq_true (by first | (with_reducible assumption) | assumption); omega); have hx25 : ∀ h : 2 < a0.size, ((a0[2]'h).toNat : Int) = bt a0 2 := bt_at a0 2; clear p25; have qi25 : (2 < (a0.size : Int)) = True := eq_true (of_decide_eq_true (by first | (with_reducible assumption) | assumption)); replace q25 := eq_true q25) | (go_at_call 67; (with_reducible refine (umlautref1_tail.calls (bt a0 2) t235 _ A26.out).mono ?_); rintro e w' ⟨rfl, ⟨nd, rfl⟩⟩; (try first | exact ⟨rfl, _, World.drewN_drewN _ _ _⟩ | exact ⟨rfl, _, Eq.trans (World.drewN_drewN _ _ _) (congrArg (World.drewN _) (Nat.add_assoc _ _ _))⟩)))
              go_meet
              case rel => exact ⟨_, (t235), (by first | rfl | (simp; done) | (simp [*]; done)), H', ⟨by have := HJ5.out; have := HJ14.out; first | omega | exact Nat.le_refl _⟩, by repeat (first | exact Drawn0.refl _ | apply Drawn0.step)⟩
             ·rw [if_neg c24] at H
              exact absurd H (by simp)
            ·replace c23 := Bool.eq_false_iff.mpr c23
             subst c23
             have H1 : (umlautref1_Sign.j2 kj14 a0 (wrap64 (1114112 + (wrap64 (bt a0 0)))) (wrap64 (bt a0 0)) false) = some (r1, r2) := by rw [if_neg (show ¬ (false = true) by decide)] at H; exact H
             clear H
             have H := H1
             clear H1
             have H' := Aside0.mk H
             clear H
             have p21 : 0 ≤ (1 : Int) := (by omega)
             have q21 : 1 < a0.size := (by have : (1 : Int) < (a0.size : Int) := of_decide_eq_true (by first | (with_reducible assumption) | assumption); omega)
             have hx21 : ∀ h : 1 < a0.size, ((a0[1]'h).toNat : Int) = bt a0 1 := bt_at a0 1
             clear p21
             have qi21 : (1 < (a0.size : Int)) = True := eq_true (of_decide_eq_true (by first | (with_reducible assumption) | assumption))
             replace q21 := eq_true q21
             go_wp2_with (first | (go_at_call 67; (with_reducible refine (umlautref1_tail.calls (bt a0 1) false _ A22.out).mono ?_); rintro e w' ⟨rfl, ⟨nd, rfl⟩⟩; (try first | exact ⟨rfl, _, World.drewN_drewN _ _ _⟩ | exact ⟨rfl, _, Eq.trans (World.drewN_drewN _ _ _) (congrArg (World.drewN _) (Nat.add_assoc _ _ _))⟩)))
             go_meet
             case rel => exact ⟨_, (false), (by first | rfl | (simp; done) | (simp [*]; done)), H', ⟨by have := HJ5.out; have := HJ14.out; first | omega | exact Nat.le_refl _⟩, by repeat (first | exact Drawn0.refl _ | apply Drawn0.step)⟩
           ·rw [if_neg c20] at H
            exact absurd H (by simp)
          ·rw [if_neg c19] at H
           have c19b0 : decide (2 < (a0.size : Int)) = false := decide_eq_false c19
           have c19b1 : decide (2 < a0.size) = false := decide_eq_false (by omega)
           clear c19
           (first | rw [c19b0] | (simp only [i64_w, i32_w]; rw [c19b0]) | skip)
           have H' := Aside0.mk H
           clear H
           go_wp2
           repeat (go_quiet (fail); try go_wp2)
           go_meet
           case rel => exact ⟨_, (false), (by first | rfl | (simp; done) | (simp [*]; done)), H', ⟨by have := HJ5.out; have := HJ14.out; first | omega | exact Nat.le_refl _⟩, by repeat (first | exact Drawn0.refl _ | apply Drawn0.step)⟩
         case rest =>
          clear HC18
          try clear c1
          try clear p1
          try clear q1
          try clear hx1
          try clear qi1
          try clear c2
          try clear c2b0
          try clear c2b1
          try clear p2
          try clear q2
          try clear hx2
          try clear qi2
          try clear p3
          try clear q3
          try clear hx3
          try clear qi3
          try clear c4
          try clear p4
          try clear q4
          try clear hx4
          try clear qi4
          try clear c5
          try clear c5b0
          try clear p6
          try clear c7
          try clear c7b0
          try clear c8
          try clear c9
          try clear c9b0
          try clear c9b1
          try clear c10
          try clear c10b0
          try clear c10b1
          try clear p11
          try clear q11
          try clear hx11
          try clear qi11
          try clear c13
          try clear c14
          try clear p14
          try clear q14
          try clear hx14
          try clear qi14
          try clear c16
          try clear c16b0
          try clear c17
          try clear c19
          try clear c19b0
          try clear c19b1
          try clear c20
          try clear c20b0
          try clear c20b1
          try clear p21
          try clear q21
          try clear hx21
          try clear qi21
          try clear c23
          try clear c24
          try clear c24b0
          try clear c24b1
          try clear p25
          try clear q25
          try clear hx25
          try clear qi25
          try clear p1
          try clear p11
          try clear p14
          try clear p2
          try clear p21
          try clear p25
          try clear p3
          try clear p4
          try clear p6
          try clear q1
          try clear q11
          try clear q14
          try clear q21
          try clear q25
          try clear q3
          try clear q4
          obtain ⟨kq, x61_17, rfl, HA, HJ17, ⟨mc17, rfl⟩⟩ := hcut
          cases kq with
          | zero => exact absurd HA.out (by simp [umlautref1_Sign.j2])
          | succ kj17 =>
           have H := HA.out
           clear HA
           simp only [umlautref1_Sign.j2] at H
           by_cases c27 : x61_17 = true
           ·subst c27
            have H1 : (if 1 < (a0.size : Int) then (if 2 < (a0.size : Int) then (if (wrap64 ((wrap64 ((wrap64 ((wrap64 ((wrap64 ((wrap64 (bt a0 0)) - 224)) * 4096)) + (wrap64 ((wrap64 ((wrap64 (bt a0 1)) - 128)) * 64)))) + (wrap64 (bt a0 2)))) - 128)) ≥ 2048 then (if (wrap64 ((wrap64 ((wrap64 ((wrap64 ((wrap64 ((wrap64 (bt a0 0)) - 224)) * 4096)) + (wrap64 ((wrap64 ((wrap64 (bt a0 1)) - 128)) * 64)))) + (wrap64 (bt a0 2)))) - 128)) < 55296 then (some (wrap64 ((wrap64 ((wrap64 ((wrap64 ((wrap64 ((wrap64 (bt a0 0)) - 224)) * 4096)) + (wrap64 ((wrap64 ((wrap64 (bt a0 1)) - 128)) * 64)))) + (wrap64 (bt a0 2)))) - 128), 3)) else (if (wrap64 ((wrap64 ((wrap64 ((wrap64 ((wrap64 ((wrap64 (bt a0 0)) - 224)) * 4096)) + (wrap64 ((wrap64 ((wrap64 (bt a0 1)) - 128)) * 64)))) + (wrap64 (bt a0 2)))) - 128)) > 57343 then (some (wrap64 ((wrap64 ((wrap64 ((wrap64 ((wrap64 ((wrap64 (bt a0 0)) - 224)) * 4096)) + (wrap64 ((wrap64 ((wrap64 (bt a0 1)) - 128)) * 64)))) + (wrap64 (bt a0 2)))) - 128), 3)) else (some ((wrap64 (1114112 + (wrap64 (bt a0 0)))), 1)))) else (some ((wrap64 (1114112 + (wrap64 (bt a0 0)))), 1))) else (none)) else (none)) = some (r1, r2) := by rw [if_pos rfl] at H; exact H
            clear H
            have H := H1
            clear H1
            by_cases c28 : 1 < (a0.size : Int)
            ·rw [if_pos c28] at H
             have c28b0 : decide (1 < (a0.size : Int)) = true := decide_eq_true c28
             have c28b1 : decide (1 < a0.size) = true := decide_eq_true (by omega)
             clear c28
             by_cases c30 : 2 < (a0.size : Int)
             ·rw [if_pos c30] at H
              have c30b0 : decide (2 < (a0.size : Int)) = true := decide_eq_true c30
              have c30b1 : decide (2 < a0.size) = true := decide_eq_true (by omega)
              clear c30
              by_cases c32 : (wrap64 ((wrap64 ((wrap64 ((wrap64 ((wrap64 ((wrap64 (bt a0 0)) - 224)) * 4096)) + (wrap64 ((wrap64 ((wrap64 (bt a0 1)) - 128)) * 64)))) + (wrap64 (bt a0 2)))) - 128)) ≥ 2048
              ·rw [if_pos c32] at H
               have c32b0 : decide (2048 ≤ (wrap64 ((wrap64 ((wrap64 ((wrap64 ((wrap64 ((wrap64 (bt a0 0)) - 224)) * 4096)) + (wrap64 ((wrap64 ((wrap64 (bt a0 1)) - 128)) * 64)))) + (wrap64 (bt a0 2)))) - 128))) = true := decide_eq_true c32
               clear c32
               by_cases c33 : (wrap64 ((wrap64 ((wrap64 ((wrap64 ((wrap64 ((wrap64 (bt a0 0)) - 224)) * 4096)) + (wrap64 ((wrap64 ((wrap64 (bt a0 1)) - 128)) * 64)))) + (wrap64 (bt a0 2)))) - 128)) < 55296
               ·rw [if_pos c33] at H
                have c33b0 : decide ((wrap64 ((wrap64 ((wrap64 ((wrap64 ((wrap64 ((wrap64 (bt a0 0)) - 224)) * 4096)) + (wrap64 ((wrap64 ((wrap64 (bt a0 1)) - 128)) * 64)))) + (wrap64 (bt a0 2)))) - 128)) < 55296) = true := decide_eq_true c33
                clear c33
                simp only [Option.some.injEq, Prod.mk.injEq] at H
                obtain ⟨rfl, rfl⟩ := H
                have p29 : 0 ≤ (1 : Int) := (by omega)
                have q29 : 1 < a0.size := (by have : (1 : Int) < (a0.size : Int) := of_decide_eq_true (by first | (with_reducible assumption) | assumption); omega)
                have hx29 : ∀ h : 1 < a0.size, ((a0[1]'h).toNat : Int) = bt a0 1 := bt_at a0 1
                clear p29
                have qi29 : (1 < (a0.size : Int)) = True := eq_true (of_decide_eq_true (by first | (with_reducible assumption) | assumption))
                replace q29 := eq_true q29
                have p31 : 0 ≤ (2 : Int) := (by omega)
                have q31 : 2 < a0.size := (by have : (2 : Int) < (a0.size : Int) := of_decide_eq_true (by first | (with_reducible assumption) | assumption); omega)
                have hx31 : ∀ h : 2 < a0.size, ((a0[2]'h).toNat : Int) = bt a0 2 := bt_at a0 2
                clear p31
                have qi31 : (2 < (a0.size : Int)) = True := eq_true (of_decide_eq_true (by first | (with_reducible assumption) | assumption))
                replace q31 := eq_true q31
                go_wp2
                repeat (go_quiet (fail); try go_wp2)
                go_ret2
                exact ⟨by first | rfl | (simp; done) | (simp [*]; done), by repeat (first | exact Drawn0.refl _ | apply Drawn0.step)⟩
               ·rw [if_neg c33] at H
                have c33b0 : decide ((wrap64 ((wrap64 ((wrap64 ((wrap64 ((wrap64 ((wrap64 (bt a0 0)) - 224)) * 4096)) + (wrap64 ((wrap64 ((wrap64 (bt a0 1)) - 128)) * 64)))) + (wrap64 (bt a0 2)))) - 128)) < 55296) = false := decide_eq_false c33
                clear c33
                by_cases c34 : (wrap64 ((wrap64 ((wrap64 ((wrap64 ((wrap64 ((wrap64 (bt a0 0)) - 224)) * 4096)) + (wrap64 ((wrap64 ((wrap64 (bt a0 1)) - 128)) * 64)))) + (wrap64 (bt a0 2)))) - 128)) > 57343
                ·rw [if_pos c34] at H
                 have c34b0 : decide (57343 < (wrap64 ((wrap64 ((wrap64 ((wrap64 ((wrap64 ((wrap64 (bt a0 0)) - 224)) * 4096)) + (wrap64 ((wrap64 ((wrap64 (bt a0 1)) - 128)) * 64)))) + (wrap64 (bt a0 2)))) - 128))) = true := decide_eq_true c34
                 clear c34
                 simp only [Option.some.injEq, Prod.mk.injEq] at H
                 obtain ⟨rfl, rfl⟩ := H
                 have p29 : 0 ≤ (1 : Int) := (by omega)
                 have q29 : 1 < a0.size := (by have : (1 : Int) < (a0.size : Int) := of_decide_eq_true (by first | (with_reducible assumption) | assumption); omega)
                 have hx29 : ∀ h : 1 < a0.size, ((a0[1]'h).toNat : Int) = bt a0 1 := bt_at a0 1
                 clear p29
                 have qi29 : (1 < (a0.size : Int)) = True := eq_true (of_decide_eq_true (by first | (with_reducible assumption) | assumption))
                 replace q29 := eq_true q29
                 have p31 : 0 ≤ (2 : Int) := (by omega)
                 have q31 : 2 < a0.size := (by have : (2 : Int) < (a0.size : Int) := of_decide_eq_true (by first | (with_reducible assumption) | assumption); omega)
                 have hx31 : ∀ h : 2 < a0.size, ((a0[2]'h).toNat : Int) = bt a0 2 := bt_at a0 2
                 clear p31
                 have qi31 : (2 < (a0.size : Int)) = True := eq_true (of_decide_eq_true (by first | (with_reducible assumption) | assumption))
                 replace q31 := eq_true q31
                 go_wp2
                 repeat (go_quiet (fail); try go_wp2)
                 go_ret2
                 exact ⟨by first | rfl | (simp; done) | (simp [*]; done), by repeat (first | exact Drawn0.refl _ | apply Drawn0.step)⟩
                ·rw [if_neg c34] at H
                 have c34b0 : decide (57343 < (wrap64 ((wrap64 ((wrap64 ((wrap64 ((wrap64 ((wrap64 (bt a0 0)) - 224)) * 4096)) + (wrap64 ((wrap64 ((wrap64 (bt a0 1)) - 128)) * 64)))) + (wrap64 (bt a0 2)))) - 128))) = false := decide_eq_false c34
                 clear c34
                 simp only [Option.some.injEq, Prod.mk.injEq] at H
                 obtain ⟨rfl, rfl⟩ := H
                 have p29 : 0 ≤ (1 : Int) := (by omega)
                 have q29 : 1 < a0.size := (by have : (1 : Int) < (a0.size : Int) := of_decide_eq_true (by first | (with_reducible assumption) | assumption); omega)
                 have hx29 : ∀ h : 1 < a0.size, ((a0[1]'h).toNat : Int) = bt a0 1 := bt_at a0 1
                 clear p29
                 have qi29 : (1 < (a0.size : Int)) = True := eq_true (of_decide_eq_true (by first | (with_reducible assumption) | assumption))
                 replace q29 := eq_true q29
                 have p31 : 0 ≤ (2 : Int) := (by omega)
                 have q31 : 2 < a0.size := (by have : (2 : Int) < (a0.size : Int) := of_decide_eq_true (by first | (with_reducible assumption) | assumption); omega)
                 have hx31 : ∀ h : 2 < a0.size, ((a0[2]'h).toNat : Int) = bt a0 2 := bt_at a0 2
                 clear p31
                 have qi31 : (2 < (a0.size : Int)) = True := eq_true (of_decide_eq_true (by first | (with_reducible assumption) | assumption))
                 replace q31 := eq_true q31
                 go_wp2
                 repeat (go_quiet (fail); try go_wp2)
                 go_ret2
                 exact ⟨by first | rfl | (simp; done) | (simp [*]; done), by repeat (first | exact Drawn0.refl _ | apply Drawn0.step)⟩
              ·rw [if_neg c32] at H
               have c32b0 : decide (2048 ≤ (wrap64 ((wrap64 ((wrap64 ((wrap64 ((wrap64 ((wrap64 (bt a0 0)) - 224)) * 4096)) + (wrap64 ((wrap64 ((wrap64 (bt a0 1)) - 128)) * 64)))) + (wrap64 (bt a0 2)))) - 128))) = false := decide_eq_false c32
               clear c32
               simp only [Option.some.injEq, Prod.mk.injEq] at H
               obtain ⟨rfl, rfl⟩ := H
               have p29 : 0 ≤ (1 : Int) := (by omega)
               have q29 : 1 < a0.size := (by have : (1 : Int) < (a0.size : Int) := of_decide_eq_true (by first | (with_reducible assumption) | assumption); omega)
               have hx29 : ∀ h : 1 < a0.size, ((a0[1]'h).toNat : Int) = bt a0 1 := bt_at a0 1
               clear p29
               have qi29 : (1 < (a0.size : Int)) = True := eq_true (of_decide_eq_true (by first | (with_reducible assumption) | assumption))
               replace q29 := eq_true q29
               have p31 : 0 ≤ (2 : Int) := (by omega)
               have q31 : 2 < a0.size := (by have : (2 : Int) < (a0.size : Int) := of_decide_eq_true (by first | (with_reducible assumption) | assumption); omega)
               have hx31 : ∀ h : 2 < a0.size, ((a0[2]'h).toNat : Int) = bt a0 2 := bt_at a0 2
               clear p31
               have qi31 : (2 < (a0.size : Int)) = True := eq_true (of_decide_eq_true (by first | (with_reducible assumption) | assumption))
               replace q31 := eq_true q31
               go_wp2
               repeat (go_quiet (fail); try go_wp2)
               go_ret2
               exact ⟨by first | rfl | (simp; done) | (simp [*]; done), by repeat (first | exact Drawn0.refl _ | apply Drawn0.step)⟩
             ·rw [if_neg c30] at H
              exact absurd H (by simp)
            ·rw [if_neg c28] at H
             exact absurd H (by simp)
           ·replace c27 := Bool.eq_false_iff.mpr c27
            subst c27
            have H1 : (some ((wrap64 (1114112 + (wrap64 (bt a0 0)))), 1)) = some (r1, r2) := by rw [if_neg (show ¬ (false = true) by decide)] at H; exact H
            clear H
            have H := H1
            clear H1
            simp only [Option.some.injEq, Prod.mk.injEq] at H
            obtain ⟨rfl, rfl⟩ := H
            go_wp2
            repeat (go_quiet (fail); try go_wp2)
            go_ret2
            exact ⟨by first | rfl | (simp; done) | (simp [*]; done), by repeat (first | exact Drawn0.refl _ | apply Drawn0.step)⟩
        ·replace c17 := Bool.eq_false_iff.mpr c17
         subst c17
         have H1 : (if (wrap64 (bt a0 0)) ≥ 240 then (umlautref1_Sign.j3 kj14 a0 (wrap64 (1114112 + (wrap64 (bt a0 0)))) (wrap64 (bt a0 0)) (decide ((wrap64 (bt a0 0)) ≤ 244))) else (umlautref1_Sign.j3 kj14 a0 (wrap64 (1114112 + (wrap64 (bt a0 0)))) (wrap64 (bt a0 0)) false)) = some (r1, r2) := by rw [if_neg (show ¬ (false = true) by decide)] at H; exact H
         clear H
         have H := H1
         clear H1
         have HC35 := Aside0.mk H
         clear H
         go_upto_region 13 with (fail)
         repeat (go_quiet (fail); go_upto_region 13 with (fail))
         go_cut [87] (fun v87 wc => ∃ (kq : Nat) (x87_34 : Bool), v87 = .bool x87_34 ∧ Aside0 (umlautref1_Sign.j3 kq a0 (wrap64 (1114112 + (wrap64 (bt a0 0)))) (wrap64 (bt a0 0)) x87_34 = some (r1, r2)) ∧ Aside0 (kq ≤ kj14) ∧ Drawn0 w wc)
         case first =>
          have H := HC35.out
          clear HC35
          by_cases c36 : (wrap64 (bt a0 0)) ≥ 240
          ·rw [if_pos c36] at H
           have c36b0 : decide (240 ≤ (wrap64 (bt a0 0))) = true := decide_eq_true c36
           clear c36
           (first | rw [c36b0] | (simp only [i64_w, i32_w]; rw [c36b0]) | skip)
           have H' := Aside0.mk H
           clear H
           go_wp2
           repeat (go_quiet (fail); try go_wp2)
           go_meet
           case rel => exact ⟨_, (decide ((wrap64 (bt a0 0)) ≤ 244)), (by first | rfl | (simp; done) | (simp [*]; done)), H', ⟨by have := HJ5.out; have := HJ14.out; first | omega | exact Nat.le_refl _⟩, by repeat (first | exact Drawn0.refl _ | apply Drawn0.step)⟩
          ·rw [if_neg c36] at H
           have c36b0 : decide (240 ≤ (wrap64 (bt a0 0))) = false := decide_eq_false c36
           clear c36
           (first | rw [c36b0] | (simp only [i64_w, i32_w]; rw [c36b0]) | skip)
           have H' := Aside0.mk H
           clear H
           go_wp2
           repeat (go_quiet (fail); try go_wp2)
           go_meet
           case rel => exact ⟨_, (false), (by first | rfl | (simp; done) | (simp [*]; done)), H', ⟨by have := HJ5.out; have := HJ14.out; first | omega | exact Nat.le_refl _⟩, by repeat (first | exact Drawn0.refl _ | apply Drawn0.step)⟩
         case rest =>
          clear HC35
          try clear c1
          try clear p1
          try clear q1
          try clear hx1
          try clear qi1
          try clear c2
          try clear c2b0
          try clear c2b1
          try clear p2
          try clear q2
          try clear hx2
          try clear qi2
          try clear c3
          try clear p3
          try clear q3
          try clear hx3
          try clear qi3
          try clear c4
          try clear p4
          try clear q4
          try clear hx4
          try clear qi4
          try clear c5
          try clear c5b0
          try clear p6
          try clear c7
          try clear c7b0
          try clear c8
          try clear c9
          try clear c9b0
          try clear c9b1
          try clear c10
          try clear c10b0
          try clear c10b1
          try clear p11
          try clear q11
          try clear hx11
          try clear qi11
          try clear c13
          try clear c14
          try clear p14
          try clear q14
          try clear hx14
          try clear qi14
          try clear c16
          try clear c16b0
          try clear c17
          try clear c19
          try clear c19b0
          try clear c19b1
          try clear c20
          try clear c20b0
          try clear c20b1
          try clear p21
          try clear q21
          try clear hx21
          try clear qi21
          try clear c23
          try clear c24
          try clear c24b0
          try clear c24b1
          try clear p25
          try clear q25
          try clear hx25
          try clear qi25
          try clear c27
          try clear c28
          try clear c28b0
          try clear c28b1
          try clear p29
          try clear q29
          try clear hx29
          try clear qi29
          try clear c30
          try clear c30b0
          try clear c30b1
          try clear p31
          try clear q31
          try clear hx31
          try clear qi31
          try clear c32
          try clear c32b0
          try clear c33
          try clear c33b0
          try clear c34
          try clear c34b0
          try clear c36
          try clear c36b0
          try clear p1
          try clear p11
          try clear p14
          try clear p2
          try clear p21
          try clear p25
          try clear p29
          try clear p3
          try clear p31
          try clear p4
          try clear p6
          try clear q1
          try clear q11
          try clear q14
          try clear q2
          try clear q21
          try clear q25
          try clear q29
          try clear q3
          try clear q31
          try clear q4
          obtain ⟨kq, x87_34, rfl, HA, HJ34, ⟨mc34, rfl⟩⟩ := hcut
          cases kq with
          | zero => exact absurd HA.out (by simp [umlautref1_Sign.j3])
          | succ kj34 =>
           have H := HA.out
           clear HA
           simp only [umlautref1_Sign.j3] at H
           by_cases c37 : x87_34 = true
           ·subst c37
            have H1 : (if (a0.size : Int) > 3 then (if 1 < (a0.size : Int) then ((umlautref1_tail.f (bt a0 1)).bind fun t236 => (if t236 = true then (if 2 < (a0.size : Int) then ((umlautref1_tail.f (bt a0 2)).bind fun t237 => (if t237 = true then (if 3 < (a0.size : Int) then ((umlautref1_tail.f (bt a0 3)).bind fun t238 => (umlautref1_Sign.j4 kj34 a0 (wrap64 (1114112 + (wrap64 (bt a0 0)))) (wrap64 (bt a0 0)) t238)) else (none)) else (umlautref1_Sign.j4 kj34 a0 (wrap64 (1114112 + (wrap64 (bt a0 0)))) (wrap64 (bt a0 0)) false))) else (none)) else (umlautref1_Sign.j4 kj34 a0 (wrap64 (1114112 + (wrap64 (bt a0 0)))) (wrap64 (bt a0 0)) false))) else (none)) else (umlautref1_Sign.j4 kj34 a0 (wrap64 (1114112 + (wrap64 (bt a0 0)))) (wrap64 (bt a0 0)) false)) = some (r1, r2) := by rw [if_pos rfl] at H; exact H
            clear H
            have H := H1
            clear H1
            have HC38 := Aside0.mk H
            clear H
            go_upto_region 14 with (fail)
            repeat (go_quiet (fail); go_upto_region 14 with (fail))
            go_cut [111] (fun v111 wc => ∃ (kq : Nat) (x111_37 : Bool), v111 = .bool x111_37 ∧ Aside0 (umlautref1_Sign.j4 kq a0 (wrap64 (1114112 + (wrap64 (bt a0 0)))) (wrap64 (bt a0 0)) x111_37 = some (r1, r2)) ∧ Aside0 (kq ≤ kj34) ∧ Drawn0 w wc)
            case first =>
             have H := HC38.out
             clear HC38
             by_cases c39 : (a0.size : Int) > 3
             ·rw [if_pos c39] at H
              have c39b0 : decide (3 < (a0.size : Int)) = true := decide_eq_true c39
              have c39b1 : decide (3 < a0.size) = true := decide_eq_true (by omega)
              clear c39
              (first | rw [c39b0] | (simp only [i64_w, i32_w]; rw [c39b0]) | skip)
              by_cases c40 : 1 < (a0.size : Int)
              ·rw [if_pos c40] at H
               have c40b0 : decide (1 < (a0.size : Int)) = true := decide_eq_true c40
               have c40b1 : decide (1 < a0.size) = true := decide_eq_true (by omega)
               clear c40
               replace H := Option.bind_eq_some_iff.mp H
               obtain ⟨t236, A420, H⟩ := H
               replace H : (if t236 = true then (if 2 < (a0.size : Int) then ((umlautref1_tail.f (bt a0 2)).bind fun t237 => (if t237 = true then (if 3 < (a0.size : Int) then ((umlautref1_tail.f (bt a0 3)).bind fun t238 => (umlautref1_Sign.j4 kj34 a0 (wrap64 (1114112 + (wrap64 (bt a0 0)))) (wrap64 (bt a0 0)) t238)) else (none)) else (umlautref1_Sign.j4 kj34 a0 (wrap64 (1114112 + (wrap64 (bt a0 0)))) (wrap64 (bt a0 0)) false))) else (none)) else (umlautref1_Sign.j4 kj34 a0 (wrap64 (1114112 + (wrap64 (bt a0 0)))) (wrap64 (bt a0 0)) false)) = some (r1, r2) := H
               have A42 := Aside0.mk A420
               clear A420
               by_cases c43 : t236 = true
               ·subst c43
                have H1 : (if 2 < (a0.size : Int) then ((umlautref1_tail.f (bt a0 2)).bind fun t237 => (if t237 = true then (if 3 < (a0.size : Int) then ((umlautref1_tail.f (bt a0 3)).bind fun t238 => (umlautref1_Sign.j4 kj34 a0 (wrap64 (1114112 + (wrap64 (bt a0 0)))) (wrap64 (bt a0 0)) t238)) else (none)) else (umlautref1_Sign.j4 kj34 a0 (wrap64 (1114112 + (wrap64 (bt a0 0)))) (wrap64 (bt a0 0)) false))) else (none)) = some (r1, r2) := by rw [if_pos rfl] at H; exact H
                clear H
                have H := H1
                clear H1
                by_cases c44 : 2 < (a0.size : Int)
                ·rw [if_pos c44] at H
                 have c44b0 : decide (2 < (a0.size : Int)) = true := decide_eq_true c44
                 have c44b1 : decide (2 < a0.size) = true := decide_eq_true (by omega)
                 clear c44
                 replace H := Option.bind_eq_some_iff.mp H
                 obtain ⟨t237, A460, H⟩ := H
                 replace H : (if t237 = true then (if 3 < (a0.size : Int) then ((umlautref1_tail.f (bt a0 3)).bind fun t238 => (umlautref1_Sign.j4 kj34 a0 (wrap64 (1114112 + (wrap64 (bt a0 0)))) (wrap64 (bt a0 0)) t238)) else (none)) else (umlautref1_Sign.j4 kj34 a0 (wrap64 (1114112 + (wrap64 (bt a0 0)))) (wrap64 (bt a0 0)) false)) = some (r1, r2) := H
                 have A46 := Aside0.mk A460
                 clear A460
                 by_cases c47 : t237 = true
                 ·subst c47
                  have H1 : (if 3 < (a0.size : Int) then ((umlautref1_tail.f (bt a0 3)).bind fun t238 => (umlautref1_Sign.j4 kj34 a0 (wrap64 (1114112 + (wrap64 (bt a0 0)))) (wrap64 (bt a0 0)) t238)) else (none)) = some (r1, r2) := by rw [if_pos rfl] at H; exact H
                  clear H
                  have H := H1
                  clear H1
                  by_cases c48 : 3 < (a0.size : Int)
                  ·rw [if_pos c48] at H
                   have c48b0 : decide (3 < (a0.size : Int)) = true := decide_eq_true c48
                   have c48b1 : decide (3 < a0.size) = true := decide_eq_true (by omega)
                   clear c48
                   replace H := Option.bind_eq_some_iff.mp H
                   obtain ⟨t238, A500, H⟩ := H
                   replace H : (umlautref1_Sign.j4 kj34 a0 (wrap64 (1114112 + (wrap64 (bt a0 0)))) (wrap64 (bt a0 0)) t238) = some (r1, r2) := H
                   have A50 := Aside0.mk A500
                   clear A500
                   have H' := Aside0.mk H
                   clear H
                   have p41 : 0 ≤ (1 : Int) := (by omega)
                   have q41 : 1 < a0.size := (by have : (1 : Int) < (a0.size : Int) := of_decide_eq_true (by first | (with_reducible assumption) | assumption); omega)
                   have hx41 : ∀ h : 1 < a0.size, ((a0[1]'h).toNat : Int) = bt a0 1 := bt_at a0 1
                   clear p41
                   have qi41 : (1 < (a0.size : Int)) = True := eq_true (of_decide_eq_true (by first | (with_reducible assumption) | assumption))
                   replace q41 := eq_true q41
                   go_wp2_with (first | (go_at_call 67; (with_reducible refine (umlautref1_tail.calls (bt a0 1) true _ A42.out).mono ?_); rintro e w' ⟨rfl, ⟨nd, rfl⟩⟩; (try first | exact ⟨rfl, _, World.drewN_drewN _ _ _⟩ | exact ⟨rfl, _, Eq.trans (World.drewN_drewN _ _ _) (congrArg (World.drewN _) (Nat.add_assoc _ _ _))⟩); have p45 : 0 ≤ (2 : Int) := (by omega); have q45 : 2 < a0.size := (by have : (2 : Int) < (a0.size : Int) := of_decide_eq_true (by first | (with_reducible assumption) | assumption); omega); have hx45 : ∀ h : 2 < a0.size, ((a0[2]'h).toNat : Int) = bt a0 2 := bt_at a0 2; clear p45; have qi45 : (2 < (a0.size : Int)) = True := eq_true (of_decide_eq_true (by first | (with_reducible assumption) | assumption)); replace q45 := eq_true q45) | (go_at_call 67; (with_reducible refine (umlautref1_tail.calls (bt a0 2) true _ A46.out).mono ?_); rintro e w' ⟨rfl, ⟨nd, rfl⟩⟩; (try first | exact ⟨rfl, _, World.drewN_drewN _ _ _⟩ | exact ⟨rfl, _, Eq.trans (World.drewN_drewN _ _ _) (congrArg (World.drewN _) (Nat.add_assoc _ _ _))⟩); have p49 : 0 ≤ (3 : Int) := (by omega); have q49 : 3 < a0.size := (by have : (3 : Int) < (a0.size : Int) := of_decide_eq_true (by first | (with_reducible assumption) | assumption); omega); have hx49 : ∀ h : 3 < a0.size, ((a0[3]'h).toNat : Int) = bt a0 3 := bt_at a0 3; clear p49; have qi49 : (3 < (a0.size : Int)) = True := eq_true (of_decide_eq_true (by first | (with_reducible assumption) | assumption)); replace q49 := eq_true q49) | (go_at_call 67; (with_reducible refine (umlautref1_tail.calls (bt a0 3) t238 _ A50.out).mono ?_); rintro e w' ⟨rfl, ⟨nd, rfl⟩⟩; (try first | exact ⟨rfl, _, World.drewN_drewN _ _ _⟩ | exact ⟨rfl, _, Eq.trans (World.drewN_drewN _ _ _) (congrArg (World.drewN _) (Nat.add_assoc _ _ _))⟩)))
                   go_meet
                   case rel => exact ⟨_, (t238), (by first | rfl | (simp; done) | (simp [*]; done)), H', ⟨by have := HJ5.out; have := HJ14.out; have := HJ34.out; first | omega | exact Nat.le_refl _⟩, by repeat (first | exact Drawn0.refl _ | apply Drawn0.step)⟩
                  ·rw [if_neg c48] at H
                   exact absurd H (by simp)
                 ·replace c47 := Bool.eq_false_iff.mpr c47
                  subst c47
                  have H1 : (umlautref1_Sign.j4 kj34 a0 (wrap64 (1114112 + (wrap64 (bt a0 0)))) (wrap64 (bt a0 0)) false) = some (r1, r2) := by rw [if_neg (show ¬ (false = true) by decide)] at H; exact H
                  clear H
                  have H := H1
                  clear H1
                  have H' := Aside0.mk H
                  clear H
                  have p41 : 0 ≤ (1 : Int) := (by omega)
                  have q41 : 1 < a0.size := (by have : (1 : Int) < (a0.size : Int) := of_decide_eq_true (by first | (with_reducible assumption) | assumption); omega)
                  have hx41 : ∀ h : 1 < a0.size, ((a0[1]'h).toNat : Int) = bt a0 1 := bt_at a0 1
                  clear p41
                  have qi41 : (1 < (a0.size : Int)) = True := eq_true (of_decide_eq_true (by first | (with_reducible assumption) | assumption))
                  replace q41 := eq_true q41
                  go_wp2_with (first | (go_at_call 67; (with_reducible refine (umlautref1_tail.calls (bt a0 1) true _ A42.out).mono ?_); rintro e w' ⟨rfl, ⟨nd, rfl⟩⟩; (try first | exact ⟨rfl, _, World.drewN_drewN _ _ _⟩ | exact ⟨rfl, _, Eq.trans (World.drewN_drewN _ _ _) (congrArg (World.drewN _) (Nat.add_assoc _ _ _))⟩); have p45 : 0 ≤ (2 : Int) := (by omega); have q45 : 2 < a0.size := (by have : (2 : Int) < (a0.size : Int) := of_decide_eq_true (by first | (with_reducible assumption) | assumption); omega); have hx45 : ∀ h : 2 < a0.size, ((a0[2]'h).toNat : Int) = bt a0 2 := bt_at a0 2; clear p45; have qi45 : (2 < (a0.size : Int)) = True := eq_true (of_decide_eq_true (by first | (with_reducible assumption) | assumption)); replace q45 := eq_true q45) | (go_at_call 67; (with_reducible refine (umlautref1_tail.calls (bt a0 2) false _ A46.out).mono ?_); rintro e w' ⟨rfl, ⟨nd, rfl⟩⟩; (try first | exact ⟨rfl, _, World.drewN_drewN _ _ _⟩ | exact ⟨rfl, _, Eq.trans (World.drewN_drewN _ _ _) (congrArg (World.drewN _) (Nat.add_assoc _ _ _))⟩)))
                  go_meet
                  case rel => exact ⟨_, (false), (by first | rfl | (simp; done) | (simp [*]; done)), H', ⟨by have := HJ5.out; have := HJ14.out; have := HJ34.out; first | omega | exact Nat.le_refl _⟩, by repeat (first | exact Drawn0.refl _ | apply Drawn0.step)⟩
                ·rw [if_neg c44] at H
                 exact absurd H (by simp)
               ·replace c43 := Bool.eq_false_iff.mpr c43
                subst c43
                have H1 : (umlautref1_Sign.j4 kj34 a0 (wrap64 (1114112 + (wrap64 (bt a0 0)))) (wrap64 (bt a0 0)) false) = some (r1, r2) := by rw [if_neg (show ¬ (false = true) by decide)] at H; exact H
                clear H
                have H := H1
                clear H1
                have H' := Aside0.mk H
                clear H
                have p41 : 0 ≤ (1 : Int) := (by omega)
                have q41 : 1 < a0.size := (by have : (1 : Int) < (a0.size : Int) := of_decide_eq_true (by first | (with_reducible assumption) | assumption); omega)
                have hx41 : ∀ h : 1 < a0.size, ((a0[1]'h).toNat : Int) = bt a0 1 := bt_at a0 1
                clear p41
                have qi41 : (1 < (a0.size : Int)) = True := eq_true (of_decide_eq_true (by first | (with_reducible assumption) | assumption))
                replace q41 := eq_true q41
                go_wp2_with (first | (go_at_call 67; (with_reducible refine (umlautref1_tail.calls (bt a0 1) false _ A42.out).mono ?_); rintro e w' ⟨rfl, ⟨nd, rfl⟩⟩; (try first | exact ⟨rfl, _, World.drewN_drewN _ _ _⟩ | exact ⟨rfl, _, Eq.trans (World.drewN_drewN _ _ _) (congrArg (World.drewN _) (Nat.add_assoc _ _ _))⟩)))
                go_meet
                case rel => exact ⟨_, (false), (by first | rfl | (simp; done) | (simp [*]; done)), H', ⟨by have := HJ5.out; have := HJ14.out; have := HJ34.out; first | omega | exact Nat.le_refl _⟩, by repeat (first | exact Drawn0.refl _ | apply Drawn0.step)⟩
              ·rw [if_neg c40] at H
               exact absurd H (by simp)
             ·rw [if_neg c39] at H
              have c39b0 : decide (3 < (a0.size : Int)) = false := decide_eq_false c39
              have c39b1 : decide (3 < a0.size) = false := decide_eq_false (by omega)
              clear c39
              (first | rw [c39b0] | (simp only [i64_w, i32_w]; rw [c39b0]) | skip)
              have H' := Aside0.mk H
              clear H
              go_wp2
              repeat (go_quiet (fail); try go_wp2)
              go_meet
              case rel => exact ⟨_, (false), (by first | rfl | (simp; done) | (simp [*]; done)), H', ⟨by have := HJ5.out; have := HJ14.out; have := HJ34.out; first | omega | exact Nat.le_refl _⟩, by repeat (first | exact Drawn0.refl _ | apply Drawn0.step)⟩
            case rest =>
             clear HC38
             try clear c1
             try clear p1
             try clear q1
             try clear hx1
             try clear qi1
             try clear c2
             try clear c2b0
             try clear c2b1
             try clear p2
             try clear q2
             try clear hx2
             try clear qi2
             try clear c3
             try clear p3
             try clear q3
             try clear hx3
             try clear qi3
             try clear c4
             try clear p4
             try clear q4
             try clear hx4
             try clear qi4
             try clear c5
             try clear c5b0
             try clear p6
             try clear c7
             try clear c7b0
             try clear c8
             try clear c9
             try clear c9b0
             try clear c9b1
             try clear c10
             try clear c10b0
             try clear c10b1
             try clear p11
             try clear q11
             try clear hx11
             try clear qi11
             try clear c13
             try clear c14
             try clear p14
             try clear q14
             try clear hx14
             try clear qi14
             try clear c16
             try clear c16b0
             try clear c17
             try clear c19
             try clear c19b0
             try clear c19b1
             try clear c20
             try clear c20b0
             try clear c20b1
             try clear p21
             try clear q21
             try clear hx21
             try clear qi21
             try clear c23
             try clear c24
             try clear c24b0
             try clear c24b1
             try clear p25
             try clear q25
             try clear hx25
             try clear qi25
             try clear c27
             try clear c28
             try clear c28b0
             try clear c28b1
             try clear p29
             try clear q29
             try clear hx29
             try clear qi29
             try clear c30
             try clear c30b0
             try clear c30b1
             try clear p31
             try clear q31
             try clear hx31
             try clear qi31
             try clear c32
             try clear c32b0
             try clear c33
             try clear c33b0
             try clear c34
             try clear c34b0
             try clear c36
             try clear c36b0
             try clear c37
             try clear c39
             try clear c39b0
             try clear c39b1
             try clear c40
             try clear c40b0
             try clear c40b1
             try clear p41
             try clear q41
             try clear hx41
             try clear qi41
             try clear c43
             try clear c44
             try clear c44b0
             try clear c44b1
             try clear p45
             try clear q45
             try clear hx45
             try clear qi45
             try clear c47
             try clear c48
             try clear c48b0
             try clear c48b1
             try clear p49
             try clear q49
             try clear hx49
             try clear qi49
             try clear p1
             try clear p11
             try clear p14
             try clear p2
             try clear p21
             try clear p25
             try clear p29
             try clear p3
             try clear p31
             try clear p4
             try clear p41
             try clear p45
             try clear p49
             try clear p6
             try clear q1
             try clear q11
             try clear q14
             try clear q2
             try clear q21
             try clear q25
             try clear q29
             try clear q3
             try clear q31
             try clear q4
             try clear q41
             try clear q45
             try clear q49
             obtain ⟨kq, x111_37, rfl, HA, HJ37, ⟨mc37, rfl⟩⟩ := hcut
             cases kq with
             | zero => exact absurd HA.out (by simp [umlautref1_Sign.j4])
             | succ kj37 =>
              have H := HA.out
              clear HA
              simp only [umlautref1_Sign.j4] at H
              by_cases c51 : x111_37 = true
              ·subst c51
               have H1 : (if 1 < (a0.size : Int) then (if 2 < (a0.size : Int) then (if 3 < (a0.size : Int) then (if (wrap64 ((wrap64 ((wrap64 ((wrap64 ((wrap64 ((wrap64 ((wrap64 (bt a0 0)) - 240)) * 262144)) + (wrap64 ((wrap64 ((wrap64 (bt a0 1)) - 128)) * 4096)))) + (wrap64 ((wrap64 ((wrap64 (bt a0 2)) - 128)) * 64)))) + (wrap64 (bt a0 3)))) - 128)) ≥ 65536 then (if (wrap64 ((wrap64 ((wrap64 ((wrap64 ((wrap64 ((wrap64 ((wrap64 (bt a0 0)) - 240)) * 262144)) + (wrap64 ((wrap64 ((wrap64 (bt a0 1)) - 128)) * 4096)))) + (wrap64 ((wrap64 ((wrap64 (bt a0 2)) - 128)) * 64)))) + (wrap64 (bt a0 3)))) - 128)) ≤ 1114111 then (some (wrap64 ((wrap64 ((wrap64 ((wrap64 ((wrap64 ((wrap64 ((wrap64 (bt a0 0)) - 240)) * 262144)) + (wrap64 ((wrap64 ((wrap64 (bt a0 1)) - 128)) * 4096)))) + (wrap64 ((wrap64 ((wrap64 (bt a0 2)) - 128)) * 64)))) + (wrap64 (bt a0 3)))) - 128), 4)) else (some ((wrap64 (1114112 + (wrap64 (bt a0 0)))), 1))) else (some ((wrap64 (1114112 + (wrap64 (bt a0 0)))), 1))) else (none)) else (none)) else (none)) = some (r1, r2) := by rw [if_pos rfl] at H; exact H
               clear H
               have H := H1
               clear H1
               by_cases c52 : 1 < (a0.size : Int)
               ·rw [if_pos c52] at H
                have c52b0 : decide (1 < (a0.size : Int)) = true := decide_eq_true c52
                have c52b1 : decide (1 < a0.size) = true := decide_eq_true (by omega)
                clear c52
                by_cases c54 : 2 < (a0.size : Int)
                ·rw [if_pos c54] at H
                 have c54b0 : decide (2 < (a0.size : Int)) = true := decide_eq_true c54
                 have c54b1 : decide (2 < a0.size) = true := decide_eq_true (by omega)
                 clear c54
                 by_cases c56 : 3 < (a0.size : Int)
                 ·rw [if_pos c56] at H
                  have c56b0 : decide (3 < (a0.size : Int)) = true := decide_eq_true c56
                  have c56b1 : decide (3 < a0.size) = true := decide_eq_true (by omega)
                  clear c56
                  by_cases c58 : (wrap64 ((wrap64 ((wrap64 ((wrap64 ((wrap64 ((wrap64 ((wrap64 (bt a0 0)) - 240)) * 262144)) + (wrap64 ((wrap64 ((wrap64 (bt a0 1)) - 128)) * 4096)))) + (wrap64 ((wrap64 ((wrap64 (bt a0 2)) - 128)) * 64)))) + (wrap64 (bt a0 3)))) - 128)) ≥ 65536
                  ·rw [if_pos c58] at H
                   have c58b0 : decide (65536 ≤ (wrap64 ((wrap64 ((wrap64 ((wrap64 ((wrap64 ((wrap64 ((wrap64 (bt a0 0)) - 240)) * 262144)) + (wrap64 ((wrap64 ((wrap64 (bt a0 1)) - 128)) * 4096)))) + (wrap64 ((wrap64 ((wrap64 (bt a0 2)) - 128)) * 64)))) + (wrap64 (bt a0 3)))) - 128))) = true := decide_eq_true c58
                   clear c58
                   by_cases c59 : (wrap64 ((wrap64 ((wrap64 ((wrap64 ((wrap64 ((wrap64 ((wrap64 (bt a0 0)) - 240)) * 262144)) + (wrap64 ((wrap64 ((wrap64 (bt a0 1)) - 128)) * 4096)))) + (wrap64 ((wrap64 ((wrap64 (bt a0 2)) - 128)) * 64)))) + (wrap64 (bt a0 3)))) - 128)) ≤ 1114111
                   ·rw [if_pos c59] at H
                    have c59b0 : decide ((wrap64 ((wrap64 ((wrap64 ((wrap64 ((wrap64 ((wrap64 ((wrap64 (bt a0 0)) - 240)) * 262144)) + (wrap64 ((wrap64 ((wrap64 (bt a0 1)) - 128)) * 4096)))) + (wrap64 ((wrap64 ((wrap64 (bt a0 2)) - 128)) * 64)))) + (wrap64 (bt a0 3)))) - 128)) ≤ 1114111) = true := decide_eq_true c59
                    clear c59
                    simp only [Option.some.injEq, Prod.mk.injEq] at H
                    obtain ⟨rfl, rfl⟩ := H
                    have p53 : 0 ≤ (1 : Int) := (by omega)
                    have q53 : 1 < a0.size := (by have : (1 : Int) < (a0.size : Int) := of_decide_eq_true (by first | (with_reducible assumption) | assumption); omega)
                    have hx53 : ∀ h : 1 < a0.size, ((a0[1]'h).toNat : Int) = bt a0 1 := bt_at a0 1
                    clear p53
                    have qi53 : (1 < (a0.size : Int)) = True := eq_true (of_decide_eq_true (by first | (with_reducible assumption) | assumption))
                    replace q53 := eq_true q53
                    have p55 : 0 ≤ (2 : Int) := (by omega)
                    have q55 : 2 < a0.size := (by have : (2 : Int) < (a0.size : Int) := of_decide_eq_true (by first | (with_reducible assumption) | assumption); omega)
                    have hx55 : ∀ h : 2 < a0.size, ((a0[2]'h).toNat : Int) = bt a0 2 := bt_at a0 2
                    clear p55
                    have qi55 : (2 < (a0.size : Int)) = True := eq_true (of_decide_eq_true (by first | (with_reducible assumption) | assumption))
                    replace q55 := eq_true q55
                    have p57 : 0 ≤ (3 : Int) := (by omega)
                    have q57 : 3 < a0.size := (by have : (3 : Int) < (a0.size : Int) := of_decide_eq_true (by first | (with_reducible assumption) | assumption); omega)
                    have hx57 : ∀ h : 3 < a0.size, ((a0[3]'h).toNat : Int) = bt a0 3 := bt_at a0 3
                    clear p57
                    have qi57 : (3 < (a0.size : Int)) = True := eq_true (of_decide_eq_true (by first | (with_reducible assumption) | assumption))
                    replace q57 := eq_true q57
                    go_wp2
                    repeat (go_quiet (fail); try go_wp2)
                    go_ret2
                    exact ⟨by first | rfl | (simp; done) | (simp [*]; done), by repeat (first | exact Drawn0.refl _ | apply Drawn0.step)⟩
                   ·rw [if_neg c59] at H
                    have c59b0 : decide ((wrap64 ((wrap64 ((wrap64 ((wrap64 ((wrap64 ((wrap64 ((wrap64 (bt a0 0)) - 240)) * 262144)) + (wrap64 ((wrap64 ((wrap64 (bt a0 1)) - 128)) * 4096)))) + (wrap64 ((wrap64 ((wrap64 (bt a0 2)) - 128)) * 64)))) + (wrap64 (bt a0 3)))) - 128)) ≤ 1114111) = false := decide_eq_false c59
                    clear c59
                    simp only [Option.some.injEq, Prod.mk.injEq] at H
                    obtain ⟨rfl, rfl⟩ := H
                    have p53 : 0 ≤ (1 : Int) := (by omega)
                    have q53 : 1 < a0.size := (by have : (1 : Int) < (a0.size : Int) := of_decide_eq_true (by first | (with_reducible assumption) | assumption); omega)
                    have hx53 : ∀ h : 1 < a0.size, ((a0[1]'h).toNat : Int) = bt a0 1 := bt_at a0 1
                    clear p53
                    have qi53 : (1 < (a0.size : Int)) = True := eq_true (of_decide_eq_true (by first | (with_reducible assumption) | assumption))
                    replace q53 := eq_true q53
                    have p55 : 0 ≤ (2 : Int) := (by omega)
                    have q55 : 2 < a0.size := (by have : (2 : Int) < (a0.size : Int) := of_decide_eq_true (by first | (with_reducible assumption) | assumption); omega)
                    have hx55 : ∀ h : 2 < a0.size, ((a0[2]'h).toNat : Int) = bt a0 2 := bt_at a0 2
                    clear p55
                    have qi55 : (2 < (a0.size : Int)) = True := eq_true (of_decide_eq_true (by first | (with_reducible assumption) | assumption))
                    replace q55 := eq_true q55
                    have p57 : 0 ≤ (3 : Int) := (by omega)
                    have q57 : 3 < a0.size := (by have : (3 : Int) < (a0.size : Int) := of_decide_eq_true (by first | (with_reducible assumption) | assumption); omega)
                    have hx57 : ∀ h : 3 < a0.size, ((a0[3]'h).toNat : Int) = bt a0 3 := bt_at a0 3
                    clear p57
                    have qi57 : (3 < (a0.size : Int)) = True := eq_true (of_decide_eq_true (by first | (with_reducible assumption) | assumption))
                    replace q57 := eq_true q57
                    go_wp2
                    repeat (go_quiet (fail); try go_wp2)
                    go_ret2
                    exact ⟨by first | rfl | (simp; done) | (simp [*]; done), by repeat (first | exact Drawn0.refl _ | apply Drawn0.step)⟩
                  ·rw [if_neg c58] at H
                   have c58b0 : decide (65536 ≤ (wrap64 ((wrap64 ((wrap64 ((wrap64 ((wrap64 ((wrap64 ((wrap64 (bt a0 0)) - 240)) * 262144)) + (wrap64 ((wrap64 ((wrap64 (bt a0 1)) - 128)) * 4096)))) + (wrap64 ((wrap64 ((wrap64 (bt a0 2)) - 128)) * 64)))) + (wrap64 (bt a0 3)))) - 128))) = false := decide_eq_false c58
                   clear c58
                   simp only [Option.some.injEq, Prod.mk.injEq] at H
                   obtain ⟨rfl, rfl⟩ := H
                   have p53 : 0 ≤ (1 : Int) := (by omega)
                   have q53 : 1 < a0.size := (by have : (1 : Int) < (a0.size : Int) := of_decide_eq_true (by first | (with_reducible assumption) | assumption); omega)
                   have hx53 : ∀ h : 1 < a0.size, ((a0[1]'h).toNat : Int) = bt a0 1 := bt_at a0 1
                   clear p53
                   have qi53 : (1 < (a0.size : Int)) = True := eq_true (of_decide_eq_true (by first | (with_reducible assumption) | assumption))
                   replace q53 := eq_true q53
                   have p55 : 0 ≤ (2 : Int) := (by omega)
                   have q55 : 2 < a0.size := (by have : (2 : Int) < (a0.size : Int) := of_decide_eq_true (by first | (with_reducible assumption) | assumption); omega)
                   have hx55 : ∀ h : 2 < a0.size, ((a0[2]'h).toNat : Int) = bt a0 2 := bt_at a0 2
                   clear p55
                   have qi55 : (2 < (a0.size : Int)) = True := eq_true (of_decide_eq_true (by first | (with_reducible assumption) | assumption))
                   replace q55 := eq_true q55
                   have p57 : 0 ≤ (3 : Int) := (by omega)
                   have q57 : 3 < a0.size := (by have : (3 : Int) < (a0.size : Int) := of_decide_eq_true (by first | (with_reducible assumption) | assumption); omega)
                   have hx57 : ∀ h : 3 < a0.size, ((a0[3]'h).toNat : Int) = bt a0 3 := bt_at a0 3
                   clear p57
                   have qi57 : (3 < (a0.size : Int)) = True := eq_true (of_decide_eq_true (by first | (with_reducible assumption) | assumption))
                   replace q57 := eq_true q57
                   go_wp2
                   repeat (go_quiet (fail); try go_wp2)
                   go_ret2
                   exact ⟨by first | rfl | (simp; done) | (simp [*]; done), by repeat (first | exact Drawn0.refl _ | apply Drawn0.step)⟩
                 ·rw [if_neg c56] at H
                  exact absurd H (by simp)
                ·rw [if_neg c54] at H
                 exact absurd H (by simp)
               ·rw [if_neg c52] at H
                exact absurd H (by simp)
              ·replace c51 := Bool.eq_false_iff.mpr c51
               subst c51
               have H1 : (some ((wrap64 (1114112 + (wrap64 (bt a0 0)))), 1)) = some (r1, r2) := by rw [if_neg (show ¬ (false = true) by decide)] at H; exact H
               clear H
               have H := H1
               clear H1
               simp only [Option.some.injEq, Prod.mk.injEq] at H
               obtain ⟨rfl, rfl⟩ := H
               go_wp2
               repeat (go_quiet (fail); try go_wp2)
               go_ret2
               exact ⟨by first | rfl | (simp; done) | (simp [*]; done), by repeat (first | exact Drawn0.refl _ | apply Drawn0.step)⟩
           ·replace c37 := Bool.eq_false_iff.mpr c37
            subst c37
            have H1 : (some ((wrap64 (1114112 + (wrap64 (bt a0 0)))), 1)) = some (r1, r2) := by rw [if_neg (show ¬ (false = true) by decide)] at H; exact H
            clear H
            have H := H1
            clear H1
            simp only [Option.some.injEq, Prod.mk.injEq] at H
            obtain ⟨rfl, rfl⟩ := H
            go_wp2
            repeat (go_quiet (fail); try go_wp2)
            go_ret2
            exact ⟨by first | rfl | (simp; done) | (simp [*]; done), by repeat (first | exact Drawn0.refl _ | apply Drawn0.step)⟩
 ·rw [if_neg c2] at H
  exact absurd H (by simp)

end Go.Proofs.YtjcgjchdelipcaaDoor.R
