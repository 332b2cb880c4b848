-- Written by this session's program wip/gp/gprint.py round the kit's printer. Not trusted: Lean checks it.
import Derived.Test.YtjcgjchdelipcaaDoorR0
namespace Go.Proofs.YtjcgjchdelipcaaDoor.R
open Go.RowKit Go.Proofs.YtjcgjchdelipcaaDoorW.PrintWords Go.Proofs.YtjcgjchdelipcaaDoorW.PrintLast Go.Proofs.YtjcgjchdelipcaaDoorW.PrintMore
attribute [local go_sem] max2_int min2_int max_two min_two max_three min_three max_four min_four   -- for this text's walks alone
set_option linter.unusedVariables false
set_option linter.unusedSimpArgs false

/-! ### umlautlaw6_Of: function 35 -/
def umlautlaw6_Of.l0 : Nat → List (S57) → List (S63) → Int → Option ((List (S63)))
  | 0, _, _, _ => none
  | k + 1, x0, x3, x4 => if x4 < (x0.length : Int) then (if 0 ≤ x4 then ((some (([] : List Int) : List Int)).bind fun y309 => (if y309.length + ((rd_T57 x0 x4).f1).length < 17592186044416 then ((some (([] : List Int) : List Int)).bind fun y316 => (if y316.length + ((rd_T57 x0 x4).f2).length < 17592186044416 then (if x3.length < 2513169434916 then (umlautlaw6_Of.l0 k x0 (x3 ++ [(⟨(rd_T57 x0 x4).f0, (y309 ++ ((rd_T57 x0 x4).f1)), (y316 ++ ((rd_T57 x0 x4).f2))⟩ : S63)]) (wrap64 (x4 + 1))) else (none)) else (none))) else (none))) else (none)) else (some x3)
def umlautlaw6_Of.f (k : Nat) (l0 : List (S57)) : Option ((List (S63))) := umlautlaw6_Of.l0 k l0 ([] : List (S63)) 0
theorem umlautlaw6_Of.mono_l : ∀ k, (∀ y0 y1 y2, LeO (umlautlaw6_Of.l0 k y0 y1 y2) (umlautlaw6_Of.l0 (k + 1) y0 y1 y2))
  | 0 => fun _ _ _ r h => by simp [umlautlaw6_Of.l0] at h
  | k + 1 => by
    have ih0 := umlautlaw6_Of.mono_l k
    · intro y0 y1 y2
      unfold umlautlaw6_Of.l0
      repeat' first
      | (with_reducible exact ih0 _ _ _)
      | (with_reducible exact LeO.refl _)
      | (with_reducible exact LeO.none _)
      | (with_reducible refine LeO.ite ?_ ?_)
      | (with_reducible refine LeO.bind ?_ (fun _ => ?_))
      | exact ih0 _ _ _
      | exact LeO.none _
      | refine LeO.ite ?_ ?_
      | refine LeO.bind ?_ (fun _ => ?_)
theorem umlautlaw6_Of.mono : ∀ a0 k, LeO (umlautlaw6_Of.f k a0) (umlautlaw6_Of.f (k + 1) a0) := by
  intro a0 k
  have ih0 := umlautlaw6_Of.mono_l k
  unfold umlautlaw6_Of.f
  repeat' first
      | (with_reducible exact ih0 _ _ _)
      | (with_reducible exact LeO.refl _)
      | (with_reducible exact LeO.none _)
      | (with_reducible refine LeO.ite ?_ ?_)
      | (with_reducible refine LeO.bind ?_ (fun _ => ?_))
      | exact ih0 _ _ _
      | exact LeO.none _
      | refine LeO.ite ?_ ?_
      | refine LeO.bind ?_ (fun _ => ?_)
def umlautlaw6_Of.T5 : Bool × List (List Nat × List Nat) := (true, [([], []), ([], []), ([], []), ([1, 2], [1, 2]), ([3], [3]), ([4], [4]), ([], []), ([], []), ([], []), ([7, 8], [7, 8]), ([9], [9]), ([10], [10]), ([6, 11], [6, 11]), ([], []), ([], []), ([], []), ([14, 15], [14, 15]), ([16], [16]), ([17], [17]), ([13, 18, 12], [13, 18]), ([5, 12, 19], [5, 12, 19]), ([20], [20]), ([0, 21, 19], [0, 21]), ([22, 22, 0, 1, 2, 3, 4, 5, 6, 7, 8, 9, 10, 11, 12, 13, 14, 15, 16, 17, 18, 19, 20, 21, 22], [0, 22])])
def umlautlaw6_Of.B5 : List Nat := [0, 0, 0, 6, 14, 30, 0, 0, 0, 384, 896, 1920, 4032, 0, 0, 0, 49152, 114688, 245760, 524224, 1048574, 2097150, 4194303, 8388607]
theorem umlautlaw6_Of.tab5 : rtab .any (opsOf Tryd.f35 5) = umlautlaw6_Of.T5 := by kernel_rfl
theorem umlautlaw6_Of.bits5 : waitsOk umlautlaw6_Of.T5.2 umlautlaw6_Of.B5 = true := by kernel_rfl
set_option maxHeartbeats 8000000 in
set_option maxRecDepth 100000 in
theorem umlautlaw6_Of.calls (k : Nat) (A0 : Option Addr) (c0 : Nat) (l0 : List (S57)) (r : List (S63)) (w : World) (hr0 : Kd.C k57 w A0 l0.length l0) (hc0 : l0.length ≤ c0) (h : umlautlaw6_Of.f k l0 = some r) :
    Calls Tryd.prog 35 #[.slice A0 l0.length c0] w fun e w' => ∃ v0_ : Value, e = .returned (v0_) ∧ Kd.S k63 63 w' w.heap.size (fun _ => True) v0_ r ∧ Below w.heap.size w w' := by
  have hu63 := Tryd.underlying63
  have HR0 := Aside0.mk hr0
  have HC0 := Aside0.mk hc0
  clear hr0 hc0
  have HB := Aside0.mk (Below.refl w.heap.size w)
  have H : (umlautlaw6_Of.l0 k l0 ([] : List (S63)) 0) = some r := h
  clear h
  have H' := Aside0.mk H
  clear H
  go_enter Tryd.func35, Tryd.ntmps35
  go_wp2
  go_loopg [3, 4] k (fun kq v3 v4 w' => ∃ (x3_1 : List (S63)) (x4_1 : Int), v4 = .int .i64 x4_1 ∧ Aside0 (umlautlaw6_Of.l0 kq l0 x3_1 x4_1 = some r) ∧ Aside0 (kq ≤ k) ∧ Aside0 (Kd.S k63 63 w' w.heap.size (fun _ => True) v3 x3_1) ∧ Aside0 (Below w.heap.size w w'))
  case atStart => exact ⟨(([] : List (S63))), (0), (by first | rfl | (simp; done) | (simp [*]; done)), H', ⟨Nat.le_refl _⟩, ⟨by first | exact Kd.S_nil _ _ _ _ _ | exact Kd.N_nil _ _ _ _ _ | exact Kd.V_nil _ _ _ _ _ | exact Kd.Q_nil _ _ _ _ _ | exact Kd.R_nil _ _ _ _ _⟩, ⟨by repeat (first | (with_reducible first | exact HB.out | apply below_alloc | apply pw_below_drewN | apply below_drew1) | exact HB.out)⟩⟩
  case round =>
    clear H'
    obtain ⟨x3_1, x4_1, rfl, HA, HK1, HO_3, HB⟩ := hrel
    cases gk with
    | zero => exact absurd HA.out (by simp [umlautlaw6_Of.l0])
    | succ k1 =>
      have H := HA.out
      clear HA
      simp only [umlautlaw6_Of.l0] at H
      by_cases c2 : x4_1 < (l0.length : Int)
      · rw [if_pos c2] at H
        have c2b0 : decide (x4_1 < (l0.length : Int)) = true := decide_eq_true c2
        clear c2
        by_cases c3 : 0 ≤ x4_1
        · rw [if_pos c3] at H
          have c3b0 : decide (0 ≤ x4_1) = true := decide_eq_true c3
          clear c3
          obtain ⟨y309, hy309⟩ : ∃ y_ : List Int, y_ = (([] : List Int)) := ⟨_, rfl⟩
          replace H : (if y309.length + ((rd_T57 l0 x4_1).f1).length < 17592186044416 then ((some (([] : List Int) : List Int)).bind fun y316 => (if y316.length + ((rd_T57 l0 x4_1).f2).length < 17592186044416 then (if x3_1.length < 2513169434916 then (umlautlaw6_Of.l0 k1 l0 (x3_1 ++ [(⟨(rd_T57 l0 x4_1).f0, (y309 ++ ((rd_T57 l0 x4_1).f1)), (y316 ++ ((rd_T57 l0 x4_1).f2))⟩ : S63)]) (wrap64 (x4_1 + 1))) else (none)) else (none))) else (none)) = some r := by first | (rw [hy309]; with_reducible exact H) | (have H2_ := (Option.bind_some _ _).symm.trans H; rw [hy309]; with_reducible exact H2_) | (have H2_ := (Option.bind_some _ _).symm.trans H; with_reducible exact H2_) | with_reducible exact H | (rw [hy309]; exact H) | exact H
          have Ny309 := Aside0.mk hy309
          clear hy309
          by_cases c4 : y309.length + ((rd_T57 l0 x4_1).f1).length < 17592186044416
          · rw [if_pos c4] at H
            have LMc4 := Aside0.mk c4
            clear c4
            obtain ⟨y313, hy313⟩ : ∃ y_ : List Int, y_ = (y309 ++ ((rd_T57 l0 x4_1).f1)) := ⟨_, rfl⟩
            replace H : ((some (([] : List Int) : List Int)).bind fun y316 => (if y316.length + ((rd_T57 l0 x4_1).f2).length < 17592186044416 then (if x3_1.length < 2513169434916 then (umlautlaw6_Of.l0 k1 l0 (x3_1 ++ [(⟨(rd_T57 l0 x4_1).f0, y313, (y316 ++ ((rd_T57 l0 x4_1).f2))⟩ : S63)]) (wrap64 (x4_1 + 1))) else (none)) else (none))) = some r := by first | (rw [hy313]; with_reducible exact H) | (have H2_ := (Option.bind_some _ _).symm.trans H; rw [hy313]; with_reducible exact H2_) | (have H2_ := (Option.bind_some _ _).symm.trans H; with_reducible exact H2_) | with_reducible exact H | (rw [hy313]; exact H) | exact H
            have Ny313 := Aside0.mk hy313
            clear hy313
            obtain ⟨y316, hy316⟩ : ∃ y_ : List Int, y_ = (([] : List Int)) := ⟨_, rfl⟩
            replace H : (if y316.length + ((rd_T57 l0 x4_1).f2).length < 17592186044416 then (if x3_1.length < 2513169434916 then (umlautlaw6_Of.l0 k1 l0 (x3_1 ++ [(⟨(rd_T57 l0 x4_1).f0, y313, (y316 ++ ((rd_T57 l0 x4_1).f2))⟩ : S63)]) (wrap64 (x4_1 + 1))) else (none)) else (none)) = some r := by first | (rw [hy316]; with_reducible exact H) | (have H2_ := (Option.bind_some _ _).symm.trans H; rw [hy316]; with_reducible exact H2_) | (have H2_ := (Option.bind_some _ _).symm.trans H; with_reducible exact H2_) | with_reducible exact H | (rw [hy316]; exact H) | exact H
            have Ny316 := Aside0.mk hy316
            clear hy316
            by_cases c5 : y316.length + ((rd_T57 l0 x4_1).f2).length < 17592186044416
            · rw [if_pos c5] at H
              have LMc5 := Aside0.mk c5
              clear c5
              obtain ⟨y320, hy320⟩ : ∃ y_ : List Int, y_ = (y316 ++ ((rd_T57 l0 x4_1).f2)) := ⟨_, rfl⟩
              replace H : (if x3_1.length < 2513169434916 then (umlautlaw6_Of.l0 k1 l0 (x3_1 ++ [(⟨(rd_T57 l0 x4_1).f0, y313, y320⟩ : S63)]) (wrap64 (x4_1 + 1))) else (none)) = some r := by first | (rw [hy320]; with_reducible exact H) | (have H2_ := (Option.bind_some _ _).symm.trans H; rw [hy320]; with_reducible exact H2_) | (have H2_ := (Option.bind_some _ _).symm.trans H; with_reducible exact H2_) | with_reducible exact H | (rw [hy320]; exact H) | exact H
              have Ny320 := Aside0.mk hy320
              clear hy320
              by_cases c6 : x3_1.length < 2513169434916
              · rw [if_pos c6] at H
                have LMc6 := Aside0.mk c6
                clear c6
                obtain ⟨y323, hy323⟩ : ∃ y_ : List (S63), y_ = (x3_1 ++ [(⟨(rd_T57 l0 x4_1).f0, y313, y320⟩ : S63)]) := ⟨_, rfl⟩
                replace H : (umlautlaw6_Of.l0 k1 l0 y323 (wrap64 (x4_1 + 1))) = some r := by first | (rw [hy323]; with_reducible exact H) | (have H2_ := (Option.bind_some _ _).symm.trans H; rw [hy323]; with_reducible exact H2_) | (have H2_ := (Option.bind_some _ _).symm.trans H; with_reducible exact H2_) | with_reducible exact H | (rw [hy323]; exact H) | exact H
                have Ny323 := Aside0.mk hy323
                clear hy323
                have H' := Aside0.mk H
                clear H
                obtain ⟨Ao7, co7, eo7⟩ := Kd.S_slice HO_3.out
                subst eo7
                try go_wp2
                have n0_ := Aside0.mk (Kd.S_drew HO_3.out)
                have n1_ := Aside0.mk (below_drew1 HB.out)
                clear HO_3
                clear HB
                have HO_3 := n0_
                have HB := n1_
                clear n0_ n1_
                have p308 : 0 ≤ (x4_1 : Int) := of_decide_eq_true (by first | (with_reducible assumption) | assumption)
                have q308 : x4_1 < (l0.length : Int) := of_decide_eq_true (by first | (with_reducible assumption) | assumption)
                obtain ⟨ad308, A308_1, c308_1, A308_2, c308_2, e308, hx308_0, hx308_1, hx308_2, hl308_1, hi308_1, hl308_2, hi308_2⟩ := at_T57 HR0.out x4_1 p308 q308
                have hw308_2 := hx308_2
                have hw308_1 := hx308_1
                have hw308_0 := hx308_0
                cases e308
                replace hx308_0 := (HB.out.cell (World.block_lt_of_cell? w _ hx308_0)).trans hx308_0
                replace hx308_1 := (HB.out.cell (World.block_lt_of_cell? w _ hx308_1)).trans hx308_1
                replace hx308_2 := (HB.out.cell (World.block_lt_of_cell? w _ hx308_2)).trans hx308_2
                have HR308_1 := Aside0.mk hi308_1
                have HC308_1 := Aside0.mk hl308_1
                clear hi308_1 hl308_1
                have HR308_2 := Aside0.mk hi308_2
                have HC308_2 := Aside0.mk hl308_2
                clear hi308_2 hl308_2
                replace p308 := eq_true p308
                replace q308 := eq_true q308
                have p312 : 0 ≤ (x4_1 : Int) := of_decide_eq_true (by first | (with_reducible assumption) | assumption)
                have q312 : x4_1 < (l0.length : Int) := of_decide_eq_true (by first | (with_reducible assumption) | assumption)
                obtain ⟨ad312, A312_1, c312_1, A312_2, c312_2, e312, hx312_0, hx312_1, hx312_2, hl312_1, hi312_1, hl312_2, hi312_2⟩ := at_T57 HR0.out x4_1 p312 q312
                have hw312_2 := hx312_2
                have hw312_1 := hx312_1
                have hw312_0 := hx312_0
                obtain rfl : ad308 = ad312 := (by injection e312)
                replace hx312_0 := (HB.out.cell (World.block_lt_of_cell? w _ hx312_0)).trans hx312_0
                replace hx312_1 := (HB.out.cell (World.block_lt_of_cell? w _ hx312_1)).trans hx312_1
                replace hx312_2 := (HB.out.cell (World.block_lt_of_cell? w _ hx312_2)).trans hx312_2
                have HR312_1 := Aside0.mk hi312_1
                have HC312_1 := Aside0.mk hl312_1
                clear hi312_1 hl312_1
                have HR312_2 := Aside0.mk hi312_2
                have HC312_2 := Aside0.mk hl312_2
                clear hi312_2 hl312_2
                replace p312 := eq_true p312
                replace q312 := eq_true q312
                have ea_ := Option.some.inj (hx308_1.symm.trans hx312_1)
                injection ea_ with ea_ en_ ec_
                subst ea_
                subst ec_
                clear en_
                have ea_ := Option.some.inj (hx308_2.symm.trans hx312_2)
                injection ea_ with ea_ en_ ec_
                subst ea_
                subst ec_
                clear en_
                have p319 : 0 ≤ (x4_1 : Int) := of_decide_eq_true (by first | (with_reducible assumption) | assumption)
                have q319 : x4_1 < (l0.length : Int) := of_decide_eq_true (by first | (with_reducible assumption) | assumption)
                obtain ⟨ad319, A319_1, c319_1, A319_2, c319_2, e319, hx319_0, hx319_1, hx319_2, hl319_1, hi319_1, hl319_2, hi319_2⟩ := at_T57 HR0.out x4_1 p319 q319
                have hw319_2 := hx319_2
                have hw319_1 := hx319_1
                have hw319_0 := hx319_0
                obtain rfl : ad308 = ad319 := (by injection e319)
                replace hx319_0 := (HB.out.cell (World.block_lt_of_cell? w _ hx319_0)).trans hx319_0
                replace hx319_1 := (HB.out.cell (World.block_lt_of_cell? w _ hx319_1)).trans hx319_1
                replace hx319_2 := (HB.out.cell (World.block_lt_of_cell? w _ hx319_2)).trans hx319_2
                have HR319_1 := Aside0.mk hi319_1
                have HC319_1 := Aside0.mk hl319_1
                clear hi319_1 hl319_1
                have HR319_2 := Aside0.mk hi319_2
                have HC319_2 := Aside0.mk hl319_2
                clear hi319_2 hl319_2
                replace p319 := eq_true p319
                replace q319 := eq_true q319
                have ea_ := Option.some.inj (hx308_1.symm.trans hx319_1)
                injection ea_ with ea_ en_ ec_
                subst ea_
                subst ec_
                clear en_
                have ea_ := Option.some.inj (hx308_2.symm.trans hx319_2)
                injection ea_ with ea_ en_ ec_
                subst ea_
                subst ec_
                clear en_
                refine start_ (n := 24) (S := fun w' => w'.cell? (ad308.add ((x4_1).toNat * 3)) = some (.int .i64 ((rd_T57 l0 x4_1).f0)) ∧ w'.cell? ⟨(ad308.add ((x4_1).toNat * 3)).block, (ad308.add ((x4_1).toNat * 3)).off + 1, none⟩ = some (.slice A308_1 ((rd_T57 l0 x4_1).f1).length c308_1) ∧ w'.cell? ⟨(ad308.add ((x4_1).toNat * 3)).block, (ad308.add ((x4_1).toNat * 3)).off + 2, none⟩ = some (.slice A308_2 ((rd_T57 l0 x4_1).f2).length c308_2) ∧ w'.cell? (ad308.add ((x4_1).toNat * 3)) = some (.int .i64 ((rd_T57 l0 x4_1).f0)) ∧ w'.cell? ⟨(ad308.add ((x4_1).toNat * 3)).block, (ad308.add ((x4_1).toNat * 3)).off + 1, none⟩ = some (.slice A308_1 ((rd_T57 l0 x4_1).f1).length c308_1) ∧ w'.cell? ⟨(ad308.add ((x4_1).toNat * 3)).block, (ad308.add ((x4_1).toNat * 3)).off + 2, none⟩ = some (.slice A308_2 ((rd_T57 l0 x4_1).f2).length c308_2) ∧ w'.cell? (ad308.add ((x4_1).toNat * 3)) = some (.int .i64 ((rd_T57 l0 x4_1).f0)) ∧ w'.cell? ⟨(ad308.add ((x4_1).toNat * 3)).block, (ad308.add ((x4_1).toNat * 3)).off + 1, none⟩ = some (.slice A308_1 ((rd_T57 l0 x4_1).f1).length c308_1) ∧ w'.cell? ⟨(ad308.add ((x4_1).toNat * 3)).block, (ad308.add ((x4_1).toNat * 3)).off + 2, none⟩ = some (.slice A308_2 ((rd_T57 l0 x4_1).f2).length c308_2)) (ds := []) #[false, false, false, false, false, false, false, false, false, false, false, false, false, false, false, false, false, false, false, false, false, false, false, false] (by kernel_rfl) rfl rfl ⟨((HB.out.cell (World.block_lt_of_cell? w _ hw308_0)).trans hw308_0), ((HB.out.cell (World.block_lt_of_cell? w _ hw308_1)).trans hw308_1), ((HB.out.cell (World.block_lt_of_cell? w _ hw308_2)).trans hw308_2), ((HB.out.cell (World.block_lt_of_cell? w _ hw312_0)).trans hw312_0), ((HB.out.cell (World.block_lt_of_cell? w _ hw312_1)).trans hw312_1), ((HB.out.cell (World.block_lt_of_cell? w _ hw312_2)).trans hw312_2), ((HB.out.cell (World.block_lt_of_cell? w _ hw319_0)).trans hw319_0), ((HB.out.cell (World.block_lt_of_cell? w _ hw319_1)).trans hw319_1), ((HB.out.cell (World.block_lt_of_cell? w _ hw319_2)).trans hw319_2)⟩ (fun hHeld => ?_); refine with_tabW umlautlaw6_Of.tab5 umlautlaw6_Of.bits5 (fun HT_ HW_ => ?_)
                generalize wr.drew = w8 at HO_3 HB HR308_1 HR308_2 HR312_1 HR312_2 HR319_1 HR319_2 hx308_0 hx308_1 hx308_2 hx312_0 hx312_1 hx312_2 hx319_0 hx319_1 hx319_2 hHeld ⊢
                refine pure_ (i := 0) (N := some 11) (v := ?_) (a' := ?_) #[true, false, false, false, false, false, false, false, false, false, false, false, false, false, false, false, false, false, false, false, false, false, false, false] rfl rfl (any_of HT_.out (by kernel_rfl)) (fun _ _ _ h => h) (Or.inl ⟨by rfl, ?_⟩) ?_ ?_
                rotate_left
                · intro w'
                  go_simp
                  with_reducible rfl
                rotate_left
                · simp only [Act.put, List.setIfInBounds_toArray, List.set_cons_zero, List.set_cons_succ, i64_w, i32_w]
                  rfl
                refine pure_ (i := 1) (N := some 12) (v := ?_) (a' := ?_) #[true, true, false, false, false, false, false, false, false, false, false, false, false, false, false, false, false, false, false, false, false, false, false, false] rfl rfl (any_of HT_.out (by kernel_rfl)) (fun _ _ _ h => h) (Or.inl ⟨by rfl, ?_⟩) ?_ ?_
                rotate_left
                · intro w'
                  go_simp
                  with_reducible rfl
                rotate_left
                · simp only [Act.put, List.setIfInBounds_toArray, List.set_cons_zero, List.set_cons_succ, i64_w, i32_w]
                  rfl
                refine pure_ (i := 2) (N := some 13) (v := ?_) (a' := ?_) #[true, true, true, false, false, false, false, false, false, false, false, false, false, false, false, false, false, false, false, false, false, false, false, false] rfl rfl (any_of HT_.out (by kernel_rfl)) (fun _ _ _ h => h) (Or.inl ⟨by rfl, ?_⟩) ?_ ?_
                rotate_left
                · intro w'
                  go_simp
                  with_reducible rfl
                rotate_left
                · simp only [Act.put, List.setIfInBounds_toArray, List.set_cons_zero, List.set_cons_succ, i64_w, i32_w]
                  rfl
                refine pure_ (i := 3) (N := some 14) (v := ?_) (a' := ?_) #[true, true, true, true, false, false, false, false, false, false, false, false, false, false, false, false, false, false, false, false, false, false, false, false] rfl rfl (any_of HT_.out (by kernel_rfl)) (fun _ _ _ h => h) (Or.inl ⟨by rfl, ?_⟩) ?_ ?_
                rotate_left
                · intro w'
                  go_simp
                  with_reducible rfl
                rotate_left
                · simp only [Act.put, List.setIfInBounds_toArray, List.set_cons_zero, List.set_cons_succ, i64_w, i32_w]
                  rfl
                refine pure_ (i := 4) (N := some 15) (v := ?_) (a' := ?_) #[true, true, true, true, true, false, false, false, false, false, false, false, false, false, false, false, false, false, false, false, false, false, false, false] rfl rfl (any_of HT_.out (by kernel_rfl)) (fun _ _ _ h => h) (Or.inl ⟨by rfl, ?_⟩) ?_ ?_
                rotate_left
                · intro w'
                  go_simp
                  with_reducible rfl
                rotate_left
                · simp only [Act.put, List.setIfInBounds_toArray, List.set_cons_zero, List.set_cons_succ, i64_w, i32_w]
                  rfl
                refine pure_ (i := 7) (N := some 18) (v := ?_) (a' := ?_) #[true, true, true, true, true, false, false, true, false, false, false, false, false, false, false, false, false, false, false, false, false, false, false, false] rfl rfl (any_of HT_.out (by kernel_rfl)) (fun _ _ _ h => h) (Or.inl ⟨by rfl, ?_⟩) ?_ ?_
                rotate_left
                · intro w'
                  go_simp
                  with_reducible rfl
                rotate_left
                · simp only [Act.put, List.setIfInBounds_toArray, List.set_cons_zero, List.set_cons_succ, i64_w, i32_w]
                  rfl
                refine pure_ (i := 8) (N := some 19) (v := ?_) (a' := ?_) #[true, true, true, true, true, false, false, true, true, false, false, false, false, false, false, false, false, false, false, false, false, false, false, false] rfl rfl (any_of HT_.out (by kernel_rfl)) (fun _ _ _ h => h) (Or.inl ⟨by rfl, ?_⟩) ?_ ?_
                rotate_left
                · intro w'
                  go_simp
                  with_reducible rfl
                rotate_left
                · simp only [Act.put, List.setIfInBounds_toArray, List.set_cons_zero, List.set_cons_succ, i64_w, i32_w]
                  rfl
                refine pure_ (i := 9) (N := some 20) (v := ?_) (a' := ?_) #[true, true, true, true, true, false, false, true, true, true, false, false, false, false, false, false, false, false, false, false, false, false, false, false] rfl rfl (any_of HT_.out (by kernel_rfl)) (fun _ _ _ h => h) (Or.inl ⟨by rfl, ?_⟩) ?_ ?_
                rotate_left
                · intro w'
                  go_simp
                  with_reducible rfl
                rotate_left
                · simp only [Act.put, List.setIfInBounds_toArray, List.set_cons_zero, List.set_cons_succ, i64_w, i32_w]
                  rfl
                refine pure_ (i := 10) (N := some 21) (v := ?_) (a' := ?_) #[true, true, true, true, true, false, false, true, true, true, true, false, false, false, false, false, false, false, false, false, false, false, false, false] rfl rfl (any_of HT_.out (by kernel_rfl)) (fun _ _ _ h => h) (Or.inl ⟨by rfl, ?_⟩) ?_ ?_
                rotate_left
                · intro w'
                  go_simp
                  with_reducible rfl
                rotate_left
                · simp only [Act.put, List.setIfInBounds_toArray, List.set_cons_zero, List.set_cons_succ, i64_w, i32_w]
                  rfl
                refine pure_ (i := 14) (N := some 25) (v := ?_) (a' := ?_) #[true, true, true, true, true, false, false, true, true, true, true, false, false, false, true, false, false, false, false, false, false, false, false, false] rfl rfl (any_of HT_.out (by kernel_rfl)) (fun _ _ _ h => h) (Or.inl ⟨by rfl, ?_⟩) ?_ ?_
                rotate_left
                · intro w'
                  go_simp
                  with_reducible rfl
                rotate_left
                · simp only [Act.put, List.setIfInBounds_toArray, List.set_cons_zero, List.set_cons_succ, i64_w, i32_w]
                  rfl
                refine pure_ (i := 15) (N := some 26) (v := ?_) (a' := ?_) #[true, true, true, true, true, false, false, true, true, true, true, false, false, false, true, true, false, false, false, false, false, false, false, false] rfl rfl (any_of HT_.out (by kernel_rfl)) (fun _ _ _ h => h) (Or.inl ⟨by rfl, ?_⟩) ?_ ?_
                rotate_left
                · intro w'
                  go_simp
                  with_reducible rfl
                rotate_left
                · simp only [Act.put, List.setIfInBounds_toArray, List.set_cons_zero, List.set_cons_succ, i64_w, i32_w]
                  rfl
                refine pure_ (i := 16) (N := some 27) (v := ?_) (a' := ?_) #[true, true, true, true, true, false, false, true, true, true, true, false, false, false, true, true, true, false, false, false, false, false, false, false] rfl rfl (any_of HT_.out (by kernel_rfl)) (fun _ _ _ h => h) (Or.inl ⟨by rfl, ?_⟩) ?_ ?_
                rotate_left
                · intro w'
                  go_simp
                  with_reducible rfl
                rotate_left
                · simp only [Act.put, List.setIfInBounds_toArray, List.set_cons_zero, List.set_cons_succ, i64_w, i32_w]
                  rfl
                refine pure_ (i := 17) (N := some 28) (v := ?_) (a' := ?_) #[true, true, true, true, true, false, false, true, true, true, true, false, false, false, true, true, true, true, false, false, false, false, false, false] rfl rfl (any_of HT_.out (by kernel_rfl)) (fun _ _ _ h => h) (Or.inl ⟨by rfl, ?_⟩) ?_ ?_
                rotate_left
                · intro w'
                  go_simp
                  with_reducible rfl
                rotate_left
                · simp only [Act.put, List.setIfInBounds_toArray, List.set_cons_zero, List.set_cons_succ, i64_w, i32_w]
                  rfl
                refine take_ (i := 5) (N := some 16) (v := ?_) (a' := ?_) #[true, true, true, true, true, true, false, true, true, true, true, false, false, false, true, true, true, true, false, false, false, false, false, false] rfl rfl (take_ofW HT_.out HW_.out (by kernel_rfl)) (fun _ _ _ h => h) (Or.inl ⟨by rfl, ?_⟩) hHeld ?_ ?_
                rotate_left
                · rintro w' ⟨s0, s1, s2, s3, s4, s5, s6, s7, s8⟩
                  go_simp
                  with_reducible rfl
                rotate_left
                · simp only [Act.put, List.setIfInBounds_toArray, List.set_cons_zero, List.set_cons_succ, i64_w, i32_w]
                  rfl
                refine take_ (i := 11) (N := some 22) (v := ?_) (a' := ?_) #[true, true, true, true, true, true, false, true, true, true, true, true, false, false, true, true, true, true, false, false, false, false, false, false] rfl rfl (take_ofW HT_.out HW_.out (by kernel_rfl)) (fun _ _ _ h => h) (Or.inl ⟨by rfl, ?_⟩) hHeld ?_ ?_
                rotate_left
                · rintro w' ⟨s0, s1, s2, s3, s4, s5, s6, s7, s8⟩
                  go_simp
                  with_reducible rfl
                rotate_left
                · simp only [Act.put, List.setIfInBounds_toArray, List.set_cons_zero, List.set_cons_succ, i64_w, i32_w]
                  rfl
                refine take_ (i := 18) (N := some 29) (v := ?_) (a' := ?_) #[true, true, true, true, true, true, false, true, true, true, true, true, false, false, true, true, true, true, true, false, false, false, false, false] rfl rfl (take_ofW HT_.out HW_.out (by kernel_rfl)) (fun _ _ _ h => h) (Or.inl ⟨by rfl, ?_⟩) hHeld ?_ ?_
                rotate_left
                · rintro w' ⟨s0, s1, s2, s3, s4, s5, s6, s7, s8⟩
                  go_simp
                  with_reducible rfl
                rotate_left
                · simp only [Act.put, List.setIfInBounds_toArray, List.set_cons_zero, List.set_cons_succ, i64_w, i32_w]
                  rfl
                refine join_ (σ := Value × Value × Value) 5 #[true, true, true, true, true, true, true, true, true, true, true, true, true, true, true, true, true, true, true, false, false, false, false, false] (fun s_ => [(17, s_.1), (23, s_.2.1), (24, s_.2.2)]) (fun s_ w' => (w'.cell? (ad308.add ((x4_1).toNat * 3)) = some (.int .i64 ((rd_T57 l0 x4_1).f0)) ∧ w'.cell? ⟨(ad308.add ((x4_1).toNat * 3)).block, (ad308.add ((x4_1).toNat * 3)).off + 1, none⟩ = some (.slice A308_1 ((rd_T57 l0 x4_1).f1).length c308_1) ∧ w'.cell? ⟨(ad308.add ((x4_1).toNat * 3)).block, (ad308.add ((x4_1).toNat * 3)).off + 2, none⟩ = some (.slice A308_2 ((rd_T57 l0 x4_1).f2).length c308_2) ∧ w'.cell? (ad308.add ((x4_1).toNat * 3)) = some (.int .i64 ((rd_T57 l0 x4_1).f0)) ∧ w'.cell? ⟨(ad308.add ((x4_1).toNat * 3)).block, (ad308.add ((x4_1).toNat * 3)).off + 1, none⟩ = some (.slice A308_1 ((rd_T57 l0 x4_1).f1).length c308_1) ∧ w'.cell? ⟨(ad308.add ((x4_1).toNat * 3)).block, (ad308.add ((x4_1).toNat * 3)).off + 2, none⟩ = some (.slice A308_2 ((rd_T57 l0 x4_1).f2).length c308_2) ∧ w'.cell? (ad308.add ((x4_1).toNat * 3)) = some (.int .i64 ((rd_T57 l0 x4_1).f0)) ∧ w'.cell? ⟨(ad308.add ((x4_1).toNat * 3)).block, (ad308.add ((x4_1).toNat * 3)).off + 1, none⟩ = some (.slice A308_1 ((rd_T57 l0 x4_1).f1).length c308_1) ∧ w'.cell? ⟨(ad308.add ((x4_1).toNat * 3)).block, (ad308.add ((x4_1).toNat * 3)).off + 2, none⟩ = some (.slice A308_2 ((rd_T57 l0 x4_1).f2).length c308_2)) ∧ (Kd.R (Kd.int .i64) 3 w' w.heap.size (fun k_ => some k_ ≠ (s_.2.2 : Value).ownBlock) s_.2.1 y313) ∧ (Kd.R (Kd.int .i64) 3 w' w.heap.size (fun k_ => some k_ ≠ (s_.2.1 : Value).ownBlock) s_.2.2 y316) ∧ (Kd.S k63 63 w' w.heap.size (fun k_ => some k_ ≠ (s_.2.1 : Value).ownBlock ∧ some k_ ≠ (s_.2.2 : Value).ownBlock) (.slice Ao7 x3_1.length co7) x3_1) ∧ (Below w.heap.size w w')) ?_ ?_
                rotate_left
                · intro hCont
                  refine two_ (i := 6) (j := 13) (Ni := some 17) (Nj := some 24) #[true, true, true, true, true, true, true, true, true, true, true, true, false, false, true, true, true, true, true, false, false, false, false, false] #[true, true, true, true, true, true, false, true, true, true, true, true, false, true, true, true, true, true, true, false, false, false, false, false] rfl rfl rfl rfl (two_of HT_.out (by kernel_rfl)) (by decide) (by decide) (fun K hK => ?_) (fun K hK => ?_)
                  · skip
                    refine Kd.R_lit_step (Kd.int .i64) _ 3 ?hg (N := 17) ?hd (xs := ([] : List Int)) (inner := []) (ok := fun _ => True) (okp := fun _ => True) ?hr ?hp (fun _ hk => hk) trivial (Below.refl _ _) (Nat.le_refl _) (by simp) ?_; (case hd => rfl); (case hg => rfl); (case hr => first | (go_simp; done) | (go_simp; rfl)); (case hp => exact (Reps.none _ _))
                    intro v310 w9 ho10 hb hg_ hnew_
                    clear hg_ hnew_
                    (first | rw [← Ny309.out] at ho10 | (simp only [Int.reduceToNat] at ho10; rw [← Ny309.out] at ho10))
                    have n0_ := Aside0.mk (Kd.S_elder' (by (with_reducible repeat (first | apply Kd.S_alloc | apply Kd.S_drewN | apply Kd.S_drew)); exact HO_3.out) (Kd.R_base ho10) hb)
                    have n1_ := Aside0.mk (Kd.R_lower ho10 (below_size (by repeat (first | (with_reducible first | exact HB.out | apply below_alloc | apply pw_below_drewN | apply below_drew1) | exact HB.out))))
                    have n2_ := Aside0.mk (below_step (by repeat (first | (with_reducible first | exact HB.out | apply below_alloc | apply pw_below_drewN | apply below_drew1) | exact HB.out)) hb)
                    clear HO_3
                    clear HB
                    have HO_3 := n0_
                    have HO311 := n1_
                    have HB := n2_
                    clear n0_ n1_ n2_
                    clear hb ho10
                    refine hK.out _ _ ⟨((HB.out.cell (World.block_lt_of_cell? w _ hw308_0)).trans hw308_0), ((HB.out.cell (World.block_lt_of_cell? w _ hw308_1)).trans hw308_1), ((HB.out.cell (World.block_lt_of_cell? w _ hw308_2)).trans hw308_2), ((HB.out.cell (World.block_lt_of_cell? w _ hw312_0)).trans hw312_0), ((HB.out.cell (World.block_lt_of_cell? w _ hw312_1)).trans hw312_1), ((HB.out.cell (World.block_lt_of_cell? w _ hw312_2)).trans hw312_2), ((HB.out.cell (World.block_lt_of_cell? w _ hw319_0)).trans hw319_0), ((HB.out.cell (World.block_lt_of_cell? w _ hw319_1)).trans hw319_1), ((HB.out.cell (World.block_lt_of_cell? w _ hw319_2)).trans hw319_2)⟩ (fun hHeld => ?_)
                    clear hK K
                    refine norm_ (a' := ?_) ?_ ?_
                    rotate_left
                    · show Act.put _ (some 17) _ = _
                      simp only [Act.put, List.setIfInBounds_toArray, List.set_cons_zero, List.set_cons_succ, i64_w, i32_w]
                      rfl
                    refine two_ (i := 12) (j := 13) (Ni := some 23) (Nj := some 24) #[true, true, true, true, true, true, true, true, true, true, true, true, true, false, true, true, true, true, true, false, false, false, false, false] #[true, true, true, true, true, true, true, true, true, true, true, true, false, true, true, true, true, true, true, false, false, false, false, false] rfl rfl rfl rfl (two_of HT_.out (by kernel_rfl)) (by decide) (by decide) (fun K hK => ?_) (fun K hK => ?_)
                    · skip
                      refine Kd.R_append_rows_step (Kd.int .i64) (w0 := w) w.heap.size (by rfl) (.tmp 17) (.tmp 22) 22 3 (.int .i64 0) 8 rfl Tryd.underlying22 info3 rfl (by decide) (by omega) v310 y309 ((rd_T57 l0 x4_1).f1) _ _ _ (fun _ => True) (fun _ => False) rfl rfl ?aO ?aR (fun _ _ h => h) (fun _ h => h.elim) ?aF ?aB ?aS ?aL ?_
                      (case aR => repeat (first | exact (Kd.C_below HR312_1.out HB.out) | (with_reducible refine Kd.C_alloc ?_ _) | (with_reducible refine Kd.C_drewN ?_ _) | (with_reducible refine Kd.C_drew ?_)))
                      (case aB => exact (by repeat (first | (with_reducible first | exact HB.out | apply below_alloc | apply pw_below_drewN | apply below_drew1) | exact HB.out)))
                      (case aF => exact (fun _ _ => trivial))
                      (case aO => exact (by (with_reducible repeat (first | apply Kd.R_alloc | apply Kd.R_drewN | apply Kd.R_drew)); exact HO311.out))
                      (case aS => exact (below_size (by repeat (first | (with_reducible first | exact HB.out | apply below_alloc | apply pw_below_drewN | apply below_drew1) | exact HB.out))))
                      (case aL => have := LMc4.out; omega)
                      intro v314 w11 ho hb hg hat
                      rw [← Ny313.out] at ho
                      have n0_ := Aside0.mk (Kd.S_after (ok := (fun _ => True)) (by (with_reducible repeat (first | apply Kd.S_alloc | apply Kd.S_drewN | apply Kd.S_drew)); exact HO_3.out) hg hat)
                      have n1_ := Aside0.mk (hb)
                      have n2_ := Aside0.mk (ho)
                      clear HO_3
                      clear HB
                      clear HO311
                      have HO_3 := n0_
                      have HB := n1_
                      have HO315 := n2_
                      clear n0_ n1_ n2_
                      clear ho hb hg hat
                      refine hK.out _ _ ⟨((HB.out.cell (World.block_lt_of_cell? w _ hw308_0)).trans hw308_0), ((HB.out.cell (World.block_lt_of_cell? w _ hw308_1)).trans hw308_1), ((HB.out.cell (World.block_lt_of_cell? w _ hw308_2)).trans hw308_2), ((HB.out.cell (World.block_lt_of_cell? w _ hw312_0)).trans hw312_0), ((HB.out.cell (World.block_lt_of_cell? w _ hw312_1)).trans hw312_1), ((HB.out.cell (World.block_lt_of_cell? w _ hw312_2)).trans hw312_2), ((HB.out.cell (World.block_lt_of_cell? w _ hw319_0)).trans hw319_0), ((HB.out.cell (World.block_lt_of_cell? w _ hw319_1)).trans hw319_1), ((HB.out.cell (World.block_lt_of_cell? w _ hw319_2)).trans hw319_2)⟩ (fun hHeld => ?_)
                      clear hK K
                      refine norm_ (a' := ?_) ?_ ?_
                      rotate_left
                      · show Act.put _ (some 23) _ = _
                        simp only [Act.put, List.setIfInBounds_toArray, List.set_cons_zero, List.set_cons_succ, i64_w, i32_w]
                        rfl
                      refine one_ (i := 13) (N := some 24) #[true, true, true, true, true, true, true, true, true, true, true, true, true, true, true, true, true, true, true, false, false, false, false, false] rfl rfl (one_of HT_.out (by kernel_rfl)) (by decide) (fun K hK => ?_)
                      refine Kd.R_lit_step (Kd.int .i64) _ 3 ?hg (N := 24) ?hd (xs := ([] : List Int)) (inner := []) (ok := fun _ => True) (okp := fun _ => True) ?hr ?hp (fun _ hk => hk) trivial (Below.refl _ _) (Nat.le_refl _) (by simp) ?_; (case hd => rfl); (case hg => rfl); (case hr => first | (go_simp; done) | (go_simp; rfl)); (case hp => exact (Reps.none _ _))
                      intro v317 w12 ho13 hb hg_ hnew_
                      clear hg_ hnew_
                      (first | rw [← Ny316.out] at ho13 | (simp only [Int.reduceToNat] at ho13; rw [← Ny316.out] at ho13))
                      have n0_ := Aside0.mk (Kd.S_elder' (by (with_reducible repeat (first | apply Kd.S_alloc | apply Kd.S_drewN | apply Kd.S_drew)); exact HO_3.out) (Kd.R_base ho13) hb)
                      have n1_ := Aside0.mk (Kd.R_elder' (by (with_reducible repeat (first | apply Kd.R_alloc | apply Kd.R_drewN | apply Kd.R_drew)); exact HO315.out) (Kd.R_base ho13) hb)
                      have n2_ := Aside0.mk (Kd.R_lower (Kd.R_new' ho13 (Kd.R_lt (by (with_reducible repeat (first | apply Kd.R_alloc | apply Kd.R_drewN | apply Kd.R_drew)); exact HO315.out))) (below_size (by repeat (first | (with_reducible first | exact HB.out | apply below_alloc | apply pw_below_drewN | apply below_drew1) | exact HB.out))))
                      have n3_ := Aside0.mk (below_step (by repeat (first | (with_reducible first | exact HB.out | apply below_alloc | apply pw_below_drewN | apply below_drew1) | exact HB.out)) hb)
                      clear HO_3
                      clear HO315
                      clear HB
                      have HO_3 := n0_
                      have HO315 := n1_
                      have HO318 := n2_
                      have HB := n3_
                      clear n0_ n1_ n2_ n3_
                      clear hb ho13
                      refine hK.out _ _ ⟨((HB.out.cell (World.block_lt_of_cell? w _ hw308_0)).trans hw308_0), ((HB.out.cell (World.block_lt_of_cell? w _ hw308_1)).trans hw308_1), ((HB.out.cell (World.block_lt_of_cell? w _ hw308_2)).trans hw308_2), ((HB.out.cell (World.block_lt_of_cell? w _ hw312_0)).trans hw312_0), ((HB.out.cell (World.block_lt_of_cell? w _ hw312_1)).trans hw312_1), ((HB.out.cell (World.block_lt_of_cell? w _ hw312_2)).trans hw312_2), ((HB.out.cell (World.block_lt_of_cell? w _ hw319_0)).trans hw319_0), ((HB.out.cell (World.block_lt_of_cell? w _ hw319_1)).trans hw319_1), ((HB.out.cell (World.block_lt_of_cell? w _ hw319_2)).trans hw319_2)⟩ (fun hHeld => ?_)
                      clear hK K
                      refine norm_ (a' := ?_) ?_ ?_
                      rotate_left
                      · show Act.put _ (some 24) _ = _
                        simp only [Act.put, List.setIfInBounds_toArray, List.set_cons_zero, List.set_cons_succ, i64_w, i32_w]
                        rfl
                      exact norm_ (by simp only [putAll, Act.put, List.setIfInBounds_toArray, List.set_cons_zero, List.set_cons_succ]) (hCont (v310, v314, v317) _ ⟨hHeld, (by (with_reducible repeat (first | apply Kd.R_alloc | apply Kd.R_drewN | apply Kd.R_drew)); exact Kd.R_mono HO315.out (fun _ hk => hk.2)), (by (with_reducible repeat (first | apply Kd.R_alloc | apply Kd.R_drewN | apply Kd.R_drew)); exact Kd.R_mono HO318.out (fun _ hk => hk.2)), (by (with_reducible repeat (first | apply Kd.S_alloc | apply Kd.S_drewN | apply Kd.S_drew)); exact Kd.S_mono HO_3.out (fun _ hk => ⟨hk.1.2, hk.2⟩)), (by repeat (first | (with_reducible first | exact HB.out | apply below_alloc | apply pw_below_drewN | apply below_drew1) | exact HB.out))⟩)
                    · skip
                      refine Kd.R_lit_step (Kd.int .i64) _ 3 ?hg (N := 24) ?hd (xs := ([] : List Int)) (inner := []) (ok := fun _ => True) (okp := fun _ => True) ?hr ?hp (fun _ hk => hk) trivial (Below.refl _ _) (Nat.le_refl _) (by simp) ?_; (case hd => rfl); (case hg => rfl); (case hr => first | (go_simp; done) | (go_simp; rfl)); (case hp => exact (Reps.none _ _))
                      intro v317 w11 ho12 hb hg_ hnew_
                      clear hg_ hnew_
                      (first | rw [← Ny316.out] at ho12 | (simp only [Int.reduceToNat] at ho12; rw [← Ny316.out] at ho12))
                      have n0_ := Aside0.mk (Kd.S_elder' (by (with_reducible repeat (first | apply Kd.S_alloc | apply Kd.S_drewN | apply Kd.S_drew)); exact HO_3.out) (Kd.R_base ho12) hb)
                      have n1_ := Aside0.mk (Kd.R_elder' (by (with_reducible repeat (first | apply Kd.R_alloc | apply Kd.R_drewN | apply Kd.R_drew)); exact HO311.out) (Kd.R_base ho12) hb)
                      have n2_ := Aside0.mk (Kd.R_lower (Kd.R_new' ho12 (Kd.R_lt (by (with_reducible repeat (first | apply Kd.R_alloc | apply Kd.R_drewN | apply Kd.R_drew)); exact HO311.out))) (below_size (by repeat (first | (with_reducible first | exact HB.out | apply below_alloc | apply pw_below_drewN | apply below_drew1) | exact HB.out))))
                      have n3_ := Aside0.mk (below_step (by repeat (first | (with_reducible first | exact HB.out | apply below_alloc | apply pw_below_drewN | apply below_drew1) | exact HB.out)) hb)
                      clear HO_3
                      clear HO311
                      clear HB
                      have HO_3 := n0_
                      have HO311 := n1_
                      have HO318 := n2_
                      have HB := n3_
                      clear n0_ n1_ n2_ n3_
                      clear hb ho12
                      refine hK.out _ _ ⟨((HB.out.cell (World.block_lt_of_cell? w _ hw308_0)).trans hw308_0), ((HB.out.cell (World.block_lt_of_cell? w _ hw308_1)).trans hw308_1), ((HB.out.cell (World.block_lt_of_cell? w _ hw308_2)).trans hw308_2), ((HB.out.cell (World.block_lt_of_cell? w _ hw312_0)).trans hw312_0), ((HB.out.cell (World.block_lt_of_cell? w _ hw312_1)).trans hw312_1), ((HB.out.cell (World.block_lt_of_cell? w _ hw312_2)).trans hw312_2), ((HB.out.cell (World.block_lt_of_cell? w _ hw319_0)).trans hw319_0), ((HB.out.cell (World.block_lt_of_cell? w _ hw319_1)).trans hw319_1), ((HB.out.cell (World.block_lt_of_cell? w _ hw319_2)).trans hw319_2)⟩ (fun hHeld => ?_)
                      clear hK K
                      refine norm_ (a' := ?_) ?_ ?_
                      rotate_left
                      · show Act.put _ (some 24) _ = _
                        simp only [Act.put, List.setIfInBounds_toArray, List.set_cons_zero, List.set_cons_succ, i64_w, i32_w]
                        rfl
                      refine one_ (i := 12) (N := some 23) #[true, true, true, true, true, true, true, true, true, true, true, true, true, true, true, true, true, true, true, false, false, false, false, false] rfl rfl (one_of HT_.out (by kernel_rfl)) (by decide) (fun K hK => ?_)
                      refine Kd.R_append_rows_step (Kd.int .i64) (w0 := w) w.heap.size (by rfl) (.tmp 17) (.tmp 22) 22 3 (.int .i64 0) 8 rfl Tryd.underlying22 info3 rfl (by decide) (by omega) v310 y309 ((rd_T57 l0 x4_1).f1) _ _ _ (fun k_ => some k_ ≠ (v317 : Value).ownBlock) (fun _ => False) rfl rfl ?aO ?aR (fun _ _ h => h) (fun _ h => h.elim) ?aF ?aB ?aS ?aL ?_
                      (case aR => repeat (first | exact (Kd.C_below HR312_1.out HB.out) | (with_reducible refine Kd.C_alloc ?_ _) | (with_reducible refine Kd.C_drewN ?_ _) | (with_reducible refine Kd.C_drew ?_)))
                      (case aB => exact (by repeat (first | (with_reducible first | exact HB.out | apply below_alloc | apply pw_below_drewN | apply below_drew1) | exact HB.out)))
                      (case aF => exact (fun k_ hk => Kd.fresh' (Kd.R_lt (by (with_reducible repeat (first | apply Kd.R_alloc | apply Kd.R_drewN | apply Kd.R_drew)); exact HO318.out)) k_ hk))
                      (case aO => exact (by (with_reducible repeat (first | apply Kd.R_alloc | apply Kd.R_drewN | apply Kd.R_drew)); exact Kd.R_mono HO311.out (fun _ hk => hk.2)))
                      (case aS => exact (below_size (by repeat (first | (with_reducible first | exact HB.out | apply below_alloc | apply pw_below_drewN | apply below_drew1) | exact HB.out))))
                      (case aL => have := LMc4.out; omega)
                      intro v314 w13 ho hb hg hat
                      rw [← Ny313.out] at ho
                      have n0_ := Aside0.mk (Kd.S_after (ok := (fun k_ => some k_ ≠ (v317 : Value).ownBlock)) (by (with_reducible repeat (first | apply Kd.S_alloc | apply Kd.S_drewN | apply Kd.S_drew)); exact Kd.S_mono HO_3.out (fun _ hk => ⟨hk.2, hk.1.2⟩)) hg hat)
                      have n1_ := Aside0.mk (Kd.R_after (ok := (fun _ => True)) (by (with_reducible repeat (first | apply Kd.R_alloc | apply Kd.R_drewN | apply Kd.R_drew)); exact HO318.out) hg hat)
                      have n2_ := Aside0.mk (hb)
                      have n3_ := Aside0.mk (ho)
                      clear HO_3
                      clear HO318
                      clear HB
                      clear HO311
                      have HO_3 := n0_
                      have HO318 := n1_
                      have HB := n2_
                      have HO315 := n3_
                      clear n0_ n1_ n2_ n3_
                      clear ho hb hg hat
                      refine hK.out _ _ ⟨((HB.out.cell (World.block_lt_of_cell? w _ hw308_0)).trans hw308_0), ((HB.out.cell (World.block_lt_of_cell? w _ hw308_1)).trans hw308_1), ((HB.out.cell (World.block_lt_of_cell? w _ hw308_2)).trans hw308_2), ((HB.out.cell (World.block_lt_of_cell? w _ hw312_0)).trans hw312_0), ((HB.out.cell (World.block_lt_of_cell? w _ hw312_1)).trans hw312_1), ((HB.out.cell (World.block_lt_of_cell? w _ hw312_2)).trans hw312_2), ((HB.out.cell (World.block_lt_of_cell? w _ hw319_0)).trans hw319_0), ((HB.out.cell (World.block_lt_of_cell? w _ hw319_1)).trans hw319_1), ((HB.out.cell (World.block_lt_of_cell? w _ hw319_2)).trans hw319_2)⟩ (fun hHeld => ?_)
                      clear hK K
                      refine norm_ (a' := ?_) ?_ ?_
                      rotate_left
                      · show Act.put _ (some 23) _ = _
                        simp only [Act.put, List.setIfInBounds_toArray, List.set_cons_zero, List.set_cons_succ, i64_w, i32_w]
                        rfl
                      exact norm_ (by simp only [putAll, Act.put, List.setIfInBounds_toArray, List.set_cons_zero, List.set_cons_succ]) (hCont (v310, v314, v317) _ ⟨hHeld, (by (with_reducible repeat (first | apply Kd.R_alloc | apply Kd.R_drewN | apply Kd.R_drew)); exact HO315.out), (by (with_reducible repeat (first | apply Kd.R_alloc | apply Kd.R_drewN | apply Kd.R_drew)); exact Kd.R_mono HO318.out (fun _ hk => hk.2)), (by (with_reducible repeat (first | apply Kd.S_alloc | apply Kd.S_drewN | apply Kd.S_drew)); exact Kd.S_mono HO_3.out (fun _ hk => ⟨hk.2, hk.1⟩)), (by repeat (first | (with_reducible first | exact HB.out | apply below_alloc | apply pw_below_drewN | apply below_drew1) | exact HB.out))⟩)
                  · skip
                    refine Kd.R_lit_step (Kd.int .i64) _ 3 ?hg (N := 24) ?hd (xs := ([] : List Int)) (inner := []) (ok := fun _ => True) (okp := fun _ => True) ?hr ?hp (fun _ hk => hk) trivial (Below.refl _ _) (Nat.le_refl _) (by simp) ?_; (case hd => rfl); (case hg => rfl); (case hr => first | (go_simp; done) | (go_simp; rfl)); (case hp => exact (Reps.none _ _))
                    intro v317 w9 ho10 hb hg_ hnew_
                    clear hg_ hnew_
                    (first | rw [← Ny316.out] at ho10 | (simp only [Int.reduceToNat] at ho10; rw [← Ny316.out] at ho10))
                    have n0_ := Aside0.mk (Kd.S_elder' (by (with_reducible repeat (first | apply Kd.S_alloc | apply Kd.S_drewN | apply Kd.S_drew)); exact HO_3.out) (Kd.R_base ho10) hb)
                    have n1_ := Aside0.mk (Kd.R_lower ho10 (below_size (by repeat (first | (with_reducible first | exact HB.out | apply below_alloc | apply pw_below_drewN | apply below_drew1) | exact HB.out))))
                    have n2_ := Aside0.mk (below_step (by repeat (first | (with_reducible first | exact HB.out | apply below_alloc | apply pw_below_drewN | apply below_drew1) | exact HB.out)) hb)
                    clear HO_3
                    clear HB
                    have HO_3 := n0_
                    have HO318 := n1_
                    have HB := n2_
                    clear n0_ n1_ n2_
                    clear hb ho10
                    refine hK.out _ _ ⟨((HB.out.cell (World.block_lt_of_cell? w _ hw308_0)).trans hw308_0), ((HB.out.cell (World.block_lt_of_cell? w _ hw308_1)).trans hw308_1), ((HB.out.cell (World.block_lt_of_cell? w _ hw308_2)).trans hw308_2), ((HB.out.cell (World.block_lt_of_cell? w _ hw312_0)).trans hw312_0), ((HB.out.cell (World.block_lt_of_cell? w _ hw312_1)).trans hw312_1), ((HB.out.cell (World.block_lt_of_cell? w _ hw312_2)).trans hw312_2), ((HB.out.cell (World.block_lt_of_cell? w _ hw319_0)).trans hw319_0), ((HB.out.cell (World.block_lt_of_cell? w _ hw319_1)).trans hw319_1), ((HB.out.cell (World.block_lt_of_cell? w _ hw319_2)).trans hw319_2)⟩ (fun hHeld => ?_)
                    clear hK K
                    refine norm_ (a' := ?_) ?_ ?_
                    rotate_left
                    · show Act.put _ (some 24) _ = _
                      simp only [Act.put, List.setIfInBounds_toArray, List.set_cons_zero, List.set_cons_succ, i64_w, i32_w]
                      rfl
                    refine one_ (i := 6) (N := some 17) #[true, true, true, true, true, true, true, true, true, true, true, true, false, true, true, true, true, true, true, false, false, false, false, false] rfl rfl (one_of HT_.out (by kernel_rfl)) (by decide) (fun K hK => ?_)
                    refine Kd.R_lit_step (Kd.int .i64) _ 3 ?hg (N := 17) ?hd (xs := ([] : List Int)) (inner := []) (ok := fun _ => True) (okp := fun _ => True) ?hr ?hp (fun _ hk => hk) trivial (Below.refl _ _) (Nat.le_refl _) (by simp) ?_; (case hd => rfl); (case hg => rfl); (case hr => first | (go_simp; done) | (go_simp; rfl)); (case hp => exact (Reps.none _ _))
                    intro v310 w11 ho12 hb hg_ hnew_
                    clear hg_ hnew_
                    (first | rw [← Ny309.out] at ho12 | (simp only [Int.reduceToNat] at ho12; rw [← Ny309.out] at ho12))
                    have n0_ := Aside0.mk (Kd.S_elder' (by (with_reducible repeat (first | apply Kd.S_alloc | apply Kd.S_drewN | apply Kd.S_drew)); exact HO_3.out) (Kd.R_base ho12) hb)
                    have n1_ := Aside0.mk (Kd.R_elder' (by (with_reducible repeat (first | apply Kd.R_alloc | apply Kd.R_drewN | apply Kd.R_drew)); exact HO318.out) (Kd.R_base ho12) hb)
                    have n2_ := Aside0.mk (Kd.R_lower (Kd.R_new' ho12 (Kd.R_lt (by (with_reducible repeat (first | apply Kd.R_alloc | apply Kd.R_drewN | apply Kd.R_drew)); exact HO318.out))) (below_size (by repeat (first | (with_reducible first | exact HB.out | apply below_alloc | apply pw_below_drewN | apply below_drew1) | exact HB.out))))
                    have n3_ := Aside0.mk (below_step (by repeat (first | (with_reducible first | exact HB.out | apply below_alloc | apply pw_below_drewN | apply below_drew1) | exact HB.out)) hb)
                    clear HO_3
                    clear HO318
                    clear HB
                    have HO_3 := n0_
                    have HO318 := n1_
                    have HO311 := n2_
                    have HB := n3_
                    clear n0_ n1_ n2_ n3_
                    clear hb ho12
                    refine hK.out _ _ ⟨((HB.out.cell (World.block_lt_of_cell? w _ hw308_0)).trans hw308_0), ((HB.out.cell (World.block_lt_of_cell? w _ hw308_1)).trans hw308_1), ((HB.out.cell (World.block_lt_of_cell? w _ hw308_2)).trans hw308_2), ((HB.out.cell (World.block_lt_of_cell? w _ hw312_0)).trans hw312_0), ((HB.out.cell (World.block_lt_of_cell? w _ hw312_1)).trans hw312_1), ((HB.out.cell (World.block_lt_of_cell? w _ hw312_2)).trans hw312_2), ((HB.out.cell (World.block_lt_of_cell? w _ hw319_0)).trans hw319_0), ((HB.out.cell (World.block_lt_of_cell? w _ hw319_1)).trans hw319_1), ((HB.out.cell (World.block_lt_of_cell? w _ hw319_2)).trans hw319_2)⟩ (fun hHeld => ?_)
                    clear hK K
                    refine norm_ (a' := ?_) ?_ ?_
                    rotate_left
                    · show Act.put _ (some 17) _ = _
                      simp only [Act.put, List.setIfInBounds_toArray, List.set_cons_zero, List.set_cons_succ, i64_w, i32_w]
                      rfl
                    refine one_ (i := 12) (N := some 23) #[true, true, true, true, true, true, true, true, true, true, true, true, true, true, true, true, true, true, true, false, false, false, false, false] rfl rfl (one_of HT_.out (by kernel_rfl)) (by decide) (fun K hK => ?_)
                    refine Kd.R_append_rows_step (Kd.int .i64) (w0 := w) w.heap.size (by rfl) (.tmp 17) (.tmp 22) 22 3 (.int .i64 0) 8 rfl Tryd.underlying22 info3 rfl (by decide) (by omega) v310 y309 ((rd_T57 l0 x4_1).f1) _ _ _ (fun k_ => some k_ ≠ (v317 : Value).ownBlock) (fun _ => False) rfl rfl ?aO ?aR (fun _ _ h => h) (fun _ h => h.elim) ?aF ?aB ?aS ?aL ?_
                    (case aR => repeat (first | exact (Kd.C_below HR312_1.out HB.out) | (with_reducible refine Kd.C_alloc ?_ _) | (with_reducible refine Kd.C_drewN ?_ _) | (with_reducible refine Kd.C_drew ?_)))
                    (case aB => exact (by repeat (first | (with_reducible first | exact HB.out | apply below_alloc | apply pw_below_drewN | apply below_drew1) | exact HB.out)))
                    (case aF => exact (fun k_ hk => Kd.fresh' (Kd.R_lt (by (with_reducible repeat (first | apply Kd.R_alloc | apply Kd.R_drewN | apply Kd.R_drew)); exact HO318.out)) k_ hk))
                    (case aO => exact (by (with_reducible repeat (first | apply Kd.R_alloc | apply Kd.R_drewN | apply Kd.R_drew)); exact Kd.R_mono HO311.out (fun _ hk => hk.2)))
                    (case aS => exact (below_size (by repeat (first | (with_reducible first | exact HB.out | apply below_alloc | apply pw_below_drewN | apply below_drew1) | exact HB.out))))
                    (case aL => have := LMc4.out; omega)
                    intro v314 w13 ho hb hg hat
                    rw [← Ny313.out] at ho
                    have n0_ := Aside0.mk (Kd.S_after (ok := (fun k_ => some k_ ≠ (v317 : Value).ownBlock)) (by (with_reducible repeat (first | apply Kd.S_alloc | apply Kd.S_drewN | apply Kd.S_drew)); exact Kd.S_mono HO_3.out (fun _ hk => ⟨hk.1.2, hk.2⟩)) hg hat)
                    have n1_ := Aside0.mk (Kd.R_after (ok := (fun _ => True)) (by (with_reducible repeat (first | apply Kd.R_alloc | apply Kd.R_drewN | apply Kd.R_drew)); exact HO318.out) hg hat)
                    have n2_ := Aside0.mk (hb)
                    have n3_ := Aside0.mk (ho)
                    clear HO_3
                    clear HO318
                    clear HB
                    clear HO311
                    have HO_3 := n0_
                    have HO318 := n1_
                    have HB := n2_
                    have HO315 := n3_
                    clear n0_ n1_ n2_ n3_
                    clear ho hb hg hat
                    refine hK.out _ _ ⟨((HB.out.cell (World.block_lt_of_cell? w _ hw308_0)).trans hw308_0), ((HB.out.cell (World.block_lt_of_cell? w _ hw308_1)).trans hw308_1), ((HB.out.cell (World.block_lt_of_cell? w _ hw308_2)).trans hw308_2), ((HB.out.cell (World.block_lt_of_cell? w _ hw312_0)).trans hw312_0), ((HB.out.cell (World.block_lt_of_cell? w _ hw312_1)).trans hw312_1), ((HB.out.cell (World.block_lt_of_cell? w _ hw312_2)).trans hw312_2), ((HB.out.cell (World.block_lt_of_cell? w _ hw319_0)).trans hw319_0), ((HB.out.cell (World.block_lt_of_cell? w _ hw319_1)).trans hw319_1), ((HB.out.cell (World.block_lt_of_cell? w _ hw319_2)).trans hw319_2)⟩ (fun hHeld => ?_)
                    clear hK K
                    refine norm_ (a' := ?_) ?_ ?_
                    rotate_left
                    · show Act.put _ (some 23) _ = _
                      simp only [Act.put, List.setIfInBounds_toArray, List.set_cons_zero, List.set_cons_succ, i64_w, i32_w]
                      rfl
                    exact norm_ (by simp only [putAll, Act.put, List.setIfInBounds_toArray, List.set_cons_zero, List.set_cons_succ]) (hCont (v310, v314, v317) _ ⟨hHeld, (by (with_reducible repeat (first | apply Kd.R_alloc | apply Kd.R_drewN | apply Kd.R_drew)); exact HO315.out), (by (with_reducible repeat (first | apply Kd.R_alloc | apply Kd.R_drewN | apply Kd.R_drew)); exact Kd.R_mono HO318.out (fun _ hk => hk.2)), (by (with_reducible repeat (first | apply Kd.S_alloc | apply Kd.S_drewN | apply Kd.S_drew)); exact Kd.S_mono HO_3.out (fun _ hk => ⟨hk.2, hk.1⟩)), (by repeat (first | (with_reducible first | exact HB.out | apply below_alloc | apply pw_below_drewN | apply below_drew1) | exact HB.out))⟩)
                rintro ⟨v310, v314, v317⟩ w14 ⟨hS_, h0_, h1_, h2_, h3_⟩
                have n0_ : Aside0 (Kd.R (Kd.int .i64) 3 w14 w.heap.size (fun k_ => some k_ ≠ (v317 : Value).ownBlock) v314 y313) := ⟨h0_⟩
                have n1_ : Aside0 (Kd.R (Kd.int .i64) 3 w14 w.heap.size (fun k_ => some k_ ≠ (v314 : Value).ownBlock) v317 y316) := ⟨h1_⟩
                have n2_ : Aside0 (Kd.S k63 63 w14 w.heap.size (fun k_ => some k_ ≠ (v314 : Value).ownBlock ∧ some k_ ≠ (v317 : Value).ownBlock) (.slice Ao7 x3_1.length co7) x3_1) := ⟨h2_⟩
                have n3_ : Aside0 (Below w.heap.size w w14) := ⟨h3_⟩
                clear HO_3
                clear HB
                clear h0_ h1_ h2_ h3_
                have HO315 := n0_
                have HO318 := n1_
                have HO_3 := n2_
                have HB := n3_
                clear n0_ n1_ n2_ n3_
                have hHeld : w14.cell? (ad308.add ((x4_1).toNat * 3)) = some (.int .i64 ((rd_T57 l0 x4_1).f0)) ∧ w14.cell? ⟨(ad308.add ((x4_1).toNat * 3)).block, (ad308.add ((x4_1).toNat * 3)).off + 1, none⟩ = some (.slice A308_1 ((rd_T57 l0 x4_1).f1).length c308_1) ∧ w14.cell? ⟨(ad308.add ((x4_1).toNat * 3)).block, (ad308.add ((x4_1).toNat * 3)).off + 2, none⟩ = some (.slice A308_2 ((rd_T57 l0 x4_1).f2).length c308_2) ∧ w14.cell? (ad308.add ((x4_1).toNat * 3)) = some (.int .i64 ((rd_T57 l0 x4_1).f0)) ∧ w14.cell? ⟨(ad308.add ((x4_1).toNat * 3)).block, (ad308.add ((x4_1).toNat * 3)).off + 1, none⟩ = some (.slice A308_1 ((rd_T57 l0 x4_1).f1).length c308_1) ∧ w14.cell? ⟨(ad308.add ((x4_1).toNat * 3)).block, (ad308.add ((x4_1).toNat * 3)).off + 2, none⟩ = some (.slice A308_2 ((rd_T57 l0 x4_1).f2).length c308_2) ∧ w14.cell? (ad308.add ((x4_1).toNat * 3)) = some (.int .i64 ((rd_T57 l0 x4_1).f0)) ∧ w14.cell? ⟨(ad308.add ((x4_1).toNat * 3)).block, (ad308.add ((x4_1).toNat * 3)).off + 1, none⟩ = some (.slice A308_1 ((rd_T57 l0 x4_1).f1).length c308_1) ∧ w14.cell? ⟨(ad308.add ((x4_1).toNat * 3)).block, (ad308.add ((x4_1).toNat * 3)).off + 2, none⟩ = some (.slice A308_2 ((rd_T57 l0 x4_1).f2).length c308_2) := hS_
                refine norm_ (a' := ?_) ?_ ?_
                rotate_left
                · simp only [putAll, Act.put, List.setIfInBounds_toArray, List.set_cons_zero, List.set_cons_succ]
                  rfl
                refine one_ (i := 19) (N := some 30) #[true, true, true, true, true, true, true, true, true, true, true, true, true, true, true, true, true, true, true, true, false, false, false, false] rfl rfl (one_of HT_.out (by kernel_rfl)) (by decide) (fun K hK => ?_)
                refine Kd.R_append_rows_step (Kd.int .i64) (w0 := w) w.heap.size (by rfl) (.tmp 24) (.tmp 29) 22 3 (.int .i64 0) 8 rfl Tryd.underlying22 info3 rfl (by decide) (by omega) v317 y316 ((rd_T57 l0 x4_1).f2) _ _ _ (fun k_ => some k_ ≠ (v314 : Value).ownBlock) (fun _ => False) rfl rfl ?aO ?aR (fun _ _ h => h) (fun _ h => h.elim) ?aF ?aB ?aS ?aL ?_
                (case aR => repeat (first | exact (Kd.C_below HR319_2.out HB.out) | (with_reducible refine Kd.C_alloc ?_ _) | (with_reducible refine Kd.C_drewN ?_ _) | (with_reducible refine Kd.C_drew ?_)))
                (case aB => exact (by repeat (first | (with_reducible first | exact HB.out | apply below_alloc | apply pw_below_drewN | apply below_drew1) | exact HB.out)))
                (case aF => exact (fun k_ hk => Kd.fresh' (Kd.R_lt (by (with_reducible repeat (first | apply Kd.R_alloc | apply Kd.R_drewN | apply Kd.R_drew)); exact HO315.out)) k_ hk))
                (case aO => exact (by (with_reducible repeat (first | apply Kd.R_alloc | apply Kd.R_drewN | apply Kd.R_drew)); exact HO318.out))
                (case aS => exact (below_size (by repeat (first | (with_reducible first | exact HB.out | apply below_alloc | apply pw_below_drewN | apply below_drew1) | exact HB.out))))
                (case aL => have := LMc5.out; omega)
                intro v321 w15 ho hb hg hat
                rw [← Ny320.out] at ho
                have n0_ := Aside0.mk (Kd.S_after (ok := (fun k_ => some k_ ≠ (v314 : Value).ownBlock)) (by (with_reducible repeat (first | apply Kd.S_alloc | apply Kd.S_drewN | apply Kd.S_drew)); exact HO_3.out) hg hat)
                have n1_ := Aside0.mk (Kd.R_after (ok := (fun _ => True)) (by (with_reducible repeat (first | apply Kd.R_alloc | apply Kd.R_drewN | apply Kd.R_drew)); exact Kd.R_mono HO315.out (fun _ hk => ⟨trivial, hk⟩)) hg hat)
                have n2_ := Aside0.mk (hb)
                have n3_ := Aside0.mk (ho)
                clear HO_3
                clear HO315
                clear HB
                clear HO318
                have HO_3 := n0_
                have HO315 := n1_
                have HB := n2_
                have HO322 := n3_
                clear n0_ n1_ n2_ n3_
                clear ho hb hg hat
                obtain ⟨Ao16, co16, eo16⟩ := Kd.R_slice HO322.out
                (first | subst eo16 | (injection eo16 with f1_ f2_ f3_; have f4_ := f1_.symm; have f5_ := f3_.symm; clear f1_ f2_ f3_; subst f4_; subst f5_))
                obtain ⟨Ao17, co17, eo17⟩ := Kd.R_slice HO315.out
                (first | subst eo17 | (injection eo17 with f1_ f2_ f3_; have f4_ := f1_.symm; have f5_ := f3_.symm; clear f1_ f2_ f3_; subst f4_; subst f5_))
                refine hK.out _ _ ⟨((HB.out.cell (World.block_lt_of_cell? w _ hw308_0)).trans hw308_0), ((HB.out.cell (World.block_lt_of_cell? w _ hw308_1)).trans hw308_1), ((HB.out.cell (World.block_lt_of_cell? w _ hw308_2)).trans hw308_2), ((HB.out.cell (World.block_lt_of_cell? w _ hw312_0)).trans hw312_0), ((HB.out.cell (World.block_lt_of_cell? w _ hw312_1)).trans hw312_1), ((HB.out.cell (World.block_lt_of_cell? w _ hw312_2)).trans hw312_2), ((HB.out.cell (World.block_lt_of_cell? w _ hw319_0)).trans hw319_0), ((HB.out.cell (World.block_lt_of_cell? w _ hw319_1)).trans hw319_1), ((HB.out.cell (World.block_lt_of_cell? w _ hw319_2)).trans hw319_2)⟩ (fun hHeld => ?_)
                clear hK K
                refine norm_ (a' := ?_) ?_ ?_
                rotate_left
                · show Act.put _ (some 30) _ = _
                  simp only [Act.put, List.setIfInBounds_toArray, List.set_cons_zero, List.set_cons_succ, i64_w, i32_w]
                  rfl
                refine pure_ (i := 20) (N := some 31) (v := ?_) (a' := ?_) #[true, true, true, true, true, true, true, true, true, true, true, true, true, true, true, true, true, true, true, true, true, false, false, false] rfl rfl (any_of HT_.out (by kernel_rfl)) (fun _ _ _ h => h) (Or.inl ⟨by rfl, ?_⟩) ?_ ?_
                rotate_left
                · intro w'
                  go_simp
                  with_reducible rfl
                rotate_left
                · simp only [Act.put, List.setIfInBounds_toArray, List.set_cons_zero, List.set_cons_succ, i64_w, i32_w]
                  rfl
                refine one_ (i := 21) (N := some 32) #[true, true, true, true, true, true, true, true, true, true, true, true, true, true, true, true, true, true, true, true, true, true, false, false] rfl rfl (one_of HT_.out (by kernel_rfl)) (by decide) (fun K hK => ?_)
                refine value_ (w1 := ?_) (v := ?_) (by rfl) rfl ?_ ?_
                rotate_left 2
                · go_simp
                  constructor
                  · rfl
                  · rfl
                refine hK.out _ _ ⟨(World.cell?_alloc_lt _ _ _ (World.block_lt_of_cell? _ _ (((HB.out.cell (World.block_lt_of_cell? w _ hw308_0)).trans hw308_0)))).trans (((HB.out.cell (World.block_lt_of_cell? w _ hw308_0)).trans hw308_0)), (World.cell?_alloc_lt _ _ _ (World.block_lt_of_cell? _ _ (((HB.out.cell (World.block_lt_of_cell? w _ hw308_1)).trans hw308_1)))).trans (((HB.out.cell (World.block_lt_of_cell? w _ hw308_1)).trans hw308_1)), (World.cell?_alloc_lt _ _ _ (World.block_lt_of_cell? _ _ (((HB.out.cell (World.block_lt_of_cell? w _ hw308_2)).trans hw308_2)))).trans (((HB.out.cell (World.block_lt_of_cell? w _ hw308_2)).trans hw308_2)), (World.cell?_alloc_lt _ _ _ (World.block_lt_of_cell? _ _ (((HB.out.cell (World.block_lt_of_cell? w _ hw312_0)).trans hw312_0)))).trans (((HB.out.cell (World.block_lt_of_cell? w _ hw312_0)).trans hw312_0)), (World.cell?_alloc_lt _ _ _ (World.block_lt_of_cell? _ _ (((HB.out.cell (World.block_lt_of_cell? w _ hw312_1)).trans hw312_1)))).trans (((HB.out.cell (World.block_lt_of_cell? w _ hw312_1)).trans hw312_1)), (World.cell?_alloc_lt _ _ _ (World.block_lt_of_cell? _ _ (((HB.out.cell (World.block_lt_of_cell? w _ hw312_2)).trans hw312_2)))).trans (((HB.out.cell (World.block_lt_of_cell? w _ hw312_2)).trans hw312_2)), (World.cell?_alloc_lt _ _ _ (World.block_lt_of_cell? _ _ (((HB.out.cell (World.block_lt_of_cell? w _ hw319_0)).trans hw319_0)))).trans (((HB.out.cell (World.block_lt_of_cell? w _ hw319_0)).trans hw319_0)), (World.cell?_alloc_lt _ _ _ (World.block_lt_of_cell? _ _ (((HB.out.cell (World.block_lt_of_cell? w _ hw319_1)).trans hw319_1)))).trans (((HB.out.cell (World.block_lt_of_cell? w _ hw319_1)).trans hw319_1)), (World.cell?_alloc_lt _ _ _ (World.block_lt_of_cell? _ _ (((HB.out.cell (World.block_lt_of_cell? w _ hw319_2)).trans hw319_2)))).trans (((HB.out.cell (World.block_lt_of_cell? w _ hw319_2)).trans hw319_2))⟩ (fun hHeld => ?_)
                clear hK K
                refine norm_ (a' := ?_) ?_ ?_
                rotate_left
                · show Act.put _ (some 32) _ = _
                  simp only [Act.put, List.setIfInBounds_toArray, List.set_cons_zero, List.set_cons_succ, i64_w, i32_w]
                  rfl
                refine one_ (i := 22) (N := some 33) #[true, true, true, true, true, true, true, true, true, true, true, true, true, true, true, true, true, true, true, true, true, true, true, false] rfl rfl (one_of HT_.out (by kernel_rfl)) (by decide) (fun K hK => ?_)
                refine Kd.S_append_step k63 (w0 := w) w.heap.size (by rfl) (.tmp 11) (.tmp 32) 42 63 (.agg #[(.int .i64 0), (.slice none 0 0), (.slice none 0 0)]) 56 rfl Tryd.underlying42 info63 rfl (by decide) (by omega) (.slice Ao7 x3_1.length co7) x3_1 (⟨(rd_T57 l0 x4_1).f0, y313, y320⟩ : S63) [.int .i64 ((rd_T57 l0 x4_1).f0), .slice Ao17 y313.length co17, .slice Ao16 y320.length co16] (fun _ => True) (fun k_ => some k_ = (.slice Ao17 y313.length co17 : Value).ownBlock ∨ some k_ = (.slice Ao16 y320.length co16 : Value).ownBlock) rfl rfl ?aP (fun k_ hk_ => hk_.elim (fun h_ => ((Kd.R_mono (ok' := fun k_ => ((fun _ => True)) k_ ∧ some k_ ≠ (.slice Ao7 x3_1.length co7 : Value).ownBlock) (Kd.R_apart' (HO315.out) (Kd.S_typed HO_3.out) (by decide)) (fun k_ hk => ⟨trivial, hk.2⟩))).1 k_ h_.symm) (fun h_ => ((Kd.R_mono (ok' := fun k_ => ((fun _ => True)) k_ ∧ some k_ ≠ (.slice Ao7 x3_1.length co7 : Value).ownBlock) (Kd.R_apart' (HO322.out) (Kd.S_typed HO_3.out) (by decide)) (fun k_ hk => ⟨trivial, hk.2⟩))).1 k_ h_.symm)) ?aF ?aO ?aB ?aS ?aL ?_
                (case aP => exact k63_mkM _ _ _ (⟨(rd_T57 l0 x4_1).f0, y313, y320⟩ : S63) (Kd.R_mono (Kd.R_tight rfl (Kd.R_mono (ok' := fun k_ => ((fun _ => True)) k_ ∧ some k_ ≠ (.slice Ao7 x3_1.length co7 : Value).ownBlock) (Kd.R_apart' (HO315.out) (Kd.S_typed HO_3.out) (by decide)) (fun k_ hk => ⟨trivial, hk.2⟩))) (fun _ h_ => Or.inl h_)) (Kd.R_mono (Kd.R_tight rfl (Kd.R_mono (ok' := fun k_ => ((fun _ => True)) k_ ∧ some k_ ≠ (.slice Ao7 x3_1.length co7 : Value).ownBlock) (Kd.R_apart' (HO322.out) (Kd.S_typed HO_3.out) (by decide)) (fun k_ hk => ⟨trivial, hk.2⟩))) (fun _ h_ => Or.inr (h_))))
                (case aB => exact (by repeat (first | (with_reducible first | exact HB.out | apply below_alloc | apply pw_below_drewN | apply below_drew1) | exact HB.out)))
                (case aF => exact (fun _ _ => trivial))
                (case aO => exact (by (with_reducible repeat (first | apply Kd.S_alloc | apply Kd.S_drewN | apply Kd.S_drew)); exact Kd.S_mono HO_3.out (fun k_ hk => ⟨trivial, fun e_ => e_.elim (fun h_ => hk.1 h_) (fun h_ => hk.2 h_)⟩)))
                (case aS => exact (below_size (by repeat (first | (with_reducible first | exact HB.out | apply below_alloc | apply pw_below_drewN | apply below_drew1) | exact HB.out))))
                (case aL => have := LMc6.out; omega)
                intro v324 w18 ho hb hg hat
                rw [← Ny323.out] at ho
                have n0_ := Aside0.mk (hb)
                have n1_ := Aside0.mk (ho)
                clear HB
                clear HO_3
                clear HO315
                clear HO322
                have HB := n0_
                have HO325 := n1_
                clear n0_ n1_
                clear ho hb hg hat
                refine hK.out _ _ ⟨((HB.out.cell (World.block_lt_of_cell? w _ hw308_0)).trans hw308_0), ((HB.out.cell (World.block_lt_of_cell? w _ hw308_1)).trans hw308_1), ((HB.out.cell (World.block_lt_of_cell? w _ hw308_2)).trans hw308_2), ((HB.out.cell (World.block_lt_of_cell? w _ hw312_0)).trans hw312_0), ((HB.out.cell (World.block_lt_of_cell? w _ hw312_1)).trans hw312_1), ((HB.out.cell (World.block_lt_of_cell? w _ hw312_2)).trans hw312_2), ((HB.out.cell (World.block_lt_of_cell? w _ hw319_0)).trans hw319_0), ((HB.out.cell (World.block_lt_of_cell? w _ hw319_1)).trans hw319_1), ((HB.out.cell (World.block_lt_of_cell? w _ hw319_2)).trans hw319_2)⟩ (fun hHeld => ?_)
                clear hK K
                refine norm_ (a' := ?_) ?_ ?_
                rotate_left
                · show Act.put _ (some 33) _ = _
                  simp only [Act.put, List.setIfInBounds_toArray, List.set_cons_zero, List.set_cons_succ, i64_w, i32_w]
                  rfl
                refine pure_ (i := 23) (N := some 3) (v := ?_) (a' := ?_) #[true, true, true, true, true, true, true, true, true, true, true, true, true, true, true, true, true, true, true, true, true, true, true, true] rfl rfl (any_of HT_.out (by kernel_rfl)) (fun _ _ _ h => h) (Or.inl ⟨by rfl, ?_⟩) ?_ ?_
                rotate_left
                · intro w'
                  go_simp
                  with_reducible rfl
                rotate_left
                · simp only [Act.put, List.setIfInBounds_toArray, List.set_cons_zero, List.set_cons_succ, i64_w, i32_w]
                  rfl
                refine done_ (done_of HT_.out (by kernel_rfl)) ?_
                try go_wp2
                go_roundg k1
                case measure => have := HK1.out; omega
                case rel => exact ⟨(y323), (wrap64 (x4_1 + 1)), (by first | rfl | (simp; done) | (simp [*]; done)), H', ⟨by have := HK1.out; omega⟩, ⟨by (with_reducible repeat (first | apply Kd.S_alloc | apply Kd.S_drewN | apply Kd.S_drew)); exact HO325.out⟩, ⟨by repeat (first | (with_reducible first | exact HB.out | apply below_alloc | apply pw_below_drewN | apply below_drew1) | exact HB.out)⟩⟩
              · rw [if_neg c6] at H
                exact absurd H (by simp)
            · rw [if_neg c5] at H
              exact absurd H (by simp)
          · rw [if_neg c4] at H
            exact absurd H (by simp)
        · rw [if_neg c3] at H
          exact absurd H (by simp)
      · rw [if_neg c2] at H
        have c2b0 : decide (x4_1 < (l0.length : Int)) = false := decide_eq_false c2
        clear c2
        obtain rfl := Option.some.inj H
        go_wp2
        go_ret
        exact ⟨_, by first | rfl | (simp [errW_none, errW_some] <;> rfl) | (simp [*, errW_none, errW_some] <;> rfl), by (with_reducible repeat (first | apply Kd.S_alloc | apply Kd.S_drewN | apply Kd.S_drew)); exact HO_3.out, by repeat (first | (with_reducible first | exact HB.out | apply below_alloc | apply pw_below_drewN | apply below_drew1) | exact HB.out)⟩

/-! ### umlautref1_IsSign: function 37 -/
def umlautref1_IsSign.f (a0 : Int) : Option (Bool) := if a0 ≥ 0 then (if a0 ≤ 1114111 then (if a0 < 55296 then (some true) else (if a0 > 57343 then (some true) else (if a0 ≥ 1114240 then (some (decide (a0 ≤ 1114367))) else (some false)))) else (if a0 ≥ 1114240 then (some (decide (a0 ≤ 1114367))) else (some false))) else (if a0 ≥ 1114240 then (some (decide (a0 ≤ 1114367))) else (some false))
set_option maxHeartbeats 8000000 in
set_option maxRecDepth 100000 in
theorem umlautref1_IsSign.calls (a0 : Int) (r : Bool) (w : World) (h : umlautref1_IsSign.f a0 = some r) :
    Calls Tryd.prog 37 #[.int .i64 a0] w fun e w' => e = .returned (.bool r) ∧ Drawn0 w w' := by
  have H : (if a0 ≥ 0 then (if a0 ≤ 1114111 then (if a0 < 55296 then (some true) else (if a0 > 57343 then (some true) else (if a0 ≥ 1114240 then (some (decide (a0 ≤ 1114367))) else (some false)))) else (if a0 ≥ 1114240 then (some (decide (a0 ≤ 1114367))) else (some false))) else (if a0 ≥ 1114240 then (some (decide (a0 ≤ 1114367))) else (some false))) = some r := h
  clear h
  by_cases c2 : a0 ≥ 0
  · rw [if_pos c2] at H
    have c2b0 : decide (0 ≤ a0) = true := decide_eq_true c2
    clear c2
    by_cases c3 : a0 ≤ 1114111
    · rw [if_pos c3] at H
      have c3b0 : decide (a0 ≤ 1114111) = true := decide_eq_true c3
      clear c3
      by_cases c4 : a0 < 55296
      · rw [if_pos c4] at H
        have c4b0 : decide (a0 < 55296) = true := decide_eq_true c4
        clear c4
        obtain rfl := Option.some.inj H
        go_enter Tryd.func37, Tryd.ntmps37
        go_wp2
        go_ret
        exact ⟨by first | rfl | (simp; done) | (simp [*]; done), by repeat (first | exact Drawn0.refl _ | apply Drawn0.step)⟩
      · rw [if_neg c4] at H
        have c4b0 : decide (a0 < 55296) = false := decide_eq_false c4
        clear c4
        by_cases c5 : a0 > 57343
        · rw [if_pos c5] at H
          have c5b0 : decide (57343 < a0) = true := decide_eq_true c5
          clear c5
          obtain rfl := Option.some.inj H
          go_enter Tryd.func37, Tryd.ntmps37
          go_wp2
          go_ret
          exact ⟨by first | rfl | (simp; done) | (simp [*]; done), by repeat (first | exact Drawn0.refl _ | apply Drawn0.step)⟩
        · rw [if_neg c5] at H
          have c5b0 : decide (57343 < a0) = false := decide_eq_false c5
          clear c5
          by_cases c6 : a0 ≥ 1114240
          · rw [if_pos c6] at H
            have c6b0 : decide (1114240 ≤ a0) = true := decide_eq_true c6
            clear c6
            obtain rfl := Option.some.inj H
            go_enter Tryd.func37, Tryd.ntmps37
            go_wp2
            go_ret
            exact ⟨by first | rfl | (simp; done) | (simp [*]; done), by repeat (first | exact Drawn0.refl _ | apply Drawn0.step)⟩
          · rw [if_neg c6] at H
            have c6b0 : decide (1114240 ≤ a0) = false := decide_eq_false c6
            clear c6
            obtain rfl := Option.some.inj H
            go_enter Tryd.func37, Tryd.ntmps37
            go_wp2
            go_ret
            exact ⟨by first | rfl | (simp; done) | (simp [*]; done), by repeat (first | exact Drawn0.refl _ | apply Drawn0.step)⟩
    · rw [if_neg c3] at H
      have c3b0 : decide (a0 ≤ 1114111) = false := decide_eq_false c3
      clear c3
      by_cases c7 : a0 ≥ 1114240
      · rw [if_pos c7] at H
        have c7b0 : decide (1114240 ≤ a0) = true := decide_eq_true c7
        clear c7
        obtain rfl := Option.some.inj H
        go_enter Tryd.func37, Tryd.ntmps37
        go_wp2
        go_ret
        exact ⟨by first | rfl | (simp; done) | (simp [*]; done), by repeat (first | exact Drawn0.refl _ | apply Drawn0.step)⟩
      · rw [if_neg c7] at H
        have c7b0 : decide (1114240 ≤ a0) = false := decide_eq_false c7
        clear c7
        obtain rfl := Option.some.inj H
        go_enter Tryd.func37, Tryd.ntmps37
        go_wp2
        go_ret
        exact ⟨by first | rfl | (simp; done) | (simp [*]; done), by repeat (first | exact Drawn0.refl _ | apply Drawn0.step)⟩
  · rw [if_neg c2] at H
    have c2b0 : decide (0 ≤ a0) = false := decide_eq_false c2
    clear c2
    by_cases c8 : a0 ≥ 1114240
    · rw [if_pos c8] at H
      have c8b0 : decide (1114240 ≤ a0) = true := decide_eq_true c8
      clear c8
      obtain rfl := Option.some.inj H
      go_enter Tryd.func37, Tryd.ntmps37
      go_wp2
      go_ret
      exact ⟨by first | rfl | (simp; done) | (simp [*]; done), by repeat (first | exact Drawn0.refl _ | apply Drawn0.step)⟩
    · rw [if_neg c8] at H
      have c8b0 : decide (1114240 ≤ a0) = false := decide_eq_false c8
      clear c8
      obtain rfl := Option.some.inj H
      go_enter Tryd.func37, Tryd.ntmps37
      go_wp2
      go_ret
      exact ⟨by first | rfl | (simp; done) | (simp [*]; done), by repeat (first | exact Drawn0.refl _ | apply Drawn0.step)⟩

/-! ### umlautref1_One: function 46 -/
def umlautref1_One.f (a0 : Int) : Option (ByteArray) := if a0 ≥ 1114112 then (some (strOfNums (([(wrap64 (a0 - 1114112)) % 256] : List Int)))) else (if a0 < 128 then (some (strOfNums (([(a0) % 256] : List Int)))) else (if a0 < 2048 then (some (strOfNums (([(wrap64 (192 + (wrap64 (Int.tdiv a0 64)))) % 256, (wrap64 (128 + (Int.tmod a0 64))) % 256] : List Int)))) else (if a0 < 65536 then (some (strOfNums (([(wrap64 (224 + (wrap64 (Int.tdiv a0 4096)))) % 256, (wrap64 (128 + (Int.tmod (wrap64 (Int.tdiv a0 64)) 64))) % 256, (wrap64 (128 + (Int.tmod a0 64))) % 256] : List Int)))) else (some (strOfNums (([(wrap64 (240 + (wrap64 (Int.tdiv a0 262144)))) % 256, (wrap64 (128 + (Int.tmod (wrap64 (Int.tdiv a0 4096)) 64))) % 256, (wrap64 (128 + (Int.tmod (wrap64 (Int.tdiv a0 64)) 64))) % 256, (wrap64 (128 + (Int.tmod a0 64))) % 256] : List Int)))))))
set_option maxHeartbeats 8000000 in
set_option maxRecDepth 100000 in
theorem umlautref1_One.calls (a0 : Int) (r : ByteArray) (w : World) (h : umlautref1_One.f a0 = some r) :
    Calls Tryd.prog 46 #[.int .i64 a0] w fun e w' => e = .returned (.string r) ∧ Below w.heap.size w w' := by
  have HB := Aside0.mk (Below.refl w.heap.size w)
  have H : (if a0 ≥ 1114112 then (some (strOfNums (([(wrap64 (a0 - 1114112)) % 256] : List Int)))) else (if a0 < 128 then (some (strOfNums (([(a0) % 256] : List Int)))) else (if a0 < 2048 then (some (strOfNums (([(wrap64 (192 + (wrap64 (Int.tdiv a0 64)))) % 256, (wrap64 (128 + (Int.tmod a0 64))) % 256] : List Int)))) else (if a0 < 65536 then (some (strOfNums (([(wrap64 (224 + (wrap64 (Int.tdiv a0 4096)))) % 256, (wrap64 (128 + (Int.tmod (wrap64 (Int.tdiv a0 64)) 64))) % 256, (wrap64 (128 + (Int.tmod a0 64))) % 256] : List Int)))) else (some (strOfNums (([(wrap64 (240 + (wrap64 (Int.tdiv a0 262144)))) % 256, (wrap64 (128 + (Int.tmod (wrap64 (Int.tdiv a0 4096)) 64))) % 256, (wrap64 (128 + (Int.tmod (wrap64 (Int.tdiv a0 64)) 64))) % 256, (wrap64 (128 + (Int.tmod a0 64))) % 256] : List Int)))))))) = some r := h
  clear h
  by_cases c2 : a0 ≥ 1114112
  · rw [if_pos c2] at H
    have c2b0 : decide (1114112 ≤ a0) = true := decide_eq_true c2
    clear c2
    obtain ⟨y326, hy326⟩ : ∃ y_ : List Int, y_ = (([(wrap64 (a0 - 1114112)) % 256] : List Int)) := ⟨_, rfl⟩
    replace H : (some (strOfNums y326)) = some r := by first | (rw [hy326]; with_reducible exact H) | (have H2_ := (Option.bind_some _ _).symm.trans H; rw [hy326]; with_reducible exact H2_) | (have H2_ := (Option.bind_some _ _).symm.trans H; with_reducible exact H2_) | with_reducible exact H | (rw [hy326]; exact H) | exact H
    have Ny326 := Aside0.mk hy326
    clear hy326
    obtain rfl := Option.some.inj H
    go_enter Tryd.func46, Tryd.ntmps46
    go_wp2_with (first | ((with_reducible refine gate_dst (N := 9) rfl ?_); refine Kd.R_lit (Kd.int .u8) _ 5 ?hg (N := 9) ?hd (xs := ([(wrap64 (a0 - 1114112)) % 256] : List Int)) (inner := [.int .u8 ((wrap64 (a0 - 1114112)) % 256)]) (ok := fun _ => True) (okp := fun _ => True) ?hr ?hp (fun _ hk => hk) trivial (Below.refl _ _) (Nat.le_refl _) (by simp) ?_; (case hd => rfl); (case hg => rfl); (case hr => first | (go_simp; done) | (go_simp; rfl)); (case hp => exact (Reps.one (show Kd.M (Kd.int .u8) _ _ _ ((wrap64 (a0 - 1114112)) % 256) [.int .u8 ((wrap64 (a0 - 1114112)) % 256)] from rfl) (Reps.none _ _))); intro v327 w3 ho4 hb hg_ hnew_; clear hg_ hnew_; (first | rw [← Ny326.out] at ho4 | (simp only [Int.reduceToNat] at ho4; rw [← Ny326.out] at ho4)); have n0_ := Aside0.mk (Kd.R_lower ho4 (below_size (by repeat (first | (with_reducible first | exact HB.out | apply below_alloc | apply pw_below_drewN | apply below_drew1) | exact HB.out)))); have n1_ := Aside0.mk (below_step (by repeat (first | (with_reducible first | exact HB.out | apply below_alloc | apply pw_below_drewN | apply below_drew1) | exact HB.out)) hb); clear HB; have HO328 := n0_; have HB := n1_; clear n0_ n1_; clear hb ho4; have hcv5 := own_string (P := Tryd.prog) Tryd.underlying32 Tryd.underlying5 Tryd.underlying9 (Kd.own_of_R HO328.out)))
    go_ret
    exact ⟨by first | rfl | (simp [errW_none, errW_some] <;> rfl) | (simp [*, errW_none, errW_some] <;> rfl), by repeat (first | (with_reducible first | exact HB.out | apply below_alloc | apply pw_below_drewN | apply below_drew1) | exact HB.out)⟩
  · rw [if_neg c2] at H
    have c2b0 : decide (1114112 ≤ a0) = false := decide_eq_false c2
    clear c2
    by_cases c6 : a0 < 128
    · rw [if_pos c6] at H
      have c6b0 : decide (a0 < 128) = true := decide_eq_true c6
      clear c6
      obtain ⟨y329, hy329⟩ : ∃ y_ : List Int, y_ = (([(a0) % 256] : List Int)) := ⟨_, rfl⟩
      replace H : (some (strOfNums y329)) = some r := by first | (rw [hy329]; with_reducible exact H) | (have H2_ := (Option.bind_some _ _).symm.trans H; rw [hy329]; with_reducible exact H2_) | (have H2_ := (Option.bind_some _ _).symm.trans H; with_reducible exact H2_) | with_reducible exact H | (rw [hy329]; exact H) | exact H
      have Ny329 := Aside0.mk hy329
      clear hy329
      obtain rfl := Option.some.inj H
      go_enter Tryd.func46, Tryd.ntmps46
      go_wp2_with (first | ((with_reducible refine gate_dst (N := 16) rfl ?_); refine Kd.R_lit (Kd.int .u8) _ 5 ?hg (N := 16) ?hd (xs := ([(a0) % 256] : List Int)) (inner := [.int .u8 ((a0) % 256)]) (ok := fun _ => True) (okp := fun _ => True) ?hr ?hp (fun _ hk => hk) trivial (Below.refl _ _) (Nat.le_refl _) (by simp) ?_; (case hd => rfl); (case hg => rfl); (case hr => first | (go_simp; done) | (go_simp; rfl)); (case hp => exact (Reps.one (show Kd.M (Kd.int .u8) _ _ _ ((a0) % 256) [.int .u8 ((a0) % 256)] from rfl) (Reps.none _ _))); intro v330 w7 ho8 hb hg_ hnew_; clear hg_ hnew_; (first | rw [← Ny329.out] at ho8 | (simp only [Int.reduceToNat] at ho8; rw [← Ny329.out] at ho8)); have n0_ := Aside0.mk (Kd.R_lower ho8 (below_size (by repeat (first | (with_reducible first | exact HB.out | apply below_alloc | apply pw_below_drewN | apply below_drew1) | exact HB.out)))); have n1_ := Aside0.mk (below_step (by repeat (first | (with_reducible first | exact HB.out | apply below_alloc | apply pw_below_drewN | apply below_drew1) | exact HB.out)) hb); clear HB; have HO331 := n0_; have HB := n1_; clear n0_ n1_; clear hb ho8; have hcv9 := own_string (P := Tryd.prog) Tryd.underlying32 Tryd.underlying5 Tryd.underlying9 (Kd.own_of_R HO331.out)))
      go_ret
      exact ⟨by first | rfl | (simp [errW_none, errW_some] <;> rfl) | (simp [*, errW_none, errW_some] <;> rfl), by repeat (first | (with_reducible first | exact HB.out | apply below_alloc | apply pw_below_drewN | apply below_drew1) | exact HB.out)⟩
    · rw [if_neg c6] at H
      have c6b0 : decide (a0 < 128) = false := decide_eq_false c6
      clear c6
      by_cases c10 : a0 < 2048
      · rw [if_pos c10] at H
        have c10b0 : decide (a0 < 2048) = true := decide_eq_true c10
        clear c10
        obtain ⟨y332, hy332⟩ : ∃ y_ : List Int, y_ = (([(wrap64 (192 + (wrap64 (Int.tdiv a0 64)))) % 256, (wrap64 (128 + (Int.tmod a0 64))) % 256] : List Int)) := ⟨_, rfl⟩
        replace H : (some (strOfNums y332)) = some r := by first | (rw [hy332]; with_reducible exact H) | (have H2_ := (Option.bind_some _ _).symm.trans H; rw [hy332]; with_reducible exact H2_) | (have H2_ := (Option.bind_some _ _).symm.trans H; with_reducible exact H2_) | with_reducible exact H | (rw [hy332]; exact H) | exact H
        have Ny332 := Aside0.mk hy332
        clear hy332
        obtain rfl := Option.some.inj H
        go_enter Tryd.func46, Tryd.ntmps46
        go_wp2_with (first | ((with_reducible refine gate_dst (N := 29) rfl ?_); refine Kd.R_lit (Kd.int .u8) _ 5 ?hg (N := 29) ?hd (xs := ([(wrap64 (192 + (wrap64 (Int.tdiv a0 64)))) % 256, (wrap64 (128 + (Int.tmod a0 64))) % 256] : List Int)) (inner := [.int .u8 ((wrap64 (192 + (wrap64 (Int.tdiv a0 64)))) % 256), .int .u8 ((wrap64 (128 + (Int.tmod a0 64))) % 256)]) (ok := fun _ => True) (okp := fun _ => True) ?hr ?hp (fun _ hk => hk) trivial (Below.refl _ _) (Nat.le_refl _) (by simp) ?_; (case hd => rfl); (case hg => rfl); (case hr => first | (go_simp; done) | (go_simp; rfl)); (case hp => exact (Reps.one (show Kd.M (Kd.int .u8) _ _ _ ((wrap64 (192 + (wrap64 (Int.tdiv a0 64)))) % 256) [.int .u8 ((wrap64 (192 + (wrap64 (Int.tdiv a0 64)))) % 256)] from rfl) (Reps.one (show Kd.M (Kd.int .u8) _ _ _ ((wrap64 (128 + (Int.tmod a0 64))) % 256) [.int .u8 ((wrap64 (128 + (Int.tmod a0 64))) % 256)] from rfl) (Reps.none _ _)))); intro v333 w11 ho12 hb hg_ hnew_; clear hg_ hnew_; (first | rw [← Ny332.out] at ho12 | (simp only [Int.reduceToNat] at ho12; rw [← Ny332.out] at ho12)); have n0_ := Aside0.mk (Kd.R_lower ho12 (below_size (by repeat (first | (with_reducible first | exact HB.out | apply below_alloc | apply pw_below_drewN | apply below_drew1) | exact HB.out)))); have n1_ := Aside0.mk (below_step (by repeat (first | (with_reducible first | exact HB.out | apply below_alloc | apply pw_below_drewN | apply below_drew1) | exact HB.out)) hb); clear HB; have HO334 := n0_; have HB := n1_; clear n0_ n1_; clear hb ho12; have hcv13 := own_string (P := Tryd.prog) Tryd.underlying32 Tryd.underlying5 Tryd.underlying9 (Kd.own_of_R HO334.out)))
        go_ret
        exact ⟨by first | rfl | (simp [errW_none, errW_some] <;> rfl) | (simp [*, errW_none, errW_some] <;> rfl), by repeat (first | (with_reducible first | exact HB.out | apply below_alloc | apply pw_below_drewN | apply below_drew1) | exact HB.out)⟩
      · rw [if_neg c10] at H
        have c10b0 : decide (a0 < 2048) = false := decide_eq_false c10
        clear c10
        by_cases c14 : a0 < 65536
        · rw [if_pos c14] at H
          have c14b0 : decide (a0 < 65536) = true := decide_eq_true c14
          clear c14
          obtain ⟨y335, hy335⟩ : ∃ y_ : List Int, y_ = (([(wrap64 (224 + (wrap64 (Int.tdiv a0 4096)))) % 256, (wrap64 (128 + (Int.tmod (wrap64 (Int.tdiv a0 64)) 64))) % 256, (wrap64 (128 + (Int.tmod a0 64))) % 256] : List Int)) := ⟨_, rfl⟩
          replace H : (some (strOfNums y335)) = some r := by first | (rw [hy335]; with_reducible exact H) | (have H2_ := (Option.bind_some _ _).symm.trans H; rw [hy335]; with_reducible exact H2_) | (have H2_ := (Option.bind_some _ _).symm.trans H; with_reducible exact H2_) | with_reducible exact H | (rw [hy335]; exact H) | exact H
          have Ny335 := Aside0.mk hy335
          clear hy335
          obtain rfl := Option.some.inj H
          go_enter Tryd.func46, Tryd.ntmps46
          go_wp2_with (first | ((with_reducible refine gate_dst (N := 47) rfl ?_); refine Kd.R_lit (Kd.int .u8) _ 5 ?hg (N := 47) ?hd (xs := ([(wrap64 (224 + (wrap64 (Int.tdiv a0 4096)))) % 256, (wrap64 (128 + (Int.tmod (wrap64 (Int.tdiv a0 64)) 64))) % 256, (wrap64 (128 + (Int.tmod a0 64))) % 256] : List Int)) (inner := [.int .u8 ((wrap64 (224 + (wrap64 (Int.tdiv a0 4096)))) % 256), .int .u8 ((wrap64 (128 + (Int.tmod (wrap64 (Int.tdiv a0 64)) 64))) % 256), .int .u8 ((wrap64 (128 + (Int.tmod a0 64))) % 256)]) (ok := fun _ => True) (okp := fun _ => True) ?hr ?hp (fun _ hk => hk) trivial (Below.refl _ _) (Nat.le_refl _) (by simp) ?_; (case hd => rfl); (case hg => rfl); (case hr => first | (go_simp; done) | (go_simp; rfl)); (case hp => exact (Reps.one (show Kd.M (Kd.int .u8) _ _ _ ((wrap64 (224 + (wrap64 (Int.tdiv a0 4096)))) % 256) [.int .u8 ((wrap64 (224 + (wrap64 (Int.tdiv a0 4096)))) % 256)] from rfl) (Reps.one (show Kd.M (Kd.int .u8) _ _ _ ((wrap64 (128 + (Int.tmod (wrap64 (Int.tdiv a0 64)) 64))) % 256) [.int .u8 ((wrap64 (128 + (Int.tmod (wrap64 (Int.tdiv a0 64)) 64))) % 256)] from rfl) (Reps.one (show Kd.M (Kd.int .u8) _ _ _ ((wrap64 (128 + (Int.tmod a0 64))) % 256) [.int .u8 ((wrap64 (128 + (Int.tmod a0 64))) % 256)] from rfl) (Reps.none _ _))))); intro v336 w15 ho16 hb hg_ hnew_; clear hg_ hnew_; (first | rw [← Ny335.out] at ho16 | (simp only [Int.reduceToNat] at ho16; rw [← Ny335.out] at ho16)); have n0_ := Aside0.mk (Kd.R_lower ho16 (below_size (by repeat (first | (with_reducible first | exact HB.out | apply below_alloc | apply pw_below_drewN | apply below_drew1) | exact HB.out)))); have n1_ := Aside0.mk (below_step (by repeat (first | (with_reducible first | exact HB.out | apply below_alloc | apply pw_below_drewN | apply below_drew1) | exact HB.out)) hb); clear HB; have HO337 := n0_; have HB := n1_; clear n0_ n1_; clear hb ho16; have hcv17 := own_string (P := Tryd.prog) Tryd.underlying32 Tryd.underlying5 Tryd.underlying9 (Kd.own_of_R HO337.out)))
          go_ret
          exact ⟨by first | rfl | (simp [errW_none, errW_some] <;> rfl) | (simp [*, errW_none, errW_some] <;> rfl), by repeat (first | (with_reducible first | exact HB.out | apply below_alloc | apply pw_below_drewN | apply below_drew1) | exact HB.out)⟩
        · rw [if_neg c14] at H
          have c14b0 : decide (a0 < 65536) = false := decide_eq_false c14
          clear c14
          obtain ⟨y338, hy338⟩ : ∃ y_ : List Int, y_ = (([(wrap64 (240 + (wrap64 (Int.tdiv a0 262144)))) % 256, (wrap64 (128 + (Int.tmod (wrap64 (Int.tdiv a0 4096)) 64))) % 256, (wrap64 (128 + (Int.tmod (wrap64 (Int.tdiv a0 64)) 64))) % 256, (wrap64 (128 + (Int.tmod a0 64))) % 256] : List Int)) := ⟨_, rfl⟩
          replace H : (some (strOfNums y338)) = some r := by first | (rw [hy338]; with_reducible exact H) | (have H2_ := (Option.bind_some _ _).symm.trans H; rw [hy338]; with_reducible exact H2_) | (have H2_ := (Option.bind_some _ _).symm.trans H; with_reducible exact H2_) | with_reducible exact H | (rw [hy338]; exact H) | exact H
          have Ny338 := Aside0.mk hy338
          clear hy338
          obtain rfl := Option.some.inj H
          go_enter Tryd.func46, Tryd.ntmps46
          go_wp2_with (first | ((with_reducible refine gate_dst (N := 67) rfl ?_); refine Kd.R_lit (Kd.int .u8) _ 5 ?hg (N := 67) ?hd (xs := ([(wrap64 (240 + (wrap64 (Int.tdiv a0 262144)))) % 256, (wrap64 (128 + (Int.tmod (wrap64 (Int.tdiv a0 4096)) 64))) % 256, (wrap64 (128 + (Int.tmod (wrap64 (Int.tdiv a0 64)) 64))) % 256, (wrap64 (128 + (Int.tmod a0 64))) % 256] : List Int)) (inner := [.int .u8 ((wrap64 (240 + (wrap64 (Int.tdiv a0 262144)))) % 256), .int .u8 ((wrap64 (128 + (Int.tmod (wrap64 (Int.tdiv a0 4096)) 64))) % 256), .int .u8 ((wrap64 (128 + (Int.tmod (wrap64 (Int.tdiv a0 64)) 64))) % 256), .int .u8 ((wrap64 (128 + (Int.tmod a0 64))) % 256)]) (ok := fun _ => True) (okp := fun _ => True) ?hr ?hp (fun _ hk => hk) trivial (Below.refl _ _) (Nat.le_refl _) (by simp) ?_; (case hd => rfl); (case hg => rfl); (case hr => first | (go_simp; done) | (go_simp; rfl)); (case hp => exact (Reps.one (show Kd.M (Kd.int .u8) _ _ _ ((wrap64 (240 + (wrap64 (Int.tdiv a0 262144)))) % 256) [.int .u8 ((wrap64 (240 + (wrap64 (Int.tdiv a0 262144)))) % 256)] from rfl) (Reps.one (show Kd.M (Kd.int .u8) _ _ _ ((wrap64 (128 + (Int.tmod (wrap64 (Int.tdiv a0 4096)) 64))) % 256) [.int .u8 ((wrap64 (128 + (Int.tmod (wrap64 (Int.tdiv a0 4096)) 64))) % 256)] from rfl) (Reps.one (show Kd.M (Kd.int .u8) _ _ _ ((wrap64 (128 + (Int.tmod (wrap64 (Int.tdiv a0 64)) 64))) % 256) [.int .u8 ((wrap64 (128 + (Int.tmod (wrap64 (Int.tdiv a0 64)) 64))) % 256)] from rfl) (Reps.one (show Kd.M (Kd.int .u8) _ _ _ ((wrap64 (128 + (Int.tmod a0 64))) % 256) [.int .u8 ((wrap64 (128 + (Int.tmod a0 64))) % 256)] from rfl) (Reps.none _ _)))))); intro v339 w18 ho19 hb hg_ hnew_; clear hg_ hnew_; (first | rw [← Ny338.out] at ho19 | (simp only [Int.reduceToNat] at ho19; rw [← Ny338.out] at ho19)); have n0_ := Aside0.mk (Kd.R_lower ho19 (below_size (by repeat (first | (with_reducible first | exact HB.out | apply below_alloc | apply pw_below_drewN | apply below_drew1) | exact HB.out)))); have n1_ := Aside0.mk (below_step (by repeat (first | (with_reducible first | exact HB.out | apply below_alloc | apply pw_below_drewN | apply below_drew1) | exact HB.out)) hb); clear HB; have HO340 := n0_; have HB := n1_; clear n0_ n1_; clear hb ho19; have hcv20 := own_string (P := Tryd.prog) Tryd.underlying32 Tryd.underlying5 Tryd.underlying9 (Kd.own_of_R HO340.out)))
          go_ret
          exact ⟨by first | rfl | (simp [errW_none, errW_some] <;> rfl) | (simp [*, errW_none, errW_some] <;> rfl), by repeat (first | (with_reducible first | exact HB.out | apply below_alloc | apply pw_below_drewN | apply below_drew1) | exact HB.out)⟩

end Go.Proofs.YtjcgjchdelipcaaDoor.R
