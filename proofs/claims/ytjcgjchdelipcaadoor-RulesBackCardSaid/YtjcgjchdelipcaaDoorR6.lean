-- Written by this session's program wip/gp/gprint.py round the kit's printer. Not trusted: Lean checks it.
import Derived.Test.YtjcgjchdelipcaaDoorR0
import Derived.Test.YtjcgjchdelipcaaDoorR3
import Derived.Test.YtjcgjchdelipcaaDoorR5
namespace Go.Proofs.YtjcgjchdelipcaaDoor.R
open Go.RowKit Go.Proofs.YtjcgjchdelipcaaDoorW.PrintWords Go.Proofs.YtjcgjchdelipcaaDoorW.PrintLast Go.Proofs.YtjcgjchdelipcaaDoorW.PrintMore
attribute [local go_sem] max2_int min2_int max_two min_two max_three min_three max_four min_four   -- for this text's walks alone
set_option linter.unusedVariables false
set_option linter.unusedSimpArgs false

/-! ### umlautref5_special: function 70 -/
def umlautref5_special.f (a0 : Int) : Option (Bool) := if a0 = 32 then (some true) else (if a0 = 10 then (some true) else (if a0 = 38 then (some true) else (if a0 = 60 then (some true) else (if a0 = 61 then (some true) else (some (a0 == 47))))))
set_option maxHeartbeats 8000000 in
set_option maxRecDepth 100000 in
theorem umlautref5_special.calls (a0 : Int) (r : Bool) (w : World) (h : umlautref5_special.f a0 = some r) :
  Calls Tryd.prog 70 #[.int .i64 a0] w fun e w' => e = .returned (.bool r) ∧ Drawn0 w w' := by
 have H : (if a0 = 32 then (some true) else (if a0 = 10 then (some true) else (if a0 = 38 then (some true) else (if a0 = 60 then (some true) else (if a0 = 61 then (some true) else (some (a0 == 47))))))) = some r := h
 clear h
 by_cases c2 : a0 = 32
 ·rw [if_pos c2] at H
  have c2b0 : (a0 == 32) = true := beq_iff_eq.mpr c2
  have c2b1 : (a0 != 32) = false := bne_eq_false_iff_eq.mpr c2
  clear c2
  obtain rfl := Option.some.inj H
  go_enter Tryd.func70, Tryd.ntmps70
  go_wp2
  go_ret
  exact ⟨by first | rfl | (simp; done) | (simp [*]; done), by repeat (first | exact Drawn0.refl _ | apply Drawn0.step)⟩
 ·rw [if_neg c2] at H
  have c2b0 : (a0 == 32) = false := beq_eq_false_iff_ne.mpr c2
  have c2b1 : (a0 != 32) = true := bne_iff_ne.mpr c2
  by_cases c3 : a0 = 10
  ·rw [if_pos c3] at H
   have c3b0 : (a0 == 10) = true := beq_iff_eq.mpr c3
   have c3b1 : (a0 != 10) = false := bne_eq_false_iff_eq.mpr c3
   clear c3
   obtain rfl := Option.some.inj H
   go_enter Tryd.func70, Tryd.ntmps70
   go_wp2
   go_ret
   exact ⟨by first | rfl | (simp; done) | (simp [*]; done), by repeat (first | exact Drawn0.refl _ | apply Drawn0.step)⟩
  ·rw [if_neg c3] at H
   have c3b0 : (a0 == 10) = false := beq_eq_false_iff_ne.mpr c3
   have c3b1 : (a0 != 10) = true := bne_iff_ne.mpr c3
   by_cases c4 : a0 = 38
   ·rw [if_pos c4] at H
    have c4b0 : (a0 == 38) = true := beq_iff_eq.mpr c4
    have c4b1 : (a0 != 38) = false := bne_eq_false_iff_eq.mpr c4
    clear c4
    obtain rfl := Option.some.inj H
    go_enter Tryd.func70, Tryd.ntmps70
    go_wp2
    go_ret
    exact ⟨by first | rfl | (simp; done) | (simp [*]; done), by repeat (first | exact Drawn0.refl _ | apply Drawn0.step)⟩
   ·rw [if_neg c4] at H
    have c4b0 : (a0 == 38) = false := beq_eq_false_iff_ne.mpr c4
    have c4b1 : (a0 != 38) = true := bne_iff_ne.mpr c4
    by_cases c5 : a0 = 60
    ·rw [if_pos c5] at H
     have c5b0 : (a0 == 60) = true := beq_iff_eq.mpr c5
     have c5b1 : (a0 != 60) = false := bne_eq_false_iff_eq.mpr c5
     clear c5
     obtain rfl := Option.some.inj H
     go_enter Tryd.func70, Tryd.ntmps70
     go_wp2
     go_ret
     exact ⟨by first | rfl | (simp; done) | (simp [*]; done), by repeat (first | exact Drawn0.refl _ | apply Drawn0.step)⟩
    ·rw [if_neg c5] at H
     have c5b0 : (a0 == 60) = false := beq_eq_false_iff_ne.mpr c5
     have c5b1 : (a0 != 60) = true := bne_iff_ne.mpr c5
     by_cases c6 : a0 = 61
     ·rw [if_pos c6] at H
      have c6b0 : (a0 == 61) = true := beq_iff_eq.mpr c6
      have c6b1 : (a0 != 61) = false := bne_eq_false_iff_eq.mpr c6
      clear c6
      obtain rfl := Option.some.inj H
      go_enter Tryd.func70, Tryd.ntmps70
      go_wp2
      go_ret
      exact ⟨by first | rfl | (simp; done) | (simp [*]; done), by repeat (first | exact Drawn0.refl _ | apply Drawn0.step)⟩
     ·rw [if_neg c6] at H
      have c6b0 : (a0 == 61) = false := beq_eq_false_iff_ne.mpr c6
      have c6b1 : (a0 != 61) = true := bne_iff_ne.mpr c6
      obtain rfl := Option.some.inj H
      go_enter Tryd.func70, Tryd.ntmps70
      go_wp2
      go_ret
      exact ⟨by first | rfl | (simp; done) | (simp [*]; done), by repeat (first | exact Drawn0.refl _ | apply Drawn0.step)⟩

/-! ### umlautref5_reader_seq: function 55 -/
def umlautref5_reader_seq.l0 : Nat → List Int → ByteArray → Int → Option (List Int × Bool × ByteArray × Int)
 | 0, _, _, _ => none
 | k + 1, x4, x1000, x1001 => if x1001 < (x1000.size : Int) then (if 0 ≤ x1001 then (if x1001 ≤ (x1000.size : Int) then ((umlautref1_Sign.f k (x1000.extract (x1001 : Int).toNat x1000.size)).bind fun bt241 => ((umlautref5_special.f bt241.1).bind fun t243 => (if t243 = true then (some (x4, decide ((x4.length : Int) > 0), x1000, x1001)) else (if (x4.length : Int) = 3 then (some (([] : List Int), false, x1000, x1001)) else (if bt241.1 = 92 then (if (wrap64 (x1001 + 1)) ≥ (x1000.size : Int) then (some (([] : List Int), false, x1000, wrap64 (x1001 + 1))) else (if 0 ≤ (wrap64 (x1001 + 1)) then (if (wrap64 (x1001 + 1)) ≤ (x1000.size : Int) then ((umlautref1_Sign.f k (x1000.extract ((wrap64 (x1001 + 1)) : Int).toNat x1000.size)).bind fun bt244 => (if x4.length < 17592186044416 then (umlautref5_reader_seq.l0 k (x4 ++ [bt244.1]) x1000 (wrap64 (x1001 + (wrap64 (1 + bt244.2))))) else (none))) else (none)) else (none))) else (if x4.length < 17592186044416 then (umlautref5_reader_seq.l0 k (x4 ++ [bt241.1]) x1000 (wrap64 (x1001 + bt241.2))) else (none))))))) else (none)) else (none)) else (some (x4, decide ((x4.length : Int) > 0), x1000, x1001))
def umlautref5_reader_seq.f (k : Nat) (s0_0 : ByteArray) (s0_1 : Int) : Option (List Int × Bool × ByteArray × Int) := (umlautref5_reader_blank.f k s0_0 s0_1).bind fun bt239 => (umlautref5_reader_seq.l0 k ([] : List Int) bt239.1 bt239.2)
theorem umlautref5_reader_seq.mono_l : ∀ k, (∀ y0 y1 y2, LeO (umlautref5_reader_seq.l0 k y0 y1 y2) (umlautref5_reader_seq.l0 (k + 1) y0 y1 y2))
 | 0 => fun _ _ _ r h => by simp [umlautref5_reader_seq.l0] at h
 | k + 1 => by
  have ih0 := umlautref5_reader_seq.mono_l k
  ·intro y0 y1 y2
   unfold umlautref5_reader_seq.l0
   repeat' first
   | (with_reducible exact ih0 _ _ _)
   | (with_reducible exact umlautref1_Sign.mono _ _)
   | (with_reducible exact umlautref5_reader_blank.mono _ _ _)
   | (with_reducible exact LeO.refl _)
   | (with_reducible exact LeO.none _)
   | (with_reducible refine LeO.ite ?_ ?_)
   | (with_reducible refine LeO.bind ?_ (fun _ => ?_))
   | exact ih0 _ _ _
   | exact umlautref1_Sign.mono _ _
   | exact umlautref5_reader_blank.mono _ _ _
   | exact LeO.none _
   | refine LeO.ite ?_ ?_
   | refine LeO.bind ?_ (fun _ => ?_)
theorem umlautref5_reader_seq.mono : ∀ a0 a1 k, LeO (umlautref5_reader_seq.f k a0 a1) (umlautref5_reader_seq.f (k + 1) a0 a1) := by
 intro a0 a1 k
 have ih0 := umlautref5_reader_seq.mono_l k
 unfold umlautref5_reader_seq.f
 repeat' first
   | (with_reducible exact ih0 _ _ _)
   | (with_reducible exact umlautref1_Sign.mono _ _)
   | (with_reducible exact umlautref5_reader_blank.mono _ _ _)
   | (with_reducible exact LeO.refl _)
   | (with_reducible exact LeO.none _)
   | (with_reducible refine LeO.ite ?_ ?_)
   | (with_reducible refine LeO.bind ?_ (fun _ => ?_))
   | exact ih0 _ _ _
   | exact umlautref1_Sign.mono _ _
   | exact umlautref5_reader_blank.mono _ _ _
   | exact LeO.none _
   | refine LeO.ite ?_ ?_
   | refine LeO.bind ?_ (fun _ => ?_)
set_option maxHeartbeats 8000000 in
set_option maxRecDepth 100000 in
theorem umlautref5_reader_seq.calls (k : Nat) (g : Nat) (s0_0 : ByteArray) (s0_1 : Int) (r1 : List Int) (r2 : Bool) (r3 : ByteArray) (r4 : Int) (w0 w : World) (hI : IsS81 w0 w g s0_0 s0_1) (hB : Below w0.heap.size w0 w) (h : umlautref5_reader_seq.f k s0_0 s0_1 = some (r1, r2, r3, r4)) :
  Calls Tryd.prog 55 #[.pointer (some ⟨g, 0, none⟩)] w fun e w' => ∃ v0_ : Value, e = .returned (.tuple #[v0_, .bool r2]) ∧ Kd.R (Kd.int .i64) 3 w' w.heap.size (fun _ => True) v0_ r1 ∧ IsS81 w0 w' g r3 r4 ∧ Below w0.heap.size w0 w' ∧ KeepBut w w' g none := by
 have HI0 := Aside0.mk hI
 have HK := Aside0.mk (KeepBut.refl w g none)
 have HL := Aside0.mk hB.size
 clear hI
 have HW0 := Aside0.mk hB.size
 have HB := Aside0.mk hB
 clear hB
 have H : ((umlautref5_reader_blank.f k s0_0 s0_1).bind fun bt239 => (umlautref5_reader_seq.l0 k ([] : List Int) bt239.1 bt239.2)) = some (r1, r2, r3, r4) := h
 clear h
 replace H := Option.bind_eq_some_iff.mp H
 obtain ⟨⟨t239, t240⟩, A20, H⟩ := H
 replace H : (umlautref5_reader_seq.l0 k ([] : List Int) t239 t240) = some (r1, r2, r3, r4) := H
 have A2 := Aside0.mk A20
 clear A20
 have H' := Aside0.mk H
 clear H
 go_enter Tryd.func55, Tryd.ntmps55
 go_wp2_with (first | (go_at_call 53; (with_reducible refine (umlautref5_reader_blank.calls k g s0_0 s0_1 t239 t240 w0 _ ?side1 ?side2 A2.out).mono ?_); (case side1 => repeat (first | (with_reducible first | exact HI0.out | apply IsS81.alloc | apply IsS81.drewN | apply IsS81.drew | apply IsS81.set_0 | apply IsS81.set_1) | exact HI0.out)); (case side2 => repeat (first | (with_reducible first | exact HB.out | apply below_alloc | apply pw_below_drewN | apply below_drew1 | refine below_set ?_ (IsS81.ge HI0.out)) | exact HB.out)); rintro e w3 ⟨rfl, hi, hb, hk⟩; have n0_ := Aside0.mk (KeepBut.trans (by repeat (first | (with_reducible first | exact HK.out | apply KeepBut.set_ | apply keep_drewN | apply keep_drew | apply keep_alloc) | exact HK.out)) hk (.inl rfl)); have n1_ := Aside0.mk (hb); have n2_ := Aside0.mk (hi); clear HK; clear HB; clear HI0; have HK := n0_; have HB := n1_; have HI0 := n2_; clear n0_ n1_ n2_; (try clear hb); (try clear hb2); (try clear hk); (try clear hi)))
 go_loopg [4] k (fun kq v4 w' => ∃ (x4_1 : List Int) (x1001_1 : Int), Aside0 (umlautref5_reader_seq.l0 kq x4_1 t239 x1001_1 = some (r1, r2, r3, r4)) ∧ Aside0 (kq ≤ k) ∧ Aside0 (Kd.R (Kd.int .i64) 3 w' w.heap.size (fun _ => True) v4 x4_1) ∧ Aside0 (IsS81 w0 w' g t239 x1001_1) ∧ Aside0 (KeepBut w w' g none) ∧ Aside0 (Below w0.heap.size w0 w'))
 case atStart => exact ⟨(([] : List Int)), (t240), H', ⟨Nat.le_refl _⟩, ⟨by first | exact Kd.R_nil _ _ _ _ _ | exact Kd.N_nil _ _ _ _ _ | exact Kd.V_nil _ _ _ _ _ | exact Kd.Q_nil _ _ _ _ _ | exact Kd.S_nil _ _ _ _ _⟩, ⟨by repeat (first | (with_reducible first | exact HI0.out | apply IsS81.alloc | apply IsS81.drewN | apply IsS81.drew | apply IsS81.set_0 | apply IsS81.set_1) | exact HI0.out)⟩, ⟨by repeat (first | (with_reducible first | exact HK.out | apply KeepBut.set_ | apply keep_drewN | apply keep_drew | apply keep_alloc) | exact HK.out)⟩, ⟨by repeat (first | (with_reducible first | exact HB.out | apply below_alloc | apply pw_below_drewN | apply below_drew1 | refine below_set ?_ (IsS81.ge HI0.out)) | exact HB.out)⟩⟩
 case round =>
  clear H'
  try clear p2
  obtain ⟨x4_1, x1001_1, HA, HK1, HO_4, HI0, HK, HB⟩ := hrel
  cases gk with
  | zero => exact absurd HA.out (by simp [umlautref5_reader_seq.l0])
  | succ k1 =>
   have H := HA.out
   clear HA
   simp only [umlautref5_reader_seq.l0] at H
   by_cases c4 : x1001_1 < (t239.size : Int)
   ·rw [if_pos c4] at H
    have c4b0 : decide (x1001_1 < (t239.size : Int)) = true := decide_eq_true c4
    clear c4
    by_cases c5 : 0 ≤ x1001_1
    ·rw [if_pos c5] at H
     have c5b0 := eq_true c5
     have c5b1 : decide (0 ≤ x1001_1) = true := decide_eq_true c5
     clear c5
     by_cases c6 : x1001_1 ≤ (t239.size : Int)
     ·rw [if_pos c6] at H
      have c6b0 := eq_true c6
      have c6b1 : decide (x1001_1 ≤ (t239.size : Int)) = true := decide_eq_true c6
      clear c6
      replace H := Option.bind_eq_some_iff.mp H
      obtain ⟨⟨t241, t242⟩, A70, H⟩ := H
      replace H : ((umlautref5_special.f t241).bind fun t243 => (if t243 = true then (some (x4_1, decide ((x4_1.length : Int) > 0), t239, x1001_1)) else (if (x4_1.length : Int) = 3 then (some (([] : List Int), false, t239, x1001_1)) else (if t241 = 92 then (if (wrap64 (x1001_1 + 1)) ≥ (t239.size : Int) then (some (([] : List Int), false, t239, wrap64 (x1001_1 + 1))) else (if 0 ≤ (wrap64 (x1001_1 + 1)) then (if (wrap64 (x1001_1 + 1)) ≤ (t239.size : Int) then ((umlautref1_Sign.f k1 (t239.extract ((wrap64 (x1001_1 + 1)) : Int).toNat t239.size)).bind fun bt244 => (if x4_1.length < 17592186044416 then (umlautref5_reader_seq.l0 k1 (x4_1 ++ [bt244.1]) t239 (wrap64 (x1001_1 + (wrap64 (1 + bt244.2))))) else (none))) else (none)) else (none))) else (if x4_1.length < 17592186044416 then (umlautref5_reader_seq.l0 k1 (x4_1 ++ [t241]) t239 (wrap64 (x1001_1 + t242))) else (none)))))) = some (r1, r2, r3, r4) := H
      have A7 := Aside0.mk A70
      clear A70
      replace H := Option.bind_eq_some_iff.mp H
      obtain ⟨t243, A80, H⟩ := H
      replace H : (if t243 = true then (some (x4_1, decide ((x4_1.length : Int) > 0), t239, x1001_1)) else (if (x4_1.length : Int) = 3 then (some (([] : List Int), false, t239, x1001_1)) else (if t241 = 92 then (if (wrap64 (x1001_1 + 1)) ≥ (t239.size : Int) then (some (([] : List Int), false, t239, wrap64 (x1001_1 + 1))) else (if 0 ≤ (wrap64 (x1001_1 + 1)) then (if (wrap64 (x1001_1 + 1)) ≤ (t239.size : Int) then ((umlautref1_Sign.f k1 (t239.extract ((wrap64 (x1001_1 + 1)) : Int).toNat t239.size)).bind fun bt244 => (if x4_1.length < 17592186044416 then (umlautref5_reader_seq.l0 k1 (x4_1 ++ [bt244.1]) t239 (wrap64 (x1001_1 + (wrap64 (1 + bt244.2))))) else (none))) else (none)) else (none))) else (if x4_1.length < 17592186044416 then (umlautref5_reader_seq.l0 k1 (x4_1 ++ [t241]) t239 (wrap64 (x1001_1 + t242))) else (none))))) = some (r1, r2, r3, r4) := H
      have A8 := Aside0.mk A80
      clear A80
      by_cases c9 : t243 = true
      ·subst c9
       have H1 : (some (x4_1, decide ((x4_1.length : Int) > 0), t239, x1001_1)) = some (r1, r2, r3, r4) := by rw [if_pos rfl] at H; exact H
       clear H
       have H := H1
       clear H1
       simp only [Option.some.injEq, Prod.mk.injEq] at H
       obtain ⟨rfl, rfl, rfl, rfl⟩ := H
       obtain ⟨HGz10, hgz10⟩ := HI0.out
       have hcz10_0 := cellS81_0 HGz10
       have hcz10_1 := cellS81_1 HGz10
       have hfz10_0 := blk_frozen HGz10 0
       have hfz10_1 := blk_frozen HGz10 1
       clear HGz10 hgz10
       go_wp2_with (first | (go_at_call 48; (with_reducible refine (umlautref1_Sign.calls k1 (t239.extract (x1001_1 : Int).toNat t239.size) t241 t242 _ A7.out).mono ?_); rintro e w' ⟨rfl, ⟨nd, rfl⟩⟩; (try first | exact ⟨rfl, _, World.drewN_drewN _ _ _⟩ | exact ⟨rfl, _, Eq.trans (World.drewN_drewN _ _ _) (congrArg (World.drewN _) (Nat.add_assoc _ _ _))⟩)) | (go_at_call 70; (with_reducible refine (umlautref5_special.calls t241 true _ A8.out).mono ?_); rintro e w' ⟨rfl, ⟨nd, rfl⟩⟩; (try first | exact ⟨rfl, _, World.drewN_drewN _ _ _⟩ | exact ⟨rfl, _, Eq.trans (World.drewN_drewN _ _ _) (congrArg (World.drewN _) (Nat.add_assoc _ _ _))⟩); obtain ⟨Ao11, co11, eo11⟩ := Kd.R_slice HO_4.out; subst eo11))
       repeat (go_quiet (first | (go_at_call 48; (with_reducible refine (umlautref1_Sign.calls k1 (t239.extract (x1001_1 : Int).toNat t239.size) t241 t242 _ A7.out).mono ?_); rintro e w' ⟨rfl, ⟨nd, rfl⟩⟩; (try first | exact ⟨rfl, _, World.drewN_drewN _ _ _⟩ | exact ⟨rfl, _, Eq.trans (World.drewN_drewN _ _ _) (congrArg (World.drewN _) (Nat.add_assoc _ _ _))⟩))); try go_wp2_with (first | (go_at_call 70; (with_reducible refine (umlautref5_special.calls t241 true _ A8.out).mono ?_); rintro e w' ⟨rfl, ⟨nd, rfl⟩⟩; (try first | exact ⟨rfl, _, World.drewN_drewN _ _ _⟩ | exact ⟨rfl, _, Eq.trans (World.drewN_drewN _ _ _) (congrArg (World.drewN _) (Nat.add_assoc _ _ _))⟩); obtain ⟨Ao11, co11, eo11⟩ := Kd.R_slice HO_4.out; subst eo11)))
       go_ret2
       exact ⟨_, by first | rfl | (simp [errW_none, errW_some] <;> rfl) | (simp [*, errW_none, errW_some] <;> rfl), by (with_reducible repeat (first | apply Kd.R_alloc | apply Kd.R_drewN | apply Kd.R_drew)); exact HO_4.out, by repeat (first | (with_reducible first | exact HI0.out | apply IsS81.alloc | apply IsS81.drewN | apply IsS81.drew | apply IsS81.set_0 | apply IsS81.set_1) | exact HI0.out), by repeat (first | (with_reducible first | exact HB.out | apply below_alloc | apply pw_below_drewN | apply below_drew1 | refine below_set ?_ (IsS81.ge HI0.out)) | exact HB.out), by repeat (first | (with_reducible first | exact HK.out | apply KeepBut.set_ | apply keep_drewN | apply keep_drew | apply keep_alloc) | exact HK.out)⟩
      ·replace c9 := Bool.eq_false_iff.mpr c9
       subst c9
       have H1 : (if (x4_1.length : Int) = 3 then (some (([] : List Int), false, t239, x1001_1)) else (if t241 = 92 then (if (wrap64 (x1001_1 + 1)) ≥ (t239.size : Int) then (some (([] : List Int), false, t239, wrap64 (x1001_1 + 1))) else (if 0 ≤ (wrap64 (x1001_1 + 1)) then (if (wrap64 (x1001_1 + 1)) ≤ (t239.size : Int) then ((umlautref1_Sign.f k1 (t239.extract ((wrap64 (x1001_1 + 1)) : Int).toNat t239.size)).bind fun bt244 => (if x4_1.length < 17592186044416 then (umlautref5_reader_seq.l0 k1 (x4_1 ++ [bt244.1]) t239 (wrap64 (x1001_1 + (wrap64 (1 + bt244.2))))) else (none))) else (none)) else (none))) else (if x4_1.length < 17592186044416 then (umlautref5_reader_seq.l0 k1 (x4_1 ++ [t241]) t239 (wrap64 (x1001_1 + t242))) else (none)))) = some (r1, r2, r3, r4) := by rw [if_neg (show ¬ (false = true) by decide)] at H; exact H
       clear H
       have H := H1
       clear H1
       by_cases c12 : (x4_1.length : Int) = 3
       ·rw [if_pos c12] at H
        have c12b0 : ((x4_1.length : Int) == 3) = true := beq_iff_eq.mpr c12
        have c12b1 : ((x4_1.length : Int) != 3) = false := bne_eq_false_iff_eq.mpr c12
        clear c12
        simp only [Option.some.injEq, Prod.mk.injEq] at H
        obtain ⟨rfl, rfl, rfl, rfl⟩ := H
        obtain ⟨HGz13, hgz13⟩ := HI0.out
        have hcz13_0 := cellS81_0 HGz13
        have hcz13_1 := cellS81_1 HGz13
        have hfz13_0 := blk_frozen HGz13 0
        have hfz13_1 := blk_frozen HGz13 1
        clear HGz13 hgz13
        go_wp2_with (first | (go_at_call 48; (with_reducible refine (umlautref1_Sign.calls k1 (t239.extract (x1001_1 : Int).toNat t239.size) t241 t242 _ A7.out).mono ?_); rintro e w' ⟨rfl, ⟨nd, rfl⟩⟩; (try first | exact ⟨rfl, _, World.drewN_drewN _ _ _⟩ | exact ⟨rfl, _, Eq.trans (World.drewN_drewN _ _ _) (congrArg (World.drewN _) (Nat.add_assoc _ _ _))⟩)) | (go_at_call 70; (with_reducible refine (umlautref5_special.calls t241 false _ A8.out).mono ?_); rintro e w' ⟨rfl, ⟨nd, rfl⟩⟩; (try first | exact ⟨rfl, _, World.drewN_drewN _ _ _⟩ | exact ⟨rfl, _, Eq.trans (World.drewN_drewN _ _ _) (congrArg (World.drewN _) (Nat.add_assoc _ _ _))⟩); obtain ⟨Ao14, co14, eo14⟩ := Kd.R_slice HO_4.out; subst eo14))
        repeat (go_quiet (first | (go_at_call 48; (with_reducible refine (umlautref1_Sign.calls k1 (t239.extract (x1001_1 : Int).toNat t239.size) t241 t242 _ A7.out).mono ?_); rintro e w' ⟨rfl, ⟨nd, rfl⟩⟩; (try first | exact ⟨rfl, _, World.drewN_drewN _ _ _⟩ | exact ⟨rfl, _, Eq.trans (World.drewN_drewN _ _ _) (congrArg (World.drewN _) (Nat.add_assoc _ _ _))⟩))); try go_wp2_with (first | (go_at_call 70; (with_reducible refine (umlautref5_special.calls t241 false _ A8.out).mono ?_); rintro e w' ⟨rfl, ⟨nd, rfl⟩⟩; (try first | exact ⟨rfl, _, World.drewN_drewN _ _ _⟩ | exact ⟨rfl, _, Eq.trans (World.drewN_drewN _ _ _) (congrArg (World.drewN _) (Nat.add_assoc _ _ _))⟩); obtain ⟨Ao14, co14, eo14⟩ := Kd.R_slice HO_4.out; subst eo14)))
        go_ret2
        exact ⟨_, by first | rfl | (simp [errW_none, errW_some] <;> rfl) | (simp [*, errW_none, errW_some] <;> rfl), by first | exact Kd.R_nil _ _ _ _ _ | exact Kd.N_nil _ _ _ _ _ | exact Kd.V_nil _ _ _ _ _ | exact Kd.Q_nil _ _ _ _ _ | exact Kd.S_nil _ _ _ _ _, by repeat (first | (with_reducible first | exact HI0.out | apply IsS81.alloc | apply IsS81.drewN | apply IsS81.drew | apply IsS81.set_0 | apply IsS81.set_1) | exact HI0.out), by repeat (first | (with_reducible first | exact HB.out | apply below_alloc | apply pw_below_drewN | apply below_drew1 | refine below_set ?_ (IsS81.ge HI0.out)) | exact HB.out), by repeat (first | (with_reducible first | exact HK.out | apply KeepBut.set_ | apply keep_drewN | apply keep_drew | apply keep_alloc) | exact HK.out)⟩
       ·rw [if_neg c12] at H
        have c12b0 : ((x4_1.length : Int) == 3) = false := beq_eq_false_iff_ne.mpr c12
        have c12b1 : ((x4_1.length : Int) != 3) = true := bne_iff_ne.mpr c12
        by_cases c15 : t241 = 92
        ·rw [if_pos c15] at H
         have c15b0 : (t241 == 92) = true := beq_iff_eq.mpr c15
         have c15b1 : (t241 != 92) = false := bne_eq_false_iff_eq.mpr c15
         clear c15
         by_cases c16 : (wrap64 (x1001_1 + 1)) ≥ (t239.size : Int)
         ·rw [if_pos c16] at H
          have c16b0 : decide ((t239.size : Int) ≤ (wrap64 (x1001_1 + 1))) = true := decide_eq_true c16
          clear c16
          simp only [Option.some.injEq, Prod.mk.injEq] at H
          obtain ⟨rfl, rfl, rfl, rfl⟩ := H
          obtain ⟨HGz17, hgz17⟩ := HI0.out
          have hcz17_0 := cellS81_0 HGz17
          have hcz17_1 := cellS81_1 HGz17
          have hfz17_0 := blk_frozen HGz17 0
          have hfz17_1 := blk_frozen HGz17 1
          clear HGz17 hgz17
          go_wp2_with (first | (go_at_call 48; (with_reducible refine (umlautref1_Sign.calls k1 (t239.extract (x1001_1 : Int).toNat t239.size) t241 t242 _ A7.out).mono ?_); rintro e w' ⟨rfl, ⟨nd, rfl⟩⟩; (try first | exact ⟨rfl, _, World.drewN_drewN _ _ _⟩ | exact ⟨rfl, _, Eq.trans (World.drewN_drewN _ _ _) (congrArg (World.drewN _) (Nat.add_assoc _ _ _))⟩)) | (go_at_call 70; (with_reducible refine (umlautref5_special.calls t241 false _ A8.out).mono ?_); rintro e w' ⟨rfl, ⟨nd, rfl⟩⟩; (try first | exact ⟨rfl, _, World.drewN_drewN _ _ _⟩ | exact ⟨rfl, _, Eq.trans (World.drewN_drewN _ _ _) (congrArg (World.drewN _) (Nat.add_assoc _ _ _))⟩); obtain ⟨Ao18, co18, eo18⟩ := Kd.R_slice HO_4.out; subst eo18))
          repeat (go_quiet (first | (go_at_call 48; (with_reducible refine (umlautref1_Sign.calls k1 (t239.extract (x1001_1 : Int).toNat t239.size) t241 t242 _ A7.out).mono ?_); rintro e w' ⟨rfl, ⟨nd, rfl⟩⟩; (try first | exact ⟨rfl, _, World.drewN_drewN _ _ _⟩ | exact ⟨rfl, _, Eq.trans (World.drewN_drewN _ _ _) (congrArg (World.drewN _) (Nat.add_assoc _ _ _))⟩))); try go_wp2_with (first | (go_at_call 70; (with_reducible refine (umlautref5_special.calls t241 false _ A8.out).mono ?_); rintro e w' ⟨rfl, ⟨nd, rfl⟩⟩; (try first | exact ⟨rfl, _, World.drewN_drewN _ _ _⟩ | exact ⟨rfl, _, Eq.trans (World.drewN_drewN _ _ _) (congrArg (World.drewN _) (Nat.add_assoc _ _ _))⟩); obtain ⟨Ao18, co18, eo18⟩ := Kd.R_slice HO_4.out; subst eo18)))
          go_ret2
          exact ⟨_, by first | rfl | (simp [errW_none, errW_some] <;> rfl) | (simp [*, errW_none, errW_some] <;> rfl), by first | exact Kd.R_nil _ _ _ _ _ | exact Kd.N_nil _ _ _ _ _ | exact Kd.V_nil _ _ _ _ _ | exact Kd.Q_nil _ _ _ _ _ | exact Kd.S_nil _ _ _ _ _, by repeat (first | (with_reducible first | exact HI0.out | apply IsS81.alloc | apply IsS81.drewN | apply IsS81.drew | apply IsS81.set_0 | apply IsS81.set_1) | exact HI0.out), by repeat (first | (with_reducible first | exact HB.out | apply below_alloc | apply pw_below_drewN | apply below_drew1 | refine below_set ?_ (IsS81.ge HI0.out)) | exact HB.out), by repeat (first | (with_reducible first | exact HK.out | apply KeepBut.set_ | apply keep_drewN | apply keep_drew | apply keep_alloc) | exact HK.out)⟩
         ·rw [if_neg c16] at H
          have c16b0 : decide ((t239.size : Int) ≤ (wrap64 (x1001_1 + 1))) = false := decide_eq_false c16
          clear c16
          obtain ⟨ji19, hji19⟩ : ∃ j_ : Int, (wrap64 (x1001_1 + 1)) = j_ := ⟨_, rfl⟩
          replace H : (if 0 ≤ (ji19) then (if (ji19) ≤ (t239.size : Int) then ((umlautref1_Sign.f k1 (t239.extract ((ji19) : Int).toNat t239.size)).bind fun bt244 => (if x4_1.length < 17592186044416 then (umlautref5_reader_seq.l0 k1 (x4_1 ++ [bt244.1]) t239 (wrap64 (x1001_1 + (wrap64 (1 + bt244.2))))) else (none))) else (none)) else (none)) = some (r1, r2, r3, r4) := by first | (rw [hji19] at H; exact H) | (simp only [hji19] at H ⊢; exact H)
          (try rw [hji19] at c16b0)
          (try rw [hji19] at A7)
          (try rw [hji19] at A8)
          have hji19w : (IntKind.i64.wrap (x1001_1 + 1)) = ji19 := (i64_w _).trans hji19
          by_cases c20 : 0 ≤ (ji19)
          ·rw [if_pos c20] at H
           have c20b0 := eq_true c20
           have c20b1 : decide (0 ≤ (ji19)) = true := decide_eq_true c20
           clear c20
           by_cases c21 : (ji19) ≤ (t239.size : Int)
           ·rw [if_pos c21] at H
            have c21b0 := eq_true c21
            have c21b1 : decide ((ji19) ≤ (t239.size : Int)) = true := decide_eq_true c21
            clear c21
            replace H := Option.bind_eq_some_iff.mp H
            obtain ⟨⟨t244, t245⟩, A220, H⟩ := H
            replace H : (if x4_1.length < 17592186044416 then (umlautref5_reader_seq.l0 k1 (x4_1 ++ [t244]) t239 (wrap64 (x1001_1 + (wrap64 (1 + t245))))) else (none)) = some (r1, r2, r3, r4) := H
            have A22 := Aside0.mk A220
            clear A220
            by_cases c23 : x4_1.length < 17592186044416
            ·rw [if_pos c23] at H
             have LMc23 := Aside0.mk c23
             clear c23
             obtain ⟨y246, hy246⟩ : ∃ y_ : List Int, y_ = (x4_1 ++ [t244]) := ⟨_, rfl⟩
             replace H : (umlautref5_reader_seq.l0 k1 y246 t239 (wrap64 (x1001_1 + (wrap64 (1 + t245))))) = some (r1, r2, r3, r4) := by first | (rw [hy246]; with_reducible exact H) | (have H2_ := (Option.bind_some _ _).symm.trans H; rw [hy246]; with_reducible exact H2_) | (have H2_ := (Option.bind_some _ _).symm.trans H; with_reducible exact H2_) | with_reducible exact H | (rw [hy246]; exact H) | exact H
             have Ny246 := Aside0.mk hy246
             clear hy246
             have H' := Aside0.mk H
             clear H
             obtain ⟨HGz24, hgz24⟩ := HI0.out
             have hcz24_0 := cellS81_0 HGz24
             have hcz24_1 := cellS81_1 HGz24
             have hfz24_0 := blk_frozen HGz24 0
             have hfz24_1 := blk_frozen HGz24 1
             clear HGz24 hgz24
             go_wp2_with (fail)
             repeat (go_quiet (first | (go_at_call 48; (with_reducible refine (umlautref1_Sign.calls k1 (t239.extract (x1001_1 : Int).toNat t239.size) t241 t242 _ A7.out).mono ?_); rintro e w' ⟨rfl, ⟨nd, rfl⟩⟩; (try first | exact ⟨rfl, _, World.drewN_drewN _ _ _⟩ | exact ⟨rfl, _, Eq.trans (World.drewN_drewN _ _ _) (congrArg (World.drewN _) (Nat.add_assoc _ _ _))⟩)) | (go_at_call 48; (with_reducible refine (umlautref1_Sign.calls k1 (t239.extract ((ji19) : Int).toNat t239.size) t244 t245 _ A22.out).mono ?_); rintro e w' ⟨rfl, ⟨nd, rfl⟩⟩; (try first | exact ⟨rfl, _, World.drewN_drewN _ _ _⟩ | exact ⟨rfl, _, Eq.trans (World.drewN_drewN _ _ _) (congrArg (World.drewN _) (Nat.add_assoc _ _ _))⟩))); try go_wp2_with (first | (go_at_call 70; (with_reducible refine (umlautref5_special.calls t241 false _ A8.out).mono ?_); rintro e w' ⟨rfl, ⟨nd, rfl⟩⟩; (try first | exact ⟨rfl, _, World.drewN_drewN _ _ _⟩ | exact ⟨rfl, _, Eq.trans (World.drewN_drewN _ _ _) (congrArg (World.drewN _) (Nat.add_assoc _ _ _))⟩); obtain ⟨Ao25, co25, eo25⟩ := Kd.R_slice HO_4.out; subst eo25) | ((with_reducible refine gate_builtin (b := .append) (xs := #[.tmp 76, .tmp 78]) rfl ?_); at_builtin; refine Kd.R_append (Kd.int .i64) w.heap.size rfl (.tmp 76) (.tmp 78) 22 3 (.int .i64 0) 8 rfl Tryd.underlying22 info3 rfl (by decide) (by omega) (.slice Ao25 x4_1.length co25) x4_1 t244 [.int .i64 t244] (fun _ => True) (fun _ => False) rfl rfl ?aP (fun _ hk => hk.elim) ?aF ?aO (Below.refl _ _) ?aS ?aL ?_; (case aP => exact rfl); (case aF => exact (fun _ _ => trivial)); (case aO => exact (by (with_reducible repeat (first | apply Kd.R_alloc | apply Kd.R_drewN | apply Kd.R_drew)); exact HO_4.out)); (case aS => exact (keep_size (w := w) (g := g) (row := none) (by repeat (first | (with_reducible first | exact HK.out | apply KeepBut.set_ | apply keep_drewN | apply keep_drew | apply keep_alloc) | exact HK.out)))); (case aL => have := LMc23.out; omega); intro v247 w26 ho hb hg hat; rw [← Ny246.out] at ho; have n0_ := Aside0.mk (IsS81.grown (by repeat (first | (with_reducible first | exact HI0.out | apply IsS81.alloc | apply IsS81.drewN | apply IsS81.drew | apply IsS81.set_0 | apply IsS81.set_1) | exact HI0.out)) hg (IsS81.own_ne HI0.out HO_4.out (by decide))); have n1_ := Aside0.mk (below_weaken (by repeat (first | (with_reducible first | exact HB.out | apply below_alloc | apply pw_below_drewN | apply below_drew1 | refine below_set ?_ (IsS81.ge HI0.out)) | exact HB.out)) HL.out hb); have n2_ := Aside0.mk (KeepBut.trans (by repeat (first | (with_reducible first | exact HK.out | apply KeepBut.set_ | apply keep_drewN | apply keep_drew | apply keep_alloc) | exact HK.out)) (KeepBut.of_grown hg g) (Kd.R_base2 HO_4.out)); have n3_ := Aside0.mk (ho); clear HI0; clear HB; clear HK; clear HO_4; have HI0 := n0_; have HB := n1_; have HK := n2_; have HO248 := n3_; clear n0_ n1_ n2_ n3_; clear ho hb hg hat; obtain ⟨HGz27, hgz27⟩ := HI0.out; have hcz27_0 := cellS81_0 HGz27; have hcz27_1 := cellS81_1 HGz27; have hfz27_0 := blk_frozen HGz27 0; have hfz27_1 := blk_frozen HGz27 1; clear HGz27 hgz27)))
             go_roundg k1
             case measure => have := HK1.out; omega
             case rel => exact ⟨(y246), (wrap64 (x1001_1 + (wrap64 (1 + t245)))), H', ⟨by have := HK1.out; omega⟩, ⟨by (with_reducible repeat (first | apply Kd.R_alloc | apply Kd.R_drewN | apply Kd.R_drew)); exact Kd.R_mono (Kd.R_far (p := ⟨g, 1, none⟩) (IsS81.apart HI0.out HO248.out (by decide)) (fun _ hk => hk.2) (.int .i64 (wrap64 (x1001_1 + (wrap64 (1 + t245)))))) (fun _ hk => trivial)⟩, ⟨by repeat (first | (with_reducible first | exact HI0.out | apply IsS81.alloc | apply IsS81.drewN | apply IsS81.drew | apply IsS81.set_0 | apply IsS81.set_1) | exact HI0.out)⟩, ⟨by repeat (first | (with_reducible first | exact HK.out | apply KeepBut.set_ | apply keep_drewN | apply keep_drew | apply keep_alloc) | exact HK.out)⟩, ⟨by repeat (first | (with_reducible first | exact HB.out | apply below_alloc | apply pw_below_drewN | apply below_drew1 | refine below_set ?_ (IsS81.ge HI0.out)) | exact HB.out)⟩⟩
            ·rw [if_neg c23] at H
             exact absurd H (by simp)
           ·rw [if_neg c21] at H
            exact absurd H (by simp)
          ·rw [if_neg c20] at H
           exact absurd H (by simp)
        ·rw [if_neg c15] at H
         have c15b0 : (t241 == 92) = false := beq_eq_false_iff_ne.mpr c15
         have c15b1 : (t241 != 92) = true := bne_iff_ne.mpr c15
         by_cases c28 : x4_1.length < 17592186044416
         ·rw [if_pos c28] at H
          have LMc28 := Aside0.mk c28
          clear c28
          obtain ⟨y249, hy249⟩ : ∃ y_ : List Int, y_ = (x4_1 ++ [t241]) := ⟨_, rfl⟩
          replace H : (umlautref5_reader_seq.l0 k1 y249 t239 (wrap64 (x1001_1 + t242))) = some (r1, r2, r3, r4) := by first | (rw [hy249]; with_reducible exact H) | (have H2_ := (Option.bind_some _ _).symm.trans H; rw [hy249]; with_reducible exact H2_) | (have H2_ := (Option.bind_some _ _).symm.trans H; with_reducible exact H2_) | with_reducible exact H | (rw [hy249]; exact H) | exact H
          have Ny249 := Aside0.mk hy249
          clear hy249
          have H' := Aside0.mk H
          clear H
          obtain ⟨HGz29, hgz29⟩ := HI0.out
          have hcz29_0 := cellS81_0 HGz29
          have hcz29_1 := cellS81_1 HGz29
          have hfz29_0 := blk_frozen HGz29 0
          have hfz29_1 := blk_frozen HGz29 1
          clear HGz29 hgz29
          go_wp2_with (fail)
          repeat (go_quiet (first | (go_at_call 48; (with_reducible refine (umlautref1_Sign.calls k1 (t239.extract (x1001_1 : Int).toNat t239.size) t241 t242 _ A7.out).mono ?_); rintro e w' ⟨rfl, ⟨nd, rfl⟩⟩; (try first | exact ⟨rfl, _, World.drewN_drewN _ _ _⟩ | exact ⟨rfl, _, Eq.trans (World.drewN_drewN _ _ _) (congrArg (World.drewN _) (Nat.add_assoc _ _ _))⟩))); try go_wp2_with (first | (go_at_call 70; (with_reducible refine (umlautref5_special.calls t241 false _ A8.out).mono ?_); rintro e w' ⟨rfl, ⟨nd, rfl⟩⟩; (try first | exact ⟨rfl, _, World.drewN_drewN _ _ _⟩ | exact ⟨rfl, _, Eq.trans (World.drewN_drewN _ _ _) (congrArg (World.drewN _) (Nat.add_assoc _ _ _))⟩); obtain ⟨Ao30, co30, eo30⟩ := Kd.R_slice HO_4.out; subst eo30) | ((with_reducible refine gate_builtin (b := .append) (xs := #[.tmp 76, .tmp 78]) rfl ?_); at_builtin; refine Kd.R_append (Kd.int .i64) w.heap.size rfl (.tmp 76) (.tmp 78) 22 3 (.int .i64 0) 8 rfl Tryd.underlying22 info3 rfl (by decide) (by omega) (.slice Ao30 x4_1.length co30) x4_1 t241 [.int .i64 t241] (fun _ => True) (fun _ => False) rfl rfl ?aP (fun _ hk => hk.elim) ?aF ?aO (Below.refl _ _) ?aS ?aL ?_; (case aP => exact rfl); (case aF => exact (fun _ _ => trivial)); (case aO => exact (by (with_reducible repeat (first | apply Kd.R_alloc | apply Kd.R_drewN | apply Kd.R_drew)); exact HO_4.out)); (case aS => exact (keep_size (w := w) (g := g) (row := none) (by repeat (first | (with_reducible first | exact HK.out | apply KeepBut.set_ | apply keep_drewN | apply keep_drew | apply keep_alloc) | exact HK.out)))); (case aL => have := LMc28.out; omega); intro v250 w31 ho hb hg hat; rw [← Ny249.out] at ho; have n0_ := Aside0.mk (IsS81.grown (by repeat (first | (with_reducible first | exact HI0.out | apply IsS81.alloc | apply IsS81.drewN | apply IsS81.drew | apply IsS81.set_0 | apply IsS81.set_1) | exact HI0.out)) hg (IsS81.own_ne HI0.out HO_4.out (by decide))); have n1_ := Aside0.mk (below_weaken (by repeat (first | (with_reducible first | exact HB.out | apply below_alloc | apply pw_below_drewN | apply below_drew1 | refine below_set ?_ (IsS81.ge HI0.out)) | exact HB.out)) HL.out hb); have n2_ := Aside0.mk (KeepBut.trans (by repeat (first | (with_reducible first | exact HK.out | apply KeepBut.set_ | apply keep_drewN | apply keep_drew | apply keep_alloc) | exact HK.out)) (KeepBut.of_grown hg g) (Kd.R_base2 HO_4.out)); have n3_ := Aside0.mk (ho); clear HI0; clear HB; clear HK; clear HO_4; have HI0 := n0_; have HB := n1_; have HK := n2_; have HO251 := n3_; clear n0_ n1_ n2_ n3_; clear ho hb hg hat; obtain ⟨HGz32, hgz32⟩ := HI0.out; have hcz32_0 := cellS81_0 HGz32; have hcz32_1 := cellS81_1 HGz32; have hfz32_0 := blk_frozen HGz32 0; have hfz32_1 := blk_frozen HGz32 1; clear HGz32 hgz32)))
          go_roundg k1
          case measure => have := HK1.out; omega
          case rel => exact ⟨(y249), (wrap64 (x1001_1 + t242)), H', ⟨by have := HK1.out; omega⟩, ⟨by (with_reducible repeat (first | apply Kd.R_alloc | apply Kd.R_drewN | apply Kd.R_drew)); exact Kd.R_mono (Kd.R_far (p := ⟨g, 1, none⟩) (IsS81.apart HI0.out HO251.out (by decide)) (fun _ hk => hk.2) (.int .i64 (wrap64 (x1001_1 + t242)))) (fun _ hk => trivial)⟩, ⟨by repeat (first | (with_reducible first | exact HI0.out | apply IsS81.alloc | apply IsS81.drewN | apply IsS81.drew | apply IsS81.set_0 | apply IsS81.set_1) | exact HI0.out)⟩, ⟨by repeat (first | (with_reducible first | exact HK.out | apply KeepBut.set_ | apply keep_drewN | apply keep_drew | apply keep_alloc) | exact HK.out)⟩, ⟨by repeat (first | (with_reducible first | exact HB.out | apply below_alloc | apply pw_below_drewN | apply below_drew1 | refine below_set ?_ (IsS81.ge HI0.out)) | exact HB.out)⟩⟩
         ·rw [if_neg c28] at H
          exact absurd H (by simp)
     ·rw [if_neg c6] at H
      exact absurd H (by simp)
    ·rw [if_neg c5] at H
     exact absurd H (by simp)
   ·rw [if_neg c4] at H
    have c4b0 : decide (x1001_1 < (t239.size : Int)) = false := decide_eq_false c4
    clear c4
    simp only [Option.some.injEq, Prod.mk.injEq] at H
    obtain ⟨rfl, rfl, rfl, rfl⟩ := H
    obtain ⟨HGz33, hgz33⟩ := HI0.out
    have hcz33_0 := cellS81_0 HGz33
    have hcz33_1 := cellS81_1 HGz33
    have hfz33_0 := blk_frozen HGz33 0
    have hfz33_1 := blk_frozen HGz33 1
    clear HGz33 hgz33
    obtain ⟨Ao34, co34, eo34⟩ := Kd.R_slice HO_4.out
    subst eo34
    go_wp2
    repeat (go_quiet (fail); try go_wp2)
    go_ret2
    exact ⟨_, by first | rfl | (simp [errW_none, errW_some] <;> rfl) | (simp [*, errW_none, errW_some] <;> rfl), by (with_reducible repeat (first | apply Kd.R_alloc | apply Kd.R_drewN | apply Kd.R_drew)); exact HO_4.out, by repeat (first | (with_reducible first | exact HI0.out | apply IsS81.alloc | apply IsS81.drewN | apply IsS81.drew | apply IsS81.set_0 | apply IsS81.set_1) | exact HI0.out), by repeat (first | (with_reducible first | exact HB.out | apply below_alloc | apply pw_below_drewN | apply below_drew1 | refine below_set ?_ (IsS81.ge HI0.out)) | exact HB.out), by repeat (first | (with_reducible first | exact HK.out | apply KeepBut.set_ | apply keep_drewN | apply keep_drew | apply keep_alloc) | exact HK.out)⟩

end Go.Proofs.YtjcgjchdelipcaaDoor.R
