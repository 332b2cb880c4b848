-- Written by this session's program wip/gp/gprint.py round the kit's printer. Not trusted: Lean checks it.
import Derived.Test.YtjcgjchdelipcaaDoorR0
import Derived.Test.YtjcgjchdelipcaaDoorR3
import Derived.Test.YtjcgjchdelipcaaDoorR4
import Derived.Test.YtjcgjchdelipcaaDoorR6
namespace Go.Proofs.YtjcgjchdelipcaaDoor.R
open Go.RowKit Go.Proofs.YtjcgjchdelipcaaDoorW.PrintWords Go.Proofs.YtjcgjchdelipcaaDoorW.PrintLast Go.Proofs.YtjcgjchdelipcaaDoorW.PrintMore
attribute [local go_sem] max2_int min2_int max_two min_two max_three min_three max_four min_four   -- for this text's walks alone
set_option linter.unusedVariables false
set_option linter.unusedSimpArgs false

/-! ### umlautref5_Parse: function 29 -/
mutual
def umlautref5_Parse.l0 : Nat → List (S57) → ByteArray → Int → Option ((List (S57)) × Int × Int × ByteArray × Int)
 | 0, _, _, _ => none
 | k + 1, x4, x2000, x2001 => (umlautref5_reader_blank.f k x2000 x2001).bind fun bt253 => (if bt253.2 = (bt253.1.size : Int) then (if (x4.length : Int) > 40 then (some (([] : List (S57)), 0, 65, bt253.1, bt253.2)) else (some (x4, 0, 0, bt253.1, bt253.2))) else ((umlautref5_reader_rel.f k bt253.1 bt253.2).bind fun bt255 => (if bt255.1 = 0 then (umlautref5_Parse.j1 k x4 bt253.2 bt255.1 true bt255.2.1 bt255.2.2) else (if (x4.length : Int) = 0 then (umlautref5_Parse.j1 k x4 bt253.2 bt255.1 (bt255.1 != 1) bt255.2.1 bt255.2.2) else (umlautref5_Parse.j1 k x4 bt253.2 bt255.1 false bt255.2.1 bt255.2.2)))))
def umlautref5_Parse.j1 : Nat → List (S57) → Int → Int → Bool → ByteArray → Int → Option ((List (S57)) × Int × Int × ByteArray × Int)
 | 0, _, _, _, _, _, _ => none
 | k + 1, x4, x5, x6, x41, x2000, x2001 => if x41 = true then (some (([] : List (S57)), x5, 10, x2000, x2001)) else ((umlautref5_reader_seq.f k x2000 x2001).bind fun bt259 => (if bt259.2.1 = true then ((umlautref5_reader_blank.f k bt259.2.2.1 bt259.2.2.2).bind fun bt265 => (if x6 = 1 then (umlautref5_Parse.j2 k x4 false bt265.1 bt265.2 x6 bt259.1) else (if bt265.2 < (bt265.1.size : Int) then (if 0 ≤ bt265.2 then (umlautref5_Parse.j2 k x4 ((bt bt265.1 bt265.2) == 47) bt265.1 bt265.2 x6 bt259.1) else (none)) else (umlautref5_Parse.j2 k x4 false bt265.1 bt265.2 x6 bt259.1)))) else (some (([] : List (S57)), bt259.2.2.2, 10, bt259.2.2.1, bt259.2.2.2))))
def umlautref5_Parse.j2 : Nat → List (S57) → Bool → ByteArray → Int → Int → List Int → Option ((List (S57)) × Int × Int × ByteArray × Int)
 | 0, _, _, _, _, _, _ => none
 | k + 1, x4, x87, x2000, x2001, x259000, x259001 => if x87 = true then ((umlautref5_reader_seq.f k x2000 (wrap64 (x2001 + 1))).bind fun bt267 => (if bt267.2.1 = true then (if x4.length < 2513169434916 then (umlautref5_Parse.l0 k (x4 ++ [(⟨x259000, x259001, bt267.1⟩ : S57)]) bt267.2.2.1 bt267.2.2.2) else (none)) else (some (([] : List (S57)), bt267.2.2.2, 10, bt267.2.2.1, bt267.2.2.2)))) else (if x4.length < 2513169434916 then (umlautref5_Parse.l0 k (x4 ++ [(⟨x259000, x259001, ([] : List Int)⟩ : S57)]) x2000 x2001) else (none))
end
def umlautref5_Parse.f (k : Nat) (a0 : ByteArray) : Option ((List (S57)) × Int × Int) := (umlautref5_Parse.l0 k ([] : List (S57)) a0 0).bind fun t_ => some (t_.1, t_.2.1, t_.2.2.1)
theorem umlautref5_Parse.mono_l : ∀ k, (∀ y0 y1 y2, LeO (umlautref5_Parse.l0 k y0 y1 y2) (umlautref5_Parse.l0 (k + 1) y0 y1 y2)) ∧ (∀ y0 y1 y2 y3 y4 y5, LeO (umlautref5_Parse.j1 k y0 y1 y2 y3 y4 y5) (umlautref5_Parse.j1 (k + 1) y0 y1 y2 y3 y4 y5)) ∧ (∀ y0 y1 y2 y3 y4 y5, LeO (umlautref5_Parse.j2 k y0 y1 y2 y3 y4 y5) (umlautref5_Parse.j2 (k + 1) y0 y1 y2 y3 y4 y5))
 | 0 => ⟨fun _ _ _ r h => by simp [umlautref5_Parse.l0] at h, fun _ _ _ _ _ _ r h => by simp [umlautref5_Parse.j1] at h, fun _ _ _ _ _ _ r h => by simp [umlautref5_Parse.j2] at h⟩
 | k + 1 => by
  obtain ⟨ih0, ih1, ih2⟩ := umlautref5_Parse.mono_l k
  refine ⟨?_, ?_, ?_⟩
  ·intro y0 y1 y2
   unfold umlautref5_Parse.l0
   repeat' first
   | (with_reducible exact ih0 _ _ _)
   | (with_reducible exact ih1 _ _ _ _ _ _)
   | (with_reducible exact ih2 _ _ _ _ _ _)
   | (with_reducible exact umlautref5_reader_blank.mono _ _ _)
   | (with_reducible exact umlautref5_reader_rel.mono _ _ _)
   | (with_reducible exact umlautref5_reader_seq.mono _ _ _)
   | (with_reducible exact LeO.refl _)
   | (with_reducible exact LeO.none _)
   | (with_reducible refine LeO.ite ?_ ?_)
   | (with_reducible refine LeO.bind ?_ (fun _ => ?_))
   | exact ih0 _ _ _
   | exact ih1 _ _ _ _ _ _
   | exact ih2 _ _ _ _ _ _
   | exact umlautref5_reader_blank.mono _ _ _
   | exact umlautref5_reader_rel.mono _ _ _
   | exact umlautref5_reader_seq.mono _ _ _
   | exact LeO.none _
   | refine LeO.ite ?_ ?_
   | refine LeO.bind ?_ (fun _ => ?_)
  ·intro y0 y1 y2 y3 y4 y5
   unfold umlautref5_Parse.j1
   repeat' first
   | (with_reducible exact ih0 _ _ _)
   | (with_reducible exact ih1 _ _ _ _ _ _)
   | (with_reducible exact ih2 _ _ _ _ _ _)
   | (with_reducible exact umlautref5_reader_blank.mono _ _ _)
   | (with_reducible exact umlautref5_reader_rel.mono _ _ _)
   | (with_reducible exact umlautref5_reader_seq.mono _ _ _)
   | (with_reducible exact LeO.refl _)
   | (with_reducible exact LeO.none _)
   | (with_reducible refine LeO.ite ?_ ?_)
   | (with_reducible refine LeO.bind ?_ (fun _ => ?_))
   | exact ih0 _ _ _
   | exact ih1 _ _ _ _ _ _
   | exact ih2 _ _ _ _ _ _
   | exact umlautref5_reader_blank.mono _ _ _
   | exact umlautref5_reader_rel.mono _ _ _
   | exact umlautref5_reader_seq.mono _ _ _
   | exact LeO.none _
   | refine LeO.ite ?_ ?_
   | refine LeO.bind ?_ (fun _ => ?_)
  ·intro y0 y1 y2 y3 y4 y5
   unfold umlautref5_Parse.j2
   repeat' first
   | (with_reducible exact ih0 _ _ _)
   | (with_reducible exact ih1 _ _ _ _ _ _)
   | (with_reducible exact ih2 _ _ _ _ _ _)
   | (with_reducible exact umlautref5_reader_blank.mono _ _ _)
   | (with_reducible exact umlautref5_reader_rel.mono _ _ _)
   | (with_reducible exact umlautref5_reader_seq.mono _ _ _)
   | (with_reducible exact LeO.refl _)
   | (with_reducible exact LeO.none _)
   | (with_reducible refine LeO.ite ?_ ?_)
   | (with_reducible refine LeO.bind ?_ (fun _ => ?_))
   | exact ih0 _ _ _
   | exact ih1 _ _ _ _ _ _
   | exact ih2 _ _ _ _ _ _
   | exact umlautref5_reader_blank.mono _ _ _
   | exact umlautref5_reader_rel.mono _ _ _
   | exact umlautref5_reader_seq.mono _ _ _
   | exact LeO.none _
   | refine LeO.ite ?_ ?_
   | refine LeO.bind ?_ (fun _ => ?_)
theorem umlautref5_Parse.mono : ∀ (a0 : ByteArray) k, LeO (umlautref5_Parse.f k a0) (umlautref5_Parse.f (k + 1) a0) := by
 intro a0 k
 unfold umlautref5_Parse.f
 exact LeO.bind ((umlautref5_Parse.mono_l k).1 _ _ _) (fun _ => LeO.refl _)
set_option maxHeartbeats 8000000 in
set_option maxRecDepth 100000 in
theorem umlautref5_Parse.calls0 (k : Nat) (a0 : ByteArray) (r1 : List (S57)) (r2 : Int) (r3 : Int) (r4 : ByteArray) (r5 : Int) (w : World) (h : umlautref5_Parse.l0 k ([] : List (S57)) a0 0 = some (r1, r2, r3, r4, r5)) :
  Calls Tryd.prog 29 #[.string a0] w fun e w' => ∃ v0_ : Value, e = .returned (.agg #[v0_, .int .i64 r2, .int .i64 r3]) ∧ Kd.S k57 57 w' w.heap.size (fun _ => True) v0_ r1 ∧ ∃ g, IsS81 w w' g r4 r5 ∧ Below w.heap.size w w' ∧ KeepBut w w' g none := by
 have hu47 := Tryd.underlying47
 have hu57 := Tryd.underlying57
 have HL := Aside0.mk (Nat.le_refl w.heap.size)
 have HW0 := Aside0.mk (Nat.le_refl w.heap.size)
 have HB := Aside0.mk (Below.refl w.heap.size w)
 have H' := Aside0.mk h
 clear h
 go_enter Tryd.func29, Tryd.ntmps29
 go_wp2_with (first | ((with_reducible refine gate_dst (N := 2) rfl ?_); (try (refine gate_guard (by rfl) ?_; dsimp only)); refine box_event ?hg (N := 2) ?hd (cs := #[.slice none 0 0, .int .i64 0, .int .i64 0]) (t := 47) ?hr ?_; (case hd => rfl); (case hg => rfl); (case hr => first | (go_simp; done) | (go_simp; rfl)); intro gb252 hg w3 hbox hb; have GW252 := Aside0.mk (show w.heap.size ≤ gb252 by rw [hg]; exact below_size HB.out); have n0_ := Aside0.mk (below_step HB.out hb); clear HB hb hg; have HB := n0_; clear n0_; have BK252 := Aside0.mk hbox; clear hbox) | ((with_reducible refine gate_dst (N := 12) rfl ?_); (try (refine gate_guard (by rfl) ?_; dsimp only)); refine box_event ?hg (N := 12) ?hd (cs := #[.string a0, .int .i64 0]) (t := 81) ?hr ?_; (case hd => rfl); (case hg => rfl); (case hr => first | (go_simp; done) | (go_simp; rfl)); intro g hg w4 hbox hb; have GWg := Aside0.mk (show w.heap.size ≤ g by rw [hg]; exact below_size HB.out); have lt_ := blk_lt BK252.out; have NB1_252 := Aside0.mk (show g ≠ gb252 by omega); have NB252_1 := Aside0.mk (show gb252 ≠ g by omega); clear lt_; have n1_ := Aside0.mk (blk_below BK252.out hb); have n0_ := Aside0.mk (below_step HB.out hb); clear HB BK252 hb hg; have HB := n0_; have BK252 := n1_; clear n0_ n1_; have HI1 : Aside0 (IsS81 w w4 g a0 0) := ⟨⟨hbox, GWg.out⟩⟩; have HK := Aside0.mk (KeepBut.of_below HB.out g none); clear hbox))
 have GE252 := GW252
 go_loopg [4] k (fun kq v4 w' => ∃ (x4_1 : List (S57)) (x2000_1 : ByteArray) (x2001_1 : Int) (x253001_1 : Int) (x253002_1 : Int), Aside0 (umlautref5_Parse.l0 kq x4_1 x2000_1 x2001_1 = some (r1, r2, r3, r4, r5)) ∧ Aside0 (kq ≤ k) ∧ Aside0 (Kd.S k57 57 w' w.heap.size (fun _ => True) v4 x4_1) ∧ Aside0 (w'.heap[gb252]? = some (.cells #[(.slice none 0 0), .int .i64 x253001_1, .int .i64 x253002_1] 47 (0, 0))) ∧ Aside0 (IsS81 w w' g x2000_1 x2001_1) ∧ Aside0 (KeepBut w w' g none) ∧ Aside0 (Below w.heap.size w w'))
 case atStart => exact ⟨(([] : List (S57))), (a0), (0), (0), (0), H', ⟨Nat.le_refl _⟩, ⟨by first | exact Kd.S_nil _ _ _ _ _ | exact Kd.N_nil _ _ _ _ _ | exact Kd.V_nil _ _ _ _ _ | exact Kd.Q_nil _ _ _ _ _ | exact Kd.R_nil _ _ _ _ _⟩, ⟨by (with_reducible repeat (first | refine blk_drewN ?_ _ | refine blk_drew ?_ | refine blk_alloc ?_ _)); exact BK252.out⟩, ⟨by repeat (first | (with_reducible first | exact HI1.out | apply IsS81.alloc | apply IsS81.drewN | apply IsS81.drew | apply IsS81.set_0 | apply IsS81.set_1 | refine IsS81.far ?_ NB1_252.out _) | exact HI1.out)⟩, ⟨by repeat (first | (with_reducible first | exact HK.out | apply KeepBut.set_ | apply keep_drewN | apply keep_drew | apply keep_alloc | refine keep_far ?_ GW252.out _) | exact HK.out)⟩, ⟨by repeat (first | (with_reducible first | exact HB.out | apply below_alloc | apply pw_below_drewN | apply below_drew1 | refine below_set ?_ (IsS81.ge HI1.out) | refine below_set ?_ GE252.out) | exact HB.out)⟩⟩
 case round =>
  clear H'
  try clear c2
  try clear p2
  obtain ⟨x4_1, x2000_1, x2001_1, x253001_1, x253002_1, HA, HK1, HO_4, BK252, HI1, HK, HB⟩ := hrel
  cases gk with
  | zero => exact absurd HA.out (by simp [umlautref5_Parse.l0])
  | succ k1 =>
   have H := HA.out
   clear HA
   simp only [umlautref5_Parse.l0] at H
   replace H := Option.bind_eq_some_iff.mp H
   obtain ⟨⟨t253, t254⟩, A40, H⟩ := H
   replace H : (if t254 = (t253.size : Int) then (if (x4_1.length : Int) > 40 then (some (([] : List (S57)), 0, 65, t253, t254)) else (some (x4_1, 0, 0, t253, t254))) else ((umlautref5_reader_rel.f k1 t253 t254).bind fun bt255 => (if bt255.1 = 0 then (umlautref5_Parse.j1 k1 x4_1 t254 bt255.1 true bt255.2.1 bt255.2.2) else (if (x4_1.length : Int) = 0 then (umlautref5_Parse.j1 k1 x4_1 t254 bt255.1 (bt255.1 != 1) bt255.2.1 bt255.2.2) else (umlautref5_Parse.j1 k1 x4_1 t254 bt255.1 false bt255.2.1 bt255.2.2))))) = some (r1, r2, r3, r4, r5) := H
   have A4 := Aside0.mk A40
   clear A40
   by_cases c5 : t254 = (t253.size : Int)
   ·rw [if_pos c5] at H
    have c5b0 : (t254 == (t253.size : Int)) = true := beq_iff_eq.mpr c5
    have c5b1 : (t254 != (t253.size : Int)) = false := bne_eq_false_iff_eq.mpr c5
    clear c5
    by_cases c6 : (x4_1.length : Int) > 40
    ·rw [if_pos c6] at H
     have c6b0 : decide (40 < (x4_1.length : Int)) = true := decide_eq_true c6
     have c6b1 : decide (40 < x4_1.length) = true := decide_eq_true (by omega)
     clear c6
     simp only [Option.some.injEq, Prod.mk.injEq] at H
     obtain ⟨rfl, rfl, rfl, rfl, rfl⟩ := H
     go_wp2_with (first | (go_at_call 53; (with_reducible refine (umlautref5_reader_blank.calls k1 g x2000_1 x2001_1 t253 t254 w _ ?side1 ?side2 A4.out).mono ?_); (case side1 => repeat (first | (with_reducible first | exact HI1.out | apply IsS81.alloc | apply IsS81.drewN | apply IsS81.drew | apply IsS81.set_0 | apply IsS81.set_1 | refine IsS81.far ?_ NB1_252.out _) | exact HI1.out)); (case side2 => repeat (first | (with_reducible first | exact HB.out | apply below_alloc | apply pw_below_drewN | apply below_drew1 | refine below_set ?_ (IsS81.ge HI1.out) | refine below_set ?_ GE252.out) | exact HB.out)); rintro e w7 ⟨rfl, hi, hb, hk⟩; have n0_ := Aside0.mk (Kd.S_mono (Kd.S_keep (IsS81.apartS (show IsS81 w _ g x2000_1 x2001_1 from by repeat (first | (with_reducible first | exact HI1.out | apply IsS81.alloc | apply IsS81.drewN | apply IsS81.drew | apply IsS81.set_0 | apply IsS81.set_1 | refine IsS81.far ?_ NB1_252.out _) | exact HI1.out)) (by (with_reducible repeat (first | apply Kd.S_alloc | apply Kd.S_drewN | apply Kd.S_drew)); exact HO_4.out) (by decide)) hk (fun _ h => h.2)) (fun _ h => h.1)); have n1_ := Aside0.mk (KeepBut.blk hk (g' := gb252) (o := .cells #[.slice none 0 0, .int .i64 x253001_1, .int .i64 x253002_1] 47 (0, 0)) (by (with_reducible repeat (first | refine blk_drewN ?_ _ | refine blk_drew ?_ | refine blk_alloc ?_ _)); exact BK252.out) NB252_1.out (by simp)); have n2_ := Aside0.mk (KeepBut.trans (by repeat (first | (with_reducible first | exact HK.out | apply KeepBut.set_ | apply keep_drewN | apply keep_drew | apply keep_alloc | refine keep_far ?_ GW252.out _) | exact HK.out)) hk (.inl rfl)); have n3_ := Aside0.mk (hb); have n4_ := Aside0.mk (hi); clear HO_4; clear BK252; clear HK; clear HB; clear HI1; have HO_4 := n0_; have BK252 := n1_; have HK := n2_; have HB := n3_; have HI1 := n4_; clear n0_ n1_ n2_ n3_ n4_; (try clear hb); (try clear hb2); (try clear hk); (try clear hi); obtain ⟨HGz8, hgz8⟩ := HI1.out; have hcz8_0 := cellS81_0 HGz8; have hcz8_1 := cellS81_1 HGz8; have hfz8_0 := blk_frozen HGz8 0; have hfz8_1 := blk_frozen HGz8 1; clear HGz8 hgz8; obtain ⟨Ao9, co9, eo9⟩ := Kd.S_slice HO_4.out; subst eo9; have hnb10 := NB252_1.out; have hnc10 := NB1_252.out; have hcz11_0 : w7.cell? ⟨gb252, 0, none⟩ = some (.slice none 0 0) := (blk_cell BK252.out 0).trans rfl; have hcz11_1 : w7.cell? ⟨gb252, 1, none⟩ = some (.int .i64 x253001_1) := (blk_cell BK252.out 1).trans rfl; have hcz11_2 : w7.cell? ⟨gb252, 2, none⟩ = some (.int .i64 x253002_1) := (blk_cell BK252.out 2).trans rfl; have hfz11_0 := blk_frozen BK252.out 0; have hfz11_1 := blk_frozen BK252.out 1; have hfz11_2 := blk_frozen BK252.out 2))
     repeat (go_quiet (fail); try go_wp2_with (fail))
     refine bodyPost_ret (results_cell_row rfl _ _ gb252 47 #[.slice none 0 0, .int .i64 0, .int .i64 65] (0, 0) _ rfl (by (with_reducible repeat (first | refine blk_drewN ?_ _ | refine blk_drew ?_ | refine blk_alloc ?_ _)); refine blk_put (cs := #[.slice none 0 0, .int .i64 0, .int .i64 x253002_1]) ?_ 2 _ rfl; (with_reducible repeat (first | refine blk_drewN ?_ _ | refine blk_drew ?_ | refine blk_alloc ?_ _)); refine blk_put (cs := #[.slice none 0 0, .int .i64 x253001_1, .int .i64 x253002_1]) ?_ 1 _ rfl; (with_reducible repeat (first | refine blk_drewN ?_ _ | refine blk_drew ?_ | refine blk_alloc ?_ _)); refine blk_put (cs := #[.slice none 0 0, .int .i64 x253001_1, .int .i64 x253002_1]) ?_ 0 _ rfl; (with_reducible repeat (first | refine blk_drewN ?_ _ | refine blk_drew ?_ | refine blk_alloc ?_ _)); exact BK252.out) Tryd.underlying47 rfl (by kernel_rfl)) rfl ?_
     exact ⟨_, by first | rfl | (simp [errW_none, errW_some] <;> rfl) | (simp [*, errW_none, errW_some] <;> rfl), by first | exact Kd.S_nil _ _ _ _ _ | exact Kd.N_nil _ _ _ _ _ | exact Kd.V_nil _ _ _ _ _ | exact Kd.Q_nil _ _ _ _ _ | exact Kd.R_nil _ _ _ _ _, g, by repeat (first | (with_reducible first | exact HI1.out | apply IsS81.alloc | apply IsS81.drewN | apply IsS81.drew | apply IsS81.set_0 | apply IsS81.set_1 | refine IsS81.far ?_ NB1_252.out _) | exact HI1.out), by repeat (first | (with_reducible first | exact HB.out | apply below_alloc | apply pw_below_drewN | apply below_drew1 | refine below_set ?_ (IsS81.ge HI1.out) | refine below_set ?_ GE252.out) | exact HB.out), by repeat (first | (with_reducible first | exact HK.out | apply KeepBut.set_ | apply keep_drewN | apply keep_drew | apply keep_alloc | refine keep_far ?_ GW252.out _) | exact HK.out)⟩
    ·rw [if_neg c6] at H
     have c6b0 : decide (40 < (x4_1.length : Int)) = false := decide_eq_false c6
     have c6b1 : decide (40 < x4_1.length) = false := decide_eq_false (by omega)
     clear c6
     simp only [Option.some.injEq, Prod.mk.injEq] at H
     obtain ⟨rfl, rfl, rfl, rfl, rfl⟩ := H
     go_wp2_with (first | (go_at_call 53; (with_reducible refine (umlautref5_reader_blank.calls k1 g x2000_1 x2001_1 t253 t254 w _ ?side1 ?side2 A4.out).mono ?_); (case side1 => repeat (first | (with_reducible first | exact HI1.out | apply IsS81.alloc | apply IsS81.drewN | apply IsS81.drew | apply IsS81.set_0 | apply IsS81.set_1 | refine IsS81.far ?_ NB1_252.out _) | exact HI1.out)); (case side2 => repeat (first | (with_reducible first | exact HB.out | apply below_alloc | apply pw_below_drewN | apply below_drew1 | refine below_set ?_ (IsS81.ge HI1.out) | refine below_set ?_ GE252.out) | exact HB.out)); rintro e w12 ⟨rfl, hi, hb, hk⟩; have n0_ := Aside0.mk (Kd.S_mono (Kd.S_keep (IsS81.apartS (show IsS81 w _ g x2000_1 x2001_1 from by repeat (first | (with_reducible first | exact HI1.out | apply IsS81.alloc | apply IsS81.drewN | apply IsS81.drew | apply IsS81.set_0 | apply IsS81.set_1 | refine IsS81.far ?_ NB1_252.out _) | exact HI1.out)) (by (with_reducible repeat (first | apply Kd.S_alloc | apply Kd.S_drewN | apply Kd.S_drew)); exact HO_4.out) (by decide)) hk (fun _ h => h.2)) (fun _ h => h.1)); have n1_ := Aside0.mk (KeepBut.blk hk (g' := gb252) (o := .cells #[.slice none 0 0, .int .i64 x253001_1, .int .i64 x253002_1] 47 (0, 0)) (by (with_reducible repeat (first | refine blk_drewN ?_ _ | refine blk_drew ?_ | refine blk_alloc ?_ _)); exact BK252.out) NB252_1.out (by simp)); have n2_ := Aside0.mk (KeepBut.trans (by repeat (first | (with_reducible first | exact HK.out | apply KeepBut.set_ | apply keep_drewN | apply keep_drew | apply keep_alloc | refine keep_far ?_ GW252.out _) | exact HK.out)) hk (.inl rfl)); have n3_ := Aside0.mk (hb); have n4_ := Aside0.mk (hi); clear HO_4; clear BK252; clear HK; clear HB; clear HI1; have HO_4 := n0_; have BK252 := n1_; have HK := n2_; have HB := n3_; have HI1 := n4_; clear n0_ n1_ n2_ n3_ n4_; (try clear hb); (try clear hb2); (try clear hk); (try clear hi); obtain ⟨HGz13, hgz13⟩ := HI1.out; have hcz13_0 := cellS81_0 HGz13; have hcz13_1 := cellS81_1 HGz13; have hfz13_0 := blk_frozen HGz13 0; have hfz13_1 := blk_frozen HGz13 1; clear HGz13 hgz13; obtain ⟨Ao14, co14, eo14⟩ := Kd.S_slice HO_4.out; subst eo14; have hnb15 := NB252_1.out; have hnc15 := NB1_252.out; have hcz16_0 : w12.cell? ⟨gb252, 0, none⟩ = some (.slice none 0 0) := (blk_cell BK252.out 0).trans rfl; have hcz16_1 : w12.cell? ⟨gb252, 1, none⟩ = some (.int .i64 x253001_1) := (blk_cell BK252.out 1).trans rfl; have hcz16_2 : w12.cell? ⟨gb252, 2, none⟩ = some (.int .i64 x253002_1) := (blk_cell BK252.out 2).trans rfl; have hfz16_0 := blk_frozen BK252.out 0; have hfz16_1 := blk_frozen BK252.out 1; have hfz16_2 := blk_frozen BK252.out 2))
     repeat (go_quiet (fail); try go_wp2_with (fail))
     refine bodyPost_ret (results_cell_row rfl _ _ gb252 47 #[.slice Ao14 x4_1.length co14, .int .i64 0, .int .i64 0] (0, 0) _ rfl (by (with_reducible repeat (first | refine blk_drewN ?_ _ | refine blk_drew ?_ | refine blk_alloc ?_ _)); refine blk_put (cs := #[.slice Ao14 x4_1.length co14, .int .i64 0, .int .i64 x253002_1]) ?_ 2 _ rfl; (with_reducible repeat (first | refine blk_drewN ?_ _ | refine blk_drew ?_ | refine blk_alloc ?_ _)); refine blk_put (cs := #[.slice Ao14 x4_1.length co14, .int .i64 x253001_1, .int .i64 x253002_1]) ?_ 1 _ rfl; (with_reducible repeat (first | refine blk_drewN ?_ _ | refine blk_drew ?_ | refine blk_alloc ?_ _)); refine blk_put (cs := #[.slice none 0 0, .int .i64 x253001_1, .int .i64 x253002_1]) ?_ 0 _ rfl; (with_reducible repeat (first | refine blk_drewN ?_ _ | refine blk_drew ?_ | refine blk_alloc ?_ _)); exact BK252.out) Tryd.underlying47 rfl (by kernel_rfl)) rfl ?_
     exact ⟨_, by first | rfl | (simp [errW_none, errW_some] <;> rfl) | (simp [*, errW_none, errW_some] <;> rfl), by (with_reducible repeat (first | apply Kd.S_alloc | apply Kd.S_drewN | apply Kd.S_drew)); exact Kd.S_mono (Kd.S_far (p := ⟨gb252, 2, none⟩) (Kd.S_far (p := ⟨gb252, 1, none⟩) (Kd.S_far (p := ⟨gb252, 0, none⟩) (Kd.S_types HO_4.out BK252.out (by decide)) (fun _ hk => hk.2) (.slice Ao14 x4_1.length co14)) (fun _ hk => hk.2) (.int .i64 0)) (fun _ hk => hk.2) (.int .i64 0)) (fun _ hk => trivial), g, by repeat (first | (with_reducible first | exact HI1.out | apply IsS81.alloc | apply IsS81.drewN | apply IsS81.drew | apply IsS81.set_0 | apply IsS81.set_1 | refine IsS81.far ?_ NB1_252.out _) | exact HI1.out), by repeat (first | (with_reducible first | exact HB.out | apply below_alloc | apply pw_below_drewN | apply below_drew1 | refine below_set ?_ (IsS81.ge HI1.out) | refine below_set ?_ GE252.out) | exact HB.out), by repeat (first | (with_reducible first | exact HK.out | apply KeepBut.set_ | apply keep_drewN | apply keep_drew | apply keep_alloc | refine keep_far ?_ GW252.out _) | exact HK.out)⟩
   ·rw [if_neg c5] at H
    have c5b0 : (t254 == (t253.size : Int)) = false := beq_eq_false_iff_ne.mpr c5
    have c5b1 : (t254 != (t253.size : Int)) = true := bne_iff_ne.mpr c5
    replace H := Option.bind_eq_some_iff.mp H
    obtain ⟨⟨t255, t256, t257⟩, A170, H⟩ := H
    replace H : (if t255 = 0 then (umlautref5_Parse.j1 k1 x4_1 t254 t255 true t256 t257) else (if (x4_1.length : Int) = 0 then (umlautref5_Parse.j1 k1 x4_1 t254 t255 (t255 != 1) t256 t257) else (umlautref5_Parse.j1 k1 x4_1 t254 t255 false t256 t257))) = some (r1, r2, r3, r4, r5) := H
    have A17 := Aside0.mk A170
    clear A170
    have HC18 := Aside0.mk H
    clear H
    go_upto_region 7 with (first | (go_at_call 53; (with_reducible refine (umlautref5_reader_blank.calls k1 g x2000_1 x2001_1 t253 t254 w _ ?side1 ?side2 A4.out).mono ?_); (case side1 => repeat (first | (with_reducible first | exact HI1.out | apply IsS81.alloc | apply IsS81.drewN | apply IsS81.drew | apply IsS81.set_0 | apply IsS81.set_1 | refine IsS81.far ?_ NB1_252.out _) | exact HI1.out)); (case side2 => repeat (first | (with_reducible first | exact HB.out | apply below_alloc | apply pw_below_drewN | apply below_drew1 | refine below_set ?_ (IsS81.ge HI1.out) | refine below_set ?_ GE252.out) | exact HB.out)); rintro e w19 ⟨rfl, hi, hb, hk⟩; have n0_ := Aside0.mk (Kd.S_mono (Kd.S_keep (IsS81.apartS (show IsS81 w _ g x2000_1 x2001_1 from by repeat (first | (with_reducible first | exact HI1.out | apply IsS81.alloc | apply IsS81.drewN | apply IsS81.drew | apply IsS81.set_0 | apply IsS81.set_1 | refine IsS81.far ?_ NB1_252.out _) | exact HI1.out)) (by (with_reducible repeat (first | apply Kd.S_alloc | apply Kd.S_drewN | apply Kd.S_drew)); exact HO_4.out) (by decide)) hk (fun _ h => h.2)) (fun _ h => h.1)); have n1_ := Aside0.mk (KeepBut.blk hk (g' := gb252) (o := .cells #[.slice none 0 0, .int .i64 x253001_1, .int .i64 x253002_1] 47 (0, 0)) (by (with_reducible repeat (first | refine blk_drewN ?_ _ | refine blk_drew ?_ | refine blk_alloc ?_ _)); exact BK252.out) NB252_1.out (by simp)); have n2_ := Aside0.mk (KeepBut.trans (by repeat (first | (with_reducible first | exact HK.out | apply KeepBut.set_ | apply keep_drewN | apply keep_drew | apply keep_alloc | refine keep_far ?_ GW252.out _) | exact HK.out)) hk (.inl rfl)); have n3_ := Aside0.mk (hb); have n4_ := Aside0.mk (hi); clear HO_4; clear BK252; clear HK; clear HB; clear HI1; have HO_4 := n0_; have BK252 := n1_; have HK := n2_; have HB := n3_; have HI1 := n4_; clear n0_ n1_ n2_ n3_ n4_; (try clear hb); (try clear hb2); (try clear hk); (try clear hi); obtain ⟨HGz20, hgz20⟩ := HI1.out; have hcz20_0 := cellS81_0 HGz20; have hcz20_1 := cellS81_1 HGz20; have hfz20_0 := blk_frozen HGz20 0; have hfz20_1 := blk_frozen HGz20 1; clear HGz20 hgz20))
    repeat (go_quiet (fail); go_upto_region 7 with (first | (go_at_call 54; (with_reducible refine (umlautref5_reader_rel.calls k1 g t253 t254 t255 t256 t257 w _ ?side1 ?side2 A17.out).mono ?_); (case side1 => repeat (first | (with_reducible first | exact HI1.out | apply IsS81.alloc | apply IsS81.drewN | apply IsS81.drew | apply IsS81.set_0 | apply IsS81.set_1 | refine IsS81.far ?_ NB1_252.out _) | exact HI1.out)); (case side2 => repeat (first | (with_reducible first | exact HB.out | apply below_alloc | apply pw_below_drewN | apply below_drew1 | refine below_set ?_ (IsS81.ge HI1.out) | refine below_set ?_ GE252.out) | exact HB.out)); rintro e w21 ⟨rfl, hi, hb, hk⟩; have n0_ := Aside0.mk (Kd.S_mono (Kd.S_keep (IsS81.apartS (show IsS81 w _ g t253 t254 from by repeat (first | (with_reducible first | exact HI1.out | apply IsS81.alloc | apply IsS81.drewN | apply IsS81.drew | apply IsS81.set_0 | apply IsS81.set_1 | refine IsS81.far ?_ NB1_252.out _) | exact HI1.out)) (by (with_reducible repeat (first | apply Kd.S_alloc | apply Kd.S_drewN | apply Kd.S_drew)); exact HO_4.out) (by decide)) hk (fun _ h => h.2)) (fun _ h => h.1)); have n1_ := Aside0.mk (KeepBut.blk hk (g' := gb252) (o := .cells #[.slice none 0 0, .int .i64 x253001_1, .int .i64 x253002_1] 47 (0, 0)) (by (with_reducible repeat (first | refine blk_drewN ?_ _ | refine blk_drew ?_ | refine blk_alloc ?_ _)); exact BK252.out) NB252_1.out (by simp)); have n2_ := Aside0.mk (KeepBut.trans (by repeat (first | (with_reducible first | exact HK.out | apply KeepBut.set_ | apply keep_drewN | apply keep_drew | apply keep_alloc | refine keep_far ?_ GW252.out _) | exact HK.out)) hk (.inl rfl)); have n3_ := Aside0.mk (hb); have n4_ := Aside0.mk (hi); clear HO_4; clear BK252; clear HK; clear HB; clear HI1; have HO_4 := n0_; have BK252 := n1_; have HK := n2_; have HB := n3_; have HI1 := n4_; clear n0_ n1_ n2_ n3_ n4_; (try clear hb); (try clear hb2); (try clear hk); (try clear hi))))
    (try simp only [Act.put, List.setIfInBounds_toArray, List.set_cons_zero, List.set_cons_succ])
    go_cut [41] (fun v41 wc => ∃ (kq : Nat) (x41_17 : Bool), v41 = .bool x41_17 ∧ Aside0 (umlautref5_Parse.j1 kq x4_1 t254 t255 x41_17 t256 t257 = some (r1, r2, r3, r4, r5)) ∧ Aside0 (kq ≤ k1) ∧ Aside0 (Kd.S k57 57 wc w.heap.size (fun _ => True) u4 x4_1) ∧ Aside0 (wc.heap[gb252]? = some (.cells #[(.slice none 0 0), .int .i64 x253001_1, .int .i64 x253002_1] 47 (0, 0))) ∧ Aside0 (IsS81 w wc g t256 t257) ∧ Aside0 (KeepBut w wc g none) ∧ Aside0 (Below w.heap.size w wc))
    case first =>
     have H := HC18.out
     clear HC18
     by_cases c22 : t255 = 0
     ·rw [if_pos c22] at H
      have c22b0 : (t255 == 0) = true := beq_iff_eq.mpr c22
      have c22b1 : (t255 != 0) = false := bne_eq_false_iff_eq.mpr c22
      clear c22
      (first | rw [c22b0] | (simp only [i64_w, i32_w]; rw [c22b0]) | skip)
      have H' := Aside0.mk H
      clear H
      go_wp2
      repeat (go_quiet (fail); try go_wp2)
      go_meet
      case rel => exact ⟨_, (true), (by first | rfl | (simp; done) | (simp [*]; done)), H', ⟨by have := HK1.out; first | omega | exact Nat.le_refl _⟩, ⟨by (with_reducible repeat (first | apply Kd.S_alloc | apply Kd.S_drewN | apply Kd.S_drew)); exact HO_4.out⟩, ⟨by (with_reducible repeat (first | refine blk_drewN ?_ _ | refine blk_drew ?_ | refine blk_alloc ?_ _)); exact BK252.out⟩, ⟨by repeat (first | (with_reducible first | exact HI1.out | apply IsS81.alloc | apply IsS81.drewN | apply IsS81.drew | apply IsS81.set_0 | apply IsS81.set_1 | refine IsS81.far ?_ NB1_252.out _) | exact HI1.out)⟩, ⟨by repeat (first | (with_reducible first | exact HK.out | apply KeepBut.set_ | apply keep_drewN | apply keep_drew | apply keep_alloc | refine keep_far ?_ GW252.out _) | exact HK.out)⟩, ⟨by repeat (first | (with_reducible first | exact HB.out | apply below_alloc | apply pw_below_drewN | apply below_drew1 | refine below_set ?_ (IsS81.ge HI1.out) | refine below_set ?_ GE252.out) | exact HB.out)⟩⟩
     ·rw [if_neg c22] at H
      have c22b0 : (t255 == 0) = false := beq_eq_false_iff_ne.mpr c22
      have c22b1 : (t255 != 0) = true := bne_iff_ne.mpr c22
      (first | rw [c22b0] | (simp only [i64_w, i32_w]; rw [c22b0]) | skip)
      by_cases c23 : (x4_1.length : Int) = 0
      ·rw [if_pos c23] at H
       have c23b0 : ((x4_1.length : Int) == 0) = true := beq_iff_eq.mpr c23
       have c23b1 : ((x4_1.length : Int) != 0) = false := bne_eq_false_iff_eq.mpr c23
       clear c23
       have H' := Aside0.mk H
       clear H
       obtain ⟨Ao24, co24, eo24⟩ := Kd.S_slice HO_4.out
       subst eo24
       go_wp2
       repeat (go_quiet (fail); try go_wp2)
       go_meet
       case rel => exact ⟨_, ((t255 != 1)), (by first | rfl | (simp; done) | (simp [*]; done)), H', ⟨by have := HK1.out; first | omega | exact Nat.le_refl _⟩, ⟨by (with_reducible repeat (first | apply Kd.S_alloc | apply Kd.S_drewN | apply Kd.S_drew)); exact HO_4.out⟩, ⟨by (with_reducible repeat (first | refine blk_drewN ?_ _ | refine blk_drew ?_ | refine blk_alloc ?_ _)); exact BK252.out⟩, ⟨by repeat (first | (with_reducible first | exact HI1.out | apply IsS81.alloc | apply IsS81.drewN | apply IsS81.drew | apply IsS81.set_0 | apply IsS81.set_1 | refine IsS81.far ?_ NB1_252.out _) | exact HI1.out)⟩, ⟨by repeat (first | (with_reducible first | exact HK.out | apply KeepBut.set_ | apply keep_drewN | apply keep_drew | apply keep_alloc | refine keep_far ?_ GW252.out _) | exact HK.out)⟩, ⟨by repeat (first | (with_reducible first | exact HB.out | apply below_alloc | apply pw_below_drewN | apply below_drew1 | refine below_set ?_ (IsS81.ge HI1.out) | refine below_set ?_ GE252.out) | exact HB.out)⟩⟩
      ·rw [if_neg c23] at H
       have c23b0 : ((x4_1.length : Int) == 0) = false := beq_eq_false_iff_ne.mpr c23
       have c23b1 : ((x4_1.length : Int) != 0) = true := bne_iff_ne.mpr c23
       have c23b2 : ¬ (x4_1 = []) := fun h_ => c23 (by rw [h_]; rfl)
       have H' := Aside0.mk H
       clear H
       obtain ⟨Ao25, co25, eo25⟩ := Kd.S_slice HO_4.out
       subst eo25
       go_wp2
       repeat (go_quiet (fail); try go_wp2)
       go_meet
       case rel => exact ⟨_, (false), (by first | rfl | (simp; done) | (simp [*]; done)), H', ⟨by have := HK1.out; first | omega | exact Nat.le_refl _⟩, ⟨by (with_reducible repeat (first | apply Kd.S_alloc | apply Kd.S_drewN | apply Kd.S_drew)); exact HO_4.out⟩, ⟨by (with_reducible repeat (first | refine blk_drewN ?_ _ | refine blk_drew ?_ | refine blk_alloc ?_ _)); exact BK252.out⟩, ⟨by repeat (first | (with_reducible first | exact HI1.out | apply IsS81.alloc | apply IsS81.drewN | apply IsS81.drew | apply IsS81.set_0 | apply IsS81.set_1 | refine IsS81.far ?_ NB1_252.out _) | exact HI1.out)⟩, ⟨by repeat (first | (with_reducible first | exact HK.out | apply KeepBut.set_ | apply keep_drewN | apply keep_drew | apply keep_alloc | refine keep_far ?_ GW252.out _) | exact HK.out)⟩, ⟨by repeat (first | (with_reducible first | exact HB.out | apply below_alloc | apply pw_below_drewN | apply below_drew1 | refine below_set ?_ (IsS81.ge HI1.out) | refine below_set ?_ GE252.out) | exact HB.out)⟩⟩
    case rest =>
     clear HC18
     try clear c1
     try clear c2
     try clear p2
     try clear c5
     try clear c5b0
     try clear c5b1
     try clear c6
     try clear c6b0
     try clear c6b1
     try clear c10
     try clear c15
     try clear c22
     try clear c22b0
     try clear c22b1
     try clear c23
     try clear c23b0
     try clear c23b1
     try clear c23b2
     try clear hcz11_0
     try clear hcz11_1
     try clear hcz11_2
     try clear hcz13_0
     try clear hcz13_1
     try clear hcz16_0
     try clear hcz16_1
     try clear hcz16_2
     try clear hcz20_0
     try clear hcz20_1
     try clear hcz8_0
     try clear hcz8_1
     try clear hfz11_0
     try clear hfz11_1
     try clear hfz11_2
     try clear hfz13_0
     try clear hfz13_1
     try clear hfz16_0
     try clear hfz16_1
     try clear hfz16_2
     try clear hfz20_0
     try clear hfz20_1
     try clear hfz8_0
     try clear hfz8_1
     try clear p2
     obtain ⟨kq, x41_17, rfl, HA, HJ17, HO_4, BK252, HI1, HK, HB⟩ := hcut
     cases kq with
     | zero => exact absurd HA.out (by simp [umlautref5_Parse.j1])
     | succ kj17 =>
      have H := HA.out
      clear HA
      simp only [umlautref5_Parse.j1] at H
      by_cases c26 : x41_17 = true
      ·subst c26
       have H1 : (some (([] : List (S57)), t254, 10, t256, t257)) = some (r1, r2, r3, r4, r5) := by rw [if_pos rfl] at H; exact H
       clear H
       have H := H1
       clear H1
       simp only [Option.some.injEq, Prod.mk.injEq] at H
       obtain ⟨rfl, rfl, rfl, rfl, rfl⟩ := H
       have hnb27 := NB252_1.out
       have hnc27 := NB1_252.out
       have hcz28_0 : wc.cell? ⟨gb252, 0, none⟩ = some (.slice none 0 0) := (blk_cell BK252.out 0).trans rfl
       have hcz28_1 : wc.cell? ⟨gb252, 1, none⟩ = some (.int .i64 x253001_1) := (blk_cell BK252.out 1).trans rfl
       have hcz28_2 : wc.cell? ⟨gb252, 2, none⟩ = some (.int .i64 x253002_1) := (blk_cell BK252.out 2).trans rfl
       have hfz28_0 := blk_frozen BK252.out 0
       have hfz28_1 := blk_frozen BK252.out 1
       have hfz28_2 := blk_frozen BK252.out 2
       go_wp2
       repeat (go_quiet (fail); try go_wp2)
       refine bodyPost_ret (results_cell_row rfl _ _ gb252 47 #[.slice none 0 0, .int .i64 t254, .int .i64 10] (0, 0) _ rfl (by (with_reducible repeat (first | refine blk_drewN ?_ _ | refine blk_drew ?_ | refine blk_alloc ?_ _)); refine blk_put (cs := #[.slice none 0 0, .int .i64 t254, .int .i64 x253002_1]) ?_ 2 _ rfl; (with_reducible repeat (first | refine blk_drewN ?_ _ | refine blk_drew ?_ | refine blk_alloc ?_ _)); refine blk_put (cs := #[.slice none 0 0, .int .i64 x253001_1, .int .i64 x253002_1]) ?_ 1 _ rfl; (with_reducible repeat (first | refine blk_drewN ?_ _ | refine blk_drew ?_ | refine blk_alloc ?_ _)); refine blk_put (cs := #[.slice none 0 0, .int .i64 x253001_1, .int .i64 x253002_1]) ?_ 0 _ rfl; (with_reducible repeat (first | refine blk_drewN ?_ _ | refine blk_drew ?_ | refine blk_alloc ?_ _)); exact BK252.out) Tryd.underlying47 rfl (by kernel_rfl)) rfl ?_
       exact ⟨_, by first | rfl | (simp [errW_none, errW_some] <;> rfl) | (simp [*, errW_none, errW_some] <;> rfl), by first | exact Kd.S_nil _ _ _ _ _ | exact Kd.N_nil _ _ _ _ _ | exact Kd.V_nil _ _ _ _ _ | exact Kd.Q_nil _ _ _ _ _ | exact Kd.R_nil _ _ _ _ _, g, by repeat (first | (with_reducible first | exact HI1.out | apply IsS81.alloc | apply IsS81.drewN | apply IsS81.drew | apply IsS81.set_0 | apply IsS81.set_1 | refine IsS81.far ?_ NB1_252.out _) | exact HI1.out), by repeat (first | (with_reducible first | exact HB.out | apply below_alloc | apply pw_below_drewN | apply below_drew1 | refine below_set ?_ (IsS81.ge HI1.out) | refine below_set ?_ GE252.out) | exact HB.out), by repeat (first | (with_reducible first | exact HK.out | apply KeepBut.set_ | apply keep_drewN | apply keep_drew | apply keep_alloc | refine keep_far ?_ GW252.out _) | exact HK.out)⟩
      ·replace c26 := Bool.eq_false_iff.mpr c26
       subst c26
       have H1 : ((umlautref5_reader_seq.f kj17 t256 t257).bind fun bt259 => (if bt259.2.1 = true then ((umlautref5_reader_blank.f kj17 bt259.2.2.1 bt259.2.2.2).bind fun bt265 => (if t255 = 1 then (umlautref5_Parse.j2 kj17 x4_1 false bt265.1 bt265.2 t255 bt259.1) else (if bt265.2 < (bt265.1.size : Int) then (if 0 ≤ bt265.2 then (umlautref5_Parse.j2 kj17 x4_1 ((bt bt265.1 bt265.2) == 47) bt265.1 bt265.2 t255 bt259.1) else (none)) else (umlautref5_Parse.j2 kj17 x4_1 false bt265.1 bt265.2 t255 bt259.1)))) else (some (([] : List (S57)), bt259.2.2.2, 10, bt259.2.2.1, bt259.2.2.2)))) = some (r1, r2, r3, r4, r5) := by rw [if_neg (show ¬ (false = true) by decide)] at H; exact H
       clear H
       have H := H1
       clear H1
       replace H := Option.bind_eq_some_iff.mp H
       obtain ⟨⟨t259, t262, t263, t264⟩, A290, H⟩ := H
       replace H : (if t262 = true then ((umlautref5_reader_blank.f kj17 t263 t264).bind fun bt265 => (if t255 = 1 then (umlautref5_Parse.j2 kj17 x4_1 false bt265.1 bt265.2 t255 t259) else (if bt265.2 < (bt265.1.size : Int) then (if 0 ≤ bt265.2 then (umlautref5_Parse.j2 kj17 x4_1 ((bt bt265.1 bt265.2) == 47) bt265.1 bt265.2 t255 t259) else (none)) else (umlautref5_Parse.j2 kj17 x4_1 false bt265.1 bt265.2 t255 t259)))) else (some (([] : List (S57)), t264, 10, t263, t264))) = some (r1, r2, r3, r4, r5) := H
       have A29 := Aside0.mk A290
       clear A290
       by_cases c30 : t262 = true
       ·subst c30
        have H1 : ((umlautref5_reader_blank.f kj17 t263 t264).bind fun bt265 => (if t255 = 1 then (umlautref5_Parse.j2 kj17 x4_1 false bt265.1 bt265.2 t255 t259) else (if bt265.2 < (bt265.1.size : Int) then (if 0 ≤ bt265.2 then (umlautref5_Parse.j2 kj17 x4_1 ((bt bt265.1 bt265.2) == 47) bt265.1 bt265.2 t255 t259) else (none)) else (umlautref5_Parse.j2 kj17 x4_1 false bt265.1 bt265.2 t255 t259)))) = some (r1, r2, r3, r4, r5) := by rw [if_pos rfl] at H; exact H
        clear H
        have H := H1
        clear H1
        replace H := Option.bind_eq_some_iff.mp H
        obtain ⟨⟨t265, t266⟩, A310, H⟩ := H
        replace H : (if t255 = 1 then (umlautref5_Parse.j2 kj17 x4_1 false t265 t266 t255 t259) else (if t266 < (t265.size : Int) then (if 0 ≤ t266 then (umlautref5_Parse.j2 kj17 x4_1 ((bt t265 t266) == 47) t265 t266 t255 t259) else (none)) else (umlautref5_Parse.j2 kj17 x4_1 false t265 t266 t255 t259))) = some (r1, r2, r3, r4, r5) := H
        have A31 := Aside0.mk A310
        clear A310
        have HC32 := Aside0.mk H
        clear H
        go_upto_region 15 with (first | ((with_reducible refine gate_dst (N := 7) rfl ?_); (try (refine gate_guard (by rfl) ?_; dsimp only)); refine box_event ?hg (N := 7) ?hd (cs := #[.int .i64 0, .slice none 0 0, .slice none 0 0]) (t := 57) ?hr ?_; (case hd => rfl); (case hg => rfl); (case hr => first | (go_simp; done) | (go_simp; rfl)); intro gb258 hg w33 hbox hb; have n0_ := Aside0.mk (Kd.S_below (Kd.S_elderB (by (with_reducible repeat (first | apply Kd.S_alloc | apply Kd.S_drewN | apply Kd.S_drew)); exact HO_4.out) gb258 (Nat.le_of_eq hg.symm)) hb); have n1_ := Aside0.mk (blk_below (g := gb252) (o := .cells #[.slice none 0 0, .int .i64 x253001_1, .int .i64 x253002_1] 47 (0, 0)) (by (with_reducible repeat (first | refine blk_drewN ?_ _ | refine blk_drew ?_ | refine blk_alloc ?_ _)); exact BK252.out) hb); have n2_ := Aside0.mk (IsS81.below (by repeat (first | (with_reducible first | exact HI1.out | apply IsS81.alloc | apply IsS81.drewN | apply IsS81.drew | apply IsS81.set_0 | apply IsS81.set_1 | refine IsS81.far ?_ NB1_252.out _) | exact HI1.out)) hb); have n3_ := Aside0.mk (KeepBut.trans (by repeat (first | (with_reducible first | exact HK.out | apply KeepBut.set_ | apply keep_drewN | apply keep_drew | apply keep_alloc | refine keep_far ?_ GW252.out _) | exact HK.out)) (KeepBut.of_below hb g none) (.inl rfl)); have n4_ := Aside0.mk (below_step (by repeat (first | (with_reducible first | exact HB.out | apply below_alloc | apply pw_below_drewN | apply below_drew1 | refine below_set ?_ (IsS81.ge HI1.out) | refine below_set ?_ GE252.out) | exact HB.out)) hb); have n5_ := Aside0.mk (hbox); have n6_ := Aside0.mk ((by rw [hg]; exact (keep_size (w := w) (g := g) (row := none) (by repeat (first | (with_reducible first | exact HK.out | apply KeepBut.set_ | apply keep_drewN | apply keep_drew | apply keep_alloc | refine keep_far ?_ GW252.out _) | exact HK.out))) : w.heap.size ≤ gb258)); have n7_ := Aside0.mk ((Nat.le_trans HW0.out (by rw [hg]; exact (keep_size (w := w) (g := g) (row := none) (by repeat (first | (with_reducible first | exact HK.out | apply KeepBut.set_ | apply keep_drewN | apply keep_drew | apply keep_alloc | refine keep_far ?_ GW252.out _) | exact HK.out))) : w.heap.size ≤ gb258) : w.heap.size ≤ gb258)); have n8_ := Aside0.mk ((by rw [hg]; exact Nat.ne_of_lt (blk_lt (g := gb252) (o := .cells #[.slice none 0 0, .int .i64 x253001_1, .int .i64 x253002_1] 47 (0, 0)) (by (with_reducible repeat (first | refine blk_drewN ?_ _ | refine blk_drew ?_ | refine blk_alloc ?_ _)); exact BK252.out)) : gb252 ≠ gb258)); have n9_ := Aside0.mk ((by rw [hg]; exact Nat.ne_of_gt (blk_lt (g := gb252) (o := .cells #[.slice none 0 0, .int .i64 x253001_1, .int .i64 x253002_1] 47 (0, 0)) (by (with_reducible repeat (first | refine blk_drewN ?_ _ | refine blk_drew ?_ | refine blk_alloc ?_ _)); exact BK252.out)) : gb258 ≠ gb252)); have n10_ := Aside0.mk ((by rw [hg]; exact Nat.ne_of_lt (IsS81.lt (show IsS81 w _ g t256 t257 from by repeat (first | (with_reducible first | exact HI1.out | apply IsS81.alloc | apply IsS81.drewN | apply IsS81.drew | apply IsS81.set_0 | apply IsS81.set_1 | refine IsS81.far ?_ NB1_252.out _) | exact HI1.out))) : g ≠ gb258)); have n11_ := Aside0.mk ((by rw [hg]; exact Nat.ne_of_gt (IsS81.lt (show IsS81 w _ g t256 t257 from by repeat (first | (with_reducible first | exact HI1.out | apply IsS81.alloc | apply IsS81.drewN | apply IsS81.drew | apply IsS81.set_0 | apply IsS81.set_1 | refine IsS81.far ?_ NB1_252.out _) | exact HI1.out))) : gb258 ≠ g)); clear HO_4; clear BK252; clear HI1; clear HK; clear HB; have HO_4 := n0_; have BK252 := n1_; have HI1 := n2_; have HK := n3_; have HB := n4_; have BK258 := n5_; have GW258 := n6_; have GE258 := n7_; have NB252_258 := n8_; have NB258_252 := n9_; have NB1_258 := n10_; have NB258_1 := n11_; clear n0_ n1_ n2_ n3_ n4_ n5_ n6_ n7_ n8_ n9_ n10_ n11_; clear hb hbox hg; have hnb34 := NB258_252.out; have hnc34 := NB252_258.out; have hnb35 := NB258_1.out; have hnc35 := NB1_258.out; have hcz36_0 : w33.cell? ⟨gb258, 0, none⟩ = some (.int .i64 0) := (blk_cell BK258.out 0).trans rfl; have hcz36_1 : w33.cell? ⟨gb258, 1, none⟩ = some (.slice none 0 0) := (blk_cell BK258.out 1).trans rfl; have hcz36_2 : w33.cell? ⟨gb258, 2, none⟩ = some (.slice none 0 0) := (blk_cell BK258.out 2).trans rfl; have hfz36_0 := blk_frozen BK258.out 0; have hfz36_1 := blk_frozen BK258.out 1; have hfz36_2 := blk_frozen BK258.out 2) | (go_at_call 55; (with_reducible refine (umlautref5_reader_seq.calls kj17 g t256 t257 t259 true t263 t264 w _ ?side1 ?side2 A29.out).mono ?_); (case side1 => repeat (first | (with_reducible first | exact HI1.out | apply IsS81.alloc | apply IsS81.drewN | apply IsS81.drew | apply IsS81.set_0 | apply IsS81.set_1 | refine IsS81.far ?_ NB1_252.out _ | refine IsS81.far ?_ NB1_258.out _) | exact HI1.out)); (case side2 => repeat (first | (with_reducible first | exact HB.out | apply below_alloc | apply pw_below_drewN | apply below_drew1 | refine below_set ?_ (IsS81.ge HI1.out) | refine below_set ?_ GE252.out | refine below_set ?_ GE258.out) | exact HB.out)); rintro e w37 ⟨v260, rfl, ho0, hi, hb, hk⟩; have n0_ := Aside0.mk (Kd.S_mono (Kd.S_told (Kd.S_oldK (IsS81.apartS (show IsS81 w _ g t256 t257 from by repeat (first | (with_reducible first | exact HI1.out | apply IsS81.alloc | apply IsS81.drewN | apply IsS81.drew | apply IsS81.set_0 | apply IsS81.set_1 | refine IsS81.far ?_ NB1_252.out _ | refine IsS81.far ?_ NB1_258.out _) | exact HI1.out)) (by (with_reducible repeat (first | apply Kd.S_alloc | apply Kd.S_drewN | apply Kd.S_drew)); exact (Kd.S_mono (Kd.S_far (p := ⟨gb258, 2, none⟩) (Kd.S_far (p := ⟨gb258, 1, none⟩) (Kd.S_far (p := ⟨gb258, 0, none⟩) (Kd.S_mono HO_4.out (fun k_ hk => (⟨hk, hk.2⟩ : _ ∧ k_ ≠ gb258))) (fun _ hk => hk.2) (.int .i64 t255)) (fun _ hk => hk.2) (.slice none 0 0)) (fun _ hk => hk.2) (.slice none 0 0)) (fun _ h_ => h_.1))) (by decide)) hk) (Kd.R_base ho0)) (fun _ h_ => h_.1)); have n1_ := Aside0.mk (KeepBut.blk hk (g' := gb252) (o := .cells #[.slice none 0 0, .int .i64 x253001_1, .int .i64 x253002_1] 47 (0, 0)) (by (with_reducible repeat (first | refine blk_drewN ?_ _ | refine blk_drew ?_ | refine blk_alloc ?_ _)); refine blk_far ?_ NB252_258.out _; (with_reducible repeat (first | refine blk_drewN ?_ _ | refine blk_drew ?_ | refine blk_alloc ?_ _)); refine blk_far ?_ NB252_258.out _; (with_reducible repeat (first | refine blk_drewN ?_ _ | refine blk_drew ?_ | refine blk_alloc ?_ _)); refine blk_far ?_ NB252_258.out _; (with_reducible repeat (first | refine blk_drewN ?_ _ | refine blk_drew ?_ | refine blk_alloc ?_ _)); exact BK252.out) NB252_1.out (by simp)); have n2_ := Aside0.mk (KeepBut.blk hk (g' := gb258) (o := .cells #[.int .i64 t255, .slice none 0 0, .slice none 0 0] 57 (0, 0)) (by (with_reducible repeat (first | refine blk_drewN ?_ _ | refine blk_drew ?_ | refine blk_alloc ?_ _)); refine blk_put (cs := #[.int .i64 t255, .slice none 0 0, .slice none 0 0]) ?_ 2 _ rfl; (with_reducible repeat (first | refine blk_drewN ?_ _ | refine blk_drew ?_ | refine blk_alloc ?_ _)); refine blk_put (cs := #[.int .i64 t255, .slice none 0 0, .slice none 0 0]) ?_ 1 _ rfl; (with_reducible repeat (first | refine blk_drewN ?_ _ | refine blk_drew ?_ | refine blk_alloc ?_ _)); refine blk_put (cs := #[.int .i64 0, .slice none 0 0, .slice none 0 0]) ?_ 0 _ rfl; (with_reducible repeat (first | refine blk_drewN ?_ _ | refine blk_drew ?_ | refine blk_alloc ?_ _)); exact BK258.out) NB258_1.out (by simp)); have n3_ := Aside0.mk (Kd.R_lower ho0 (keep_size (w := w) (g := g) (row := none) (by repeat (first | (with_reducible first | exact HK.out | apply KeepBut.set_ | apply keep_drewN | apply keep_drew | apply keep_alloc | refine keep_far ?_ GW252.out _ | refine keep_far ?_ GW258.out _) | exact HK.out)))); have n4_ := Aside0.mk (KeepBut.trans (by repeat (first | (with_reducible first | exact HK.out | apply KeepBut.set_ | apply keep_drewN | apply keep_drew | apply keep_alloc | refine keep_far ?_ GW252.out _ | refine keep_far ?_ GW258.out _) | exact HK.out)) hk (.inl rfl)); have n5_ := Aside0.mk (hb); have n6_ := Aside0.mk (hi); clear HO_4; clear BK252; clear BK258; clear HK; clear HB; clear HI1; have HO_4 := n0_; have BK252 := n1_; have BK258 := n2_; have HO261 := n3_; have HK := n4_; have HB := n5_; have HI1 := n6_; clear n0_ n1_ n2_ n3_ n4_ n5_ n6_; (try clear hb); (try clear hb2); (try clear hk); (try clear hi); (try clear ho0); obtain ⟨Ao38, co38, eo38⟩ := Kd.R_slice HO261.out; subst eo38; have hcz39_0 : w37.cell? ⟨gb258, 0, none⟩ = some (.int .i64 t255) := (blk_cell BK258.out 0).trans rfl; have hcz39_1 : w37.cell? ⟨gb258, 1, none⟩ = some (.slice none 0 0) := (blk_cell BK258.out 1).trans rfl; have hcz39_2 : w37.cell? ⟨gb258, 2, none⟩ = some (.slice none 0 0) := (blk_cell BK258.out 2).trans rfl; have hfz39_0 := blk_frozen BK258.out 0; have hfz39_1 := blk_frozen BK258.out 1; have hfz39_2 := blk_frozen BK258.out 2) | (go_at_call 53; (with_reducible refine (umlautref5_reader_blank.calls kj17 g t263 t264 t265 t266 w _ ?side1 ?side2 A31.out).mono ?_); (case side1 => repeat (first | (with_reducible first | exact HI1.out | apply IsS81.alloc | apply IsS81.drewN | apply IsS81.drew | apply IsS81.set_0 | apply IsS81.set_1 | refine IsS81.far ?_ NB1_252.out _ | refine IsS81.far ?_ NB1_258.out _) | exact HI1.out)); (case side2 => repeat (first | (with_reducible first | exact HB.out | apply below_alloc | apply pw_below_drewN | apply below_drew1 | refine below_set ?_ (IsS81.ge HI1.out) | refine below_set ?_ GE252.out | refine below_set ?_ GE258.out) | exact HB.out)); rintro e w40 ⟨rfl, hi, hb, hk⟩; have n0_ := Aside0.mk (Kd.S_mono (Kd.S_keep (IsS81.apartS (show IsS81 w _ g t263 t264 from by repeat (first | (with_reducible first | exact HI1.out | apply IsS81.alloc | apply IsS81.drewN | apply IsS81.drew | apply IsS81.set_0 | apply IsS81.set_1 | refine IsS81.far ?_ NB1_252.out _ | refine IsS81.far ?_ NB1_258.out _) | exact HI1.out)) (by (with_reducible repeat (first | apply Kd.S_alloc | apply Kd.S_drewN | apply Kd.S_drew)); exact (Kd.S_mono (Kd.S_far (p := ⟨gb258, 1, none⟩) (Kd.S_mono HO_4.out (fun k_ hk => (⟨hk, hk.1.2⟩ : _ ∧ k_ ≠ gb258))) (fun _ hk => hk.2) (.slice Ao38 t259.length co38)) (fun _ h_ => h_.1))) (by decide)) hk (fun _ h => h.2)) (fun _ h => h.1)); have n1_ := Aside0.mk (KeepBut.blk hk (g' := gb252) (o := .cells #[.slice none 0 0, .int .i64 x253001_1, .int .i64 x253002_1] 47 (0, 0)) (by (with_reducible repeat (first | refine blk_drewN ?_ _ | refine blk_drew ?_ | refine blk_alloc ?_ _)); refine blk_far ?_ NB252_258.out _; (with_reducible repeat (first | refine blk_drewN ?_ _ | refine blk_drew ?_ | refine blk_alloc ?_ _)); exact BK252.out) NB252_1.out (by simp)); have n2_ := Aside0.mk (KeepBut.blk hk (g' := gb258) (o := .cells #[.int .i64 t255, .slice Ao38 t259.length co38, .slice none 0 0] 57 (0, 0)) (by (with_reducible repeat (first | refine blk_drewN ?_ _ | refine blk_drew ?_ | refine blk_alloc ?_ _)); refine blk_put (cs := #[.int .i64 t255, .slice none 0 0, .slice none 0 0]) ?_ 1 _ rfl; (with_reducible repeat (first | refine blk_drewN ?_ _ | refine blk_drew ?_ | refine blk_alloc ?_ _)); exact BK258.out) NB258_1.out (by simp)); have n3_ := Aside0.mk (Kd.R_mono (Kd.R_keep (IsS81.apart (show IsS81 w _ g t263 t264 from by repeat (first | (with_reducible first | exact HI1.out | apply IsS81.alloc | apply IsS81.drewN | apply IsS81.drew | apply IsS81.set_0 | apply IsS81.set_1 | refine IsS81.far ?_ NB1_252.out _ | refine IsS81.far ?_ NB1_258.out _) | exact HI1.out)) (by (with_reducible repeat (first | apply Kd.R_alloc | apply Kd.R_drewN | apply Kd.R_drew)); exact (Kd.R_mono (Kd.R_far (p := ⟨gb258, 1, none⟩) (Kd.R_types HO261.out BK258.out (by decide)) (fun _ hk => hk.2) (.slice Ao38 t259.length co38)) (fun _ h_ => h_.1))) (by decide)) hk (fun _ h => h.2)) (fun _ h => h.1)); have n4_ := Aside0.mk (KeepBut.trans (by repeat (first | (with_reducible first | exact HK.out | apply KeepBut.set_ | apply keep_drewN | apply keep_drew | apply keep_alloc | refine keep_far ?_ GW252.out _ | refine keep_far ?_ GW258.out _) | exact HK.out)) hk (.inl rfl)); have n5_ := Aside0.mk (hb); have n6_ := Aside0.mk (hi); clear HO_4; clear BK252; clear BK258; clear HO261; clear HK; clear HB; clear HI1; have HO_4 := n0_; have BK252 := n1_; have BK258 := n2_; have HO261 := n3_; have HK := n4_; have HB := n5_; have HI1 := n6_; clear n0_ n1_ n2_ n3_ n4_ n5_ n6_; (try clear hb); (try clear hb2); (try clear hk); (try clear hi)))
        (try simp only [Act.put, List.setIfInBounds_toArray, List.set_cons_zero, List.set_cons_succ])
        go_cut [87] (fun v87 wc => ∃ (kq : Nat) (x87_31 : Bool), v87 = .bool x87_31 ∧ Aside0 (umlautref5_Parse.j2 kq x4_1 x87_31 t265 t266 t255 t259 = some (r1, r2, r3, r4, r5)) ∧ Aside0 (kq ≤ kj17) ∧ Aside0 (Kd.S k57 57 wc w.heap.size (fun k_ => some k_ ≠ ((.slice Ao38 t259.length co38) : Value).ownBlock ∧ k_ ≠ gb258) u4 x4_1) ∧ Aside0 (Kd.R (Kd.int .i64) 3 wc w.heap.size (fun _ => True) (.slice Ao38 t259.length co38) t259) ∧ Aside0 (wc.heap[gb252]? = some (.cells #[(.slice none 0 0), .int .i64 x253001_1, .int .i64 x253002_1] 47 (0, 0))) ∧ Aside0 (wc.heap[gb258]? = some (.cells #[.int .i64 t255, (.slice Ao38 t259.length co38), (.slice none 0 0)] 57 (0, 0))) ∧ Aside0 (IsS81 w wc g t265 t266) ∧ Aside0 (KeepBut w wc g none) ∧ Aside0 (Below w.heap.size w wc))
        case first =>
         have H := HC32.out
         clear HC32
         by_cases c41 : t255 = 1
         ·rw [if_pos c41] at H
          have c41b0 : (t255 == 1) = true := beq_iff_eq.mpr c41
          have c41b1 : (t255 != 1) = false := bne_eq_false_iff_eq.mpr c41
          clear c41
          (first | rw [c41b0] | (simp only [i64_w, i32_w]; rw [c41b0]) | skip)
          have H' := Aside0.mk H
          clear H
          go_wp2
          repeat (go_quiet (fail); try go_wp2)
          go_meet
          case rel => exact ⟨_, (false), (by first | rfl | (simp; done) | (simp [*]; done)), H', ⟨by have := HK1.out; have := HJ17.out; first | omega | exact Nat.le_refl _⟩, ⟨by (with_reducible repeat (first | apply Kd.S_alloc | apply Kd.S_drewN | apply Kd.S_drew)); exact Kd.S_mono HO_4.out (fun _ hk => ⟨hk.2, hk.1.2⟩)⟩, ⟨by (with_reducible repeat (first | apply Kd.R_alloc | apply Kd.R_drewN | apply Kd.R_drew)); exact HO261.out⟩, ⟨by (with_reducible repeat (first | refine blk_drewN ?_ _ | refine blk_drew ?_ | refine blk_alloc ?_ _)); exact BK252.out⟩, ⟨by (with_reducible repeat (first | refine blk_drewN ?_ _ | refine blk_drew ?_ | refine blk_alloc ?_ _)); exact BK258.out⟩, ⟨by repeat (first | (with_reducible first | exact HI1.out | apply IsS81.alloc | apply IsS81.drewN | apply IsS81.drew | apply IsS81.set_0 | apply IsS81.set_1 | refine IsS81.far ?_ NB1_252.out _ | refine IsS81.far ?_ NB1_258.out _) | exact HI1.out)⟩, ⟨by repeat (first | (with_reducible first | exact HK.out | apply KeepBut.set_ | apply keep_drewN | apply keep_drew | apply keep_alloc | refine keep_far ?_ GW252.out _ | refine keep_far ?_ GW258.out _) | exact HK.out)⟩, ⟨by repeat (first | (with_reducible first | exact HB.out | apply below_alloc | apply pw_below_drewN | apply below_drew1 | refine below_set ?_ (IsS81.ge HI1.out) | refine below_set ?_ GE252.out | refine below_set ?_ GE258.out) | exact HB.out)⟩⟩
         ·rw [if_neg c41] at H
          have c41b0 : (t255 == 1) = false := beq_eq_false_iff_ne.mpr c41
          have c41b1 : (t255 != 1) = true := bne_iff_ne.mpr c41
          (first | rw [c41b0] | (simp only [i64_w, i32_w]; rw [c41b0]) | skip)
          by_cases c42 : t266 < (t265.size : Int)
          ·rw [if_pos c42] at H
           have c42b0 : decide (t266 < (t265.size : Int)) = true := decide_eq_true c42
           clear c42
           by_cases c43 : 0 ≤ t266
           ·rw [if_pos c43] at H
            have c43b0 : decide (0 ≤ t266) = true := decide_eq_true c43
            clear c43
            have H' := Aside0.mk H
            clear H
            obtain ⟨HGz45, hgz45⟩ := HI1.out
            have hcz45_0 := cellS81_0 HGz45
            have hcz45_1 := cellS81_1 HGz45
            have hfz45_0 := blk_frozen HGz45 0
            have hfz45_1 := blk_frozen HGz45 1
            clear HGz45 hgz45
            have p44 : 0 ≤ (t266 : Int) := of_decide_eq_true (by first | (with_reducible assumption) | assumption)
            have q44 : t266 < (t265.size : Int) := of_decide_eq_true (by first | (with_reducible assumption) | assumption)
            have hx44 := bt_at t265 t266
            replace p44 := eq_true p44
            replace q44 := eq_true q44
            go_wp2
            repeat (go_quiet (fail); try go_wp2)
            go_meet
            case rel => exact ⟨_, (((bt t265 t266) == 47)), (by first | rfl | (simp; done) | (simp [*]; done)), H', ⟨by have := HK1.out; have := HJ17.out; first | omega | exact Nat.le_refl _⟩, ⟨by (with_reducible repeat (first | apply Kd.S_alloc | apply Kd.S_drewN | apply Kd.S_drew)); exact Kd.S_mono HO_4.out (fun _ hk => ⟨hk.2, hk.1.2⟩)⟩, ⟨by (with_reducible repeat (first | apply Kd.R_alloc | apply Kd.R_drewN | apply Kd.R_drew)); exact HO261.out⟩, ⟨by (with_reducible repeat (first | refine blk_drewN ?_ _ | refine blk_drew ?_ | refine blk_alloc ?_ _)); exact BK252.out⟩, ⟨by (with_reducible repeat (first | refine blk_drewN ?_ _ | refine blk_drew ?_ | refine blk_alloc ?_ _)); exact BK258.out⟩, ⟨by repeat (first | (with_reducible first | exact HI1.out | apply IsS81.alloc | apply IsS81.drewN | apply IsS81.drew | apply IsS81.set_0 | apply IsS81.set_1 | refine IsS81.far ?_ NB1_252.out _ | refine IsS81.far ?_ NB1_258.out _) | exact HI1.out)⟩, ⟨by repeat (first | (with_reducible first | exact HK.out | apply KeepBut.set_ | apply keep_drewN | apply keep_drew | apply keep_alloc | refine keep_far ?_ GW252.out _ | refine keep_far ?_ GW258.out _) | exact HK.out)⟩, ⟨by repeat (first | (with_reducible first | exact HB.out | apply below_alloc | apply pw_below_drewN | apply below_drew1 | refine below_set ?_ (IsS81.ge HI1.out) | refine below_set ?_ GE252.out | refine below_set ?_ GE258.out) | exact HB.out)⟩⟩
           ·rw [if_neg c43] at H
            exact absurd H (by simp)
          ·rw [if_neg c42] at H
           have c42b0 : decide (t266 < (t265.size : Int)) = false := decide_eq_false c42
           clear c42
           have H' := Aside0.mk H
           clear H
           obtain ⟨HGz46, hgz46⟩ := HI1.out
           have hcz46_0 := cellS81_0 HGz46
           have hcz46_1 := cellS81_1 HGz46
           have hfz46_0 := blk_frozen HGz46 0
           have hfz46_1 := blk_frozen HGz46 1
           clear HGz46 hgz46
           go_wp2
           repeat (go_quiet (fail); try go_wp2)
           go_meet
           case rel => exact ⟨_, (false), (by first | rfl | (simp; done) | (simp [*]; done)), H', ⟨by have := HK1.out; have := HJ17.out; first | omega | exact Nat.le_refl _⟩, ⟨by (with_reducible repeat (first | apply Kd.S_alloc | apply Kd.S_drewN | apply Kd.S_drew)); exact Kd.S_mono HO_4.out (fun _ hk => ⟨hk.2, hk.1.2⟩)⟩, ⟨by (with_reducible repeat (first | apply Kd.R_alloc | apply Kd.R_drewN | apply Kd.R_drew)); exact HO261.out⟩, ⟨by (with_reducible repeat (first | refine blk_drewN ?_ _ | refine blk_drew ?_ | refine blk_alloc ?_ _)); exact BK252.out⟩, ⟨by (with_reducible repeat (first | refine blk_drewN ?_ _ | refine blk_drew ?_ | refine blk_alloc ?_ _)); exact BK258.out⟩, ⟨by repeat (first | (with_reducible first | exact HI1.out | apply IsS81.alloc | apply IsS81.drewN | apply IsS81.drew | apply IsS81.set_0 | apply IsS81.set_1 | refine IsS81.far ?_ NB1_252.out _ | refine IsS81.far ?_ NB1_258.out _) | exact HI1.out)⟩, ⟨by repeat (first | (with_reducible first | exact HK.out | apply KeepBut.set_ | apply keep_drewN | apply keep_drew | apply keep_alloc | refine keep_far ?_ GW252.out _ | refine keep_far ?_ GW258.out _) | exact HK.out)⟩, ⟨by repeat (first | (with_reducible first | exact HB.out | apply below_alloc | apply pw_below_drewN | apply below_drew1 | refine below_set ?_ (IsS81.ge HI1.out) | refine below_set ?_ GE252.out | refine below_set ?_ GE258.out) | exact HB.out)⟩⟩
        case rest =>
         clear HC32
         try clear c1
         try clear c2
         try clear p2
         try clear c3
         try clear c4
         try clear p4
         try clear q4
         try clear hx4
         try clear c5
         try clear c5b0
         try clear c5b1
         try clear c6
         try clear c6b0
         try clear c6b1
         try clear c10
         try clear c15
         try clear c22
         try clear c22b0
         try clear c22b1
         try clear c23
         try clear c23b0
         try clear c23b1
         try clear c23b2
         try clear c26
         try clear c27
         try clear c29
         try clear c30
         try clear c34
         try clear c35
         try clear c41
         try clear c41b0
         try clear c41b1
         try clear c42
         try clear c42b0
         try clear c43
         try clear c43b0
         try clear p44
         try clear q44
         try clear hx44
         try clear hcz11_0
         try clear hcz11_1
         try clear hcz11_2
         try clear hcz13_0
         try clear hcz13_1
         try clear hcz16_0
         try clear hcz16_1
         try clear hcz16_2
         try clear hcz20_0
         try clear hcz20_1
         try clear hcz28_0
         try clear hcz28_1
         try clear hcz28_2
         try clear hcz36_0
         try clear hcz36_1
         try clear hcz36_2
         try clear hcz39_0
         try clear hcz39_1
         try clear hcz39_2
         try clear hcz45_0
         try clear hcz45_1
         try clear hcz46_0
         try clear hcz46_1
         try clear hcz8_0
         try clear hcz8_1
         try clear hfz11_0
         try clear hfz11_1
         try clear hfz11_2
         try clear hfz13_0
         try clear hfz13_1
         try clear hfz16_0
         try clear hfz16_1
         try clear hfz16_2
         try clear hfz20_0
         try clear hfz20_1
         try clear hfz28_0
         try clear hfz28_1
         try clear hfz28_2
         try clear hfz36_0
         try clear hfz36_1
         try clear hfz36_2
         try clear hfz39_0
         try clear hfz39_1
         try clear hfz39_2
         try clear hfz45_0
         try clear hfz45_1
         try clear hfz46_0
         try clear hfz46_1
         try clear hfz8_0
         try clear hfz8_1
         try clear p2
         try clear p44
         try clear q44
         obtain ⟨kq, x87_31, rfl, HA, HJ31, HO_4, HO_259001, BK252, BK258, HI1, HK, HB⟩ := hcut
         cases kq with
         | zero => exact absurd HA.out (by simp [umlautref5_Parse.j2])
         | succ kj31 =>
          have H := HA.out
          clear HA
          simp only [umlautref5_Parse.j2] at H
          by_cases c47 : x87_31 = true
          ·subst c47
           have H1 : ((umlautref5_reader_seq.f kj31 t265 (wrap64 (t266 + 1))).bind fun bt267 => (if bt267.2.1 = true then (if x4_1.length < 2513169434916 then (umlautref5_Parse.l0 kj31 (x4_1 ++ [(⟨t255, t259, bt267.1⟩ : S57)]) bt267.2.2.1 bt267.2.2.2) else (none)) else (some (([] : List (S57)), bt267.2.2.2, 10, bt267.2.2.1, bt267.2.2.2)))) = some (r1, r2, r3, r4, r5) := by rw [if_pos rfl] at H; exact H
           clear H
           have H := H1
           clear H1
           replace H := Option.bind_eq_some_iff.mp H
           obtain ⟨⟨t267, t270, t271, t272⟩, A480, H⟩ := H
           replace H : (if t270 = true then (if x4_1.length < 2513169434916 then (umlautref5_Parse.l0 kj31 (x4_1 ++ [(⟨t255, t259, t267⟩ : S57)]) t271 t272) else (none)) else (some (([] : List (S57)), t272, 10, t271, t272))) = some (r1, r2, r3, r4, r5) := H
           have A48 := Aside0.mk A480
           clear A480
           by_cases c49 : t270 = true
           ·subst c49
            have H1 : (if x4_1.length < 2513169434916 then (umlautref5_Parse.l0 kj31 (x4_1 ++ [(⟨t255, t259, t267⟩ : S57)]) t271 t272) else (none)) = some (r1, r2, r3, r4, r5) := by rw [if_pos rfl] at H; exact H
            clear H
            have H := H1
            clear H1
            by_cases c50 : x4_1.length < 2513169434916
            ·rw [if_pos c50] at H
             have LMc50 := Aside0.mk c50
             clear c50
             obtain ⟨y273, hy273⟩ : ∃ y_ : List (S57), y_ = (x4_1 ++ [(⟨t255, t259, t267⟩ : S57)]) := ⟨_, rfl⟩
             replace H : (umlautref5_Parse.l0 kj31 y273 t271 t272) = some (r1, r2, r3, r4, r5) := by first | (rw [hy273]; with_reducible exact H) | (have H2_ := (Option.bind_some _ _).symm.trans H; rw [hy273]; with_reducible exact H2_) | (have H2_ := (Option.bind_some _ _).symm.trans H; with_reducible exact H2_) | with_reducible exact H | (rw [hy273]; exact H) | exact H
             have Ny273 := Aside0.mk hy273
             clear hy273
             have H' := Aside0.mk H
             clear H
             obtain ⟨HGz51, hgz51⟩ := HI1.out
             have hcz51_0 := cellS81_0 HGz51
             have hcz51_1 := cellS81_1 HGz51
             have hfz51_0 := blk_frozen HGz51 0
             have hfz51_1 := blk_frozen HGz51 1
             clear HGz51 hgz51
             go_wp2_with (first | (go_at_call 55; (with_reducible refine (umlautref5_reader_seq.calls kj31 g t265 (wrap64 (t266 + 1)) t267 true t271 t272 w _ ?side1 ?side2 A48.out).mono ?_); (case side1 => repeat (first | (with_reducible first | exact HI1.out | apply IsS81.alloc | apply IsS81.drewN | apply IsS81.drew | apply IsS81.set_0 | apply IsS81.set_1 | refine IsS81.far ?_ NB1_252.out _ | refine IsS81.far ?_ NB1_258.out _) | exact HI1.out)); (case side2 => repeat (first | (with_reducible first | exact HB.out | apply below_alloc | apply pw_below_drewN | apply below_drew1 | refine below_set ?_ (IsS81.ge HI1.out) | refine below_set ?_ GE252.out | refine below_set ?_ GE258.out) | exact HB.out)); rintro e w52 ⟨v268, rfl, ho0, hi, hb, hk⟩; have n0_ := Aside0.mk (Kd.S_mono (Kd.S_told (Kd.S_oldK (IsS81.apartS (show IsS81 w _ g t265 (wrap64 (t266 + 1)) from by repeat (first | (with_reducible first | exact HI1.out | apply IsS81.alloc | apply IsS81.drewN | apply IsS81.drew | apply IsS81.set_0 | apply IsS81.set_1 | refine IsS81.far ?_ NB1_252.out _ | refine IsS81.far ?_ NB1_258.out _) | exact HI1.out)) (by (with_reducible repeat (first | apply Kd.S_alloc | apply Kd.S_drewN | apply Kd.S_drew)); exact (Kd.S_mono (Kd.S_far (p := ⟨g, 1, none⟩) (IsS81.apartS HI1.out HO_4.out (by decide)) (fun _ hk => hk.2) (.int .i64 (wrap64 (t266 + 1)))) (fun _ h_ => h_.1))) (by decide)) hk) (Kd.R_base ho0)) (fun _ h_ => h_.1)); have n1_ := Aside0.mk (Kd.R_mono (Kd.R_told (Kd.R_oldK (IsS81.apart (show IsS81 w _ g t265 (wrap64 (t266 + 1)) from by repeat (first | (with_reducible first | exact HI1.out | apply IsS81.alloc | apply IsS81.drewN | apply IsS81.drew | apply IsS81.set_0 | apply IsS81.set_1 | refine IsS81.far ?_ NB1_252.out _ | refine IsS81.far ?_ NB1_258.out _) | exact HI1.out)) (by (with_reducible repeat (first | apply Kd.R_alloc | apply Kd.R_drewN | apply Kd.R_drew)); exact (Kd.R_mono (Kd.R_far (p := ⟨g, 1, none⟩) (IsS81.apart HI1.out HO_259001.out (by decide)) (fun _ hk => hk.2) (.int .i64 (wrap64 (t266 + 1)))) (fun _ h_ => h_.1))) (by decide)) hk) (Kd.R_base ho0)) (fun _ h_ => h_.1)); have n2_ := Aside0.mk (KeepBut.blk hk (g' := gb252) (o := .cells #[.slice none 0 0, .int .i64 x253001_1, .int .i64 x253002_1] 47 (0, 0)) (by (with_reducible repeat (first | refine blk_drewN ?_ _ | refine blk_drew ?_ | refine blk_alloc ?_ _)); refine blk_far ?_ NB252_1.out _; (with_reducible repeat (first | refine blk_drewN ?_ _ | refine blk_drew ?_ | refine blk_alloc ?_ _)); exact BK252.out) NB252_1.out (by simp)); have n3_ := Aside0.mk (KeepBut.blk hk (g' := gb258) (o := .cells #[.int .i64 t255, .slice Ao38 t259.length co38, .slice none 0 0] 57 (0, 0)) (by (with_reducible repeat (first | refine blk_drewN ?_ _ | refine blk_drew ?_ | refine blk_alloc ?_ _)); refine blk_far ?_ NB258_1.out _; (with_reducible repeat (first | refine blk_drewN ?_ _ | refine blk_drew ?_ | refine blk_alloc ?_ _)); exact BK258.out) NB258_1.out (by simp)); have n4_ := Aside0.mk (Kd.R_lower (Kd.R_new' ho0 (Kd.R_lt (by (with_reducible repeat (first | apply Kd.R_alloc | apply Kd.R_drewN | apply Kd.R_drew)); exact (Kd.R_mono (Kd.R_far (p := ⟨g, 1, none⟩) (IsS81.apart HI1.out HO_259001.out (by decide)) (fun _ hk => hk.2) (.int .i64 (wrap64 (t266 + 1)))) (fun _ h_ => h_.1))))) (keep_size (w := w) (g := g) (row := none) (by repeat (first | (with_reducible first | exact HK.out | apply KeepBut.set_ | apply keep_drewN | apply keep_drew | apply keep_alloc | refine keep_far ?_ GW252.out _ | refine keep_far ?_ GW258.out _) | exact HK.out)))); have n5_ := Aside0.mk (KeepBut.trans (by repeat (first | (with_reducible first | exact HK.out | apply KeepBut.set_ | apply keep_drewN | apply keep_drew | apply keep_alloc | refine keep_far ?_ GW252.out _ | refine keep_far ?_ GW258.out _) | exact HK.out)) hk (.inl rfl)); have n6_ := Aside0.mk (hb); have n7_ := Aside0.mk (hi); clear HO_4; clear HO_259001; clear BK252; clear BK258; clear HK; clear HB; clear HI1; have HO_4 := n0_; have HO_259001 := n1_; have BK252 := n2_; have BK258 := n3_; have HO269 := n4_; have HK := n5_; have HB := n6_; have HI1 := n7_; clear n0_ n1_ n2_ n3_ n4_ n5_ n6_ n7_; (try clear hb); (try clear hb2); (try clear hk); (try clear hi); (try clear ho0); obtain ⟨Ao53, co53, eo53⟩ := Kd.R_slice HO269.out; subst eo53; have hnb54 := NB258_252.out; have hnc54 := NB252_258.out; have hnb55 := NB258_1.out; have hnc55 := NB1_258.out; have hcz56_0 : w52.cell? ⟨gb258, 0, none⟩ = some (.int .i64 t255) := (blk_cell BK258.out 0).trans rfl; have hcz56_1 : w52.cell? ⟨gb258, 1, none⟩ = some (.slice Ao38 t259.length co38) := (blk_cell BK258.out 1).trans rfl; have hcz56_2 : w52.cell? ⟨gb258, 2, none⟩ = some (.slice none 0 0) := (blk_cell BK258.out 2).trans rfl; have hfz56_0 := blk_frozen BK258.out 0; have hfz56_1 := blk_frozen BK258.out 1; have hfz56_2 := blk_frozen BK258.out 2) | ((with_reducible refine gate_store (t := 22) (p := 108) rfl ?_); (try (rw [drewN_self w52]; generalize hq_ : World.drewN w52 _ = w52; have n0_ := Aside0.mk (Kd.S_at hq_ HO_4.out); have n1_ := Aside0.mk (Kd.R_at hq_ HO_259001.out); have n2_ := Aside0.mk (Kd.R_at hq_ HO269.out); have n3_ := Aside0.mk (blk_at hq_ BK252.out); have n4_ := Aside0.mk (blk_at hq_ BK258.out); have n5_ := Aside0.mk (IsS81.at_ hq_ HI1.out); have n6_ := Aside0.mk (keep_at hq_ HK.out); have n7_ := Aside0.mk (below_at hq_ HB.out); clear hq_ HO_4 HO_259001 HO269 BK252 BK258 HI1 HK HB; have HO_4 := n0_; have HO_259001 := n1_; have HO269 := n2_; have BK252 := n3_; have BK258 := n4_; have HI1 := n5_; have HK := n6_; have HB := n7_; clear n0_ n1_ n2_ n3_ n4_ n5_ n6_ n7_)); refine store_event (t := 22) (p := 108) (v := ?vo_w57) (w1 := (w52.setCell ⟨gb258, 2, none⟩ (.slice Ao53 t267.length co53))) ?hg ?ho ?hn ?hr ?_; (case ho => rfl); (case hg => rfl); (case hn => rfl); (case hr => first | (go_simp; done) | (go_simp; rfl)); intro w57 hw; have n0_ : Aside0 (Kd.S k57 57 w57 w.heap.size (fun k_ => some k_ ≠ (.slice Ao38 t259.length co38 : Value).ownBlock ∧ some k_ ≠ (.slice Ao53 t267.length co53 : Value).ownBlock ∧ k_ ≠ gb258) u4 x4_1) := ⟨(by rw [hw]; exact (by (with_reducible repeat (first | apply Kd.S_alloc | apply Kd.S_drewN | apply Kd.S_drew)); exact Kd.S_mono (Kd.S_far (p := ⟨gb258, 2, none⟩) (Kd.S_mono HO_4.out (fun k_ hk => (⟨hk, hk.1.2⟩ : _ ∧ k_ ≠ gb258))) (fun _ hk => hk.2) (.slice Ao53 t267.length co53)) (fun _ hk => ⟨hk.1.1.1, ⟨hk.1.2, hk.1.1.2⟩⟩)))⟩; have n1_ : Aside0 (Kd.R (Kd.int .i64) 3 w57 w.heap.size (fun k_ => some k_ ≠ (.slice Ao53 t267.length co53 : Value).ownBlock) (.slice Ao38 t259.length co38) t259) := ⟨(by rw [hw]; exact (by (with_reducible repeat (first | apply Kd.R_alloc | apply Kd.R_drewN | apply Kd.R_drew)); exact Kd.R_mono (Kd.R_far (p := ⟨gb258, 2, none⟩) (Kd.R_types HO_259001.out BK258.out (by decide)) (fun _ hk => hk.2) (.slice Ao53 t267.length co53)) (fun _ hk => hk.1.2)))⟩; have n2_ : Aside0 (Kd.R (Kd.int .i64) 3 w57 w.heap.size (fun k_ => some k_ ≠ (.slice Ao38 t259.length co38 : Value).ownBlock) (.slice Ao53 t267.length co53) t267) := ⟨(by rw [hw]; exact (by (with_reducible repeat (first | apply Kd.R_alloc | apply Kd.R_drewN | apply Kd.R_drew)); exact Kd.R_mono (Kd.R_far (p := ⟨gb258, 2, none⟩) (Kd.R_types HO269.out BK258.out (by decide)) (fun _ hk => hk.2) (.slice Ao53 t267.length co53)) (fun _ hk => hk.1.2)))⟩; have n3_ : Aside0 (w57.heap[gb252]? = some (.cells #[.slice none 0 0, .int .i64 x253001_1, .int .i64 x253002_1] 47 (0, 0))) := ⟨(by rw [hw]; exact (by (with_reducible repeat (first | refine blk_drewN ?_ _ | refine blk_drew ?_ | refine blk_alloc ?_ _)); refine blk_far ?_ NB252_258.out _; (with_reducible repeat (first | refine blk_drewN ?_ _ | refine blk_drew ?_ | refine blk_alloc ?_ _)); exact BK252.out))⟩; have n4_ : Aside0 (w57.heap[gb258]? = some (.cells #[.int .i64 t255, .slice Ao38 t259.length co38, .slice Ao53 t267.length co53] 57 (0, 0))) := ⟨(by rw [hw]; exact (by (with_reducible repeat (first | refine blk_drewN ?_ _ | refine blk_drew ?_ | refine blk_alloc ?_ _)); refine blk_put (cs := #[.int .i64 t255, .slice Ao38 t259.length co38, .slice none 0 0]) ?_ 2 _ rfl; (with_reducible repeat (first | refine blk_drewN ?_ _ | refine blk_drew ?_ | refine blk_alloc ?_ _)); exact BK258.out))⟩; have n5_ : Aside0 (IsS81 w w57 g t271 t272) := ⟨(by rw [hw]; exact (by repeat (first | (with_reducible first | exact HI1.out | apply IsS81.alloc | apply IsS81.drewN | apply IsS81.drew | apply IsS81.set_0 | apply IsS81.set_1 | refine IsS81.far ?_ NB1_252.out _ | refine IsS81.far ?_ NB1_258.out _) | exact HI1.out)))⟩; have n6_ : Aside0 (KeepBut w w57 g none) := ⟨(by rw [hw]; exact (by repeat (first | (with_reducible first | exact HK.out | apply KeepBut.set_ | apply keep_drewN | apply keep_drew | apply keep_alloc | refine keep_far ?_ GW252.out _ | refine keep_far ?_ GW258.out _) | exact HK.out)))⟩; have n7_ : Aside0 (Below w.heap.size w w57) := ⟨(by rw [hw]; exact (by repeat (first | (with_reducible first | exact HB.out | apply below_alloc | apply pw_below_drewN | apply below_drew1 | refine below_set ?_ (IsS81.ge HI1.out) | refine below_set ?_ GE252.out | refine below_set ?_ GE258.out) | exact HB.out)))⟩; clear hw; clear HO_4; clear HO_259001; clear HO269; clear BK252; clear BK258; clear HI1; clear HK; clear HB; have HO_4 := n0_; have HO_259001 := n1_; have HO269 := n2_; have BK252 := n3_; have BK258 := n4_; have HI1 := n5_; have HK := n6_; have HB := n7_; clear n0_ n1_ n2_ n3_ n4_ n5_ n6_ n7_; have hcz58_0 : w57.cell? ⟨gb258, 0, none⟩ = some (.int .i64 t255) := (blk_cell BK258.out 0).trans rfl; have hcz58_1 : w57.cell? ⟨gb258, 1, none⟩ = some (.slice Ao38 t259.length co38) := (blk_cell BK258.out 1).trans rfl; have hcz58_2 : w57.cell? ⟨gb258, 2, none⟩ = some (.slice Ao53 t267.length co53) := (blk_cell BK258.out 2).trans rfl; have hfz58_0 := blk_frozen BK258.out 0; have hfz58_1 := blk_frozen BK258.out 1; have hfz58_2 := blk_frozen BK258.out 2) | ((with_reducible refine gate_builtin (b := .append) (xs := #[.tmp 109, .tmp 111]) rfl ?_); (try (refine gate_guard (by rfl) ?_; dsimp only)); at_builtin; refine Kd.S_append k57 w.heap.size rfl (.tmp 109) (.tmp 111) 45 57 (.agg #[(.int .i64 0), (.slice none 0 0), (.slice none 0 0)]) 56 rfl Tryd.underlying45 info57 rfl (by decide) (by omega) u4 x4_1 (⟨t255, t259, t267⟩ : S57) [.int .i64 t255, .slice Ao38 t259.length co38, .slice Ao53 t267.length co53] (fun k_ => k_ ≠ gb258) (fun k_ => some k_ = (.slice Ao38 t259.length co38 : Value).ownBlock ∨ some k_ = (.slice Ao53 t267.length co53 : Value).ownBlock) rfl rfl ?aP (fun k_ hk_ => hk_.elim (fun h_ => ((Kd.R_mono (ok' := fun k_ => ((fun k_ => k_ ≠ gb258)) k_ ∧ some k_ ≠ (u4 : Value).ownBlock) (Kd.R_types (Kd.R_apart' (HO_259001.out) (Kd.S_typed HO_4.out) (by decide)) BK258.out (by decide)) (fun k_ hk => ⟨hk.2, hk.1.2⟩))).1 k_ h_.symm) (fun h_ => ((Kd.R_mono (ok' := fun k_ => ((fun k_ => k_ ≠ gb258)) k_ ∧ some k_ ≠ (u4 : Value).ownBlock) (Kd.R_types (Kd.R_apart' (HO269.out) (Kd.S_typed HO_4.out) (by decide)) BK258.out (by decide)) (fun k_ hk => ⟨hk.2, hk.1.2⟩))).1 k_ h_.symm)) ?aF ?aO (Below.refl _ _) ?aS ?aL ?_; (case aP => exact k57_mkM _ _ _ (⟨t255, t259, t267⟩ : S57) (Kd.R_mono (Kd.R_tight rfl (Kd.R_mono (ok' := fun k_ => ((fun k_ => k_ ≠ gb258)) k_ ∧ some k_ ≠ (u4 : Value).ownBlock) (Kd.R_types (Kd.R_apart' (HO_259001.out) (Kd.S_typed HO_4.out) (by decide)) BK258.out (by decide)) (fun k_ hk => ⟨hk.2, hk.1.2⟩))) (fun _ h_ => Or.inl h_)) (Kd.R_mono (Kd.R_tight rfl (Kd.R_mono (ok' := fun k_ => ((fun k_ => k_ ≠ gb258)) k_ ∧ some k_ ≠ (u4 : Value).ownBlock) (Kd.R_types (Kd.R_apart' (HO269.out) (Kd.S_typed HO_4.out) (by decide)) BK258.out (by decide)) (fun k_ hk => ⟨hk.2, hk.1.2⟩))) (fun _ h_ => Or.inr (h_)))); (case aF => exact (fun k_ hk => Kd.freshB (g := gb258) (o := .cells #[.int .i64 t255, .slice Ao38 t259.length co38, .slice Ao53 t267.length co53] 57 (0, 0)) (by (with_reducible repeat (first | refine blk_drewN ?_ _ | refine blk_drew ?_ | refine blk_alloc ?_ _)); exact BK258.out) k_ hk)); (case aO => exact (by (with_reducible repeat (first | apply Kd.S_alloc | apply Kd.S_drewN | apply Kd.S_drew)); exact Kd.S_mono HO_4.out (fun k_ hk => ⟨hk.2.2, fun e_ => e_.elim (fun h_ => hk.1 h_) (fun h_ => hk.2.1 h_)⟩))); (case aS => exact (keep_size (w := w) (g := g) (row := none) (by repeat (first | (with_reducible first | exact HK.out | apply KeepBut.set_ | apply keep_drewN | apply keep_drew | apply keep_alloc | refine keep_far ?_ GW252.out _ | refine keep_far ?_ GW258.out _) | exact HK.out)))); (case aL => have := LMc50.out; omega); intro v274 w59 ho hb hg hat; rw [← Ny273.out] at ho; have n0_ := Aside0.mk (blk_grown (g := gb252) (o := .cells #[.slice none 0 0, .int .i64 x253001_1, .int .i64 x253002_1] 47 (0, 0)) (by (with_reducible repeat (first | refine blk_drewN ?_ _ | refine blk_drew ?_ | refine blk_alloc ?_ _)); exact BK252.out) hg (Kd.S_ne HO_4.out BK252.out (by decide))); have n1_ := Aside0.mk (blk_grown (g := gb258) (o := .cells #[.int .i64 t255, .slice Ao38 t259.length co38, .slice Ao53 t267.length co53] 57 (0, 0)) (by (with_reducible repeat (first | refine blk_drewN ?_ _ | refine blk_drew ?_ | refine blk_alloc ?_ _)); exact BK258.out) hg (Kd.S_away HO_4.out (fun _ hk => hk.2.2))); have n2_ := Aside0.mk (IsS81.grown (by repeat (first | (with_reducible first | exact HI1.out | apply IsS81.alloc | apply IsS81.drewN | apply IsS81.drew | apply IsS81.set_0 | apply IsS81.set_1 | refine IsS81.far ?_ NB1_252.out _ | refine IsS81.far ?_ NB1_258.out _) | exact HI1.out)) hg (IsS81.own_neS HI1.out HO_4.out (by decide))); have n3_ := Aside0.mk (below_weaken (by repeat (first | (with_reducible first | exact HB.out | apply below_alloc | apply pw_below_drewN | apply below_drew1 | refine below_set ?_ (IsS81.ge HI1.out) | refine below_set ?_ GE252.out | refine below_set ?_ GE258.out) | exact HB.out)) HL.out hb); have n4_ := Aside0.mk (KeepBut.trans (by repeat (first | (with_reducible first | exact HK.out | apply KeepBut.set_ | apply keep_drewN | apply keep_drew | apply keep_alloc | refine keep_far ?_ GW252.out _ | refine keep_far ?_ GW258.out _) | exact HK.out)) (KeepBut.of_grown hg g) (Kd.S_base2 HO_4.out)); have n5_ := Aside0.mk (ho); clear BK252; clear BK258; clear HI1; clear HB; clear HK; clear HO_4; clear HO269; clear HO_259001; have BK252 := n0_; have BK258 := n1_; have HI1 := n2_; have HB := n3_; have HK := n4_; have HO275 := n5_; clear n0_ n1_ n2_ n3_ n4_ n5_; clear ho hb hg hat))
             go_roundg kj31
             case measure => have := HK1.out; have := HJ17.out; have := HJ31.out; omega
             case rel => exact ⟨(y273), (t271), (t272), (x253001_1), (x253002_1), H', ⟨by have := HK1.out; have := HJ17.out; have := HJ31.out; omega⟩, ⟨by (with_reducible repeat (first | apply Kd.S_alloc | apply Kd.S_drewN | apply Kd.S_drew)); exact Kd.S_mono HO275.out (fun _ hk => trivial)⟩, ⟨by (with_reducible repeat (first | refine blk_drewN ?_ _ | refine blk_drew ?_ | refine blk_alloc ?_ _)); exact BK252.out⟩, ⟨by repeat (first | (with_reducible first | exact HI1.out | apply IsS81.alloc | apply IsS81.drewN | apply IsS81.drew | apply IsS81.set_0 | apply IsS81.set_1 | refine IsS81.far ?_ NB1_252.out _ | refine IsS81.far ?_ NB1_258.out _) | exact HI1.out)⟩, ⟨by repeat (first | (with_reducible first | exact HK.out | apply KeepBut.set_ | apply keep_drewN | apply keep_drew | apply keep_alloc | refine keep_far ?_ GW252.out _ | refine keep_far ?_ GW258.out _) | exact HK.out)⟩, ⟨by repeat (first | (with_reducible first | exact HB.out | apply below_alloc | apply pw_below_drewN | apply below_drew1 | refine below_set ?_ (IsS81.ge HI1.out) | refine below_set ?_ GE252.out | refine below_set ?_ GE258.out) | exact HB.out)⟩⟩
            ·rw [if_neg c50] at H
             exact absurd H (by simp)
           ·replace c49 := Bool.eq_false_iff.mpr c49
            subst c49
            have H1 : (some (([] : List (S57)), t272, 10, t271, t272)) = some (r1, r2, r3, r4, r5) := by rw [if_neg (show ¬ (false = true) by decide)] at H; exact H
            clear H
            have H := H1
            clear H1
            simp only [Option.some.injEq, Prod.mk.injEq] at H
            obtain ⟨rfl, rfl, rfl, rfl, rfl⟩ := H
            obtain ⟨HGz60, hgz60⟩ := HI1.out
            have hcz60_0 := cellS81_0 HGz60
            have hcz60_1 := cellS81_1 HGz60
            have hfz60_0 := blk_frozen HGz60 0
            have hfz60_1 := blk_frozen HGz60 1
            clear HGz60 hgz60
            go_wp2_with (first | (go_at_call 55; (with_reducible refine (umlautref5_reader_seq.calls kj31 g t265 (wrap64 (t266 + 1)) t267 false t271 t272 w _ ?side1 ?side2 A48.out).mono ?_); (case side1 => repeat (first | (with_reducible first | exact HI1.out | apply IsS81.alloc | apply IsS81.drewN | apply IsS81.drew | apply IsS81.set_0 | apply IsS81.set_1 | refine IsS81.far ?_ NB1_252.out _ | refine IsS81.far ?_ NB1_258.out _) | exact HI1.out)); (case side2 => repeat (first | (with_reducible first | exact HB.out | apply below_alloc | apply pw_below_drewN | apply below_drew1 | refine below_set ?_ (IsS81.ge HI1.out) | refine below_set ?_ GE252.out | refine below_set ?_ GE258.out) | exact HB.out)); rintro e w61 ⟨v268, rfl, ho0, hi, hb, hk⟩; have n0_ := Aside0.mk (Kd.S_mono (Kd.S_told (Kd.S_oldK (IsS81.apartS (show IsS81 w _ g t265 (wrap64 (t266 + 1)) from by repeat (first | (with_reducible first | exact HI1.out | apply IsS81.alloc | apply IsS81.drewN | apply IsS81.drew | apply IsS81.set_0 | apply IsS81.set_1 | refine IsS81.far ?_ NB1_252.out _ | refine IsS81.far ?_ NB1_258.out _) | exact HI1.out)) (by (with_reducible repeat (first | apply Kd.S_alloc | apply Kd.S_drewN | apply Kd.S_drew)); exact (Kd.S_mono (Kd.S_far (p := ⟨g, 1, none⟩) (IsS81.apartS HI1.out HO_4.out (by decide)) (fun _ hk => hk.2) (.int .i64 (wrap64 (t266 + 1)))) (fun _ h_ => h_.1))) (by decide)) hk) (Kd.R_base ho0)) (fun _ h_ => h_.1)); have n1_ := Aside0.mk (Kd.R_mono (Kd.R_told (Kd.R_oldK (IsS81.apart (show IsS81 w _ g t265 (wrap64 (t266 + 1)) from by repeat (first | (with_reducible first | exact HI1.out | apply IsS81.alloc | apply IsS81.drewN | apply IsS81.drew | apply IsS81.set_0 | apply IsS81.set_1 | refine IsS81.far ?_ NB1_252.out _ | refine IsS81.far ?_ NB1_258.out _) | exact HI1.out)) (by (with_reducible repeat (first | apply Kd.R_alloc | apply Kd.R_drewN | apply Kd.R_drew)); exact (Kd.R_mono (Kd.R_far (p := ⟨g, 1, none⟩) (IsS81.apart HI1.out HO_259001.out (by decide)) (fun _ hk => hk.2) (.int .i64 (wrap64 (t266 + 1)))) (fun _ h_ => h_.1))) (by decide)) hk) (Kd.R_base ho0)) (fun _ h_ => h_.1)); have n2_ := Aside0.mk (KeepBut.blk hk (g' := gb252) (o := .cells #[.slice none 0 0, .int .i64 x253001_1, .int .i64 x253002_1] 47 (0, 0)) (by (with_reducible repeat (first | refine blk_drewN ?_ _ | refine blk_drew ?_ | refine blk_alloc ?_ _)); refine blk_far ?_ NB252_1.out _; (with_reducible repeat (first | refine blk_drewN ?_ _ | refine blk_drew ?_ | refine blk_alloc ?_ _)); exact BK252.out) NB252_1.out (by simp)); have n3_ := Aside0.mk (KeepBut.blk hk (g' := gb258) (o := .cells #[.int .i64 t255, .slice Ao38 t259.length co38, .slice none 0 0] 57 (0, 0)) (by (with_reducible repeat (first | refine blk_drewN ?_ _ | refine blk_drew ?_ | refine blk_alloc ?_ _)); refine blk_far ?_ NB258_1.out _; (with_reducible repeat (first | refine blk_drewN ?_ _ | refine blk_drew ?_ | refine blk_alloc ?_ _)); exact BK258.out) NB258_1.out (by simp)); have n4_ := Aside0.mk (Kd.R_lower (Kd.R_new' ho0 (Kd.R_lt (by (with_reducible repeat (first | apply Kd.R_alloc | apply Kd.R_drewN | apply Kd.R_drew)); exact (Kd.R_mono (Kd.R_far (p := ⟨g, 1, none⟩) (IsS81.apart HI1.out HO_259001.out (by decide)) (fun _ hk => hk.2) (.int .i64 (wrap64 (t266 + 1)))) (fun _ h_ => h_.1))))) (keep_size (w := w) (g := g) (row := none) (by repeat (first | (with_reducible first | exact HK.out | apply KeepBut.set_ | apply keep_drewN | apply keep_drew | apply keep_alloc | refine keep_far ?_ GW252.out _ | refine keep_far ?_ GW258.out _) | exact HK.out)))); have n5_ := Aside0.mk (KeepBut.trans (by repeat (first | (with_reducible first | exact HK.out | apply KeepBut.set_ | apply keep_drewN | apply keep_drew | apply keep_alloc | refine keep_far ?_ GW252.out _ | refine keep_far ?_ GW258.out _) | exact HK.out)) hk (.inl rfl)); have n6_ := Aside0.mk (hb); have n7_ := Aside0.mk (hi); clear HO_4; clear HO_259001; clear BK252; clear BK258; clear HK; clear HB; clear HI1; have HO_4 := n0_; have HO_259001 := n1_; have BK252 := n2_; have BK258 := n3_; have HO269 := n4_; have HK := n5_; have HB := n6_; have HI1 := n7_; clear n0_ n1_ n2_ n3_ n4_ n5_ n6_ n7_; (try clear hb); (try clear hb2); (try clear hk); (try clear hi); (try clear ho0); obtain ⟨HGz62, hgz62⟩ := HI1.out; have hcz62_0 := cellS81_0 HGz62; have hcz62_1 := cellS81_1 HGz62; have hfz62_0 := blk_frozen HGz62 0; have hfz62_1 := blk_frozen HGz62 1; clear HGz62 hgz62; have hnb63 := NB252_258.out; have hnc63 := NB258_252.out; have hnb64 := NB252_1.out; have hnc64 := NB1_252.out; have hcz65_0 : w61.cell? ⟨gb252, 0, none⟩ = some (.slice none 0 0) := (blk_cell BK252.out 0).trans rfl; have hcz65_1 : w61.cell? ⟨gb252, 1, none⟩ = some (.int .i64 x253001_1) := (blk_cell BK252.out 1).trans rfl; have hcz65_2 : w61.cell? ⟨gb252, 2, none⟩ = some (.int .i64 x253002_1) := (blk_cell BK252.out 2).trans rfl; have hfz65_0 := blk_frozen BK252.out 0; have hfz65_1 := blk_frozen BK252.out 1; have hfz65_2 := blk_frozen BK252.out 2))
            refine bodyPost_ret (results_cell_row rfl _ _ gb252 47 #[.slice none 0 0, .int .i64 t272, .int .i64 10] (0, 0) _ rfl (by (with_reducible repeat (first | refine blk_drewN ?_ _ | refine blk_drew ?_ | refine blk_alloc ?_ _)); refine blk_put (cs := #[.slice none 0 0, .int .i64 t272, .int .i64 x253002_1]) ?_ 2 _ rfl; (with_reducible repeat (first | refine blk_drewN ?_ _ | refine blk_drew ?_ | refine blk_alloc ?_ _)); refine blk_put (cs := #[.slice none 0 0, .int .i64 x253001_1, .int .i64 x253002_1]) ?_ 1 _ rfl; (with_reducible repeat (first | refine blk_drewN ?_ _ | refine blk_drew ?_ | refine blk_alloc ?_ _)); refine blk_put (cs := #[.slice none 0 0, .int .i64 x253001_1, .int .i64 x253002_1]) ?_ 0 _ rfl; (with_reducible repeat (first | refine blk_drewN ?_ _ | refine blk_drew ?_ | refine blk_alloc ?_ _)); exact BK252.out) Tryd.underlying47 rfl (by kernel_rfl)) rfl ?_
            exact ⟨_, by first | rfl | (simp [errW_none, errW_some] <;> rfl) | (simp [*, errW_none, errW_some] <;> rfl), by first | exact Kd.S_nil _ _ _ _ _ | exact Kd.N_nil _ _ _ _ _ | exact Kd.V_nil _ _ _ _ _ | exact Kd.Q_nil _ _ _ _ _ | exact Kd.R_nil _ _ _ _ _, g, by repeat (first | (with_reducible first | exact HI1.out | apply IsS81.alloc | apply IsS81.drewN | apply IsS81.drew | apply IsS81.set_0 | apply IsS81.set_1 | refine IsS81.far ?_ NB1_252.out _ | refine IsS81.far ?_ NB1_258.out _) | exact HI1.out), by repeat (first | (with_reducible first | exact HB.out | apply below_alloc | apply pw_below_drewN | apply below_drew1 | refine below_set ?_ (IsS81.ge HI1.out) | refine below_set ?_ GE252.out | refine below_set ?_ GE258.out) | exact HB.out), by repeat (first | (with_reducible first | exact HK.out | apply KeepBut.set_ | apply keep_drewN | apply keep_drew | apply keep_alloc | refine keep_far ?_ GW252.out _ | refine keep_far ?_ GW258.out _) | exact HK.out)⟩
          ·replace c47 := Bool.eq_false_iff.mpr c47
           subst c47
           have H1 : (if x4_1.length < 2513169434916 then (umlautref5_Parse.l0 kj31 (x4_1 ++ [(⟨t255, t259, ([] : List Int)⟩ : S57)]) t265 t266) else (none)) = some (r1, r2, r3, r4, r5) := by rw [if_neg (show ¬ (false = true) by decide)] at H; exact H
           clear H
           have H := H1
           clear H1
           by_cases c66 : x4_1.length < 2513169434916
           ·rw [if_pos c66] at H
            have LMc66 := Aside0.mk c66
            clear c66
            obtain ⟨y276, hy276⟩ : ∃ y_ : List (S57), y_ = (x4_1 ++ [(⟨t255, t259, ([] : List Int)⟩ : S57)]) := ⟨_, rfl⟩
            replace H : (umlautref5_Parse.l0 kj31 y276 t265 t266) = some (r1, r2, r3, r4, r5) := by first | (rw [hy276]; with_reducible exact H) | (have H2_ := (Option.bind_some _ _).symm.trans H; rw [hy276]; with_reducible exact H2_) | (have H2_ := (Option.bind_some _ _).symm.trans H; with_reducible exact H2_) | with_reducible exact H | (rw [hy276]; exact H) | exact H
            have Ny276 := Aside0.mk hy276
            clear hy276
            have H' := Aside0.mk H
            clear H
            have hnb67 := NB258_252.out
            have hnc67 := NB252_258.out
            have hnb68 := NB258_1.out
            have hnc68 := NB1_258.out
            have hcz69_0 : wc.cell? ⟨gb258, 0, none⟩ = some (.int .i64 t255) := (blk_cell BK258.out 0).trans rfl
            have hcz69_1 : wc.cell? ⟨gb258, 1, none⟩ = some (.slice Ao38 t259.length co38) := (blk_cell BK258.out 1).trans rfl
            have hcz69_2 : wc.cell? ⟨gb258, 2, none⟩ = some (.slice none 0 0) := (blk_cell BK258.out 2).trans rfl
            have hfz69_0 := blk_frozen BK258.out 0
            have hfz69_1 := blk_frozen BK258.out 1
            have hfz69_2 := blk_frozen BK258.out 2
            go_wp2_with (first | ((with_reducible refine gate_builtin (b := .append) (xs := #[.tmp 109, .tmp 111]) rfl ?_); (try (refine gate_guard (by rfl) ?_; dsimp only)); at_builtin; refine Kd.S_append k57 w.heap.size rfl (.tmp 109) (.tmp 111) 45 57 (.agg #[(.int .i64 0), (.slice none 0 0), (.slice none 0 0)]) 56 rfl Tryd.underlying45 info57 rfl (by decide) (by omega) u4 x4_1 (⟨t255, t259, ([] : List Int)⟩ : S57) [.int .i64 t255, .slice Ao38 t259.length co38, .slice none 0 0] (fun k_ => k_ ≠ gb258) (fun k_ => some k_ = (.slice Ao38 t259.length co38 : Value).ownBlock) rfl rfl ?aP (fun k_ hk_ => ((Kd.R_mono (ok' := fun k_ => ((fun k_ => k_ ≠ gb258)) k_ ∧ some k_ ≠ (u4 : Value).ownBlock) (Kd.R_types (Kd.R_apart' (HO_259001.out) (Kd.S_typed HO_4.out) (by decide)) BK258.out (by decide)) (fun k_ hk => ⟨hk.2, hk.1.2⟩))).1 k_ hk_.symm) ?aF ?aO (Below.refl _ _) ?aS ?aL ?_; (case aP => exact k57_mkM _ _ _ (⟨t255, t259, ([] : List Int)⟩ : S57) (Kd.R_mono (Kd.R_tight rfl (Kd.R_mono (ok' := fun k_ => ((fun k_ => k_ ≠ gb258)) k_ ∧ some k_ ≠ (u4 : Value).ownBlock) (Kd.R_types (Kd.R_apart' (HO_259001.out) (Kd.S_typed HO_4.out) (by decide)) BK258.out (by decide)) (fun k_ hk => ⟨hk.2, hk.1.2⟩))) (fun _ h_ => h_)) (Kd.R_nil _ _ _ _ _)); (case aF => exact (fun k_ hk => Kd.freshB (g := gb258) (o := .cells #[.int .i64 t255, .slice Ao38 t259.length co38, .slice none 0 0] 57 (0, 0)) (by (with_reducible repeat (first | refine blk_drewN ?_ _ | refine blk_drew ?_ | refine blk_alloc ?_ _)); exact BK258.out) k_ hk)); (case aO => exact (by (with_reducible repeat (first | apply Kd.S_alloc | apply Kd.S_drewN | apply Kd.S_drew)); exact Kd.S_mono HO_4.out (fun k_ hk => ⟨hk.2, fun e_ => hk.1 e_⟩))); (case aS => exact (keep_size (w := w) (g := g) (row := none) (by repeat (first | (with_reducible first | exact HK.out | apply KeepBut.set_ | apply keep_drewN | apply keep_drew | apply keep_alloc | refine keep_far ?_ GW252.out _ | refine keep_far ?_ GW258.out _) | exact HK.out)))); (case aL => have := LMc66.out; omega); intro v277 w70 ho hb hg hat; rw [← Ny276.out] at ho; have n0_ := Aside0.mk (blk_grown (g := gb252) (o := .cells #[.slice none 0 0, .int .i64 x253001_1, .int .i64 x253002_1] 47 (0, 0)) (by (with_reducible repeat (first | refine blk_drewN ?_ _ | refine blk_drew ?_ | refine blk_alloc ?_ _)); exact BK252.out) hg (Kd.S_ne HO_4.out BK252.out (by decide))); have n1_ := Aside0.mk (blk_grown (g := gb258) (o := .cells #[.int .i64 t255, .slice Ao38 t259.length co38, .slice none 0 0] 57 (0, 0)) (by (with_reducible repeat (first | refine blk_drewN ?_ _ | refine blk_drew ?_ | refine blk_alloc ?_ _)); exact BK258.out) hg (Kd.S_away HO_4.out (fun _ hk => hk.2))); have n2_ := Aside0.mk (IsS81.grown (by repeat (first | (with_reducible first | exact HI1.out | apply IsS81.alloc | apply IsS81.drewN | apply IsS81.drew | apply IsS81.set_0 | apply IsS81.set_1 | refine IsS81.far ?_ NB1_252.out _ | refine IsS81.far ?_ NB1_258.out _) | exact HI1.out)) hg (IsS81.own_neS HI1.out HO_4.out (by decide))); have n3_ := Aside0.mk (below_weaken (by repeat (first | (with_reducible first | exact HB.out | apply below_alloc | apply pw_below_drewN | apply below_drew1 | refine below_set ?_ (IsS81.ge HI1.out) | refine below_set ?_ GE252.out | refine below_set ?_ GE258.out) | exact HB.out)) HL.out hb); have n4_ := Aside0.mk (KeepBut.trans (by repeat (first | (with_reducible first | exact HK.out | apply KeepBut.set_ | apply keep_drewN | apply keep_drew | apply keep_alloc | refine keep_far ?_ GW252.out _ | refine keep_far ?_ GW258.out _) | exact HK.out)) (KeepBut.of_grown hg g) (Kd.S_base2 HO_4.out)); have n5_ := Aside0.mk (ho); clear BK252; clear BK258; clear HI1; clear HB; clear HK; clear HO_4; clear HO_259001; have BK252 := n0_; have BK258 := n1_; have HI1 := n2_; have HB := n3_; have HK := n4_; have HO278 := n5_; clear n0_ n1_ n2_ n3_ n4_ n5_; clear ho hb hg hat))
            go_roundg kj31
            case measure => have := HK1.out; have := HJ17.out; have := HJ31.out; omega
            case rel => exact ⟨(y276), (t265), (t266), (x253001_1), (x253002_1), H', ⟨by have := HK1.out; have := HJ17.out; have := HJ31.out; omega⟩, ⟨by (with_reducible repeat (first | apply Kd.S_alloc | apply Kd.S_drewN | apply Kd.S_drew)); exact Kd.S_mono HO278.out (fun _ hk => trivial)⟩, ⟨by (with_reducible repeat (first | refine blk_drewN ?_ _ | refine blk_drew ?_ | refine blk_alloc ?_ _)); exact BK252.out⟩, ⟨by repeat (first | (with_reducible first | exact HI1.out | apply IsS81.alloc | apply IsS81.drewN | apply IsS81.drew | apply IsS81.set_0 | apply IsS81.set_1 | refine IsS81.far ?_ NB1_252.out _ | refine IsS81.far ?_ NB1_258.out _) | exact HI1.out)⟩, ⟨by repeat (first | (with_reducible first | exact HK.out | apply KeepBut.set_ | apply keep_drewN | apply keep_drew | apply keep_alloc | refine keep_far ?_ GW252.out _ | refine keep_far ?_ GW258.out _) | exact HK.out)⟩, ⟨by repeat (first | (with_reducible first | exact HB.out | apply below_alloc | apply pw_below_drewN | apply below_drew1 | refine below_set ?_ (IsS81.ge HI1.out) | refine below_set ?_ GE252.out | refine below_set ?_ GE258.out) | exact HB.out)⟩⟩
           ·rw [if_neg c66] at H
            exact absurd H (by simp)
       ·replace c30 := Bool.eq_false_iff.mpr c30
        subst c30
        have H1 : (some (([] : List (S57)), t264, 10, t263, t264)) = some (r1, r2, r3, r4, r5) := by rw [if_neg (show ¬ (false = true) by decide)] at H; exact H
        clear H
        have H := H1
        clear H1
        simp only [Option.some.injEq, Prod.mk.injEq] at H
        obtain ⟨rfl, rfl, rfl, rfl, rfl⟩ := H
        go_wp2_with (first | ((with_reducible refine gate_dst (N := 7) rfl ?_); (try (refine gate_guard (by rfl) ?_; dsimp only)); refine box_event ?hg (N := 7) ?hd (cs := #[.int .i64 0, .slice none 0 0, .slice none 0 0]) (t := 57) ?hr ?_; (case hd => rfl); (case hg => rfl); (case hr => first | (go_simp; done) | (go_simp; rfl)); intro gb258 hg w71 hbox hb; have n0_ := Aside0.mk (Kd.S_below (Kd.S_elderB (by (with_reducible repeat (first | apply Kd.S_alloc | apply Kd.S_drewN | apply Kd.S_drew)); exact HO_4.out) gb258 (Nat.le_of_eq hg.symm)) hb); have n1_ := Aside0.mk (blk_below (g := gb252) (o := .cells #[.slice none 0 0, .int .i64 x253001_1, .int .i64 x253002_1] 47 (0, 0)) (by (with_reducible repeat (first | refine blk_drewN ?_ _ | refine blk_drew ?_ | refine blk_alloc ?_ _)); exact BK252.out) hb); have n2_ := Aside0.mk (IsS81.below (by repeat (first | (with_reducible first | exact HI1.out | apply IsS81.alloc | apply IsS81.drewN | apply IsS81.drew | apply IsS81.set_0 | apply IsS81.set_1 | refine IsS81.far ?_ NB1_252.out _) | exact HI1.out)) hb); have n3_ := Aside0.mk (KeepBut.trans (by repeat (first | (with_reducible first | exact HK.out | apply KeepBut.set_ | apply keep_drewN | apply keep_drew | apply keep_alloc | refine keep_far ?_ GW252.out _) | exact HK.out)) (KeepBut.of_below hb g none) (.inl rfl)); have n4_ := Aside0.mk (below_step (by repeat (first | (with_reducible first | exact HB.out | apply below_alloc | apply pw_below_drewN | apply below_drew1 | refine below_set ?_ (IsS81.ge HI1.out) | refine below_set ?_ GE252.out) | exact HB.out)) hb); have n5_ := Aside0.mk (hbox); have n6_ := Aside0.mk ((by rw [hg]; exact (keep_size (w := w) (g := g) (row := none) (by repeat (first | (with_reducible first | exact HK.out | apply KeepBut.set_ | apply keep_drewN | apply keep_drew | apply keep_alloc | refine keep_far ?_ GW252.out _) | exact HK.out))) : w.heap.size ≤ gb258)); have n7_ := Aside0.mk ((Nat.le_trans HW0.out (by rw [hg]; exact (keep_size (w := w) (g := g) (row := none) (by repeat (first | (with_reducible first | exact HK.out | apply KeepBut.set_ | apply keep_drewN | apply keep_drew | apply keep_alloc | refine keep_far ?_ GW252.out _) | exact HK.out))) : w.heap.size ≤ gb258) : w.heap.size ≤ gb258)); have n8_ := Aside0.mk ((by rw [hg]; exact Nat.ne_of_lt (blk_lt (g := gb252) (o := .cells #[.slice none 0 0, .int .i64 x253001_1, .int .i64 x253002_1] 47 (0, 0)) (by (with_reducible repeat (first | refine blk_drewN ?_ _ | refine blk_drew ?_ | refine blk_alloc ?_ _)); exact BK252.out)) : gb252 ≠ gb258)); have n9_ := Aside0.mk ((by rw [hg]; exact Nat.ne_of_gt (blk_lt (g := gb252) (o := .cells #[.slice none 0 0, .int .i64 x253001_1, .int .i64 x253002_1] 47 (0, 0)) (by (with_reducible repeat (first | refine blk_drewN ?_ _ | refine blk_drew ?_ | refine blk_alloc ?_ _)); exact BK252.out)) : gb258 ≠ gb252)); have n10_ := Aside0.mk ((by rw [hg]; exact Nat.ne_of_lt (IsS81.lt (show IsS81 w _ g t256 t257 from by repeat (first | (with_reducible first | exact HI1.out | apply IsS81.alloc | apply IsS81.drewN | apply IsS81.drew | apply IsS81.set_0 | apply IsS81.set_1 | refine IsS81.far ?_ NB1_252.out _) | exact HI1.out))) : g ≠ gb258)); have n11_ := Aside0.mk ((by rw [hg]; exact Nat.ne_of_gt (IsS81.lt (show IsS81 w _ g t256 t257 from by repeat (first | (with_reducible first | exact HI1.out | apply IsS81.alloc | apply IsS81.drewN | apply IsS81.drew | apply IsS81.set_0 | apply IsS81.set_1 | refine IsS81.far ?_ NB1_252.out _) | exact HI1.out))) : gb258 ≠ g)); clear HO_4; clear BK252; clear HI1; clear HK; clear HB; have HO_4 := n0_; have BK252 := n1_; have HI1 := n2_; have HK := n3_; have HB := n4_; have BK258 := n5_; have GW258 := n6_; have GE258 := n7_; have NB252_258 := n8_; have NB258_252 := n9_; have NB1_258 := n10_; have NB258_1 := n11_; clear n0_ n1_ n2_ n3_ n4_ n5_ n6_ n7_ n8_ n9_ n10_ n11_; clear hb hbox hg; have hnb72 := NB258_252.out; have hnc72 := NB252_258.out; have hnb73 := NB258_1.out; have hnc73 := NB1_258.out; have hcz74_0 : w71.cell? ⟨gb258, 0, none⟩ = some (.int .i64 0) := (blk_cell BK258.out 0).trans rfl; have hcz74_1 : w71.cell? ⟨gb258, 1, none⟩ = some (.slice none 0 0) := (blk_cell BK258.out 1).trans rfl; have hcz74_2 : w71.cell? ⟨gb258, 2, none⟩ = some (.slice none 0 0) := (blk_cell BK258.out 2).trans rfl; have hfz74_0 := blk_frozen BK258.out 0; have hfz74_1 := blk_frozen BK258.out 1; have hfz74_2 := blk_frozen BK258.out 2) | (go_at_call 55; (with_reducible refine (umlautref5_reader_seq.calls kj17 g t256 t257 t259 false t263 t264 w _ ?side1 ?side2 A29.out).mono ?_); (case side1 => repeat (first | (with_reducible first | exact HI1.out | apply IsS81.alloc | apply IsS81.drewN | apply IsS81.drew | apply IsS81.set_0 | apply IsS81.set_1 | refine IsS81.far ?_ NB1_252.out _ | refine IsS81.far ?_ NB1_258.out _) | exact HI1.out)); (case side2 => repeat (first | (with_reducible first | exact HB.out | apply below_alloc | apply pw_below_drewN | apply below_drew1 | refine below_set ?_ (IsS81.ge HI1.out) | refine below_set ?_ GE252.out | refine below_set ?_ GE258.out) | exact HB.out)); rintro e w75 ⟨v260, rfl, ho0, hi, hb, hk⟩; have n0_ := Aside0.mk (Kd.S_mono (Kd.S_told (Kd.S_oldK (IsS81.apartS (show IsS81 w _ g t256 t257 from by repeat (first | (with_reducible first | exact HI1.out | apply IsS81.alloc | apply IsS81.drewN | apply IsS81.drew | apply IsS81.set_0 | apply IsS81.set_1 | refine IsS81.far ?_ NB1_252.out _ | refine IsS81.far ?_ NB1_258.out _) | exact HI1.out)) (by (with_reducible repeat (first | apply Kd.S_alloc | apply Kd.S_drewN | apply Kd.S_drew)); exact (Kd.S_mono (Kd.S_far (p := ⟨gb258, 2, none⟩) (Kd.S_far (p := ⟨gb258, 1, none⟩) (Kd.S_far (p := ⟨gb258, 0, none⟩) (Kd.S_mono HO_4.out (fun k_ hk => (⟨hk, hk.2⟩ : _ ∧ k_ ≠ gb258))) (fun _ hk => hk.2) (.int .i64 t255)) (fun _ hk => hk.2) (.slice none 0 0)) (fun _ hk => hk.2) (.slice none 0 0)) (fun _ h_ => h_.1))) (by decide)) hk) (Kd.R_base ho0)) (fun _ h_ => h_.1)); have n1_ := Aside0.mk (KeepBut.blk hk (g' := gb252) (o := .cells #[.slice none 0 0, .int .i64 x253001_1, .int .i64 x253002_1] 47 (0, 0)) (by (with_reducible repeat (first | refine blk_drewN ?_ _ | refine blk_drew ?_ | refine blk_alloc ?_ _)); refine blk_far ?_ NB252_258.out _; (with_reducible repeat (first | refine blk_drewN ?_ _ | refine blk_drew ?_ | refine blk_alloc ?_ _)); refine blk_far ?_ NB252_258.out _; (with_reducible repeat (first | refine blk_drewN ?_ _ | refine blk_drew ?_ | refine blk_alloc ?_ _)); refine blk_far ?_ NB252_258.out _; (with_reducible repeat (first | refine blk_drewN ?_ _ | refine blk_drew ?_ | refine blk_alloc ?_ _)); exact BK252.out) NB252_1.out (by simp)); have n2_ := Aside0.mk (KeepBut.blk hk (g' := gb258) (o := .cells #[.int .i64 t255, .slice none 0 0, .slice none 0 0] 57 (0, 0)) (by (with_reducible repeat (first | refine blk_drewN ?_ _ | refine blk_drew ?_ | refine blk_alloc ?_ _)); refine blk_put (cs := #[.int .i64 t255, .slice none 0 0, .slice none 0 0]) ?_ 2 _ rfl; (with_reducible repeat (first | refine blk_drewN ?_ _ | refine blk_drew ?_ | refine blk_alloc ?_ _)); refine blk_put (cs := #[.int .i64 t255, .slice none 0 0, .slice none 0 0]) ?_ 1 _ rfl; (with_reducible repeat (first | refine blk_drewN ?_ _ | refine blk_drew ?_ | refine blk_alloc ?_ _)); refine blk_put (cs := #[.int .i64 0, .slice none 0 0, .slice none 0 0]) ?_ 0 _ rfl; (with_reducible repeat (first | refine blk_drewN ?_ _ | refine blk_drew ?_ | refine blk_alloc ?_ _)); exact BK258.out) NB258_1.out (by simp)); have n3_ := Aside0.mk (Kd.R_lower ho0 (keep_size (w := w) (g := g) (row := none) (by repeat (first | (with_reducible first | exact HK.out | apply KeepBut.set_ | apply keep_drewN | apply keep_drew | apply keep_alloc | refine keep_far ?_ GW252.out _ | refine keep_far ?_ GW258.out _) | exact HK.out)))); have n4_ := Aside0.mk (KeepBut.trans (by repeat (first | (with_reducible first | exact HK.out | apply KeepBut.set_ | apply keep_drewN | apply keep_drew | apply keep_alloc | refine keep_far ?_ GW252.out _ | refine keep_far ?_ GW258.out _) | exact HK.out)) hk (.inl rfl)); have n5_ := Aside0.mk (hb); have n6_ := Aside0.mk (hi); clear HO_4; clear BK252; clear BK258; clear HK; clear HB; clear HI1; have HO_4 := n0_; have BK252 := n1_; have BK258 := n2_; have HO261 := n3_; have HK := n4_; have HB := n5_; have HI1 := n6_; clear n0_ n1_ n2_ n3_ n4_ n5_ n6_; (try clear hb); (try clear hb2); (try clear hk); (try clear hi); (try clear ho0); obtain ⟨HGz76, hgz76⟩ := HI1.out; have hcz76_0 := cellS81_0 HGz76; have hcz76_1 := cellS81_1 HGz76; have hfz76_0 := blk_frozen HGz76 0; have hfz76_1 := blk_frozen HGz76 1; clear HGz76 hgz76; have hnb77 := NB252_1.out; have hnc77 := NB1_252.out; have hcz78_0 : w75.cell? ⟨gb252, 0, none⟩ = some (.slice none 0 0) := (blk_cell BK252.out 0).trans rfl; have hcz78_1 : w75.cell? ⟨gb252, 1, none⟩ = some (.int .i64 x253001_1) := (blk_cell BK252.out 1).trans rfl; have hcz78_2 : w75.cell? ⟨gb252, 2, none⟩ = some (.int .i64 x253002_1) := (blk_cell BK252.out 2).trans rfl; have hfz78_0 := blk_frozen BK252.out 0; have hfz78_1 := blk_frozen BK252.out 1; have hfz78_2 := blk_frozen BK252.out 2))
        refine bodyPost_ret (results_cell_row rfl _ _ gb252 47 #[.slice none 0 0, .int .i64 t264, .int .i64 10] (0, 0) _ rfl (by (with_reducible repeat (first | refine blk_drewN ?_ _ | refine blk_drew ?_ | refine blk_alloc ?_ _)); refine blk_put (cs := #[.slice none 0 0, .int .i64 t264, .int .i64 x253002_1]) ?_ 2 _ rfl; (with_reducible repeat (first | refine blk_drewN ?_ _ | refine blk_drew ?_ | refine blk_alloc ?_ _)); refine blk_put (cs := #[.slice none 0 0, .int .i64 x253001_1, .int .i64 x253002_1]) ?_ 1 _ rfl; (with_reducible repeat (first | refine blk_drewN ?_ _ | refine blk_drew ?_ | refine blk_alloc ?_ _)); refine blk_put (cs := #[.slice none 0 0, .int .i64 x253001_1, .int .i64 x253002_1]) ?_ 0 _ rfl; (with_reducible repeat (first | refine blk_drewN ?_ _ | refine blk_drew ?_ | refine blk_alloc ?_ _)); exact BK252.out) Tryd.underlying47 rfl (by kernel_rfl)) rfl ?_
        exact ⟨_, by first | rfl | (simp [errW_none, errW_some] <;> rfl) | (simp [*, errW_none, errW_some] <;> rfl), by first | exact Kd.S_nil _ _ _ _ _ | exact Kd.N_nil _ _ _ _ _ | exact Kd.V_nil _ _ _ _ _ | exact Kd.Q_nil _ _ _ _ _ | exact Kd.R_nil _ _ _ _ _, g, by repeat (first | (with_reducible first | exact HI1.out | apply IsS81.alloc | apply IsS81.drewN | apply IsS81.drew | apply IsS81.set_0 | apply IsS81.set_1 | refine IsS81.far ?_ NB1_252.out _ | refine IsS81.far ?_ NB1_258.out _) | exact HI1.out), by repeat (first | (with_reducible first | exact HB.out | apply below_alloc | apply pw_below_drewN | apply below_drew1 | refine below_set ?_ (IsS81.ge HI1.out) | refine below_set ?_ GE252.out | refine below_set ?_ GE258.out) | exact HB.out), by repeat (first | (with_reducible first | exact HK.out | apply KeepBut.set_ | apply keep_drewN | apply keep_drew | apply keep_alloc | refine keep_far ?_ GW252.out _ | refine keep_far ?_ GW258.out _) | exact HK.out)⟩
theorem umlautref5_Parse.calls (k : Nat) (a0 : ByteArray) (r1 : List (S57)) (r2 : Int) (r3 : Int) (w : World) (h : umlautref5_Parse.f k a0 = some (r1, r2, r3)) :
  Calls Tryd.prog 29 #[.string a0] w fun e w' => ∃ v0_ : Value, e = .returned (.agg #[v0_, .int .i64 r2, .int .i64 r3]) ∧ Kd.S k57 57 w' w.heap.size (fun _ => True) v0_ r1 ∧ Below w.heap.size w w' := by
 obtain ⟨⟨q1, q2, q3, q4, q5⟩, h1, h2⟩ := Option.bind_eq_some_iff.mp h
 simp only [Option.some.injEq, Prod.mk.injEq] at h2
 obtain ⟨rfl, rfl, rfl⟩ := h2
 refine (umlautref5_Parse.calls0 k a0 _ _ _ _ _ w h1).mono ?_
 rintro e w' ⟨v0_, e1, e2, g, e3, e4, e5⟩
 exact ⟨v0_, e1, e2, e4⟩


end Go.Proofs.YtjcgjchdelipcaaDoor.R
