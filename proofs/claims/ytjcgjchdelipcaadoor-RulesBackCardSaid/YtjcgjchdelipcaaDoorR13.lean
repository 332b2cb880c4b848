-- Written by this session's program wip/gp/gprint.py round the kit's printer. Not trusted: Lean checks it.
import Derived.Test.YtjcgjchdelipcaaDoorR0
import Derived.Test.YtjcgjchdelipcaaDoorR7
import Derived.Test.YtjcgjchdelipcaaDoorR10
import Derived.Test.YtjcgjchdelipcaaDoorR11
import Derived.Test.YtjcgjchdelipcaaDoorR12
namespace Go.Proofs.YtjcgjchdelipcaaDoor.R
open Go.RowKit Go.Proofs.YtjcgjchdelipcaaDoorW.PrintWords Go.Proofs.YtjcgjchdelipcaaDoorW.PrintLast Go.Proofs.YtjcgjchdelipcaaDoorW.PrintMore
attribute [local go_sem] max2_int min2_int max_two min_two max_three min_three max_four min_four   -- for this text's walks alone
set_option linter.unusedVariables false
set_option linter.unusedSimpArgs false

/-! ### umlautref5_Text: function 36 -/
mutual
def umlautref5_Text.l0 : Nat → List (S57) → List ByteArray → ByteArray → Int → Option (ByteArray × Bool)
  | 0, _, _, _, _ => none
  | k + 1, x0, x4, x5, x6 => if x6 < (x0.length : Int) then (if 0 ≤ x6 then (if ((rd_T57 x0 x6).f0) < 1 then (umlautref5_Text.j1 k x0 x4 x5 x6 true) else (umlautref5_Text.j1 k x0 x4 x5 x6 (decide (((rd_T57 x0 x6).f0) > 5)))) else (none)) else ((umlautref5_Parse.f k x5).bind fun bt361 => (if bt361.2.2 = 0 then ((umlautref5_sameRules.f k bt361.1 x0).bind fun t367 => (some (x5, t367))) else (some (x5, false))))
def umlautref5_Text.j1 : Nat → List (S57) → List ByteArray → ByteArray → Int → Bool → Option (ByteArray × Bool)
  | 0, _, _, _, _, _ => none
  | k + 1, x0, x4, x5, x6, x30 => if x30 = true then (some ((⟨#[]⟩ : ByteArray), false)) else (umlautref5_Text.l1 k x0 x4 x5 x6 0)
def umlautref5_Text.l1 : Nat → List (S57) → List ByteArray → ByteArray → Int → Int → Option (ByteArray × Bool)
  | 0, _, _, _, _, _ => none
  | k + 1, x0, x4, x5, x6, x7 => if 0 ≤ x6 then (if x6 < (x0.length : Int) then (if x7 < (((rd_T57 x0 x6).f1).length : Int) then (if 0 ≤ x7 then ((umlautref1_IsSign.f (rd ((rd_T57 x0 x6).f1) x7)).bind fun t373 => (if t373 = true then (umlautref5_Text.l1 k x0 x4 x5 x6 (wrap64 (x7 + 1))) else (some ((⟨#[]⟩ : ByteArray), false)))) else (none)) else (umlautref5_Text.l2 k x0 x4 x5 x6 0)) else (none)) else (none)
def umlautref5_Text.l2 : Nat → List (S57) → List ByteArray → ByteArray → Int → Int → Option (ByteArray × Bool)
  | 0, _, _, _, _, _ => none
  | k + 1, x0, x4, x5, x6, x8 => if 0 ≤ x6 then (if x6 < (x0.length : Int) then (if x8 < (((rd_T57 x0 x6).f2).length : Int) then (if 0 ≤ x8 then ((umlautref1_IsSign.f (rd ((rd_T57 x0 x6).f2) x8)).bind fun t377 => (if t377 = true then (umlautref5_Text.l2 k x0 x4 x5 x6 (wrap64 (x8 + 1))) else (some ((⟨#[]⟩ : ByteArray), false)))) else (none)) else (if x6 > 0 then (if x5.size + 1 ≤ 9223372036854775807 then (umlautref5_Text.j4 k x0 x4 (x5 ++ (⟨#[32]⟩ : ByteArray)) x6) else (none)) else (umlautref5_Text.j4 k x0 x4 x5 x6))) else (none)) else (none)
def umlautref5_Text.j4 : Nat → List (S57) → List ByteArray → ByteArray → Int → Option (ByteArray × Bool)
  | 0, _, _, _, _ => none
  | k + 1, x0, x4, x5, x6 => if 0 ≤ x6 then (if x6 < (x0.length : Int) then (if 0 ≤ (wrap64 (((rd_T57 x0 x6).f0) - 1)) then (if (wrap64 (((rd_T57 x0 x6).f0) - 1)) < (x4.length : Int) then (if x5.size + (rdOf ByteArray.empty x4 (wrap64 (((rd_T57 x0 x6).f0) - 1))).size ≤ 9223372036854775807 then (if (x5 ++ (rdOf ByteArray.empty x4 (wrap64 (((rd_T57 x0 x6).f0) - 1)))).size + 1 ≤ 9223372036854775807 then ((umlautref5_word.f k ((rd_T57 x0 x6).f1)).bind fun t381 => (if ((x5 ++ (rdOf ByteArray.empty x4 (wrap64 (((rd_T57 x0 x6).f0) - 1)))) ++ (⟨#[32]⟩ : ByteArray)).size + t381.size ≤ 9223372036854775807 then (if (((rd_T57 x0 x6).f2).length : Int) > 0 then (if (((x5 ++ (rdOf ByteArray.empty x4 (wrap64 (((rd_T57 x0 x6).f0) - 1)))) ++ (⟨#[32]⟩ : ByteArray)) ++ t381).size + 3 ≤ 9223372036854775807 then ((umlautref5_word.f k ((rd_T57 x0 x6).f2)).bind fun t384 => (if ((((x5 ++ (rdOf ByteArray.empty x4 (wrap64 (((rd_T57 x0 x6).f0) - 1)))) ++ (⟨#[32]⟩ : ByteArray)) ++ t381) ++ (⟨#[32, 47, 32]⟩ : ByteArray)).size + t384.size ≤ 9223372036854775807 then (umlautref5_Text.l0 k x0 x4 (((((x5 ++ (rdOf ByteArray.empty x4 (wrap64 (((rd_T57 x0 x6).f0) - 1)))) ++ (⟨#[32]⟩ : ByteArray)) ++ t381) ++ (⟨#[32, 47, 32]⟩ : ByteArray)) ++ t384) (wrap64 (x6 + 1))) else (none))) else (none)) else (umlautref5_Text.l0 k x0 x4 (((x5 ++ (rdOf ByteArray.empty x4 (wrap64 (((rd_T57 x0 x6).f0) - 1)))) ++ (⟨#[32]⟩ : ByteArray)) ++ t381) (wrap64 (x6 + 1)))) else (none))) else (none)) else (none)) else (none)) else (none)) else (none)) else (none)
end
def umlautref5_Text.f (k : Nat) (l0 : List (S57)) : Option (ByteArray × Bool) := umlautref5_Text.l0 k l0 (([(⟨#[38]⟩ : ByteArray), (⟨#[60]⟩ : ByteArray), (⟨#[60, 60]⟩ : ByteArray), (⟨#[60, 60, 60]⟩ : ByteArray), (⟨#[61]⟩ : ByteArray)] : List ByteArray)) (⟨#[]⟩ : ByteArray) 0
theorem umlautref5_Text.mono_l : ∀ k, (∀ y0 y1 y2 y3, LeO (umlautref5_Text.l0 k y0 y1 y2 y3) (umlautref5_Text.l0 (k + 1) y0 y1 y2 y3)) ∧ (∀ y0 y1 y2 y3 y4, LeO (umlautref5_Text.j1 k y0 y1 y2 y3 y4) (umlautref5_Text.j1 (k + 1) y0 y1 y2 y3 y4)) ∧ (∀ y0 y1 y2 y3 y4, LeO (umlautref5_Text.l1 k y0 y1 y2 y3 y4) (umlautref5_Text.l1 (k + 1) y0 y1 y2 y3 y4)) ∧ (∀ y0 y1 y2 y3 y4, LeO (umlautref5_Text.l2 k y0 y1 y2 y3 y4) (umlautref5_Text.l2 (k + 1) y0 y1 y2 y3 y4)) ∧ (∀ y0 y1 y2 y3, LeO (umlautref5_Text.j4 k y0 y1 y2 y3) (umlautref5_Text.j4 (k + 1) y0 y1 y2 y3))
  | 0 => ⟨fun _ _ _ _ r h => by simp [umlautref5_Text.l0] at h, fun _ _ _ _ _ r h => by simp [umlautref5_Text.j1] at h, fun _ _ _ _ _ r h => by simp [umlautref5_Text.l1] at h, fun _ _ _ _ _ r h => by simp [umlautref5_Text.l2] at h, fun _ _ _ _ r h => by simp [umlautref5_Text.j4] at h⟩
  | k + 1 => by
    obtain ⟨ih0, ih1, ih2, ih3, ih4⟩ := umlautref5_Text.mono_l k
    refine ⟨?_, ?_, ?_, ?_, ?_⟩
    · intro y0 y1 y2 y3
      unfold umlautref5_Text.l0
      repeat' first
      | (with_reducible exact ih0 _ _ _ _)
      | (with_reducible exact ih1 _ _ _ _ _)
      | (with_reducible exact ih2 _ _ _ _ _)
      | (with_reducible exact ih3 _ _ _ _ _)
      | (with_reducible exact ih4 _ _ _ _)
      | (with_reducible exact umlautref5_Parse.mono _ _)
      | (with_reducible exact umlautref5_sameRules.mono _ _ _)
      | (with_reducible exact umlautref5_word.mono _ _)
      | (with_reducible exact LeO.refl _)
      | (with_reducible exact LeO.none _)
      | (with_reducible refine LeO.ite ?_ ?_)
      | (with_reducible refine LeO.bind ?_ (fun _ => ?_))
      | exact ih0 _ _ _ _
      | exact ih1 _ _ _ _ _
      | exact ih2 _ _ _ _ _
      | exact ih3 _ _ _ _ _
      | exact ih4 _ _ _ _
      | exact umlautref5_Parse.mono _ _
      | exact umlautref5_sameRules.mono _ _ _
      | exact umlautref5_word.mono _ _
      | exact LeO.none _
      | refine LeO.ite ?_ ?_
      | refine LeO.bind ?_ (fun _ => ?_)
    · intro y0 y1 y2 y3 y4
      unfold umlautref5_Text.j1
      repeat' first
      | (with_reducible exact ih0 _ _ _ _)
      | (with_reducible exact ih1 _ _ _ _ _)
      | (with_reducible exact ih2 _ _ _ _ _)
      | (with_reducible exact ih3 _ _ _ _ _)
      | (with_reducible exact ih4 _ _ _ _)
      | (with_reducible exact umlautref5_Parse.mono _ _)
      | (with_reducible exact umlautref5_sameRules.mono _ _ _)
      | (with_reducible exact umlautref5_word.mono _ _)
      | (with_reducible exact LeO.refl _)
      | (with_reducible exact LeO.none _)
      | (with_reducible refine LeO.ite ?_ ?_)
      | (with_reducible refine LeO.bind ?_ (fun _ => ?_))
      | exact ih0 _ _ _ _
      | exact ih1 _ _ _ _ _
      | exact ih2 _ _ _ _ _
      | exact ih3 _ _ _ _ _
      | exact ih4 _ _ _ _
      | exact umlautref5_Parse.mono _ _
      | exact umlautref5_sameRules.mono _ _ _
      | exact umlautref5_word.mono _ _
      | exact LeO.none _
      | refine LeO.ite ?_ ?_
      | refine LeO.bind ?_ (fun _ => ?_)
    · intro y0 y1 y2 y3 y4
      unfold umlautref5_Text.l1
      repeat' first
      | (with_reducible exact ih0 _ _ _ _)
      | (with_reducible exact ih1 _ _ _ _ _)
      | (with_reducible exact ih2 _ _ _ _ _)
      | (with_reducible exact ih3 _ _ _ _ _)
      | (with_reducible exact ih4 _ _ _ _)
      | (with_reducible exact umlautref5_Parse.mono _ _)
      | (with_reducible exact umlautref5_sameRules.mono _ _ _)
      | (with_reducible exact umlautref5_word.mono _ _)
      | (with_reducible exact LeO.refl _)
      | (with_reducible exact LeO.none _)
      | (with_reducible refine LeO.ite ?_ ?_)
      | (with_reducible refine LeO.bind ?_ (fun _ => ?_))
      | exact ih0 _ _ _ _
      | exact ih1 _ _ _ _ _
      | exact ih2 _ _ _ _ _
      | exact ih3 _ _ _ _ _
      | exact ih4 _ _ _ _
      | exact umlautref5_Parse.mono _ _
      | exact umlautref5_sameRules.mono _ _ _
      | exact umlautref5_word.mono _ _
      | exact LeO.none _
      | refine LeO.ite ?_ ?_
      | refine LeO.bind ?_ (fun _ => ?_)
    · intro y0 y1 y2 y3 y4
      unfold umlautref5_Text.l2
      repeat' first
      | (with_reducible exact ih0 _ _ _ _)
      | (with_reducible exact ih1 _ _ _ _ _)
      | (with_reducible exact ih2 _ _ _ _ _)
      | (with_reducible exact ih3 _ _ _ _ _)
      | (with_reducible exact ih4 _ _ _ _)
      | (with_reducible exact umlautref5_Parse.mono _ _)
      | (with_reducible exact umlautref5_sameRules.mono _ _ _)
      | (with_reducible exact umlautref5_word.mono _ _)
      | (with_reducible exact LeO.refl _)
      | (with_reducible exact LeO.none _)
      | (with_reducible refine LeO.ite ?_ ?_)
      | (with_reducible refine LeO.bind ?_ (fun _ => ?_))
      | exact ih0 _ _ _ _
      | exact ih1 _ _ _ _ _
      | exact ih2 _ _ _ _ _
      | exact ih3 _ _ _ _ _
      | exact ih4 _ _ _ _
      | exact umlautref5_Parse.mono _ _
      | exact umlautref5_sameRules.mono _ _ _
      | exact umlautref5_word.mono _ _
      | exact LeO.none _
      | refine LeO.ite ?_ ?_
      | refine LeO.bind ?_ (fun _ => ?_)
    · intro y0 y1 y2 y3
      unfold umlautref5_Text.j4
      repeat' first
      | (with_reducible exact ih0 _ _ _ _)
      | (with_reducible exact ih1 _ _ _ _ _)
      | (with_reducible exact ih2 _ _ _ _ _)
      | (with_reducible exact ih3 _ _ _ _ _)
      | (with_reducible exact ih4 _ _ _ _)
      | (with_reducible exact umlautref5_Parse.mono _ _)
      | (with_reducible exact umlautref5_sameRules.mono _ _ _)
      | (with_reducible exact umlautref5_word.mono _ _)
      | (with_reducible exact LeO.refl _)
      | (with_reducible exact LeO.none _)
      | (with_reducible refine LeO.ite ?_ ?_)
      | (with_reducible refine LeO.bind ?_ (fun _ => ?_))
      | exact ih0 _ _ _ _
      | exact ih1 _ _ _ _ _
      | exact ih2 _ _ _ _ _
      | exact ih3 _ _ _ _ _
      | exact ih4 _ _ _ _
      | exact umlautref5_Parse.mono _ _
      | exact umlautref5_sameRules.mono _ _ _
      | exact umlautref5_word.mono _ _
      | exact LeO.none _
      | refine LeO.ite ?_ ?_
      | refine LeO.bind ?_ (fun _ => ?_)
theorem umlautref5_Text.mono : ∀ a0 k, LeO (umlautref5_Text.f k a0) (umlautref5_Text.f (k + 1) a0) := by
  intro a0 k
  obtain ⟨ih0, ih1, ih2, ih3, ih4⟩ := umlautref5_Text.mono_l k
  unfold umlautref5_Text.f
  repeat' first
      | (with_reducible exact ih0 _ _ _ _)
      | (with_reducible exact ih1 _ _ _ _ _)
      | (with_reducible exact ih2 _ _ _ _ _)
      | (with_reducible exact ih3 _ _ _ _ _)
      | (with_reducible exact ih4 _ _ _ _)
      | (with_reducible exact umlautref5_Parse.mono _ _)
      | (with_reducible exact umlautref5_sameRules.mono _ _ _)
      | (with_reducible exact umlautref5_word.mono _ _)
      | (with_reducible exact LeO.refl _)
      | (with_reducible exact LeO.none _)
      | (with_reducible refine LeO.ite ?_ ?_)
      | (with_reducible refine LeO.bind ?_ (fun _ => ?_))
      | exact ih0 _ _ _ _
      | exact ih1 _ _ _ _ _
      | exact ih2 _ _ _ _ _
      | exact ih3 _ _ _ _ _
      | exact ih4 _ _ _ _
      | exact umlautref5_Parse.mono _ _
      | exact umlautref5_sameRules.mono _ _ _
      | exact umlautref5_word.mono _ _
      | exact LeO.none _
      | refine LeO.ite ?_ ?_
      | refine LeO.bind ?_ (fun _ => ?_)
def umlautref5_Text.T20 : Bool × List (List Nat × List Nat) := (true, [([], []), ([], []), ([], []), ([], []), ([2, 3], [2, 3]), ([4], [4]), ([5], [5]), ([6], [6]), ([1, 7], [1, 7]), ([8], [8]), ([0, 9], [0, 9]), ([10], [10]), ([], []), ([], []), ([12, 13], [12, 13]), ([14], [14]), ([15], [15]), ([16], [16]), ([11, 17], [11, 17]), ([18, 17, 0, 1, 2, 3, 4, 5, 6, 7, 8, 9, 10, 11, 12, 13, 14, 15, 16, 17, 18], [0, 18])])
def umlautref5_Text.B20 : List Nat := [0, 0, 0, 0, 12, 28, 60, 124, 254, 510, 1023, 2047, 0, 0, 12288, 28672, 61440, 126976, 262143, 524287]
theorem umlautref5_Text.tab20 : rtab .any (opsOf Tryd.f36 20) = umlautref5_Text.T20 := by kernel_rfl
theorem umlautref5_Text.bits20 : waitsOk umlautref5_Text.T20.2 umlautref5_Text.B20 = true := by kernel_rfl
set_option maxHeartbeats 8000000 in
set_option maxRecDepth 100000 in
theorem umlautref5_Text.calls (k : Nat) (A0 : Option Addr) (c0 : Nat) (l0 : List (S57)) (r1 : ByteArray) (r2 : Bool) (w : World) (hr0 : Kd.C k57 w A0 l0.length l0) (hc0 : l0.length ≤ c0) (h : umlautref5_Text.f k l0 = some (r1, r2)) :
    Calls Tryd.prog 36 #[.slice A0 l0.length c0] w fun e w' => e = .returned (.tuple #[.string r1, .bool r2]) ∧ Below w.heap.size w w' := by
  have hu47 := Tryd.underlying47
  have HR0 := Aside0.mk hr0
  have HC0 := Aside0.mk hc0
  clear hr0 hc0
  have HB := Aside0.mk (Below.refl w.heap.size w)
  have H : (umlautref5_Text.l0 k l0 (([(⟨#[38]⟩ : ByteArray), (⟨#[60]⟩ : ByteArray), (⟨#[60, 60]⟩ : ByteArray), (⟨#[60, 60, 60]⟩ : ByteArray), (⟨#[61]⟩ : ByteArray)] : List ByteArray)) (⟨#[]⟩ : ByteArray) 0) = some (r1, r2) := h
  clear h
  obtain ⟨y358, hy358⟩ : ∃ y_ : List ByteArray, y_ = (([(⟨#[38]⟩ : ByteArray), (⟨#[60]⟩ : ByteArray), (⟨#[60, 60]⟩ : ByteArray), (⟨#[60, 60, 60]⟩ : ByteArray), (⟨#[61]⟩ : ByteArray)] : List ByteArray)) := ⟨_, rfl⟩
  replace H : (umlautref5_Text.l0 k l0 y358 (⟨#[]⟩ : ByteArray) 0) = some (r1, r2) := by first | (rw [hy358]; with_reducible exact H) | (have H2_ := (Option.bind_some _ _).symm.trans H; rw [hy358]; with_reducible exact H2_) | (have H2_ := (Option.bind_some _ _).symm.trans H; with_reducible exact H2_) | with_reducible exact H | (rw [hy358]; exact H) | exact H
  have Ny358 := Aside0.mk hy358
  clear hy358
  have H' := Aside0.mk H
  clear H
  go_enter Tryd.func36, Tryd.ntmps36
  go_wp2_with (first | ((with_reducible refine gate_dst (N := 10) rfl ?_); refine Kd.R_lit Kd.string _ 9 ?hg (N := 10) ?hd (xs := ([(⟨#[38]⟩ : ByteArray), (⟨#[60]⟩ : ByteArray), (⟨#[60, 60]⟩ : ByteArray), (⟨#[60, 60, 60]⟩ : ByteArray), (⟨#[61]⟩ : ByteArray)] : List ByteArray)) (inner := [.string (⟨#[38]⟩ : ByteArray), .string (⟨#[60]⟩ : ByteArray), .string (⟨#[60, 60]⟩ : ByteArray), .string (⟨#[60, 60, 60]⟩ : ByteArray), .string (⟨#[61]⟩ : ByteArray)]) (ok := fun _ => True) (okp := fun _ => True) ?hr ?hp (fun _ hk => hk) trivial (Below.refl _ _) (Nat.le_refl _) (by simp) ?_; (case hd => rfl); (case hg => rfl); (case hr => first | (go_simp; done) | (go_simp; rfl)); (case hp => exact (Reps.one (show Kd.M Kd.string _ _ _ (⟨#[38]⟩ : ByteArray) [.string (⟨#[38]⟩ : ByteArray)] from rfl) (Reps.one (show Kd.M Kd.string _ _ _ (⟨#[60]⟩ : ByteArray) [.string (⟨#[60]⟩ : ByteArray)] from rfl) (Reps.one (show Kd.M Kd.string _ _ _ (⟨#[60, 60]⟩ : ByteArray) [.string (⟨#[60, 60]⟩ : ByteArray)] from rfl) (Reps.one (show Kd.M Kd.string _ _ _ (⟨#[60, 60, 60]⟩ : ByteArray) [.string (⟨#[60, 60, 60]⟩ : ByteArray)] from rfl) (Reps.one (show Kd.M Kd.string _ _ _ (⟨#[61]⟩ : ByteArray) [.string (⟨#[61]⟩ : ByteArray)] from rfl) (Reps.none _ _))))))); intro v359 w2 ho3 hb hg_ hnew_; clear hg_ hnew_; (first | rw [← Ny358.out] at ho3 | (simp only [Int.reduceToNat] at ho3; rw [← Ny358.out] at ho3)); have n0_ := Aside0.mk (Kd.R_lower ho3 (below_size (by repeat (first | (with_reducible first | exact HB.out | apply below_alloc | apply pw_below_drewN | apply below_drew1) | exact HB.out)))); have n1_ := Aside0.mk (below_step (by repeat (first | (with_reducible first | exact HB.out | apply below_alloc | apply pw_below_drewN | apply below_drew1) | exact HB.out)) hb); clear HB; have HO360 := n0_; have HB := n1_; clear n0_ n1_; clear hb ho3))
  go_loopg [5, 6] k (fun kq v5 v6 w' => ∃ (x5_1 : ByteArray) (x6_1 : Int), v5 = .string x5_1 ∧ v6 = .int .i64 x6_1 ∧ Aside0 (umlautref5_Text.l0 kq l0 y358 x5_1 x6_1 = some (r1, r2)) ∧ Aside0 (kq ≤ k) ∧ Aside0 (Kd.R Kd.string 9 w' w.heap.size (fun _ => True) v359 y358) ∧ Aside0 (Below w.heap.size w w'))
  case atStart => exact ⟨((⟨#[]⟩ : ByteArray)), (0), (by first | rfl | (simp; done) | (simp [*]; done)), (by first | rfl | (simp; done) | (simp [*]; done)), H', ⟨Nat.le_refl _⟩, ⟨by (with_reducible repeat (first | apply Kd.R_alloc | apply Kd.R_drewN | apply Kd.R_drew)); exact HO360.out⟩, ⟨by repeat (first | (with_reducible first | exact HB.out | apply below_alloc | apply pw_below_drewN | apply below_drew1) | exact HB.out)⟩⟩
  case round =>
    clear H'
    try clear p2
    try clear c3
    obtain ⟨x5_1, x6_1, rfl, rfl, HA, HK1, HO_4, HB⟩ := hrel
    cases gk with
    | zero => exact absurd HA.out (by simp [umlautref5_Text.l0])
    | succ k1 =>
      have H := HA.out
      clear HA
      simp only [umlautref5_Text.l0] at H
      by_cases c4 : x6_1 < (l0.length : Int)
      · rw [if_pos c4] at H
        have c4b0 : decide (x6_1 < (l0.length : Int)) = true := decide_eq_true c4
        clear c4
        have HC5 := Aside0.mk H
        clear H
        go_upto_region 6 with (fail)
        go_cut [30] (fun v30 wc => ∃ (kq : Nat) (x30_4 : Bool), v30 = .bool x30_4 ∧ Aside0 (umlautref5_Text.j1 kq l0 y358 x5_1 x6_1 x30_4 = some (r1, r2)) ∧ Aside0 (kq ≤ k1) ∧ Aside0 (Kd.R Kd.string 9 wc w.heap.size (fun _ => True) v359 y358) ∧ Aside0 (Below w.heap.size w wc))
        case first =>
          have H := HC5.out
          clear HC5
          by_cases c6 : 0 ≤ x6_1
          · rw [if_pos c6] at H
            have c6b0 : decide (0 ≤ x6_1) = true := decide_eq_true c6
            clear c6
            (first | rw [c6b0] | (simp only [i64_w, i32_w]; rw [c6b0]) | skip)
            by_cases c7 : ((rd_T57 l0 x6_1).f0) < 1
            · rw [if_pos c7] at H
              have c7b0 : decide (((rd_T57 l0 x6_1).f0) < 1) = true := decide_eq_true c7
              clear c7
              have H' := Aside0.mk H
              clear H
              have p368 : 0 ≤ (x6_1 : Int) := of_decide_eq_true (by first | (with_reducible assumption) | assumption)
              have q368 : x6_1 < (l0.length : Int) := of_decide_eq_true (by first | (with_reducible assumption) | assumption)
              obtain ⟨ad368, A368_1, c368_1, A368_2, c368_2, e368, hx368_0, hx368_1, hx368_2, hl368_1, hi368_1, hl368_2, hi368_2⟩ := at_T57 HR0.out x6_1 p368 q368
              cases e368
              replace hx368_0 := (HB.out.cell (World.block_lt_of_cell? w _ hx368_0)).trans hx368_0
              replace hx368_1 := (HB.out.cell (World.block_lt_of_cell? w _ hx368_1)).trans hx368_1
              replace hx368_2 := (HB.out.cell (World.block_lt_of_cell? w _ hx368_2)).trans hx368_2
              have HR368_1 := Aside0.mk hi368_1
              have HC368_1 := Aside0.mk hl368_1
              clear hi368_1 hl368_1
              have HR368_2 := Aside0.mk hi368_2
              have HC368_2 := Aside0.mk hl368_2
              clear hi368_2 hl368_2
              replace p368 := eq_true p368
              replace q368 := eq_true q368
              go_wp2
              go_meet
              case rel => exact ⟨_, (true), (by first | rfl | (simp; done) | (simp [*]; done)), H', ⟨by have := HK1.out; first | omega | exact Nat.le_refl _⟩, ⟨by (with_reducible repeat (first | apply Kd.R_alloc | apply Kd.R_drewN | apply Kd.R_drew)); exact HO_4.out⟩, ⟨by repeat (first | (with_reducible first | exact HB.out | apply below_alloc | apply pw_below_drewN | apply below_drew1) | exact HB.out)⟩⟩
            · rw [if_neg c7] at H
              have c7b0 : decide (((rd_T57 l0 x6_1).f0) < 1) = false := decide_eq_false c7
              clear c7
              have H' := Aside0.mk H
              clear H
              have p368 : 0 ≤ (x6_1 : Int) := of_decide_eq_true (by first | (with_reducible assumption) | assumption)
              have q368 : x6_1 < (l0.length : Int) := of_decide_eq_true (by first | (with_reducible assumption) | assumption)
              obtain ⟨ad368, A368_1, c368_1, A368_2, c368_2, e368, hx368_0, hx368_1, hx368_2, hl368_1, hi368_1, hl368_2, hi368_2⟩ := at_T57 HR0.out x6_1 p368 q368
              cases e368
              replace hx368_0 := (HB.out.cell (World.block_lt_of_cell? w _ hx368_0)).trans hx368_0
              replace hx368_1 := (HB.out.cell (World.block_lt_of_cell? w _ hx368_1)).trans hx368_1
              replace hx368_2 := (HB.out.cell (World.block_lt_of_cell? w _ hx368_2)).trans hx368_2
              have HR368_1 := Aside0.mk hi368_1
              have HC368_1 := Aside0.mk hl368_1
              clear hi368_1 hl368_1
              have HR368_2 := Aside0.mk hi368_2
              have HC368_2 := Aside0.mk hl368_2
              clear hi368_2 hl368_2
              replace p368 := eq_true p368
              replace q368 := eq_true q368
              have p369 : 0 ≤ (x6_1 : Int) := of_decide_eq_true (by first | (with_reducible assumption) | assumption)
              have q369 : x6_1 < (l0.length : Int) := of_decide_eq_true (by first | (with_reducible assumption) | assumption)
              obtain ⟨ad369, A369_1, c369_1, A369_2, c369_2, e369, hx369_0, hx369_1, hx369_2, hl369_1, hi369_1, hl369_2, hi369_2⟩ := at_T57 HR0.out x6_1 p369 q369
              obtain rfl : ad368 = ad369 := (by injection e369)
              replace hx369_0 := (HB.out.cell (World.block_lt_of_cell? w _ hx369_0)).trans hx369_0
              replace hx369_1 := (HB.out.cell (World.block_lt_of_cell? w _ hx369_1)).trans hx369_1
              replace hx369_2 := (HB.out.cell (World.block_lt_of_cell? w _ hx369_2)).trans hx369_2
              have HR369_1 := Aside0.mk hi369_1
              have HC369_1 := Aside0.mk hl369_1
              clear hi369_1 hl369_1
              have HR369_2 := Aside0.mk hi369_2
              have HC369_2 := Aside0.mk hl369_2
              clear hi369_2 hl369_2
              replace p369 := eq_true p369
              replace q369 := eq_true q369
              have ea_ := Option.some.inj (hx368_1.symm.trans hx369_1)
              injection ea_ with ea_ en_ ec_
              subst ea_
              subst ec_
              clear en_
              have ea_ := Option.some.inj (hx368_2.symm.trans hx369_2)
              injection ea_ with ea_ en_ ec_
              subst ea_
              subst ec_
              clear en_
              go_wp2
              go_meet
              case rel => exact ⟨_, (decide (((rd_T57 l0 x6_1).f0) > 5)), (by first | rfl | (simp; done) | (simp [*]; done)), H', ⟨by have := HK1.out; first | omega | exact Nat.le_refl _⟩, ⟨by (with_reducible repeat (first | apply Kd.R_alloc | apply Kd.R_drewN | apply Kd.R_drew)); exact HO_4.out⟩, ⟨by repeat (first | (with_reducible first | exact HB.out | apply below_alloc | apply pw_below_drewN | apply below_drew1) | exact HB.out)⟩⟩
          · rw [if_neg c6] at H
            exact absurd H (by simp)
        case rest =>
          clear HC5
          try clear p2
          try clear c3
          try clear p3
          try clear q3
          try clear hx3
          try clear c4
          try clear c4b0
          try clear c6
          try clear c6b0
          try clear c7
          try clear c7b0
          try clear hx368_0
          try clear hx368_1
          try clear hx368_2
          try clear hx369_0
          try clear hx369_1
          try clear hx369_2
          try clear p2
          try clear p368
          try clear p369
          try clear q368
          try clear q369
          obtain ⟨kq, x30_4, rfl, HA, HJ4, HO_4, HB⟩ := hcut
          cases kq with
          | zero => exact absurd HA.out (by simp [umlautref5_Text.j1])
          | succ kj4 =>
            have H := HA.out
            clear HA
            simp only [umlautref5_Text.j1] at H
            by_cases c8 : x30_4 = true
            · subst c8
              have H1 : (some ((⟨#[]⟩ : ByteArray), false)) = some (r1, r2) := by rw [if_pos rfl] at H; exact H
              clear H
              have H := H1
              clear H1
              simp only [Option.some.injEq, Prod.mk.injEq] at H
              obtain ⟨rfl, rfl⟩ := H
              go_wp2
              go_ret2
              exact ⟨by first | rfl | (simp [errW_none, errW_some] <;> rfl) | (simp [*, errW_none, errW_some] <;> rfl), by repeat (first | (with_reducible first | exact HB.out | apply below_alloc | apply pw_below_drewN | apply below_drew1) | exact HB.out)⟩
            · replace c8 := Bool.eq_false_iff.mpr c8
              subst c8
              have H1 : (umlautref5_Text.l1 kj4 l0 y358 x5_1 x6_1 0) = some (r1, r2) := by rw [if_neg (show ¬ (false = true) by decide)] at H; exact H
              clear H
              have H := H1
              clear H1
              have H' := Aside0.mk H
              clear H
              go_wp2
              go_loopg [7] kj4 (fun kq v7 w' => ∃ (x7_3 : Int), v7 = .int .i64 x7_3 ∧ Aside0 (umlautref5_Text.l1 kq l0 y358 x5_1 x6_1 x7_3 = some (r1, r2)) ∧ Aside0 (kq ≤ kj4) ∧ Aside0 (Kd.R Kd.string 9 w' w.heap.size (fun _ => True) v359 y358) ∧ Aside0 (Below w.heap.size w w'))
              case atStart => exact ⟨(0), (by first | rfl | (simp; done) | (simp [*]; done)), H', ⟨Nat.le_refl _⟩, ⟨by (with_reducible repeat (first | apply Kd.R_alloc | apply Kd.R_drewN | apply Kd.R_drew)); exact HO_4.out⟩, ⟨by repeat (first | (with_reducible first | exact HB.out | apply below_alloc | apply pw_below_drewN | apply below_drew1) | exact HB.out)⟩⟩
              case round =>
                clear H'
                try clear p2
                try clear c3
                try clear p3
                try clear q3
                try clear hx3
                try clear c4
                try clear c4b0
                try clear c6
                try clear c6b0
                try clear c7
                try clear c7b0
                try clear c8
                try clear hx368_0
                try clear hx368_1
                try clear hx368_2
                try clear hx369_0
                try clear hx369_1
                try clear hx369_2
                try clear p2
                try clear p3
                try clear p368
                try clear p369
                try clear q3
                try clear q368
                try clear q369
                obtain ⟨x7_3, rfl, HA, HK3, HO_4, HB⟩ := hrel
                cases gk with
                | zero => exact absurd HA.out (by simp [umlautref5_Text.l1])
                | succ k3 =>
                  have H := HA.out
                  clear HA
                  simp only [umlautref5_Text.l1] at H
                  by_cases c9 : 0 ≤ x6_1
                  · rw [if_pos c9] at H
                    have c9b0 : decide (0 ≤ x6_1) = true := decide_eq_true c9
                    clear c9
                    by_cases c10 : x6_1 < (l0.length : Int)
                    · rw [if_pos c10] at H
                      have c10b0 : decide (x6_1 < (l0.length : Int)) = true := decide_eq_true c10
                      clear c10
                      by_cases c11 : x7_3 < (((rd_T57 l0 x6_1).f1).length : Int)
                      · rw [if_pos c11] at H
                        have c11b0 : decide (x7_3 < (((rd_T57 l0 x6_1).f1).length : Int)) = true := decide_eq_true c11
                        clear c11
                        by_cases c12 : 0 ≤ x7_3
                        · rw [if_pos c12] at H
                          have c12b0 : decide (0 ≤ x7_3) = true := decide_eq_true c12
                          clear c12
                          replace H := Option.bind_eq_some_iff.mp H
                          obtain ⟨t373, A130, H⟩ := H
                          replace H : (if t373 = true then (umlautref5_Text.l1 k3 l0 y358 x5_1 x6_1 (wrap64 (x7_3 + 1))) else (some ((⟨#[]⟩ : ByteArray), false))) = some (r1, r2) := H
                          have A13 := Aside0.mk A130
                          clear A130
                          by_cases c14 : t373 = true
                          · subst c14
                            have H1 : (umlautref5_Text.l1 k3 l0 y358 x5_1 x6_1 (wrap64 (x7_3 + 1))) = some (r1, r2) := by rw [if_pos rfl] at H; exact H
                            clear H
                            have H := H1
                            clear H1
                            have H' := Aside0.mk H
                            clear H
                            have p370 : 0 ≤ (x6_1 : Int) := of_decide_eq_true (by first | (with_reducible assumption) | assumption)
                            have q370 : x6_1 < (l0.length : Int) := of_decide_eq_true (by first | (with_reducible assumption) | assumption)
                            obtain ⟨ad370, A370_1, c370_1, A370_2, c370_2, e370, hx370_0, hx370_1, hx370_2, hl370_1, hi370_1, hl370_2, hi370_2⟩ := at_T57 HR0.out x6_1 p370 q370
                            cases e370
                            replace hx370_0 := (HB.out.cell (World.block_lt_of_cell? w _ hx370_0)).trans hx370_0
                            replace hx370_1 := (HB.out.cell (World.block_lt_of_cell? w _ hx370_1)).trans hx370_1
                            replace hx370_2 := (HB.out.cell (World.block_lt_of_cell? w _ hx370_2)).trans hx370_2
                            have HR370_1 := Aside0.mk hi370_1
                            have HC370_1 := Aside0.mk hl370_1
                            clear hi370_1 hl370_1
                            have HR370_2 := Aside0.mk hi370_2
                            have HC370_2 := Aside0.mk hl370_2
                            clear hi370_2 hl370_2
                            replace p370 := eq_true p370
                            replace q370 := eq_true q370
                            have p371 : 0 ≤ (x6_1 : Int) := of_decide_eq_true (by first | (with_reducible assumption) | assumption)
                            have q371 : x6_1 < (l0.length : Int) := of_decide_eq_true (by first | (with_reducible assumption) | assumption)
                            obtain ⟨ad371, A371_1, c371_1, A371_2, c371_2, e371, hx371_0, hx371_1, hx371_2, hl371_1, hi371_1, hl371_2, hi371_2⟩ := at_T57 HR0.out x6_1 p371 q371
                            obtain rfl : ad370 = ad371 := (by injection e371)
                            replace hx371_0 := (HB.out.cell (World.block_lt_of_cell? w _ hx371_0)).trans hx371_0
                            replace hx371_1 := (HB.out.cell (World.block_lt_of_cell? w _ hx371_1)).trans hx371_1
                            replace hx371_2 := (HB.out.cell (World.block_lt_of_cell? w _ hx371_2)).trans hx371_2
                            have HR371_1 := Aside0.mk hi371_1
                            have HC371_1 := Aside0.mk hl371_1
                            clear hi371_1 hl371_1
                            have HR371_2 := Aside0.mk hi371_2
                            have HC371_2 := Aside0.mk hl371_2
                            clear hi371_2 hl371_2
                            replace p371 := eq_true p371
                            replace q371 := eq_true q371
                            have ea_ := Option.some.inj (hx370_1.symm.trans hx371_1)
                            injection ea_ with ea_ en_ ec_
                            subst ea_
                            subst ec_
                            clear en_
                            have ea_ := Option.some.inj (hx370_2.symm.trans hx371_2)
                            injection ea_ with ea_ en_ ec_
                            subst ea_
                            subst ec_
                            clear en_
                            have p372 : 0 ≤ (x7_3 : Int) := of_decide_eq_true (by first | (with_reducible assumption) | assumption)
                            have q372 : x7_3 < (((rd_T57 l0 x6_1).f1).length : Int) := of_decide_eq_true (by first | (with_reducible assumption) | assumption)
                            obtain ⟨ad372, e372, hx372_0⟩ := Kd.at_int HR371_1.out x7_3 p372 q372
                            cases e372
                            replace hx372_0 := (HB.out.cell (World.block_lt_of_cell? w _ hx372_0)).trans hx372_0
                            replace p372 := eq_true p372
                            replace q372 := eq_true q372
                            go_wp2_with (first | ((with_reducible refine gate_callee (f := 37) rfl ?_); refine goesL_ (some 49) rfl rfl Tryd.func37 (by kernel_rfl) rfl #[.int .i64 (rd ((rd_T57 l0 x6_1).f1) x7_3)] rfl (by (try simp only [List.map_toArray, List.map_cons, List.map_nil]); first | done | rfl | (simp only [List.length_drop, List.length_take]; rfl)) ?_; (with_reducible refine (umlautref1_IsSign.calls (rd ((rd_T57 l0 x6_1).f1) x7_3) true _ A13.out).mono ?_); rintro e w' ⟨rfl, ⟨nd, rfl⟩⟩; refine ⟨_, rfl, ?_⟩))
                            go_roundg k3
                            case measure => have := HK1.out; have := HJ4.out; have := HK3.out; omega
                            case rel => exact ⟨(wrap64 (x7_3 + 1)), (by first | rfl | (simp; done) | (simp [*]; done)), H', ⟨by have := HK1.out; have := HJ4.out; have := HK3.out; omega⟩, ⟨by (with_reducible repeat (first | apply Kd.R_alloc | apply Kd.R_drewN | apply Kd.R_drew)); exact HO_4.out⟩, ⟨by repeat (first | (with_reducible first | exact HB.out | apply below_alloc | apply pw_below_drewN | apply below_drew1) | exact HB.out)⟩⟩
                          · replace c14 := Bool.eq_false_iff.mpr c14
                            subst c14
                            have H1 : (some ((⟨#[]⟩ : ByteArray), false)) = some (r1, r2) := by rw [if_neg (show ¬ (false = true) by decide)] at H; exact H
                            clear H
                            have H := H1
                            clear H1
                            simp only [Option.some.injEq, Prod.mk.injEq] at H
                            obtain ⟨rfl, rfl⟩ := H
                            have p370 : 0 ≤ (x6_1 : Int) := of_decide_eq_true (by first | (with_reducible assumption) | assumption)
                            have q370 : x6_1 < (l0.length : Int) := of_decide_eq_true (by first | (with_reducible assumption) | assumption)
                            obtain ⟨ad370, A370_1, c370_1, A370_2, c370_2, e370, hx370_0, hx370_1, hx370_2, hl370_1, hi370_1, hl370_2, hi370_2⟩ := at_T57 HR0.out x6_1 p370 q370
                            cases e370
                            replace hx370_0 := (HB.out.cell (World.block_lt_of_cell? w _ hx370_0)).trans hx370_0
                            replace hx370_1 := (HB.out.cell (World.block_lt_of_cell? w _ hx370_1)).trans hx370_1
                            replace hx370_2 := (HB.out.cell (World.block_lt_of_cell? w _ hx370_2)).trans hx370_2
                            have HR370_1 := Aside0.mk hi370_1
                            have HC370_1 := Aside0.mk hl370_1
                            clear hi370_1 hl370_1
                            have HR370_2 := Aside0.mk hi370_2
                            have HC370_2 := Aside0.mk hl370_2
                            clear hi370_2 hl370_2
                            replace p370 := eq_true p370
                            replace q370 := eq_true q370
                            have p371 : 0 ≤ (x6_1 : Int) := of_decide_eq_true (by first | (with_reducible assumption) | assumption)
                            have q371 : x6_1 < (l0.length : Int) := of_decide_eq_true (by first | (with_reducible assumption) | assumption)
                            obtain ⟨ad371, A371_1, c371_1, A371_2, c371_2, e371, hx371_0, hx371_1, hx371_2, hl371_1, hi371_1, hl371_2, hi371_2⟩ := at_T57 HR0.out x6_1 p371 q371
                            obtain rfl : ad370 = ad371 := (by injection e371)
                            replace hx371_0 := (HB.out.cell (World.block_lt_of_cell? w _ hx371_0)).trans hx371_0
                            replace hx371_1 := (HB.out.cell (World.block_lt_of_cell? w _ hx371_1)).trans hx371_1
                            replace hx371_2 := (HB.out.cell (World.block_lt_of_cell? w _ hx371_2)).trans hx371_2
                            have HR371_1 := Aside0.mk hi371_1
                            have HC371_1 := Aside0.mk hl371_1
                            clear hi371_1 hl371_1
                            have HR371_2 := Aside0.mk hi371_2
                            have HC371_2 := Aside0.mk hl371_2
                            clear hi371_2 hl371_2
                            replace p371 := eq_true p371
                            replace q371 := eq_true q371
                            have ea_ := Option.some.inj (hx370_1.symm.trans hx371_1)
                            injection ea_ with ea_ en_ ec_
                            subst ea_
                            subst ec_
                            clear en_
                            have ea_ := Option.some.inj (hx370_2.symm.trans hx371_2)
                            injection ea_ with ea_ en_ ec_
                            subst ea_
                            subst ec_
                            clear en_
                            have p372 : 0 ≤ (x7_3 : Int) := of_decide_eq_true (by first | (with_reducible assumption) | assumption)
                            have q372 : x7_3 < (((rd_T57 l0 x6_1).f1).length : Int) := of_decide_eq_true (by first | (with_reducible assumption) | assumption)
                            obtain ⟨ad372, e372, hx372_0⟩ := Kd.at_int HR371_1.out x7_3 p372 q372
                            cases e372
                            replace hx372_0 := (HB.out.cell (World.block_lt_of_cell? w _ hx372_0)).trans hx372_0
                            replace p372 := eq_true p372
                            replace q372 := eq_true q372
                            go_wp2_with (first | ((with_reducible refine gate_callee (f := 37) rfl ?_); refine goesL_ (some 49) rfl rfl Tryd.func37 (by kernel_rfl) rfl #[.int .i64 (rd ((rd_T57 l0 x6_1).f1) x7_3)] rfl (by (try simp only [List.map_toArray, List.map_cons, List.map_nil]); first | done | rfl | (simp only [List.length_drop, List.length_take]; rfl)) ?_; (with_reducible refine (umlautref1_IsSign.calls (rd ((rd_T57 l0 x6_1).f1) x7_3) false _ A13.out).mono ?_); rintro e w' ⟨rfl, ⟨nd, rfl⟩⟩; refine ⟨_, rfl, ?_⟩))
                            go_ret2
                            exact ⟨by first | rfl | (simp [errW_none, errW_some] <;> rfl) | (simp [*, errW_none, errW_some] <;> rfl), by repeat (first | (with_reducible first | exact HB.out | apply below_alloc | apply pw_below_drewN | apply below_drew1) | exact HB.out)⟩
                        · rw [if_neg c12] at H
                          exact absurd H (by simp)
                      · rw [if_neg c11] at H
                        have c11b0 : decide (x7_3 < (((rd_T57 l0 x6_1).f1).length : Int)) = false := decide_eq_false c11
                        clear c11
                        have H' := Aside0.mk H
                        clear H
                        have p370 : 0 ≤ (x6_1 : Int) := of_decide_eq_true (by first | (with_reducible assumption) | assumption)
                        have q370 : x6_1 < (l0.length : Int) := of_decide_eq_true (by first | (with_reducible assumption) | assumption)
                        obtain ⟨ad370, A370_1, c370_1, A370_2, c370_2, e370, hx370_0, hx370_1, hx370_2, hl370_1, hi370_1, hl370_2, hi370_2⟩ := at_T57 HR0.out x6_1 p370 q370
                        cases e370
                        replace hx370_0 := (HB.out.cell (World.block_lt_of_cell? w _ hx370_0)).trans hx370_0
                        replace hx370_1 := (HB.out.cell (World.block_lt_of_cell? w _ hx370_1)).trans hx370_1
                        replace hx370_2 := (HB.out.cell (World.block_lt_of_cell? w _ hx370_2)).trans hx370_2
                        have HR370_1 := Aside0.mk hi370_1
                        have HC370_1 := Aside0.mk hl370_1
                        clear hi370_1 hl370_1
                        have HR370_2 := Aside0.mk hi370_2
                        have HC370_2 := Aside0.mk hl370_2
                        clear hi370_2 hl370_2
                        replace p370 := eq_true p370
                        replace q370 := eq_true q370
                        go_wp2
                        go_loopg [8] k3 (fun kq v8 w' => ∃ (x8_4 : Int), v8 = .int .i64 x8_4 ∧ Aside0 (umlautref5_Text.l2 kq l0 y358 x5_1 x6_1 x8_4 = some (r1, r2)) ∧ Aside0 (kq ≤ k3) ∧ Aside0 (Kd.R Kd.string 9 w' w.heap.size (fun _ => True) v359 y358) ∧ Aside0 (Below w.heap.size w w'))
                        case atStart => exact ⟨(0), (by first | rfl | (simp; done) | (simp [*]; done)), H', ⟨Nat.le_refl _⟩, ⟨by (with_reducible repeat (first | apply Kd.R_alloc | apply Kd.R_drewN | apply Kd.R_drew)); exact HO_4.out⟩, ⟨by repeat (first | (with_reducible first | exact HB.out | apply below_alloc | apply pw_below_drewN | apply below_drew1) | exact HB.out)⟩⟩
                        case round =>
                          clear H'
                          try clear c1
                          try clear p2
                          try clear c3
                          try clear p3
                          try clear q3
                          try clear hx3
                          try clear c4
                          try clear c4b0
                          try clear c6
                          try clear c6b0
                          try clear p6
                          try clear c7
                          try clear c7b0
                          try clear c8
                          try clear c9
                          try clear c9b0
                          try clear c10
                          try clear c10b0
                          try clear c11
                          try clear c11b0
                          try clear c12
                          try clear c12b0
                          try clear c14
                          try clear hx368_0
                          try clear hx368_1
                          try clear hx368_2
                          try clear hx369_0
                          try clear hx369_1
                          try clear hx369_2
                          try clear hx370_0
                          try clear hx370_1
                          try clear hx370_2
                          try clear hx371_0
                          try clear hx371_1
                          try clear hx371_2
                          try clear hx372_0
                          try clear p2
                          try clear p3
                          try clear p368
                          try clear p369
                          try clear p370
                          try clear p371
                          try clear p372
                          try clear q3
                          try clear q368
                          try clear q369
                          try clear q370
                          try clear q371
                          try clear q372
                          obtain ⟨x8_4, rfl, HA, HK4, HO_4, HB⟩ := hrel
                          cases gk with
                          | zero => exact absurd HA.out (by simp [umlautref5_Text.l2])
                          | succ k4 =>
                            have H := HA.out
                            clear HA
                            simp only [umlautref5_Text.l2] at H
                            by_cases c15 : 0 ≤ x6_1
                            · rw [if_pos c15] at H
                              have c15b0 : decide (0 ≤ x6_1) = true := decide_eq_true c15
                              clear c15
                              by_cases c16 : x6_1 < (l0.length : Int)
                              · rw [if_pos c16] at H
                                have c16b0 : decide (x6_1 < (l0.length : Int)) = true := decide_eq_true c16
                                clear c16
                                by_cases c17 : x8_4 < (((rd_T57 l0 x6_1).f2).length : Int)
                                · rw [if_pos c17] at H
                                  have c17b0 : decide (x8_4 < (((rd_T57 l0 x6_1).f2).length : Int)) = true := decide_eq_true c17
                                  clear c17
                                  by_cases c18 : 0 ≤ x8_4
                                  · rw [if_pos c18] at H
                                    have c18b0 : decide (0 ≤ x8_4) = true := decide_eq_true c18
                                    clear c18
                                    replace H := Option.bind_eq_some_iff.mp H
                                    obtain ⟨t377, A190, H⟩ := H
                                    replace H : (if t377 = true then (umlautref5_Text.l2 k4 l0 y358 x5_1 x6_1 (wrap64 (x8_4 + 1))) else (some ((⟨#[]⟩ : ByteArray), false))) = some (r1, r2) := H
                                    have A19 := Aside0.mk A190
                                    clear A190
                                    by_cases c20 : t377 = true
                                    · subst c20
                                      have H1 : (umlautref5_Text.l2 k4 l0 y358 x5_1 x6_1 (wrap64 (x8_4 + 1))) = some (r1, r2) := by rw [if_pos rfl] at H; exact H
                                      clear H
                                      have H := H1
                                      clear H1
                                      have H' := Aside0.mk H
                                      clear H
                                      have p374 : 0 ≤ (x6_1 : Int) := of_decide_eq_true (by first | (with_reducible assumption) | assumption)
                                      have q374 : x6_1 < (l0.length : Int) := of_decide_eq_true (by first | (with_reducible assumption) | assumption)
                                      obtain ⟨ad374, A374_1, c374_1, A374_2, c374_2, e374, hx374_0, hx374_1, hx374_2, hl374_1, hi374_1, hl374_2, hi374_2⟩ := at_T57 HR0.out x6_1 p374 q374
                                      obtain rfl : ad370 = ad374 := (by injection e374)
                                      replace hx374_0 := (HB.out.cell (World.block_lt_of_cell? w _ hx374_0)).trans hx374_0
                                      replace hx374_1 := (HB.out.cell (World.block_lt_of_cell? w _ hx374_1)).trans hx374_1
                                      replace hx374_2 := (HB.out.cell (World.block_lt_of_cell? w _ hx374_2)).trans hx374_2
                                      have HR374_1 := Aside0.mk hi374_1
                                      have HC374_1 := Aside0.mk hl374_1
                                      clear hi374_1 hl374_1
                                      have HR374_2 := Aside0.mk hi374_2
                                      have HC374_2 := Aside0.mk hl374_2
                                      clear hi374_2 hl374_2
                                      replace p374 := eq_true p374
                                      replace q374 := eq_true q374
                                      have p375 : 0 ≤ (x6_1 : Int) := of_decide_eq_true (by first | (with_reducible assumption) | assumption)
                                      have q375 : x6_1 < (l0.length : Int) := of_decide_eq_true (by first | (with_reducible assumption) | assumption)
                                      obtain ⟨ad375, A375_1, c375_1, A375_2, c375_2, e375, hx375_0, hx375_1, hx375_2, hl375_1, hi375_1, hl375_2, hi375_2⟩ := at_T57 HR0.out x6_1 p375 q375
                                      obtain rfl : ad370 = ad375 := (by injection e375)
                                      replace hx375_0 := (HB.out.cell (World.block_lt_of_cell? w _ hx375_0)).trans hx375_0
                                      replace hx375_1 := (HB.out.cell (World.block_lt_of_cell? w _ hx375_1)).trans hx375_1
                                      replace hx375_2 := (HB.out.cell (World.block_lt_of_cell? w _ hx375_2)).trans hx375_2
                                      have HR375_1 := Aside0.mk hi375_1
                                      have HC375_1 := Aside0.mk hl375_1
                                      clear hi375_1 hl375_1
                                      have HR375_2 := Aside0.mk hi375_2
                                      have HC375_2 := Aside0.mk hl375_2
                                      clear hi375_2 hl375_2
                                      replace p375 := eq_true p375
                                      replace q375 := eq_true q375
                                      have ea_ := Option.some.inj (hx374_1.symm.trans hx375_1)
                                      injection ea_ with ea_ en_ ec_
                                      subst ea_
                                      subst ec_
                                      clear en_
                                      have ea_ := Option.some.inj (hx374_2.symm.trans hx375_2)
                                      injection ea_ with ea_ en_ ec_
                                      subst ea_
                                      subst ec_
                                      clear en_
                                      have p376 : 0 ≤ (x8_4 : Int) := of_decide_eq_true (by first | (with_reducible assumption) | assumption)
                                      have q376 : x8_4 < (((rd_T57 l0 x6_1).f2).length : Int) := of_decide_eq_true (by first | (with_reducible assumption) | assumption)
                                      obtain ⟨ad376, e376, hx376_0⟩ := Kd.at_int HR375_2.out x8_4 p376 q376
                                      cases e376
                                      replace hx376_0 := (HB.out.cell (World.block_lt_of_cell? w _ hx376_0)).trans hx376_0
                                      replace p376 := eq_true p376
                                      replace q376 := eq_true q376
                                      go_wp2_with (first | ((with_reducible refine gate_callee (f := 37) rfl ?_); refine goesL_ (some 69) rfl rfl Tryd.func37 (by kernel_rfl) rfl #[.int .i64 (rd ((rd_T57 l0 x6_1).f2) x8_4)] rfl (by (try simp only [List.map_toArray, List.map_cons, List.map_nil]); first | done | rfl | (simp only [List.length_drop, List.length_take]; rfl)) ?_; (with_reducible refine (umlautref1_IsSign.calls (rd ((rd_T57 l0 x6_1).f2) x8_4) true _ A19.out).mono ?_); rintro e w' ⟨rfl, ⟨nd, rfl⟩⟩; refine ⟨_, rfl, ?_⟩))
                                      go_roundg k4
                                      case measure => have := HK1.out; have := HJ4.out; have := HK3.out; have := HK4.out; omega
                                      case rel => exact ⟨(wrap64 (x8_4 + 1)), (by first | rfl | (simp; done) | (simp [*]; done)), H', ⟨by have := HK1.out; have := HJ4.out; have := HK3.out; have := HK4.out; omega⟩, ⟨by (with_reducible repeat (first | apply Kd.R_alloc | apply Kd.R_drewN | apply Kd.R_drew)); exact HO_4.out⟩, ⟨by repeat (first | (with_reducible first | exact HB.out | apply below_alloc | apply pw_below_drewN | apply below_drew1) | exact HB.out)⟩⟩
                                    · replace c20 := Bool.eq_false_iff.mpr c20
                                      subst c20
                                      have H1 : (some ((⟨#[]⟩ : ByteArray), false)) = some (r1, r2) := by rw [if_neg (show ¬ (false = true) by decide)] at H; exact H
                                      clear H
                                      have H := H1
                                      clear H1
                                      simp only [Option.some.injEq, Prod.mk.injEq] at H
                                      obtain ⟨rfl, rfl⟩ := H
                                      have p374 : 0 ≤ (x6_1 : Int) := of_decide_eq_true (by first | (with_reducible assumption) | assumption)
                                      have q374 : x6_1 < (l0.length : Int) := of_decide_eq_true (by first | (with_reducible assumption) | assumption)
                                      obtain ⟨ad374, A374_1, c374_1, A374_2, c374_2, e374, hx374_0, hx374_1, hx374_2, hl374_1, hi374_1, hl374_2, hi374_2⟩ := at_T57 HR0.out x6_1 p374 q374
                                      obtain rfl : ad370 = ad374 := (by injection e374)
                                      replace hx374_0 := (HB.out.cell (World.block_lt_of_cell? w _ hx374_0)).trans hx374_0
                                      replace hx374_1 := (HB.out.cell (World.block_lt_of_cell? w _ hx374_1)).trans hx374_1
                                      replace hx374_2 := (HB.out.cell (World.block_lt_of_cell? w _ hx374_2)).trans hx374_2
                                      have HR374_1 := Aside0.mk hi374_1
                                      have HC374_1 := Aside0.mk hl374_1
                                      clear hi374_1 hl374_1
                                      have HR374_2 := Aside0.mk hi374_2
                                      have HC374_2 := Aside0.mk hl374_2
                                      clear hi374_2 hl374_2
                                      replace p374 := eq_true p374
                                      replace q374 := eq_true q374
                                      have p375 : 0 ≤ (x6_1 : Int) := of_decide_eq_true (by first | (with_reducible assumption) | assumption)
                                      have q375 : x6_1 < (l0.length : Int) := of_decide_eq_true (by first | (with_reducible assumption) | assumption)
                                      obtain ⟨ad375, A375_1, c375_1, A375_2, c375_2, e375, hx375_0, hx375_1, hx375_2, hl375_1, hi375_1, hl375_2, hi375_2⟩ := at_T57 HR0.out x6_1 p375 q375
                                      obtain rfl : ad370 = ad375 := (by injection e375)
                                      replace hx375_0 := (HB.out.cell (World.block_lt_of_cell? w _ hx375_0)).trans hx375_0
                                      replace hx375_1 := (HB.out.cell (World.block_lt_of_cell? w _ hx375_1)).trans hx375_1
                                      replace hx375_2 := (HB.out.cell (World.block_lt_of_cell? w _ hx375_2)).trans hx375_2
                                      have HR375_1 := Aside0.mk hi375_1
                                      have HC375_1 := Aside0.mk hl375_1
                                      clear hi375_1 hl375_1
                                      have HR375_2 := Aside0.mk hi375_2
                                      have HC375_2 := Aside0.mk hl375_2
                                      clear hi375_2 hl375_2
                                      replace p375 := eq_true p375
                                      replace q375 := eq_true q375
                                      have ea_ := Option.some.inj (hx374_1.symm.trans hx375_1)
                                      injection ea_ with ea_ en_ ec_
                                      subst ea_
                                      subst ec_
                                      clear en_
                                      have ea_ := Option.some.inj (hx374_2.symm.trans hx375_2)
                                      injection ea_ with ea_ en_ ec_
                                      subst ea_
                                      subst ec_
                                      clear en_
                                      have p376 : 0 ≤ (x8_4 : Int) := of_decide_eq_true (by first | (with_reducible assumption) | assumption)
                                      have q376 : x8_4 < (((rd_T57 l0 x6_1).f2).length : Int) := of_decide_eq_true (by first | (with_reducible assumption) | assumption)
                                      obtain ⟨ad376, e376, hx376_0⟩ := Kd.at_int HR375_2.out x8_4 p376 q376
                                      cases e376
                                      replace hx376_0 := (HB.out.cell (World.block_lt_of_cell? w _ hx376_0)).trans hx376_0
                                      replace p376 := eq_true p376
                                      replace q376 := eq_true q376
                                      go_wp2_with (first | ((with_reducible refine gate_callee (f := 37) rfl ?_); refine goesL_ (some 69) rfl rfl Tryd.func37 (by kernel_rfl) rfl #[.int .i64 (rd ((rd_T57 l0 x6_1).f2) x8_4)] rfl (by (try simp only [List.map_toArray, List.map_cons, List.map_nil]); first | done | rfl | (simp only [List.length_drop, List.length_take]; rfl)) ?_; (with_reducible refine (umlautref1_IsSign.calls (rd ((rd_T57 l0 x6_1).f2) x8_4) false _ A19.out).mono ?_); rintro e w' ⟨rfl, ⟨nd, rfl⟩⟩; refine ⟨_, rfl, ?_⟩))
                                      go_ret2
                                      exact ⟨by first | rfl | (simp [errW_none, errW_some] <;> rfl) | (simp [*, errW_none, errW_some] <;> rfl), by repeat (first | (with_reducible first | exact HB.out | apply below_alloc | apply pw_below_drewN | apply below_drew1) | exact HB.out)⟩
                                  · rw [if_neg c18] at H
                                    exact absurd H (by simp)
                                · rw [if_neg c17] at H
                                  have c17b0 : decide (x8_4 < (((rd_T57 l0 x6_1).f2).length : Int)) = false := decide_eq_false c17
                                  clear c17
                                  have HC21 := Aside0.mk H
                                  clear H
                                  have p374 : 0 ≤ (x6_1 : Int) := of_decide_eq_true (by first | (with_reducible assumption) | assumption)
                                  have q374 : x6_1 < (l0.length : Int) := of_decide_eq_true (by first | (with_reducible assumption) | assumption)
                                  obtain ⟨ad374, A374_1, c374_1, A374_2, c374_2, e374, hx374_0, hx374_1, hx374_2, hl374_1, hi374_1, hl374_2, hi374_2⟩ := at_T57 HR0.out x6_1 p374 q374
                                  obtain rfl : ad370 = ad374 := (by injection e374)
                                  replace hx374_0 := (HB.out.cell (World.block_lt_of_cell? w _ hx374_0)).trans hx374_0
                                  replace hx374_1 := (HB.out.cell (World.block_lt_of_cell? w _ hx374_1)).trans hx374_1
                                  replace hx374_2 := (HB.out.cell (World.block_lt_of_cell? w _ hx374_2)).trans hx374_2
                                  have HR374_1 := Aside0.mk hi374_1
                                  have HC374_1 := Aside0.mk hl374_1
                                  clear hi374_1 hl374_1
                                  have HR374_2 := Aside0.mk hi374_2
                                  have HC374_2 := Aside0.mk hl374_2
                                  clear hi374_2 hl374_2
                                  replace p374 := eq_true p374
                                  replace q374 := eq_true q374
                                  go_upto_if 72 with (fail)
                                  go_cut [5] (fun v5 wc => ∃ (kq : Nat) (x5_20 : ByteArray), v5 = .string x5_20 ∧ Aside0 (umlautref5_Text.j4 kq l0 y358 x5_20 x6_1 = some (r1, r2)) ∧ Aside0 (kq ≤ k4) ∧ Aside0 (Kd.R Kd.string 9 wc w.heap.size (fun _ => True) v359 y358) ∧ Aside0 (Below w.heap.size w wc))
                                  case first =>
                                    have H := HC21.out
                                    clear HC21
                                    by_cases c22 : x6_1 > 0
                                    · rw [if_pos c22] at H
                                      have c22b0 : decide (0 < x6_1) = true := decide_eq_true c22
                                      clear c22
                                      (first | rw [c22b0] | (simp only [i64_w, i32_w]; rw [c22b0]) | skip)
                                      by_cases c23 : x5_1.size + 1 ≤ 9223372036854775807
                                      · rw [if_pos c23] at H
                                        have c23b0 := eq_true c23
                                        have c23b1 : decide (x5_1.size + 1 ≤ 9223372036854775807) = true := decide_eq_true c23
                                        try have c23b2 : (9223372036854775807 < x5_1.size + 1) = False := eq_false (Nat.not_lt.2 c23)
                                        have H' := Aside0.mk H
                                        clear H
                                        go_wp2
                                        go_meet
                                        case rel => exact ⟨_, (x5_1 ++ (⟨#[32]⟩ : ByteArray)), (by first | rfl | (simp; done) | (simp [*]; done)), H', ⟨by have := HK1.out; have := HJ4.out; have := HK3.out; have := HK4.out; first | omega | exact Nat.le_refl _⟩, ⟨by (with_reducible repeat (first | apply Kd.R_alloc | apply Kd.R_drewN | apply Kd.R_drew)); exact HO_4.out⟩, ⟨by repeat (first | (with_reducible first | exact HB.out | apply below_alloc | apply pw_below_drewN | apply below_drew1) | exact HB.out)⟩⟩
                                      · rw [if_neg c23] at H
                                        exact absurd H (by simp)
                                    · rw [if_neg c22] at H
                                      have c22b0 : decide (0 < x6_1) = false := decide_eq_false c22
                                      clear c22
                                      (first | rw [c22b0] | (simp only [i64_w, i32_w]; rw [c22b0]) | skip)
                                      have H' := Aside0.mk H
                                      clear H
                                      go_wp2
                                      go_meet
                                      case rel => exact ⟨_, (x5_1), (by first | rfl | (simp; done) | (simp [*]; done)), H', ⟨by have := HK1.out; have := HJ4.out; have := HK3.out; have := HK4.out; first | omega | exact Nat.le_refl _⟩, ⟨by (with_reducible repeat (first | apply Kd.R_alloc | apply Kd.R_drewN | apply Kd.R_drew)); exact HO_4.out⟩, ⟨by repeat (first | (with_reducible first | exact HB.out | apply below_alloc | apply pw_below_drewN | apply below_drew1) | exact HB.out)⟩⟩
                                  case rest =>
                                    clear HC21
                                    try clear c1
                                    try clear c2
                                    try clear p2
                                    try clear c3
                                    try clear p3
                                    try clear q3
                                    try clear hx3
                                    try clear c4
                                    try clear c4b0
                                    try clear c6
                                    try clear c6b0
                                    try clear p6
                                    try clear c7
                                    try clear c7b0
                                    try clear c8
                                    try clear c9
                                    try clear c9b0
                                    try clear c10
                                    try clear c10b0
                                    try clear c11
                                    try clear c11b0
                                    try clear c12
                                    try clear c12b0
                                    try clear c14
                                    try clear c15
                                    try clear c15b0
                                    try clear c16
                                    try clear c16b0
                                    try clear c17
                                    try clear c17b0
                                    try clear c18
                                    try clear c18b0
                                    try clear c20
                                    try clear c22
                                    try clear c22b0
                                    try clear c23
                                    try clear c23b0
                                    try clear c23b1
                                    try clear c23b2
                                    try clear hx368_0
                                    try clear hx368_1
                                    try clear hx368_2
                                    try clear hx369_0
                                    try clear hx369_1
                                    try clear hx369_2
                                    try clear hx370_0
                                    try clear hx370_1
                                    try clear hx370_2
                                    try clear hx371_0
                                    try clear hx371_1
                                    try clear hx371_2
                                    try clear hx372_0
                                    try clear hx374_0
                                    try clear hx374_1
                                    try clear hx374_2
                                    try clear hx375_0
                                    try clear hx375_1
                                    try clear hx375_2
                                    try clear hx376_0
                                    try clear p2
                                    try clear p3
                                    try clear p368
                                    try clear p369
                                    try clear p370
                                    try clear p371
                                    try clear p372
                                    try clear p374
                                    try clear p375
                                    try clear p376
                                    try clear p6
                                    try clear q3
                                    try clear q368
                                    try clear q369
                                    try clear q370
                                    try clear q371
                                    try clear q372
                                    try clear q374
                                    try clear q375
                                    try clear q376
                                    obtain ⟨kq, x5_20, rfl, HA, HJ20, HO_4, HB⟩ := hcut
                                    cases kq with
                                    | zero => exact absurd HA.out (by simp [umlautref5_Text.j4])
                                    | succ kj20 =>
                                      have H := HA.out
                                      clear HA
                                      simp only [umlautref5_Text.j4] at H
                                      by_cases c24 : 0 ≤ x6_1
                                      · rw [if_pos c24] at H
                                        have c24b0 : decide (0 ≤ x6_1) = true := decide_eq_true c24
                                        clear c24
                                        by_cases c25 : x6_1 < (l0.length : Int)
                                        · rw [if_pos c25] at H
                                          have c25b0 : decide (x6_1 < (l0.length : Int)) = true := decide_eq_true c25
                                          clear c25
                                          obtain ⟨ji26, hji26⟩ : ∃ j_ : Int, (wrap64 (((rd_T57 l0 x6_1).f0) - 1)) = j_ := ⟨_, rfl⟩
                                          replace H : (if 0 ≤ (ji26) then (if (ji26) < (y358.length : Int) then (if x5_20.size + (rdOf ByteArray.empty y358 (ji26)).size ≤ 9223372036854775807 then (if (x5_20 ++ (rdOf ByteArray.empty y358 (ji26))).size + 1 ≤ 9223372036854775807 then ((umlautref5_word.f kj20 ((rd_T57 l0 x6_1).f1)).bind fun t381 => (if ((x5_20 ++ (rdOf ByteArray.empty y358 (ji26))) ++ (⟨#[32]⟩ : ByteArray)).size + t381.size ≤ 9223372036854775807 then (if (((rd_T57 l0 x6_1).f2).length : Int) > 0 then (if (((x5_20 ++ (rdOf ByteArray.empty y358 (ji26))) ++ (⟨#[32]⟩ : ByteArray)) ++ t381).size + 3 ≤ 9223372036854775807 then ((umlautref5_word.f kj20 ((rd_T57 l0 x6_1).f2)).bind fun t384 => (if ((((x5_20 ++ (rdOf ByteArray.empty y358 (ji26))) ++ (⟨#[32]⟩ : ByteArray)) ++ t381) ++ (⟨#[32, 47, 32]⟩ : ByteArray)).size + t384.size ≤ 9223372036854775807 then (umlautref5_Text.l0 kj20 l0 y358 (((((x5_20 ++ (rdOf ByteArray.empty y358 (ji26))) ++ (⟨#[32]⟩ : ByteArray)) ++ t381) ++ (⟨#[32, 47, 32]⟩ : ByteArray)) ++ t384) (wrap64 (x6_1 + 1))) else (none))) else (none)) else (umlautref5_Text.l0 kj20 l0 y358 (((x5_20 ++ (rdOf ByteArray.empty y358 (ji26))) ++ (⟨#[32]⟩ : ByteArray)) ++ t381) (wrap64 (x6_1 + 1)))) else (none))) else (none)) else (none)) else (none)) else (none)) = some (r1, r2) := by first | (rw [hji26] at H; exact H) | (simp only [hji26] at H ⊢; exact H)
                                          have hji26w : (IntKind.i64.wrap (((rd_T57 l0 x6_1).f0) - 1)) = ji26 := (i64_w _).trans hji26
                                          by_cases c27 : 0 ≤ (ji26)
                                          · rw [if_pos c27] at H
                                            have c27b0 : decide (0 ≤ (ji26)) = true := decide_eq_true c27
                                            clear c27
                                            by_cases c28 : (ji26) < (y358.length : Int)
                                            · rw [if_pos c28] at H
                                              have c28b0 : decide ((ji26) < (y358.length : Int)) = true := decide_eq_true c28
                                              clear c28
                                              by_cases c29 : x5_20.size + (rdOf ByteArray.empty y358 (ji26)).size ≤ 9223372036854775807
                                              · rw [if_pos c29] at H
                                                have c29b0 := eq_true c29
                                                have c29b1 : decide (x5_20.size + (rdOf ByteArray.empty y358 (ji26)).size ≤ 9223372036854775807) = true := decide_eq_true c29
                                                try have c29b2 : (9223372036854775807 < x5_20.size + (rdOf ByteArray.empty y358 (ji26)).size) = False := eq_false (Nat.not_lt.2 c29)
                                                by_cases c30 : (x5_20 ++ (rdOf ByteArray.empty y358 (ji26))).size + 1 ≤ 9223372036854775807
                                                · rw [if_pos c30] at H
                                                  have c30b0 := eq_true c30
                                                  have c30b1 : decide ((x5_20 ++ (rdOf ByteArray.empty y358 (ji26))).size + 1 ≤ 9223372036854775807) = true := decide_eq_true c30
                                                  try have c30b2 : (9223372036854775807 < (x5_20 ++ (rdOf ByteArray.empty y358 (ji26))).size + 1) = False := eq_false (Nat.not_lt.2 c30)
                                                  have c30b9 := c30b2
                                                  try simp only [ByteArray.size_append, show (⟨#[92]⟩ : ByteArray).size = 1 from rfl, show (⟨#[32]⟩ : ByteArray).size = 1 from rfl, show (⟨#[32, 47, 32]⟩ : ByteArray).size = 3 from rfl] at c30b9
                                                  replace H := Option.bind_eq_some_iff.mp H
                                                  obtain ⟨t381, A310, H⟩ := H
                                                  replace H : (if ((x5_20 ++ (rdOf ByteArray.empty y358 (ji26))) ++ (⟨#[32]⟩ : ByteArray)).size + t381.size ≤ 9223372036854775807 then (if (((rd_T57 l0 x6_1).f2).length : Int) > 0 then (if (((x5_20 ++ (rdOf ByteArray.empty y358 (ji26))) ++ (⟨#[32]⟩ : ByteArray)) ++ t381).size + 3 ≤ 9223372036854775807 then ((umlautref5_word.f kj20 ((rd_T57 l0 x6_1).f2)).bind fun t384 => (if ((((x5_20 ++ (rdOf ByteArray.empty y358 (ji26))) ++ (⟨#[32]⟩ : ByteArray)) ++ t381) ++ (⟨#[32, 47, 32]⟩ : ByteArray)).size + t384.size ≤ 9223372036854775807 then (umlautref5_Text.l0 kj20 l0 y358 (((((x5_20 ++ (rdOf ByteArray.empty y358 (ji26))) ++ (⟨#[32]⟩ : ByteArray)) ++ t381) ++ (⟨#[32, 47, 32]⟩ : ByteArray)) ++ t384) (wrap64 (x6_1 + 1))) else (none))) else (none)) else (umlautref5_Text.l0 kj20 l0 y358 (((x5_20 ++ (rdOf ByteArray.empty y358 (ji26))) ++ (⟨#[32]⟩ : ByteArray)) ++ t381) (wrap64 (x6_1 + 1)))) else (none)) = some (r1, r2) := H
                                                  have A31 := Aside0.mk A310
                                                  clear A310
                                                  by_cases c32 : ((x5_20 ++ (rdOf ByteArray.empty y358 (ji26))) ++ (⟨#[32]⟩ : ByteArray)).size + t381.size ≤ 9223372036854775807
                                                  · rw [if_pos c32] at H
                                                    have c32b0 := eq_true c32
                                                    have c32b1 : decide (((x5_20 ++ (rdOf ByteArray.empty y358 (ji26))) ++ (⟨#[32]⟩ : ByteArray)).size + t381.size ≤ 9223372036854775807) = true := decide_eq_true c32
                                                    try have c32b2 : (9223372036854775807 < ((x5_20 ++ (rdOf ByteArray.empty y358 (ji26))) ++ (⟨#[32]⟩ : ByteArray)).size + t381.size) = False := eq_false (Nat.not_lt.2 c32)
                                                    have c32b9 := c32b2
                                                    try simp only [ByteArray.size_append, show (⟨#[92]⟩ : ByteArray).size = 1 from rfl, show (⟨#[32]⟩ : ByteArray).size = 1 from rfl, show (⟨#[32, 47, 32]⟩ : ByteArray).size = 3 from rfl] at c32b9
                                                    by_cases c33 : (((rd_T57 l0 x6_1).f2).length : Int) > 0
                                                    · rw [if_pos c33] at H
                                                      have c33b0 : decide (0 < (((rd_T57 l0 x6_1).f2).length : Int)) = true := decide_eq_true c33
                                                      have c33b1 : decide (0 < ((rd_T57 l0 x6_1).f2).length) = true := decide_eq_true (by omega)
                                                      clear c33
                                                      by_cases c34 : (((x5_20 ++ (rdOf ByteArray.empty y358 (ji26))) ++ (⟨#[32]⟩ : ByteArray)) ++ t381).size + 3 ≤ 9223372036854775807
                                                      · rw [if_pos c34] at H
                                                        have c34b0 := eq_true c34
                                                        have c34b1 : decide ((((x5_20 ++ (rdOf ByteArray.empty y358 (ji26))) ++ (⟨#[32]⟩ : ByteArray)) ++ t381).size + 3 ≤ 9223372036854775807) = true := decide_eq_true c34
                                                        try have c34b2 : (9223372036854775807 < (((x5_20 ++ (rdOf ByteArray.empty y358 (ji26))) ++ (⟨#[32]⟩ : ByteArray)) ++ t381).size + 3) = False := eq_false (Nat.not_lt.2 c34)
                                                        have c34b9 := c34b2
                                                        try simp only [ByteArray.size_append, show (⟨#[92]⟩ : ByteArray).size = 1 from rfl, show (⟨#[32]⟩ : ByteArray).size = 1 from rfl, show (⟨#[32, 47, 32]⟩ : ByteArray).size = 3 from rfl] at c34b9
                                                        replace H := Option.bind_eq_some_iff.mp H
                                                        obtain ⟨t384, A350, H⟩ := H
                                                        replace H : (if ((((x5_20 ++ (rdOf ByteArray.empty y358 (ji26))) ++ (⟨#[32]⟩ : ByteArray)) ++ t381) ++ (⟨#[32, 47, 32]⟩ : ByteArray)).size + t384.size ≤ 9223372036854775807 then (umlautref5_Text.l0 kj20 l0 y358 (((((x5_20 ++ (rdOf ByteArray.empty y358 (ji26))) ++ (⟨#[32]⟩ : ByteArray)) ++ t381) ++ (⟨#[32, 47, 32]⟩ : ByteArray)) ++ t384) (wrap64 (x6_1 + 1))) else (none)) = some (r1, r2) := H
                                                        have A35 := Aside0.mk A350
                                                        clear A350
                                                        by_cases c36 : ((((x5_20 ++ (rdOf ByteArray.empty y358 (ji26))) ++ (⟨#[32]⟩ : ByteArray)) ++ t381) ++ (⟨#[32, 47, 32]⟩ : ByteArray)).size + t384.size ≤ 9223372036854775807
                                                        · rw [if_pos c36] at H
                                                          have c36b0 := eq_true c36
                                                          have c36b1 : decide (((((x5_20 ++ (rdOf ByteArray.empty y358 (ji26))) ++ (⟨#[32]⟩ : ByteArray)) ++ t381) ++ (⟨#[32, 47, 32]⟩ : ByteArray)).size + t384.size ≤ 9223372036854775807) = true := decide_eq_true c36
                                                          try have c36b2 : (9223372036854775807 < ((((x5_20 ++ (rdOf ByteArray.empty y358 (ji26))) ++ (⟨#[32]⟩ : ByteArray)) ++ t381) ++ (⟨#[32, 47, 32]⟩ : ByteArray)).size + t384.size) = False := eq_false (Nat.not_lt.2 c36)
                                                          have c36b9 := c36b2
                                                          try simp only [ByteArray.size_append, show (⟨#[92]⟩ : ByteArray).size = 1 from rfl, show (⟨#[32]⟩ : ByteArray).size = 1 from rfl, show (⟨#[32, 47, 32]⟩ : ByteArray).size = 3 from rfl] at c36b9
                                                          have H' := Aside0.mk H
                                                          clear H
                                                          try go_wp2
                                                          have n0_ := Aside0.mk (Kd.R_drew HO_4.out)
                                                          have n1_ := Aside0.mk (below_drew1 HB.out)
                                                          clear HO_4
                                                          clear HB
                                                          have HO_4 := n0_
                                                          have HB := n1_
                                                          clear n0_ n1_
                                                          have p378 : 0 ≤ (x6_1 : Int) := of_decide_eq_true (by first | (with_reducible assumption) | assumption)
                                                          have q378 : x6_1 < (l0.length : Int) := of_decide_eq_true (by first | (with_reducible assumption) | assumption)
                                                          obtain ⟨ad378, A378_1, c378_1, A378_2, c378_2, e378, hx378_0, hx378_1, hx378_2, hl378_1, hi378_1, hl378_2, hi378_2⟩ := at_T57 HR0.out x6_1 p378 q378
                                                          have hw378_2 := hx378_2
                                                          have hw378_1 := hx378_1
                                                          have hw378_0 := hx378_0
                                                          obtain rfl : ad370 = ad378 := (by injection e378)
                                                          replace hx378_0 := (HB.out.cell (World.block_lt_of_cell? w _ hx378_0)).trans hx378_0
                                                          replace hx378_1 := (HB.out.cell (World.block_lt_of_cell? w _ hx378_1)).trans hx378_1
                                                          replace hx378_2 := (HB.out.cell (World.block_lt_of_cell? w _ hx378_2)).trans hx378_2
                                                          have HR378_1 := Aside0.mk hi378_1
                                                          have HC378_1 := Aside0.mk hl378_1
                                                          clear hi378_1 hl378_1
                                                          have HR378_2 := Aside0.mk hi378_2
                                                          have HC378_2 := Aside0.mk hl378_2
                                                          clear hi378_2 hl378_2
                                                          replace p378 := eq_true p378
                                                          replace q378 := eq_true q378
                                                          obtain ⟨Ao38, co38, eo38⟩ := Kd.R_slice HO_4.out
                                                          (first | subst eo38 | (injection eo38 with f1_ f2_ f3_; have f4_ := f1_.symm; have f5_ := f3_.symm; clear f1_ f2_ f3_; subst f4_; subst f5_))
                                                          have p379 : 0 ≤ ((ji26) : Int) := of_decide_eq_true (by first | (with_reducible assumption) | assumption)
                                                          have q379 : (ji26) < (y358.length : Int) := of_decide_eq_true (by first | (with_reducible assumption) | assumption)
                                                          obtain ⟨ad379, e379, hx379_0⟩ := Kd.at_string (Kd.R_reads' HO_4.out).2.2 (ji26) p379 q379
                                                          cases e379
                                                          replace p379 := eq_true p379
                                                          replace q379 := eq_true q379
                                                          have p380 : 0 ≤ (x6_1 : Int) := of_decide_eq_true (by first | (with_reducible assumption) | assumption)
                                                          have q380 : x6_1 < (l0.length : Int) := of_decide_eq_true (by first | (with_reducible assumption) | assumption)
                                                          obtain ⟨ad380, A380_1, c380_1, A380_2, c380_2, e380, hx380_0, hx380_1, hx380_2, hl380_1, hi380_1, hl380_2, hi380_2⟩ := at_T57 HR0.out x6_1 p380 q380
                                                          have hw380_2 := hx380_2
                                                          have hw380_1 := hx380_1
                                                          have hw380_0 := hx380_0
                                                          obtain rfl : ad370 = ad380 := (by injection e380)
                                                          replace hx380_0 := (HB.out.cell (World.block_lt_of_cell? w _ hx380_0)).trans hx380_0
                                                          replace hx380_1 := (HB.out.cell (World.block_lt_of_cell? w _ hx380_1)).trans hx380_1
                                                          replace hx380_2 := (HB.out.cell (World.block_lt_of_cell? w _ hx380_2)).trans hx380_2
                                                          have HR380_1 := Aside0.mk hi380_1
                                                          have HC380_1 := Aside0.mk hl380_1
                                                          clear hi380_1 hl380_1
                                                          have HR380_2 := Aside0.mk hi380_2
                                                          have HC380_2 := Aside0.mk hl380_2
                                                          clear hi380_2 hl380_2
                                                          replace p380 := eq_true p380
                                                          replace q380 := eq_true q380
                                                          have ea_ := Option.some.inj (hx378_1.symm.trans hx380_1)
                                                          injection ea_ with ea_ en_ ec_
                                                          subst ea_
                                                          subst ec_
                                                          clear en_
                                                          have ea_ := Option.some.inj (hx378_2.symm.trans hx380_2)
                                                          injection ea_ with ea_ en_ ec_
                                                          subst ea_
                                                          subst ec_
                                                          clear en_
                                                          refine start_ (n := 20) (S := fun w' => w'.cell? (ad370.add ((x6_1).toNat * 3)) = some (.int .i64 ((rd_T57 l0 x6_1).f0)) ∧ w'.cell? ⟨(ad370.add ((x6_1).toNat * 3)).block, (ad370.add ((x6_1).toNat * 3)).off + 1, none⟩ = some (.slice A378_1 ((rd_T57 l0 x6_1).f1).length c378_1) ∧ w'.cell? ⟨(ad370.add ((x6_1).toNat * 3)).block, (ad370.add ((x6_1).toNat * 3)).off + 2, none⟩ = some (.slice A378_2 ((rd_T57 l0 x6_1).f2).length c378_2) ∧ w'.cell? (ad379.add ((ji26)).toNat) = some (.string (rdOf ByteArray.empty y358 (ji26))) ∧ w'.cell? (ad370.add ((x6_1).toNat * 3)) = some (.int .i64 ((rd_T57 l0 x6_1).f0)) ∧ w'.cell? ⟨(ad370.add ((x6_1).toNat * 3)).block, (ad370.add ((x6_1).toNat * 3)).off + 1, none⟩ = some (.slice A378_1 ((rd_T57 l0 x6_1).f1).length c378_1) ∧ w'.cell? ⟨(ad370.add ((x6_1).toNat * 3)).block, (ad370.add ((x6_1).toNat * 3)).off + 2, none⟩ = some (.slice A378_2 ((rd_T57 l0 x6_1).f2).length c378_2)) (ds := []) #[false, false, false, false, false, false, false, false, false, false, false, false, false, false, false, false, false, false, false, false] (by kernel_rfl) rfl rfl ⟨((HB.out.cell (World.block_lt_of_cell? w _ hw378_0)).trans hw378_0), ((HB.out.cell (World.block_lt_of_cell? w _ hw378_1)).trans hw378_1), ((HB.out.cell (World.block_lt_of_cell? w _ hw378_2)).trans hw378_2), hx379_0, ((HB.out.cell (World.block_lt_of_cell? w _ hw380_0)).trans hw380_0), ((HB.out.cell (World.block_lt_of_cell? w _ hw380_1)).trans hw380_1), ((HB.out.cell (World.block_lt_of_cell? w _ hw380_2)).trans hw380_2)⟩ (fun hHeld => ?_); refine with_tabW umlautref5_Text.tab20 umlautref5_Text.bits20 (fun HT_ HW_ => ?_)
                                                          generalize wc.drew = w37 at HO_4 HB HR378_1 HR378_2 HR380_1 HR380_2 hx378_0 hx378_1 hx378_2 hx379_0 hx380_0 hx380_1 hx380_2 hHeld ⊢
                                                          refine pure_ (i := 0) (N := some 75) (v := ?_) (a' := ?_) #[true, false, false, false, false, false, false, false, false, false, false, false, false, false, false, false, false, false, false, false] rfl rfl (any_of HT_.out (by kernel_rfl)) (fun _ _ _ h => h) (Or.inl ⟨by rfl, ?_⟩) ?_ ?_
                                                          rotate_left
                                                          · intro w'
                                                            go_simp
                                                            with_reducible rfl
                                                          rotate_left
                                                          · simp only [Act.put, List.setIfInBounds_toArray, List.set_cons_zero, List.set_cons_succ, i64_w, i32_w]
                                                            rfl
                                                          refine pure_ (i := 1) (N := some 76) (v := ?_) (a' := ?_) #[true, true, false, false, false, false, false, false, false, false, false, false, false, false, false, false, false, false, false, false] rfl rfl (any_of HT_.out (by kernel_rfl)) (fun _ _ _ h => h) (Or.inl ⟨by rfl, ?_⟩) ?_ ?_
                                                          rotate_left
                                                          · intro w'
                                                            go_simp
                                                            with_reducible rfl
                                                          rotate_left
                                                          · simp only [Act.put, List.setIfInBounds_toArray, List.set_cons_zero, List.set_cons_succ, i64_w, i32_w]
                                                            rfl
                                                          refine pure_ (i := 2) (N := some 77) (v := ?_) (a' := ?_) #[true, true, true, false, false, false, false, false, false, false, false, false, false, false, false, false, false, false, false, false] rfl rfl (any_of HT_.out (by kernel_rfl)) (fun _ _ _ h => h) (Or.inl ⟨by rfl, ?_⟩) ?_ ?_
                                                          rotate_left
                                                          · intro w'
                                                            go_simp
                                                            with_reducible rfl
                                                          rotate_left
                                                          · simp only [Act.put, List.setIfInBounds_toArray, List.set_cons_zero, List.set_cons_succ, i64_w, i32_w]
                                                            rfl
                                                          refine pure_ (i := 3) (N := some 78) (v := ?_) (a' := ?_) #[true, true, true, true, false, false, false, false, false, false, false, false, false, false, false, false, false, false, false, false] rfl rfl (any_of HT_.out (by kernel_rfl)) (fun _ _ _ h => h) (Or.inl ⟨by rfl, ?_⟩) ?_ ?_
                                                          rotate_left
                                                          · intro w'
                                                            go_simp
                                                            with_reducible rfl
                                                          rotate_left
                                                          · simp only [Act.put, List.setIfInBounds_toArray, List.set_cons_zero, List.set_cons_succ, i64_w, i32_w]
                                                            rfl
                                                          refine pure_ (i := 4) (N := some 79) (v := ?_) (a' := ?_) #[true, true, true, true, true, false, false, false, false, false, false, false, false, false, false, false, false, false, false, false] rfl rfl (any_of HT_.out (by kernel_rfl)) (fun _ _ _ h => h) (Or.inl ⟨by rfl, ?_⟩) ?_ ?_
                                                          rotate_left
                                                          · intro w'
                                                            go_simp
                                                            with_reducible rfl
                                                          rotate_left
                                                          · simp only [Act.put, List.setIfInBounds_toArray, List.set_cons_zero, List.set_cons_succ, i64_w, i32_w]
                                                            rfl
                                                          refine pure_ (i := 5) (N := some 80) (v := ?_) (a' := ?_) #[true, true, true, true, true, true, false, false, false, false, false, false, false, false, false, false, false, false, false, false] rfl rfl (any_of HT_.out (by kernel_rfl)) (fun _ _ _ h => h) (Or.inl ⟨by rfl, ?_⟩) ?_ ?_
                                                          rotate_left
                                                          · intro w'
                                                            go_simp
                                                            with_reducible rfl
                                                          rotate_left
                                                          · simp only [Act.put, List.setIfInBounds_toArray, List.set_cons_zero, List.set_cons_succ, i64_w, i32_w]
                                                            rfl
                                                          refine pure_ (i := 12) (N := some 87) (v := ?_) (a' := ?_) #[true, true, true, true, true, true, false, false, false, false, false, false, true, false, false, false, false, false, false, false] rfl rfl (any_of HT_.out (by kernel_rfl)) (fun _ _ _ h => h) (Or.inl ⟨by rfl, ?_⟩) ?_ ?_
                                                          rotate_left
                                                          · intro w'
                                                            go_simp
                                                            with_reducible rfl
                                                          rotate_left
                                                          · simp only [Act.put, List.setIfInBounds_toArray, List.set_cons_zero, List.set_cons_succ, i64_w, i32_w]
                                                            rfl
                                                          refine pure_ (i := 13) (N := some 88) (v := ?_) (a' := ?_) #[true, true, true, true, true, true, false, false, false, false, false, false, true, true, false, false, false, false, false, false] rfl rfl (any_of HT_.out (by kernel_rfl)) (fun _ _ _ h => h) (Or.inl ⟨by rfl, ?_⟩) ?_ ?_
                                                          rotate_left
                                                          · intro w'
                                                            go_simp
                                                            with_reducible rfl
                                                          rotate_left
                                                          · simp only [Act.put, List.setIfInBounds_toArray, List.set_cons_zero, List.set_cons_succ, i64_w, i32_w]
                                                            rfl
                                                          refine pure_ (i := 14) (N := some 89) (v := ?_) (a' := ?_) #[true, true, true, true, true, true, false, false, false, false, false, false, true, true, true, false, false, false, false, false] rfl rfl (any_of HT_.out (by kernel_rfl)) (fun _ _ _ h => h) (Or.inl ⟨by rfl, ?_⟩) ?_ ?_
                                                          rotate_left
                                                          · intro w'
                                                            go_simp
                                                            with_reducible rfl
                                                          rotate_left
                                                          · simp only [Act.put, List.setIfInBounds_toArray, List.set_cons_zero, List.set_cons_succ, i64_w, i32_w]
                                                            rfl
                                                          refine pure_ (i := 15) (N := some 90) (v := ?_) (a' := ?_) #[true, true, true, true, true, true, false, false, false, false, false, false, true, true, true, true, false, false, false, false] rfl rfl (any_of HT_.out (by kernel_rfl)) (fun _ _ _ h => h) (Or.inl ⟨by rfl, ?_⟩) ?_ ?_
                                                          rotate_left
                                                          · intro w'
                                                            go_simp
                                                            with_reducible rfl
                                                          rotate_left
                                                          · simp only [Act.put, List.setIfInBounds_toArray, List.set_cons_zero, List.set_cons_succ, i64_w, i32_w]
                                                            rfl
                                                          refine take_ (i := 6) (N := some 81) (v := ?_) (a' := ?_) #[true, true, true, true, true, true, true, false, false, false, false, false, true, true, true, true, false, false, false, false] rfl rfl (take_ofW HT_.out HW_.out (by kernel_rfl)) (fun _ _ _ h => h) (Or.inl ⟨by rfl, ?_⟩) hHeld ?_ ?_
                                                          rotate_left
                                                          · rintro w' ⟨s0, s1, s2, s3, s4, s5, s6⟩
                                                            go_simp
                                                            with_reducible rfl
                                                          rotate_left
                                                          · simp only [Act.put, List.setIfInBounds_toArray, List.set_cons_zero, List.set_cons_succ, i64_w, i32_w]
                                                            rfl
                                                          refine pure_ (i := 7) (N := some 82) (v := ?_) (a' := ?_) #[true, true, true, true, true, true, true, true, false, false, false, false, true, true, true, true, false, false, false, false] rfl rfl (any_of HT_.out (by kernel_rfl)) (fun _ _ _ h => h) (Or.inl ⟨by rfl, ?_⟩) ?_ ?_
                                                          rotate_left
                                                          · intro w'
                                                            go_simp
                                                            with_reducible rfl
                                                          rotate_left
                                                          · simp only [Act.put, List.setIfInBounds_toArray, List.set_cons_zero, List.set_cons_succ, i64_w, i32_w]
                                                            rfl
                                                          refine pure_ (i := 8) (N := some 83) (v := ?_) (a' := ?_) #[true, true, true, true, true, true, true, true, true, false, false, false, true, true, true, true, false, false, false, false] rfl rfl (any_of HT_.out (by kernel_rfl)) (fun _ _ _ h => h) (Or.inl ⟨by rfl, ?_⟩) ?_ ?_
                                                          rotate_left
                                                          · intro w'
                                                            go_simp
                                                            with_reducible rfl
                                                          rotate_left
                                                          · simp only [Act.put, List.setIfInBounds_toArray, List.set_cons_zero, List.set_cons_succ, i64_w, i32_w]
                                                            rfl
                                                          refine take_ (i := 9) (N := some 84) (v := ?_) (a' := ?_) #[true, true, true, true, true, true, true, true, true, true, false, false, true, true, true, true, false, false, false, false] rfl rfl (take_ofW HT_.out HW_.out (by kernel_rfl)) (fun _ _ _ h => h) (Or.inl ⟨by rfl, ?_⟩) hHeld ?_ ?_
                                                          rotate_left
                                                          · rintro w' ⟨s0, s1, s2, s3, s4, s5, s6⟩
                                                            go_simp
                                                            with_reducible rfl
                                                          rotate_left
                                                          · simp only [Act.put, List.setIfInBounds_toArray, List.set_cons_zero, List.set_cons_succ, i64_w, i32_w]
                                                            rfl
                                                          refine pure_ (i := 10) (N := some 85) (v := ?_) (a' := ?_) #[true, true, true, true, true, true, true, true, true, true, true, false, true, true, true, true, false, false, false, false] rfl rfl (any_of HT_.out (by kernel_rfl)) (fun _ _ _ h => h) (Or.inl ⟨by rfl, ?_⟩) ?_ ?_
                                                          rotate_left
                                                          · intro w'
                                                            go_simp
                                                            with_reducible rfl
                                                          rotate_left
                                                          · simp only [Act.put, List.setIfInBounds_toArray, List.set_cons_zero, List.set_cons_succ, i64_w, i32_w]
                                                            rfl
                                                          refine pure_ (i := 11) (N := some 86) (v := ?_) (a' := ?_) #[true, true, true, true, true, true, true, true, true, true, true, true, true, true, true, true, false, false, false, false] rfl rfl (any_of HT_.out (by kernel_rfl)) (fun _ _ _ h => h) (Or.inl ⟨by rfl, ?_⟩) ?_ ?_
                                                          rotate_left
                                                          · intro w'
                                                            go_simp
                                                            with_reducible rfl
                                                          rotate_left
                                                          · simp only [Act.put, List.setIfInBounds_toArray, List.set_cons_zero, List.set_cons_succ, i64_w, i32_w]
                                                            rfl
                                                          refine take_ (i := 16) (N := some 91) (v := ?_) (a' := ?_) #[true, true, true, true, true, true, true, true, true, true, true, true, true, true, true, true, true, false, false, false] rfl rfl (take_ofW HT_.out HW_.out (by kernel_rfl)) (fun _ _ _ h => h) (Or.inl ⟨by rfl, ?_⟩) hHeld ?_ ?_
                                                          rotate_left
                                                          · rintro w' ⟨s0, s1, s2, s3, s4, s5, s6⟩
                                                            go_simp
                                                            with_reducible rfl
                                                          rotate_left
                                                          · simp only [Act.put, List.setIfInBounds_toArray, List.set_cons_zero, List.set_cons_succ, i64_w, i32_w]
                                                            rfl
                                                          refine one_ (i := 17) (N := some 92) #[true, true, true, true, true, true, true, true, true, true, true, true, true, true, true, true, true, true, false, false] rfl rfl (one_of HT_.out (by kernel_rfl)) (by decide) (fun K hK => ?_)
                                                          refine goes_ Tryd.func62 (by kernel_rfl) rfl #[.slice A378_1 ((rd_T57 l0 x6_1).f1).length c378_1] (by rfl) rfl rfl (by (try simp only [List.map_toArray, List.map_cons, List.map_nil]); first | done | rfl | (simp only [List.length_drop, List.length_take]; rfl)) ?_
                                                          with_reducible refine (umlautref5_word.calls kj20 _ _ ((rd_T57 l0 x6_1).f1) t381 _ ?side1 ?side2 A31.out).mono ?_
                                                          (case side1 => repeat (first | exact (Kd.C_below HR380_1.out HB.out) | (with_reducible refine Kd.C_alloc ?_ _) | (with_reducible refine Kd.C_drewN ?_ _) | (with_reducible refine Kd.C_drew ?_)))
                                                          (case side2 => exact HC380_1.out)
                                                          rintro e w39 ⟨rfl, hb⟩
                                                          have HS3_ := (hb.cell (World.block_lt_of_cell? _ _ (hHeld.2.2.2.1))).trans (hHeld.2.2.2.1)
                                                          refine ⟨_, rfl, ?_⟩
                                                          have n0_ := Aside0.mk (Kd.R_below (by (with_reducible repeat (first | apply Kd.R_alloc | apply Kd.R_drewN | apply Kd.R_drew)); exact HO_4.out) hb)
                                                          have n1_ := Aside0.mk (below_step (by repeat (first | (with_reducible first | exact HB.out | apply below_alloc | apply pw_below_drewN | apply below_drew1) | exact HB.out)) hb)
                                                          clear HO_4
                                                          clear HB
                                                          have HO_4 := n0_
                                                          have HB := n1_
                                                          clear n0_ n1_
                                                          (try clear hb)
                                                          (try clear hb2)
                                                          (try clear hk)
                                                          (try clear hi)
                                                          refine hK.out _ _ ⟨((HB.out.cell (World.block_lt_of_cell? w _ hw378_0)).trans hw378_0), ((HB.out.cell (World.block_lt_of_cell? w _ hw378_1)).trans hw378_1), ((HB.out.cell (World.block_lt_of_cell? w _ hw378_2)).trans hw378_2), HS3_, ((HB.out.cell (World.block_lt_of_cell? w _ hw380_0)).trans hw380_0), ((HB.out.cell (World.block_lt_of_cell? w _ hw380_1)).trans hw380_1), ((HB.out.cell (World.block_lt_of_cell? w _ hw380_2)).trans hw380_2)⟩ (fun hHeld => ?_)
                                                          clear hK K
                                                          refine norm_ (a' := ?_) ?_ ?_
                                                          rotate_left
                                                          · show Act.put _ (some 92) _ = _
                                                            simp only [Act.put, List.setIfInBounds_toArray, List.set_cons_zero, List.set_cons_succ, i64_w, i32_w]
                                                            rfl
                                                          refine pure_ (i := 18) (N := some 93) (v := ?_) (a' := ?_) #[true, true, true, true, true, true, true, true, true, true, true, true, true, true, true, true, true, true, true, false] rfl rfl (any_of HT_.out (by kernel_rfl)) (fun _ _ _ h => h) (Or.inl ⟨by rfl, ?_⟩) ?_ ?_
                                                          rotate_left
                                                          · intro w'
                                                            go_simp
                                                            with_reducible rfl
                                                          rotate_left
                                                          · simp only [Act.put, List.setIfInBounds_toArray, List.set_cons_zero, List.set_cons_succ, i64_w, i32_w]
                                                            rfl
                                                          refine pure_ (i := 19) (N := some 5) (v := ?_) (a' := ?_) #[true, true, true, true, true, true, true, true, true, true, true, true, true, true, true, true, true, true, true, true] rfl rfl (any_of HT_.out (by kernel_rfl)) (fun _ _ _ h => h) (Or.inl ⟨by rfl, ?_⟩) ?_ ?_
                                                          rotate_left
                                                          · intro w'
                                                            go_simp
                                                            with_reducible rfl
                                                          rotate_left
                                                          · simp only [Act.put, List.setIfInBounds_toArray, List.set_cons_zero, List.set_cons_succ, i64_w, i32_w]
                                                            rfl
                                                          refine done_ (done_of HT_.out (by kernel_rfl)) ?_
                                                          have p382 : 0 ≤ (x6_1 : Int) := of_decide_eq_true (by first | (with_reducible assumption) | assumption)
                                                          have q382 : x6_1 < (l0.length : Int) := of_decide_eq_true (by first | (with_reducible assumption) | assumption)
                                                          obtain ⟨ad382, A382_1, c382_1, A382_2, c382_2, e382, hx382_0, hx382_1, hx382_2, hl382_1, hi382_1, hl382_2, hi382_2⟩ := at_T57 HR0.out x6_1 p382 q382
                                                          obtain rfl : ad370 = ad382 := (by injection e382)
                                                          replace hx382_0 := (HB.out.cell (World.block_lt_of_cell? w _ hx382_0)).trans hx382_0
                                                          replace hx382_1 := (HB.out.cell (World.block_lt_of_cell? w _ hx382_1)).trans hx382_1
                                                          replace hx382_2 := (HB.out.cell (World.block_lt_of_cell? w _ hx382_2)).trans hx382_2
                                                          have HR382_1 := Aside0.mk hi382_1
                                                          have HC382_1 := Aside0.mk hl382_1
                                                          clear hi382_1 hl382_1
                                                          have HR382_2 := Aside0.mk hi382_2
                                                          have HC382_2 := Aside0.mk hl382_2
                                                          clear hi382_2 hl382_2
                                                          replace p382 := eq_true p382
                                                          replace q382 := eq_true q382
                                                          have p383 : 0 ≤ (x6_1 : Int) := of_decide_eq_true (by first | (with_reducible assumption) | assumption)
                                                          have q383 : x6_1 < (l0.length : Int) := of_decide_eq_true (by first | (with_reducible assumption) | assumption)
                                                          obtain ⟨ad383, A383_1, c383_1, A383_2, c383_2, e383, hx383_0, hx383_1, hx383_2, hl383_1, hi383_1, hl383_2, hi383_2⟩ := at_T57 HR0.out x6_1 p383 q383
                                                          obtain rfl : ad370 = ad383 := (by injection e383)
                                                          replace hx383_0 := (HB.out.cell (World.block_lt_of_cell? w _ hx383_0)).trans hx383_0
                                                          replace hx383_1 := (HB.out.cell (World.block_lt_of_cell? w _ hx383_1)).trans hx383_1
                                                          replace hx383_2 := (HB.out.cell (World.block_lt_of_cell? w _ hx383_2)).trans hx383_2
                                                          have HR383_1 := Aside0.mk hi383_1
                                                          have HC383_1 := Aside0.mk hl383_1
                                                          clear hi383_1 hl383_1
                                                          have HR383_2 := Aside0.mk hi383_2
                                                          have HC383_2 := Aside0.mk hl383_2
                                                          clear hi383_2 hl383_2
                                                          replace p383 := eq_true p383
                                                          replace q383 := eq_true q383
                                                          have ea_ := Option.some.inj (hx382_1.symm.trans hx383_1)
                                                          injection ea_ with ea_ en_ ec_
                                                          subst ea_
                                                          subst ec_
                                                          clear en_
                                                          have ea_ := Option.some.inj (hx382_2.symm.trans hx383_2)
                                                          injection ea_ with ea_ en_ ec_
                                                          subst ea_
                                                          subst ec_
                                                          clear en_
                                                          have ea_ := Option.some.inj (((HB.out.cell (World.block_lt_of_cell? w _ hw378_1)).trans hw378_1).symm.trans hx382_1)
                                                          (injection ea_ with ea_ en_ ec_; subst ea_; subst ec_; clear en_)
                                                          have ea_ := Option.some.inj (((HB.out.cell (World.block_lt_of_cell? w _ hw378_2)).trans hw378_2).symm.trans hx382_2)
                                                          (injection ea_ with ea_ en_ ec_; subst ea_; subst ec_; clear en_)
                                                          try go_wp2_with (first | ((with_reducible refine gate_callee (f := 62) rfl ?_); refine goesL_ (some 108) rfl rfl Tryd.func62 (by kernel_rfl) rfl #[.slice A378_2 ((rd_T57 l0 x6_1).f2).length c378_2] rfl (by (try simp only [List.map_toArray, List.map_cons, List.map_nil]); first | done | rfl | (simp only [List.length_drop, List.length_take]; rfl)) ?_; (with_reducible refine (umlautref5_word.calls kj20 _ _ ((rd_T57 l0 x6_1).f2) t384 _ ?side1 ?side2 A35.out).mono ?_); (case side1 => repeat (first | exact (Kd.C_below HR383_2.out HB.out) | (with_reducible refine Kd.C_alloc ?_ _) | (with_reducible refine Kd.C_drewN ?_ _) | (with_reducible refine Kd.C_drew ?_))); (case side2 => exact HC383_2.out); rintro e w40 ⟨rfl, hb⟩; refine ⟨_, rfl, ?_⟩; have n0_ := Aside0.mk (Kd.R_below (by (with_reducible repeat (first | apply Kd.R_alloc | apply Kd.R_drewN | apply Kd.R_drew)); exact HO_4.out) hb); have n1_ := Aside0.mk (below_step (by repeat (first | (with_reducible first | exact HB.out | apply below_alloc | apply pw_below_drewN | apply below_drew1) | exact HB.out)) hb); clear HO_4; clear HB; have HO_4 := n0_; have HB := n1_; clear n0_ n1_; (try clear hb); (try clear hb2); (try clear hk); (try clear hi)))
                                                          go_roundg kj20
                                                          case measure => have := HK1.out; have := HJ4.out; have := HK3.out; have := HK4.out; have := HJ20.out; omega
                                                          case rel => exact ⟨(((((x5_20 ++ (rdOf ByteArray.empty y358 (ji26))) ++ (⟨#[32]⟩ : ByteArray)) ++ t381) ++ (⟨#[32, 47, 32]⟩ : ByteArray)) ++ t384), (wrap64 (x6_1 + 1)), (by first | rfl | (simp; done) | (simp only [← hji26] <;> (first | rfl | simp)) | (simp [*]; done)), (by first | rfl | (simp; done) | (simp [*]; done)), H', ⟨by have := HK1.out; have := HJ4.out; have := HK3.out; have := HK4.out; have := HJ20.out; omega⟩, ⟨by (with_reducible repeat (first | apply Kd.R_alloc | apply Kd.R_drewN | apply Kd.R_drew)); exact HO_4.out⟩, ⟨by repeat (first | (with_reducible first | exact HB.out | apply below_alloc | apply pw_below_drewN | apply below_drew1) | exact HB.out)⟩⟩
                                                        · rw [if_neg c36] at H
                                                          exact absurd H (by simp)
                                                      · rw [if_neg c34] at H
                                                        exact absurd H (by simp)
                                                    · rw [if_neg c33] at H
                                                      have c33b0 : decide (0 < (((rd_T57 l0 x6_1).f2).length : Int)) = false := decide_eq_false c33
                                                      have c33b1 : decide (0 < ((rd_T57 l0 x6_1).f2).length) = false := decide_eq_false (by omega)
                                                      clear c33
                                                      have H' := Aside0.mk H
                                                      clear H
                                                      try go_wp2
                                                      have n0_ := Aside0.mk (Kd.R_drew HO_4.out)
                                                      have n1_ := Aside0.mk (below_drew1 HB.out)
                                                      clear HO_4
                                                      clear HB
                                                      have HO_4 := n0_
                                                      have HB := n1_
                                                      clear n0_ n1_
                                                      have p378 : 0 ≤ (x6_1 : Int) := of_decide_eq_true (by first | (with_reducible assumption) | assumption)
                                                      have q378 : x6_1 < (l0.length : Int) := of_decide_eq_true (by first | (with_reducible assumption) | assumption)
                                                      obtain ⟨ad378, A378_1, c378_1, A378_2, c378_2, e378, hx378_0, hx378_1, hx378_2, hl378_1, hi378_1, hl378_2, hi378_2⟩ := at_T57 HR0.out x6_1 p378 q378
                                                      have hw378_2 := hx378_2
                                                      have hw378_1 := hx378_1
                                                      have hw378_0 := hx378_0
                                                      obtain rfl : ad370 = ad378 := (by injection e378)
                                                      replace hx378_0 := (HB.out.cell (World.block_lt_of_cell? w _ hx378_0)).trans hx378_0
                                                      replace hx378_1 := (HB.out.cell (World.block_lt_of_cell? w _ hx378_1)).trans hx378_1
                                                      replace hx378_2 := (HB.out.cell (World.block_lt_of_cell? w _ hx378_2)).trans hx378_2
                                                      have HR378_1 := Aside0.mk hi378_1
                                                      have HC378_1 := Aside0.mk hl378_1
                                                      clear hi378_1 hl378_1
                                                      have HR378_2 := Aside0.mk hi378_2
                                                      have HC378_2 := Aside0.mk hl378_2
                                                      clear hi378_2 hl378_2
                                                      replace p378 := eq_true p378
                                                      replace q378 := eq_true q378
                                                      obtain ⟨Ao42, co42, eo42⟩ := Kd.R_slice HO_4.out
                                                      (first | subst eo42 | (injection eo42 with f1_ f2_ f3_; have f4_ := f1_.symm; have f5_ := f3_.symm; clear f1_ f2_ f3_; subst f4_; subst f5_))
                                                      have p379 : 0 ≤ ((ji26) : Int) := of_decide_eq_true (by first | (with_reducible assumption) | assumption)
                                                      have q379 : (ji26) < (y358.length : Int) := of_decide_eq_true (by first | (with_reducible assumption) | assumption)
                                                      obtain ⟨ad379, e379, hx379_0⟩ := Kd.at_string (Kd.R_reads' HO_4.out).2.2 (ji26) p379 q379
                                                      cases e379
                                                      replace p379 := eq_true p379
                                                      replace q379 := eq_true q379
                                                      have p380 : 0 ≤ (x6_1 : Int) := of_decide_eq_true (by first | (with_reducible assumption) | assumption)
                                                      have q380 : x6_1 < (l0.length : Int) := of_decide_eq_true (by first | (with_reducible assumption) | assumption)
                                                      obtain ⟨ad380, A380_1, c380_1, A380_2, c380_2, e380, hx380_0, hx380_1, hx380_2, hl380_1, hi380_1, hl380_2, hi380_2⟩ := at_T57 HR0.out x6_1 p380 q380
                                                      have hw380_2 := hx380_2
                                                      have hw380_1 := hx380_1
                                                      have hw380_0 := hx380_0
                                                      obtain rfl : ad370 = ad380 := (by injection e380)
                                                      replace hx380_0 := (HB.out.cell (World.block_lt_of_cell? w _ hx380_0)).trans hx380_0
                                                      replace hx380_1 := (HB.out.cell (World.block_lt_of_cell? w _ hx380_1)).trans hx380_1
                                                      replace hx380_2 := (HB.out.cell (World.block_lt_of_cell? w _ hx380_2)).trans hx380_2
                                                      have HR380_1 := Aside0.mk hi380_1
                                                      have HC380_1 := Aside0.mk hl380_1
                                                      clear hi380_1 hl380_1
                                                      have HR380_2 := Aside0.mk hi380_2
                                                      have HC380_2 := Aside0.mk hl380_2
                                                      clear hi380_2 hl380_2
                                                      replace p380 := eq_true p380
                                                      replace q380 := eq_true q380
                                                      have ea_ := Option.some.inj (hx378_1.symm.trans hx380_1)
                                                      injection ea_ with ea_ en_ ec_
                                                      subst ea_
                                                      subst ec_
                                                      clear en_
                                                      have ea_ := Option.some.inj (hx378_2.symm.trans hx380_2)
                                                      injection ea_ with ea_ en_ ec_
                                                      subst ea_
                                                      subst ec_
                                                      clear en_
                                                      refine start_ (n := 20) (S := fun w' => w'.cell? (ad370.add ((x6_1).toNat * 3)) = some (.int .i64 ((rd_T57 l0 x6_1).f0)) ∧ w'.cell? ⟨(ad370.add ((x6_1).toNat * 3)).block, (ad370.add ((x6_1).toNat * 3)).off + 1, none⟩ = some (.slice A378_1 ((rd_T57 l0 x6_1).f1).length c378_1) ∧ w'.cell? ⟨(ad370.add ((x6_1).toNat * 3)).block, (ad370.add ((x6_1).toNat * 3)).off + 2, none⟩ = some (.slice A378_2 ((rd_T57 l0 x6_1).f2).length c378_2) ∧ w'.cell? (ad379.add ((ji26)).toNat) = some (.string (rdOf ByteArray.empty y358 (ji26))) ∧ w'.cell? (ad370.add ((x6_1).toNat * 3)) = some (.int .i64 ((rd_T57 l0 x6_1).f0)) ∧ w'.cell? ⟨(ad370.add ((x6_1).toNat * 3)).block, (ad370.add ((x6_1).toNat * 3)).off + 1, none⟩ = some (.slice A378_1 ((rd_T57 l0 x6_1).f1).length c378_1) ∧ w'.cell? ⟨(ad370.add ((x6_1).toNat * 3)).block, (ad370.add ((x6_1).toNat * 3)).off + 2, none⟩ = some (.slice A378_2 ((rd_T57 l0 x6_1).f2).length c378_2)) (ds := []) #[false, false, false, false, false, false, false, false, false, false, false, false, false, false, false, false, false, false, false, false] (by kernel_rfl) rfl rfl ⟨((HB.out.cell (World.block_lt_of_cell? w _ hw378_0)).trans hw378_0), ((HB.out.cell (World.block_lt_of_cell? w _ hw378_1)).trans hw378_1), ((HB.out.cell (World.block_lt_of_cell? w _ hw378_2)).trans hw378_2), hx379_0, ((HB.out.cell (World.block_lt_of_cell? w _ hw380_0)).trans hw380_0), ((HB.out.cell (World.block_lt_of_cell? w _ hw380_1)).trans hw380_1), ((HB.out.cell (World.block_lt_of_cell? w _ hw380_2)).trans hw380_2)⟩ (fun hHeld => ?_); refine with_tabW umlautref5_Text.tab20 umlautref5_Text.bits20 (fun HT_ HW_ => ?_)
                                                      generalize wc.drew = w41 at HO_4 HB HR378_1 HR378_2 HR380_1 HR380_2 hx378_0 hx378_1 hx378_2 hx379_0 hx380_0 hx380_1 hx380_2 hHeld ⊢
                                                      refine pure_ (i := 0) (N := some 75) (v := ?_) (a' := ?_) #[true, false, false, false, false, false, false, false, false, false, false, false, false, false, false, false, false, false, false, false] rfl rfl (any_of HT_.out (by kernel_rfl)) (fun _ _ _ h => h) (Or.inl ⟨by rfl, ?_⟩) ?_ ?_
                                                      rotate_left
                                                      · intro w'
                                                        go_simp
                                                        with_reducible rfl
                                                      rotate_left
                                                      · simp only [Act.put, List.setIfInBounds_toArray, List.set_cons_zero, List.set_cons_succ, i64_w, i32_w]
                                                        rfl
                                                      refine pure_ (i := 1) (N := some 76) (v := ?_) (a' := ?_) #[true, true, false, false, false, false, false, false, false, false, false, false, false, false, false, false, false, false, false, false] rfl rfl (any_of HT_.out (by kernel_rfl)) (fun _ _ _ h => h) (Or.inl ⟨by rfl, ?_⟩) ?_ ?_
                                                      rotate_left
                                                      · intro w'
                                                        go_simp
                                                        with_reducible rfl
                                                      rotate_left
                                                      · simp only [Act.put, List.setIfInBounds_toArray, List.set_cons_zero, List.set_cons_succ, i64_w, i32_w]
                                                        rfl
                                                      refine pure_ (i := 2) (N := some 77) (v := ?_) (a' := ?_) #[true, true, true, false, false, false, false, false, false, false, false, false, false, false, false, false, false, false, false, false] rfl rfl (any_of HT_.out (by kernel_rfl)) (fun _ _ _ h => h) (Or.inl ⟨by rfl, ?_⟩) ?_ ?_
                                                      rotate_left
                                                      · intro w'
                                                        go_simp
                                                        with_reducible rfl
                                                      rotate_left
                                                      · simp only [Act.put, List.setIfInBounds_toArray, List.set_cons_zero, List.set_cons_succ, i64_w, i32_w]
                                                        rfl
                                                      refine pure_ (i := 3) (N := some 78) (v := ?_) (a' := ?_) #[true, true, true, true, false, false, false, false, false, false, false, false, false, false, false, false, false, false, false, false] rfl rfl (any_of HT_.out (by kernel_rfl)) (fun _ _ _ h => h) (Or.inl ⟨by rfl, ?_⟩) ?_ ?_
                                                      rotate_left
                                                      · intro w'
                                                        go_simp
                                                        with_reducible rfl
                                                      rotate_left
                                                      · simp only [Act.put, List.setIfInBounds_toArray, List.set_cons_zero, List.set_cons_succ, i64_w, i32_w]
                                                        rfl
                                                      refine pure_ (i := 4) (N := some 79) (v := ?_) (a' := ?_) #[true, true, true, true, true, false, false, false, false, false, false, false, false, false, false, false, false, false, false, false] rfl rfl (any_of HT_.out (by kernel_rfl)) (fun _ _ _ h => h) (Or.inl ⟨by rfl, ?_⟩) ?_ ?_
                                                      rotate_left
                                                      · intro w'
                                                        go_simp
                                                        with_reducible rfl
                                                      rotate_left
                                                      · simp only [Act.put, List.setIfInBounds_toArray, List.set_cons_zero, List.set_cons_succ, i64_w, i32_w]
                                                        rfl
                                                      refine pure_ (i := 5) (N := some 80) (v := ?_) (a' := ?_) #[true, true, true, true, true, true, false, false, false, false, false, false, false, false, false, false, false, false, false, false] rfl rfl (any_of HT_.out (by kernel_rfl)) (fun _ _ _ h => h) (Or.inl ⟨by rfl, ?_⟩) ?_ ?_
                                                      rotate_left
                                                      · intro w'
                                                        go_simp
                                                        with_reducible rfl
                                                      rotate_left
                                                      · simp only [Act.put, List.setIfInBounds_toArray, List.set_cons_zero, List.set_cons_succ, i64_w, i32_w]
                                                        rfl
                                                      refine pure_ (i := 12) (N := some 87) (v := ?_) (a' := ?_) #[true, true, true, true, true, true, false, false, false, false, false, false, true, false, false, false, false, false, false, false] rfl rfl (any_of HT_.out (by kernel_rfl)) (fun _ _ _ h => h) (Or.inl ⟨by rfl, ?_⟩) ?_ ?_
                                                      rotate_left
                                                      · intro w'
                                                        go_simp
                                                        with_reducible rfl
                                                      rotate_left
                                                      · simp only [Act.put, List.setIfInBounds_toArray, List.set_cons_zero, List.set_cons_succ, i64_w, i32_w]
                                                        rfl
                                                      refine pure_ (i := 13) (N := some 88) (v := ?_) (a' := ?_) #[true, true, true, true, true, true, false, false, false, false, false, false, true, true, false, false, false, false, false, false] rfl rfl (any_of HT_.out (by kernel_rfl)) (fun _ _ _ h => h) (Or.inl ⟨by rfl, ?_⟩) ?_ ?_
                                                      rotate_left
                                                      · intro w'
                                                        go_simp
                                                        with_reducible rfl
                                                      rotate_left
                                                      · simp only [Act.put, List.setIfInBounds_toArray, List.set_cons_zero, List.set_cons_succ, i64_w, i32_w]
                                                        rfl
                                                      refine pure_ (i := 14) (N := some 89) (v := ?_) (a' := ?_) #[true, true, true, true, true, true, false, false, false, false, false, false, true, true, true, false, false, false, false, false] rfl rfl (any_of HT_.out (by kernel_rfl)) (fun _ _ _ h => h) (Or.inl ⟨by rfl, ?_⟩) ?_ ?_
                                                      rotate_left
                                                      · intro w'
                                                        go_simp
                                                        with_reducible rfl
                                                      rotate_left
                                                      · simp only [Act.put, List.setIfInBounds_toArray, List.set_cons_zero, List.set_cons_succ, i64_w, i32_w]
                                                        rfl
                                                      refine pure_ (i := 15) (N := some 90) (v := ?_) (a' := ?_) #[true, true, true, true, true, true, false, false, false, false, false, false, true, true, true, true, false, false, false, false] rfl rfl (any_of HT_.out (by kernel_rfl)) (fun _ _ _ h => h) (Or.inl ⟨by rfl, ?_⟩) ?_ ?_
                                                      rotate_left
                                                      · intro w'
                                                        go_simp
                                                        with_reducible rfl
                                                      rotate_left
                                                      · simp only [Act.put, List.setIfInBounds_toArray, List.set_cons_zero, List.set_cons_succ, i64_w, i32_w]
                                                        rfl
                                                      refine take_ (i := 6) (N := some 81) (v := ?_) (a' := ?_) #[true, true, true, true, true, true, true, false, false, false, false, false, true, true, true, true, false, false, false, false] rfl rfl (take_ofW HT_.out HW_.out (by kernel_rfl)) (fun _ _ _ h => h) (Or.inl ⟨by rfl, ?_⟩) hHeld ?_ ?_
                                                      rotate_left
                                                      · rintro w' ⟨s0, s1, s2, s3, s4, s5, s6⟩
                                                        go_simp
                                                        with_reducible rfl
                                                      rotate_left
                                                      · simp only [Act.put, List.setIfInBounds_toArray, List.set_cons_zero, List.set_cons_succ, i64_w, i32_w]
                                                        rfl
                                                      refine pure_ (i := 7) (N := some 82) (v := ?_) (a' := ?_) #[true, true, true, true, true, true, true, true, false, false, false, false, true, true, true, true, false, false, false, false] rfl rfl (any_of HT_.out (by kernel_rfl)) (fun _ _ _ h => h) (Or.inl ⟨by rfl, ?_⟩) ?_ ?_
                                                      rotate_left
                                                      · intro w'
                                                        go_simp
                                                        with_reducible rfl
                                                      rotate_left
                                                      · simp only [Act.put, List.setIfInBounds_toArray, List.set_cons_zero, List.set_cons_succ, i64_w, i32_w]
                                                        rfl
                                                      refine pure_ (i := 8) (N := some 83) (v := ?_) (a' := ?_) #[true, true, true, true, true, true, true, true, true, false, false, false, true, true, true, true, false, false, false, false] rfl rfl (any_of HT_.out (by kernel_rfl)) (fun _ _ _ h => h) (Or.inl ⟨by rfl, ?_⟩) ?_ ?_
                                                      rotate_left
                                                      · intro w'
                                                        go_simp
                                                        with_reducible rfl
                                                      rotate_left
                                                      · simp only [Act.put, List.setIfInBounds_toArray, List.set_cons_zero, List.set_cons_succ, i64_w, i32_w]
                                                        rfl
                                                      refine take_ (i := 9) (N := some 84) (v := ?_) (a' := ?_) #[true, true, true, true, true, true, true, true, true, true, false, false, true, true, true, true, false, false, false, false] rfl rfl (take_ofW HT_.out HW_.out (by kernel_rfl)) (fun _ _ _ h => h) (Or.inl ⟨by rfl, ?_⟩) hHeld ?_ ?_
                                                      rotate_left
                                                      · rintro w' ⟨s0, s1, s2, s3, s4, s5, s6⟩
                                                        go_simp
                                                        with_reducible rfl
                                                      rotate_left
                                                      · simp only [Act.put, List.setIfInBounds_toArray, List.set_cons_zero, List.set_cons_succ, i64_w, i32_w]
                                                        rfl
                                                      refine pure_ (i := 10) (N := some 85) (v := ?_) (a' := ?_) #[true, true, true, true, true, true, true, true, true, true, true, false, true, true, true, true, false, false, false, false] rfl rfl (any_of HT_.out (by kernel_rfl)) (fun _ _ _ h => h) (Or.inl ⟨by rfl, ?_⟩) ?_ ?_
                                                      rotate_left
                                                      · intro w'
                                                        go_simp
                                                        with_reducible rfl
                                                      rotate_left
                                                      · simp only [Act.put, List.setIfInBounds_toArray, List.set_cons_zero, List.set_cons_succ, i64_w, i32_w]
                                                        rfl
                                                      refine pure_ (i := 11) (N := some 86) (v := ?_) (a' := ?_) #[true, true, true, true, true, true, true, true, true, true, true, true, true, true, true, true, false, false, false, false] rfl rfl (any_of HT_.out (by kernel_rfl)) (fun _ _ _ h => h) (Or.inl ⟨by rfl, ?_⟩) ?_ ?_
                                                      rotate_left
                                                      · intro w'
                                                        go_simp
                                                        with_reducible rfl
                                                      rotate_left
                                                      · simp only [Act.put, List.setIfInBounds_toArray, List.set_cons_zero, List.set_cons_succ, i64_w, i32_w]
                                                        rfl
                                                      refine take_ (i := 16) (N := some 91) (v := ?_) (a' := ?_) #[true, true, true, true, true, true, true, true, true, true, true, true, true, true, true, true, true, false, false, false] rfl rfl (take_ofW HT_.out HW_.out (by kernel_rfl)) (fun _ _ _ h => h) (Or.inl ⟨by rfl, ?_⟩) hHeld ?_ ?_
                                                      rotate_left
                                                      · rintro w' ⟨s0, s1, s2, s3, s4, s5, s6⟩
                                                        go_simp
                                                        with_reducible rfl
                                                      rotate_left
                                                      · simp only [Act.put, List.setIfInBounds_toArray, List.set_cons_zero, List.set_cons_succ, i64_w, i32_w]
                                                        rfl
                                                      refine one_ (i := 17) (N := some 92) #[true, true, true, true, true, true, true, true, true, true, true, true, true, true, true, true, true, true, false, false] rfl rfl (one_of HT_.out (by kernel_rfl)) (by decide) (fun K hK => ?_)
                                                      refine goes_ Tryd.func62 (by kernel_rfl) rfl #[.slice A378_1 ((rd_T57 l0 x6_1).f1).length c378_1] (by rfl) rfl rfl (by (try simp only [List.map_toArray, List.map_cons, List.map_nil]); first | done | rfl | (simp only [List.length_drop, List.length_take]; rfl)) ?_
                                                      with_reducible refine (umlautref5_word.calls kj20 _ _ ((rd_T57 l0 x6_1).f1) t381 _ ?side1 ?side2 A31.out).mono ?_
                                                      (case side1 => repeat (first | exact (Kd.C_below HR380_1.out HB.out) | (with_reducible refine Kd.C_alloc ?_ _) | (with_reducible refine Kd.C_drewN ?_ _) | (with_reducible refine Kd.C_drew ?_)))
                                                      (case side2 => exact HC380_1.out)
                                                      rintro e w43 ⟨rfl, hb⟩
                                                      have HS3_ := (hb.cell (World.block_lt_of_cell? _ _ (hHeld.2.2.2.1))).trans (hHeld.2.2.2.1)
                                                      refine ⟨_, rfl, ?_⟩
                                                      have n0_ := Aside0.mk (Kd.R_below (by (with_reducible repeat (first | apply Kd.R_alloc | apply Kd.R_drewN | apply Kd.R_drew)); exact HO_4.out) hb)
                                                      have n1_ := Aside0.mk (below_step (by repeat (first | (with_reducible first | exact HB.out | apply below_alloc | apply pw_below_drewN | apply below_drew1) | exact HB.out)) hb)
                                                      clear HO_4
                                                      clear HB
                                                      have HO_4 := n0_
                                                      have HB := n1_
                                                      clear n0_ n1_
                                                      (try clear hb)
                                                      (try clear hb2)
                                                      (try clear hk)
                                                      (try clear hi)
                                                      refine hK.out _ _ ⟨((HB.out.cell (World.block_lt_of_cell? w _ hw378_0)).trans hw378_0), ((HB.out.cell (World.block_lt_of_cell? w _ hw378_1)).trans hw378_1), ((HB.out.cell (World.block_lt_of_cell? w _ hw378_2)).trans hw378_2), HS3_, ((HB.out.cell (World.block_lt_of_cell? w _ hw380_0)).trans hw380_0), ((HB.out.cell (World.block_lt_of_cell? w _ hw380_1)).trans hw380_1), ((HB.out.cell (World.block_lt_of_cell? w _ hw380_2)).trans hw380_2)⟩ (fun hHeld => ?_)
                                                      clear hK K
                                                      refine norm_ (a' := ?_) ?_ ?_
                                                      rotate_left
                                                      · show Act.put _ (some 92) _ = _
                                                        simp only [Act.put, List.setIfInBounds_toArray, List.set_cons_zero, List.set_cons_succ, i64_w, i32_w]
                                                        rfl
                                                      refine pure_ (i := 18) (N := some 93) (v := ?_) (a' := ?_) #[true, true, true, true, true, true, true, true, true, true, true, true, true, true, true, true, true, true, true, false] rfl rfl (any_of HT_.out (by kernel_rfl)) (fun _ _ _ h => h) (Or.inl ⟨by rfl, ?_⟩) ?_ ?_
                                                      rotate_left
                                                      · intro w'
                                                        go_simp
                                                        with_reducible rfl
                                                      rotate_left
                                                      · simp only [Act.put, List.setIfInBounds_toArray, List.set_cons_zero, List.set_cons_succ, i64_w, i32_w]
                                                        rfl
                                                      refine pure_ (i := 19) (N := some 5) (v := ?_) (a' := ?_) #[true, true, true, true, true, true, true, true, true, true, true, true, true, true, true, true, true, true, true, true] rfl rfl (any_of HT_.out (by kernel_rfl)) (fun _ _ _ h => h) (Or.inl ⟨by rfl, ?_⟩) ?_ ?_
                                                      rotate_left
                                                      · intro w'
                                                        go_simp
                                                        with_reducible rfl
                                                      rotate_left
                                                      · simp only [Act.put, List.setIfInBounds_toArray, List.set_cons_zero, List.set_cons_succ, i64_w, i32_w]
                                                        rfl
                                                      refine done_ (done_of HT_.out (by kernel_rfl)) ?_
                                                      have p382 : 0 ≤ (x6_1 : Int) := of_decide_eq_true (by first | (with_reducible assumption) | assumption)
                                                      have q382 : x6_1 < (l0.length : Int) := of_decide_eq_true (by first | (with_reducible assumption) | assumption)
                                                      obtain ⟨ad382, A382_1, c382_1, A382_2, c382_2, e382, hx382_0, hx382_1, hx382_2, hl382_1, hi382_1, hl382_2, hi382_2⟩ := at_T57 HR0.out x6_1 p382 q382
                                                      obtain rfl : ad370 = ad382 := (by injection e382)
                                                      replace hx382_0 := (HB.out.cell (World.block_lt_of_cell? w _ hx382_0)).trans hx382_0
                                                      replace hx382_1 := (HB.out.cell (World.block_lt_of_cell? w _ hx382_1)).trans hx382_1
                                                      replace hx382_2 := (HB.out.cell (World.block_lt_of_cell? w _ hx382_2)).trans hx382_2
                                                      have HR382_1 := Aside0.mk hi382_1
                                                      have HC382_1 := Aside0.mk hl382_1
                                                      clear hi382_1 hl382_1
                                                      have HR382_2 := Aside0.mk hi382_2
                                                      have HC382_2 := Aside0.mk hl382_2
                                                      clear hi382_2 hl382_2
                                                      replace p382 := eq_true p382
                                                      replace q382 := eq_true q382
                                                      try go_wp2
                                                      go_roundg kj20
                                                      case measure => have := HK1.out; have := HJ4.out; have := HK3.out; have := HK4.out; have := HJ20.out; omega
                                                      case rel => exact ⟨(((x5_20 ++ (rdOf ByteArray.empty y358 (ji26))) ++ (⟨#[32]⟩ : ByteArray)) ++ t381), (wrap64 (x6_1 + 1)), (by first | rfl | (simp; done) | (simp only [← hji26] <;> (first | rfl | simp)) | (simp [*]; done)), (by first | rfl | (simp; done) | (simp [*]; done)), H', ⟨by have := HK1.out; have := HJ4.out; have := HK3.out; have := HK4.out; have := HJ20.out; omega⟩, ⟨by (with_reducible repeat (first | apply Kd.R_alloc | apply Kd.R_drewN | apply Kd.R_drew)); exact HO_4.out⟩, ⟨by repeat (first | (with_reducible first | exact HB.out | apply below_alloc | apply pw_below_drewN | apply below_drew1) | exact HB.out)⟩⟩
                                                  · rw [if_neg c32] at H
                                                    exact absurd H (by simp)
                                                · rw [if_neg c30] at H
                                                  exact absurd H (by simp)
                                              · rw [if_neg c29] at H
                                                exact absurd H (by simp)
                                            · rw [if_neg c28] at H
                                              exact absurd H (by simp)
                                          · rw [if_neg c27] at H
                                            exact absurd H (by simp)
                                        · rw [if_neg c25] at H
                                          exact absurd H (by simp)
                                      · rw [if_neg c24] at H
                                        exact absurd H (by simp)
                              · rw [if_neg c16] at H
                                exact absurd H (by simp)
                            · rw [if_neg c15] at H
                              exact absurd H (by simp)
                    · rw [if_neg c10] at H
                      exact absurd H (by simp)
                  · rw [if_neg c9] at H
                    exact absurd H (by simp)
      · rw [if_neg c4] at H
        have c4b0 : decide (x6_1 < (l0.length : Int)) = false := decide_eq_false c4
        clear c4
        replace H := Option.bind_eq_some_iff.mp H
        obtain ⟨⟨t361, t364, t365⟩, A440, H⟩ := H
        replace H : (if t365 = 0 then ((umlautref5_sameRules.f k1 t361 l0).bind fun t367 => (some (x5_1, t367))) else (some (x5_1, false))) = some (r1, r2) := H
        have A44 := Aside0.mk A440
        clear A440
        by_cases c45 : t365 = 0
        · rw [if_pos c45] at H
          have c45b0 : (t365 == 0) = true := beq_iff_eq.mpr c45
          have c45b1 : (t365 != 0) = false := bne_eq_false_iff_eq.mpr c45
          clear c45
          replace H := Option.bind_eq_some_iff.mp H
          obtain ⟨t367, A460, H⟩ := H
          replace H : (some (x5_1, t367)) = some (r1, r2) := H
          have A46 := Aside0.mk A460
          clear A460
          simp only [Option.some.injEq, Prod.mk.injEq] at H
          obtain ⟨rfl, rfl⟩ := H
          go_wp2_with (first | ((with_reducible refine gate_callee (f := 29) rfl ?_); refine goesL_ (some 111) rfl rfl Tryd.func29 (by kernel_rfl) rfl #[.string x5_1] rfl (by (try simp only [List.map_toArray, List.map_cons, List.map_nil]); first | done | rfl | (simp only [List.length_drop, List.length_take]; rfl)) ?_; (with_reducible refine (umlautref5_Parse.calls k1 x5_1 t361 t364 t365 _ A44.out).mono ?_); rintro e w47 ⟨v362, rfl, ho0, hb⟩; refine ⟨_, rfl, ?_⟩; have n0_ := Aside0.mk (Kd.R_below (by (with_reducible repeat (first | apply Kd.R_alloc | apply Kd.R_drewN | apply Kd.R_drew)); exact HO_4.out) hb); have n1_ := Aside0.mk (Kd.S_lower ho0 (below_size (by repeat (first | (with_reducible first | exact HB.out | apply below_alloc | apply pw_below_drewN | apply below_drew1) | exact HB.out)))); have n2_ := Aside0.mk (below_step (by repeat (first | (with_reducible first | exact HB.out | apply below_alloc | apply pw_below_drewN | apply below_drew1) | exact HB.out)) hb); clear HO_4; clear HB; have HO_4 := n0_; have HO363 := n1_; have HB := n2_; clear n0_ n1_ n2_; (try clear hb); (try clear hb2); (try clear hk); (try clear hi); (try clear ho0)) | ((with_reducible refine gate_dst (N := 9) rfl ?_); refine box_event ?hg (N := 9) ?hd (cs := #[.slice none 0 0, .int .i64 0, .int .i64 0]) (t := 47) ?hr ?_; (case hd => rfl); (case hg => rfl); (case hr => first | (go_simp; done) | (go_simp; rfl)); intro gb366 hg w48 hbox hb; have n0_ := Aside0.mk (Kd.R_below (by (with_reducible repeat (first | apply Kd.R_alloc | apply Kd.R_drewN | apply Kd.R_drew)); exact HO_4.out) hb); have n1_ := Aside0.mk (Kd.S_below (by (with_reducible repeat (first | apply Kd.S_alloc | apply Kd.S_drewN | apply Kd.S_drew)); exact HO363.out) hb); have n2_ := Aside0.mk (below_step (by repeat (first | (with_reducible first | exact HB.out | apply below_alloc | apply pw_below_drewN | apply below_drew1) | exact HB.out)) hb); have n3_ := Aside0.mk (hbox); have n4_ := Aside0.mk ((by rw [hg]; exact (below_size (by repeat (first | (with_reducible first | exact HB.out | apply below_alloc | apply pw_below_drewN | apply below_drew1) | exact HB.out))) : w.heap.size ≤ gb366)); have n5_ := Aside0.mk ((by rw [hg]; exact (below_size (by repeat (first | (with_reducible first | exact HB.out | apply below_alloc | apply pw_below_drewN | apply below_drew1) | exact HB.out))) : w.heap.size ≤ gb366)); clear HO_4; clear HO363; clear HB; have HO_4 := n0_; have HO363 := n1_; have HB := n2_; have BK366 := n3_; have GW366 := n4_; have GE366 := n5_; clear n0_ n1_ n2_ n3_ n4_ n5_; clear hb hbox hg; obtain ⟨Ao49, co49, eo49⟩ := Kd.S_slice HO363.out; subst eo49; have hcz50_0 : w48.cell? ⟨gb366, 0, none⟩ = some (.slice none 0 0) := (blk_cell BK366.out 0).trans rfl; have hcz50_1 : w48.cell? ⟨gb366, 1, none⟩ = some (.int .i64 0) := (blk_cell BK366.out 1).trans rfl; have hcz50_2 : w48.cell? ⟨gb366, 2, none⟩ = some (.int .i64 0) := (blk_cell BK366.out 2).trans rfl; have hfz50_0 := blk_frozen BK366.out 0; have hfz50_1 := blk_frozen BK366.out 1; have hfz50_2 := blk_frozen BK366.out 2) | (go_at_call 63; (with_reducible refine (umlautref5_sameRules.calls k1 _ _ t361 _ _ l0 t367 _ ?side1 ?side2 ?side3 ?side4 A46.out).mono ?_); (case side1 => refine (Kd.S_reads' (e := 57) (base := w.heap.size) (ok := fun k_ => True) (n := t361.length) (c := co49) ?_).2.2; exact (by (with_reducible repeat (first | apply Kd.S_alloc | apply Kd.S_drewN | apply Kd.S_drew)); exact (Kd.S_mono (Kd.S_far (p := ⟨gb366, 2, none⟩) (Kd.S_far (p := ⟨gb366, 1, none⟩) (Kd.S_far (p := ⟨gb366, 0, none⟩) (Kd.S_types HO363.out BK366.out (by decide)) (fun _ hk => hk.2) (.slice Ao49 t361.length co49)) (fun _ hk => hk.2) (.int .i64 t364)) (fun _ hk => hk.2) (.int .i64 t365)) (fun _ h_ => h_.1)))); (case side2 => exact (Kd.S_reads' HO363.out).2.1); (case side3 => exact Kd.C_below HR0.out (by repeat (first | (with_reducible first | exact HB.out | apply below_alloc | apply pw_below_drewN | apply below_drew1 | refine below_set ?_ GE366.out) | exact HB.out))); (case side4 => exact HC0.out); rintro e w51 ⟨rfl, hb⟩; have n0_ := Aside0.mk (Kd.R_below (by (with_reducible repeat (first | apply Kd.R_alloc | apply Kd.R_drewN | apply Kd.R_drew)); exact (Kd.R_mono (Kd.R_far (p := ⟨gb366, 2, none⟩) (Kd.R_far (p := ⟨gb366, 1, none⟩) (Kd.R_far (p := ⟨gb366, 0, none⟩) (Kd.R_types HO_4.out BK366.out (by decide)) (fun _ hk => hk.2) (.slice Ao49 t361.length co49)) (fun _ hk => hk.2) (.int .i64 t364)) (fun _ hk => hk.2) (.int .i64 t365)) (fun _ h_ => h_.1))) hb); have n1_ := Aside0.mk (Kd.S_below (by (with_reducible repeat (first | apply Kd.S_alloc | apply Kd.S_drewN | apply Kd.S_drew)); exact (Kd.S_mono (Kd.S_far (p := ⟨gb366, 2, none⟩) (Kd.S_far (p := ⟨gb366, 1, none⟩) (Kd.S_far (p := ⟨gb366, 0, none⟩) (Kd.S_types HO363.out BK366.out (by decide)) (fun _ hk => hk.2) (.slice Ao49 t361.length co49)) (fun _ hk => hk.2) (.int .i64 t364)) (fun _ hk => hk.2) (.int .i64 t365)) (fun _ h_ => h_.1))) hb); have n2_ := Aside0.mk (blk_below (g := gb366) (o := .cells #[.slice Ao49 t361.length co49, .int .i64 t364, .int .i64 t365] 47 (0, 0)) (by (with_reducible repeat (first | refine blk_drewN ?_ _ | refine blk_drew ?_ | refine blk_alloc ?_ _)); refine blk_put (cs := #[.slice Ao49 t361.length co49, .int .i64 t364, .int .i64 0]) ?_ 2 _ rfl; (with_reducible repeat (first | refine blk_drewN ?_ _ | refine blk_drew ?_ | refine blk_alloc ?_ _)); refine blk_put (cs := #[.slice Ao49 t361.length co49, .int .i64 0, .int .i64 0]) ?_ 1 _ rfl; (with_reducible repeat (first | refine blk_drewN ?_ _ | refine blk_drew ?_ | refine blk_alloc ?_ _)); refine blk_put (cs := #[.slice none 0 0, .int .i64 0, .int .i64 0]) ?_ 0 _ rfl; (with_reducible repeat (first | refine blk_drewN ?_ _ | refine blk_drew ?_ | refine blk_alloc ?_ _)); exact BK366.out) hb); have n3_ := Aside0.mk (below_step (by repeat (first | (with_reducible first | exact HB.out | apply below_alloc | apply pw_below_drewN | apply below_drew1 | refine below_set ?_ GE366.out) | exact HB.out)) hb); clear HO_4; clear HO363; clear BK366; clear HB; have HO_4 := n0_; have HO363 := n1_; have BK366 := n2_; have HB := n3_; clear n0_ n1_ n2_ n3_; (try clear hb); (try clear hb2); (try clear hk); (try clear hi)))
          go_ret2
          exact ⟨by first | rfl | (simp [errW_none, errW_some] <;> rfl) | (simp [*, errW_none, errW_some] <;> rfl), by repeat (first | (with_reducible first | exact HB.out | apply below_alloc | apply pw_below_drewN | apply below_drew1 | refine below_set ?_ GE366.out) | exact HB.out)⟩
        · rw [if_neg c45] at H
          have c45b0 : (t365 == 0) = false := beq_eq_false_iff_ne.mpr c45
          have c45b1 : (t365 != 0) = true := bne_iff_ne.mpr c45
          simp only [Option.some.injEq, Prod.mk.injEq] at H
          obtain ⟨rfl, rfl⟩ := H
          go_wp2_with (first | ((with_reducible refine gate_callee (f := 29) rfl ?_); refine goesL_ (some 111) rfl rfl Tryd.func29 (by kernel_rfl) rfl #[.string x5_1] rfl (by (try simp only [List.map_toArray, List.map_cons, List.map_nil]); first | done | rfl | (simp only [List.length_drop, List.length_take]; rfl)) ?_; (with_reducible refine (umlautref5_Parse.calls k1 x5_1 t361 t364 t365 _ A44.out).mono ?_); rintro e w52 ⟨v362, rfl, ho0, hb⟩; refine ⟨_, rfl, ?_⟩; have n0_ := Aside0.mk (Kd.R_below (by (with_reducible repeat (first | apply Kd.R_alloc | apply Kd.R_drewN | apply Kd.R_drew)); exact HO_4.out) hb); have n1_ := Aside0.mk (Kd.S_lower ho0 (below_size (by repeat (first | (with_reducible first | exact HB.out | apply below_alloc | apply pw_below_drewN | apply below_drew1) | exact HB.out)))); have n2_ := Aside0.mk (below_step (by repeat (first | (with_reducible first | exact HB.out | apply below_alloc | apply pw_below_drewN | apply below_drew1) | exact HB.out)) hb); clear HO_4; clear HB; have HO_4 := n0_; have HO363 := n1_; have HB := n2_; clear n0_ n1_ n2_; (try clear hb); (try clear hb2); (try clear hk); (try clear hi); (try clear ho0)) | ((with_reducible refine gate_dst (N := 9) rfl ?_); refine box_event ?hg (N := 9) ?hd (cs := #[.slice none 0 0, .int .i64 0, .int .i64 0]) (t := 47) ?hr ?_; (case hd => rfl); (case hg => rfl); (case hr => first | (go_simp; done) | (go_simp; rfl)); intro gb366 hg w53 hbox hb; have n0_ := Aside0.mk (Kd.R_below (by (with_reducible repeat (first | apply Kd.R_alloc | apply Kd.R_drewN | apply Kd.R_drew)); exact HO_4.out) hb); have n1_ := Aside0.mk (Kd.S_below (by (with_reducible repeat (first | apply Kd.S_alloc | apply Kd.S_drewN | apply Kd.S_drew)); exact HO363.out) hb); have n2_ := Aside0.mk (below_step (by repeat (first | (with_reducible first | exact HB.out | apply below_alloc | apply pw_below_drewN | apply below_drew1) | exact HB.out)) hb); have n3_ := Aside0.mk (hbox); have n4_ := Aside0.mk ((by rw [hg]; exact (below_size (by repeat (first | (with_reducible first | exact HB.out | apply below_alloc | apply pw_below_drewN | apply below_drew1) | exact HB.out))) : w.heap.size ≤ gb366)); have n5_ := Aside0.mk ((by rw [hg]; exact (below_size (by repeat (first | (with_reducible first | exact HB.out | apply below_alloc | apply pw_below_drewN | apply below_drew1) | exact HB.out))) : w.heap.size ≤ gb366)); clear HO_4; clear HO363; clear HB; have HO_4 := n0_; have HO363 := n1_; have HB := n2_; have BK366 := n3_; have GW366 := n4_; have GE366 := n5_; clear n0_ n1_ n2_ n3_ n4_ n5_; clear hb hbox hg; obtain ⟨Ao54, co54, eo54⟩ := Kd.S_slice HO363.out; subst eo54; have hcz55_0 : w53.cell? ⟨gb366, 0, none⟩ = some (.slice none 0 0) := (blk_cell BK366.out 0).trans rfl; have hcz55_1 : w53.cell? ⟨gb366, 1, none⟩ = some (.int .i64 0) := (blk_cell BK366.out 1).trans rfl; have hcz55_2 : w53.cell? ⟨gb366, 2, none⟩ = some (.int .i64 0) := (blk_cell BK366.out 2).trans rfl; have hfz55_0 := blk_frozen BK366.out 0; have hfz55_1 := blk_frozen BK366.out 1; have hfz55_2 := blk_frozen BK366.out 2))
          go_ret2
          exact ⟨by first | rfl | (simp [errW_none, errW_some] <;> rfl) | (simp [*, errW_none, errW_some] <;> rfl), by repeat (first | (with_reducible first | exact HB.out | apply below_alloc | apply pw_below_drewN | apply below_drew1 | refine below_set ?_ GE366.out) | exact HB.out)⟩

end Go.Proofs.YtjcgjchdelipcaaDoor.R
