import Derived.Test.YtjcgjchdelipcaaDoorG0
import Derived.Deep.RegionWith
namespace Go.Proofs.YtjcgjchdelipcaaDoor.N
open Go.RowKit Go.Proofs.YtjcgjchdelipcaaDoorW.PrintWords Go.Proofs.YtjcgjchdelipcaaDoorW.PrintLast Go.Proofs.YtjcgjchdelipcaaDoorW.PrintMore
set_option linter.unusedVariables false
set_option linter.unusedSimpArgs false
set_option maxHeartbeats 4000000
set_option maxRecDepth 100000
/-- Operations one behind the other, none of which calls, as far as they yield values. -/
def runOps (P : Program) (ops : Array Oper) : List Oper → Act → World → Option (Act × World)
  | [], a, w => some (a, w)
  | o :: rest, a, w => if Region.wanted o (yielded ops a.tmps) then (match (execOp a.eval o).run P w with | .ok (.value v) w' => runOps P ops rest (a.put o.dst v) w' | _ => none) else runOps P ops rest (a.put o.dst undef) w
theorem runOps_wp {P : Program} {ops : Array Oper} {Q : Exit → Act → World → Prop} : ∀ (l : List Oper) (a : Act) (w : World) (a' : Act) (w' : World), runOps P ops l a w = some (a', w') → Q .normal a' w' → wpList P ops Q l a w
  | [], a, w, a', w', h, hQ => by
    simp only [runOps, Option.some.injEq, Prod.mk.injEq] at h
    obtain ⟨rfl, rfl⟩ := h
    exact hQ
  | o :: rest, a, w, a', w', h, hQ => by
    simp only [runOps] at h
    unfold wpList
    split
    · rename_i hw
      rw [if_pos hw] at h
      refine .inl ?_
      unfold Oper.wp
      split at h
      · rename_i v w1 hr
        rw [hr, Oper.upon_value]
        exact runOps_wp rest _ _ _ _ h hQ
      · cases h
    · rename_i hw
      rw [if_neg hw] at h
      exact runOps_wp rest _ _ _ _ h hQ
theorem runOps_get {P : Program} {ops : Array Oper} {Q : Exit → Act → World → Prop} (l : List Oper) (a : Act) (w : World) (h : (runOps P ops l a w).isSome = true) (hQ : Q .normal ((runOps P ops l a w).get h).1 ((runOps P ops l a w).get h).2) : wpList P ops Q l a w :=
  runOps_wp l a w _ _ (Option.some_get h).symm hQ
def vals : List Int := [0, 1, 2, 3, 4, 10, 11, 12, 13, 14, 15, 16, 17, 18, 19, 20, 21, 22, 23, 60, 64, 65, 1114367, 500, 8, 40, 11, 4000, 24, 16, 8, 8, 16, 4, 1, 2, 4, 8, 16, 31, 1000000, 100000, 1, 2, 3, 4, 5, 1, 2, 3, 0, 1, 2, 3, 1, 2, 3, 4, 5, 6, 7, 8, 9, 10, 11, 12, 13, 14, 15, 16, 17, 18, 19, 20, 21, 22, 1, 2, 3, 4, 5, 0, 1, 2, 3, 4, 5, 6, 7, 8, 9, 10, 11, 12, 13, 14, 1, 2, 3, 4, 5, 6, 7, 8, 9, 0, 1, 2, 3]
def cellsOf : List Int → List Value
  | [] => []
  | v :: l => .int .i64 v :: .int .i64 v :: cellsOf l
theorem all_is (w : World) : Calls Tryd.prog 31 #[] w fun e w' => e = .returned (.slice (some ⟨w.heap.size, 0, none⟩) vals.length vals.length) ∧ w' = w.alloc (.cells (cellsOf vals).toArray 54 (0, 0)) := by
  refine calls_of_wp Tryd.func31 rfl ?_
  refine wp_seq (wp_region_list (runOps_get _ _ _ (by kernel_rfl) ?_))
  refine wp_seq (wp_region_list (runOps_get _ _ _ (by kernel_rfl) ?_))
  refine wp_ret ?_
  refine bodyPost_ret (results_tmp rfl _ _ _) (by kernel_rfl) ⟨congrArg _ (by kernel_rfl), by kernel_rfl⟩
theorem small60 (w : World) : Calls Tryd.prog 82 #[.int .i64 60] w fun e w' => e = .returned (.string ⟨#[54, 48]⟩) ∧ Below w.heap.size w w' := by
  go_enter Tryd.func82, Tryd.ntmps82
  go_wp2
  go_ret
  exact ⟨by rfl, Below.refl _ _⟩
theorem small0 (w : World) : Calls Tryd.prog 82 #[.int .i64 0] w fun e w' => e = .returned (.string ⟨#[48]⟩) ∧ Below w.heap.size w w' := by
  go_enter Tryd.func82, Tryd.ntmps82
  go_wp2
  go_ret
  exact ⟨by rfl, Below.refl _ _⟩
theorem fmt60 (w : World) : Calls Tryd.prog 79 #[.int .i64 60, .int .i64 10] w fun e w' => e = .returned (.string ⟨#[54, 48]⟩) ∧ Below w.heap.size w w' := by
  go_enter Tryd.func79, Tryd.ntmps79
  go_wp2_with (first | (go_at_call 82; refine (small60 _).mono ?_; rintro e w2 ⟨rfl, hb⟩; have HB := Aside0.mk hb; clear hb))
  go_ret
  exact ⟨rfl, HB.out⟩
theorem fmt0 (w : World) : Calls Tryd.prog 79 #[.int .i64 0, .int .i64 10] w fun e w' => e = .returned (.string ⟨#[48]⟩) ∧ Below w.heap.size w w' := by
  go_enter Tryd.func79, Tryd.ntmps79
  go_wp2_with (first | (go_at_call 82; refine (small0 _).mono ?_; rintro e w2 ⟨rfl, hb⟩; have HB := Aside0.mk hb; clear hb))
  go_ret
  exact ⟨rfl, HB.out⟩
theorem ia (n : Int) (s : ByteArray) (F : ∀ w : World, Calls Tryd.prog 79 #[.int .i64 n, .int .i64 10] w fun e w' => e = .returned (.string s) ∧ Below w.heap.size w w') (w : World) : Calls Tryd.prog 71 #[.int .i64 n] w fun e w' => e = .returned (.string s) ∧ Below w.heap.size w w' := by
  have HF := Aside0.mk F
  clear F
  go_enter Tryd.func71, Tryd.ntmps71
  go_wp2_with (first | (go_at_call 79; refine (HF.out _).mono ?_; rintro e w2 ⟨rfl, hb⟩; have HB := Aside0.mk hb; clear hb))
  go_ret
  exact ⟨rfl, HB.out⟩
theorem ib (n : Int) (s : ByteArray) (F : ∀ w : World, Calls Tryd.prog 79 #[.int .i64 n, .int .i64 10] w fun e w' => e = .returned (.string s) ∧ Below w.heap.size w w') (w : World) : Calls Tryd.prog 56 #[.int .i64 n] w fun e w' => e = .returned (.string s) ∧ Below w.heap.size w w' := by
  have HF := Aside0.mk (ia n s F)
  clear F
  go_enter Tryd.func56, Tryd.ntmps56
  go_wp2_with (first | (go_at_call 71; refine (HF.out _).mono ?_; rintro e w2 ⟨rfl, hb⟩; have HB := Aside0.mk hb; clear hb))
  go_ret
  exact ⟨rfl, HB.out⟩
theorem err (n : Int) (s : ByteArray) (hs : s.size ≤ 100) (F : ∀ w : World, Calls Tryd.prog 79 #[.int .i64 n, .int .i64 10] w fun e w' => e = .returned (.string s) ∧ Below w.heap.size w w') (w : World) : Calls Tryd.prog 32 #[.int .i64 n] w fun e w' => e = .returned (.string (⟨#[101, 114, 114, 111, 114, 32]⟩ ++ s)) ∧ Below w.heap.size w w' := by
  have HF := Aside0.mk (ib n s F)
  clear F
  go_enter Tryd.func32, Tryd.ntmps32
  go_wp2_with (first | (go_at_call 56; refine (HF.out _).mono ?_; rintro e w2 ⟨rfl, hb⟩; have HB := Aside0.mk hb; clear hb))
  go_ret
  exact ⟨rfl, HB.out⟩
theorem cells_at : ∀ (l : List Int) (i : Nat) (h : i < l.length), (cellsOf l)[2 * i]? = some (.int .i64 l[i]) ∧ (cellsOf l)[2 * i + 1]? = some (.int .i64 l[i])
  | v :: l, 0, _ => ⟨rfl, rfl⟩
  | v :: l, i + 1, h => by
    have := cells_at l i (by simpa using h)
    exact this
theorem cell_at (w : World) (i : Nat) (h : i < vals.length) : (w.alloc (.cells (cellsOf vals).toArray 54 (0, 0))).cell? ⟨w.heap.size, 2 * i, none⟩ = some (.int .i64 vals[i]) ∧ (w.alloc (.cells (cellsOf vals).toArray 54 (0, 0))).cell? ⟨w.heap.size, 2 * i + 1, none⟩ = some (.int .i64 vals[i]) := by
  have := cells_at vals i h
  have hh : (w.alloc (.cells (cellsOf vals).toArray 54 (0, 0))).heap[w.heap.size]? = some (.cells (cellsOf vals).toArray 54 (0, 0)) := by
    show (w.heap.push _)[w.heap.size]? = _
    rw [Array.getElem?_push_size]
  unfold World.cell?
  rw [hh]
  simpa using this
theorem len_vals : vals.length = 109 := by kernel_rfl
theorem err60 (w : World) : Calls Tryd.prog 32 #[.int .i64 60] w fun e w' => e = .returned (.string ⟨#[101, 114, 114, 111, 114, 32, 54, 48]⟩) ∧ Below w.heap.size w w' :=
  err 60 ⟨#[54, 48]⟩ (by decide) fmt60 w
theorem err0 (w : World) : Calls Tryd.prog 32 #[.int .i64 0] w fun e w' => e = .returned (.string ⟨#[101, 114, 114, 111, 114, 32, 48]⟩) ∧ Below w.heap.size w w' :=
  err 0 ⟨#[48]⟩ (by decide) fmt0 w
theorem names_loop (w W : World) (g : Nat) (HB : Aside0 (Below w.heap.size w W)) (hcell : ∀ x : Int, 0 ≤ x → x < 109 → ∃ v : Int, W.cell? ⟨g, x.toNat * 2, none⟩ = some (.int .i64 v) ∧ W.cell? ⟨g, x.toNat * 2 + 1, none⟩ = some (.int .i64 v))
    (h31 : Calls Tryd.prog 31 #[] w fun e w' => e = .returned (.slice (some ⟨g, 0, none⟩) 109 109) ∧ w' = W) : Calls Tryd.prog 9 #[] w fun e w' => e = .returned (.bool true) ∧ Below w.heap.size w w' := by
  have HC := Aside0.mk hcell
  have H31 := Aside0.mk h31
  clear hcell h31
  go_enter Tryd.func9, Tryd.ntmps9
  go_wp2_with (first | (go_at_call 31; refine H31.out.mono ?_; rintro e w2 ⟨rfl, rfl⟩))
  go_loopg [2] 109 (fun kq v2 w' => ∃ (x : Int), v2 = .int .i64 x ∧ Aside0 (0 ≤ x) ∧ Aside0 (x + (kq : Int) = 109) ∧ Drawn0 w2 w')
  case atStart => exact ⟨0, rfl, ⟨by omega⟩, ⟨rfl⟩, by repeat (first | exact Drawn0.refl _ | apply Drawn0.step)⟩
  case round =>
    obtain ⟨x, rfl, H0, HI, ⟨m1, rfl⟩⟩ := hrel
    cases gk with
    | zero =>
      have : x = 109 := by have := HI.out; omega
      subst this
      have HB1 := Aside0.mk (show Below w.heap.size w (w2.drewN m1) from pw_below_drewN HB.out _)
      go_wp2_with (first
        | (go_at_call_of 32 (Value.int IntKind.i64 60); refine (err60 _).mono ?_; rintro e w3 ⟨rfl, hb3⟩; have HB3 := Aside0.mk hb3; clear hb3)
        | (go_at_call_of 32 (Value.int IntKind.i64 0); refine (err0 _).mono ?_; rintro e w4 ⟨rfl, hb4⟩; have HB4 := Aside0.mk hb4; clear hb4))
      go_ret
      exact ⟨rfl, below_step (below_step HB1.out HB3.out) HB4.out⟩
    | succ k1 =>
      have h0 := H0.out
      have h1 : x < 109 := by have := HI.out; omega
      obtain ⟨v, e1, e2⟩ := HC.out x h0 h1
      have hd1 : decide (x < 109) = true := decide_eq_true h1
      have hd0 : decide (0 ≤ x) = true := decide_eq_true h0
      replace h0 := eq_true h0
      replace h1 := eq_true h1
      go_wp2
      repeat (go_quiet (fail); try go_wp2)
      go_roundg k1
      case measure => omega
      case rel => exact ⟨wrap64 (x + 1), by first | rfl | simp, ⟨by have := H0.out; have := HI.out; unfold wrap64; omega⟩, ⟨by have := H0.out; have := HI.out; unfold wrap64; omega⟩, by repeat (first | exact Drawn0.refl _ | apply Drawn0.step)⟩
theorem names (w : World) : Calls Tryd.prog 9 #[] w fun e w' => e = .returned (.bool true) ∧ Below w.heap.size w w' := by
  refine names_loop w _ w.heap.size ⟨below_alloc (Below.refl _ w) _⟩ (fun x h0 h1 => ?_) (by have := all_is w; rw [len_vals] at this; exact this)
  have hx : x.toNat < vals.length := by rw [len_vals]; omega
  have := cell_at w x.toNat hx
  rw [Nat.mul_comm] at this
  exact ⟨_, this.1, this.2⟩
end Go.Proofs.YtjcgjchdelipcaaDoor.N
