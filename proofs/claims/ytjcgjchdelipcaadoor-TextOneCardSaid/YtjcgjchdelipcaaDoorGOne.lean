import Derived.Test.YtjcgjchdelipcaaDoorG2
import Derived.Test.YtjcgjchdelipcaaDoorGEvA
import Derived.WalkLawsBesides

namespace Go.Proofs.YtjcgjchdelipcaaDoor.G
open Go.RowKit Go.Proofs.YtjcgjchdelipcaaDoorW.PrintWords Go.Proofs.YtjcgjchdelipcaaDoorW.PrintLast Go.Proofs.YtjcgjchdelipcaaDoorW.PrintMore
set_option linter.unusedVariables false
set_option linter.unusedSimpArgs false
theorem lit1 (w : World) (c : Int) : Kd.C (Kd.int .i64) (w.alloc (.cells #[.int .i64 c] 3)) (some ⟨w.heap.size, 0, none⟩) 1 [c] :=
  Kd.C_of_reads (d := (0 : Int)) ⟨rfl, by decide, fun _ => ⟨_, rfl, fun j hj => by
    obtain rfl : j = 0 := by omega
    exact cell_one_new w (.int .i64 c) 3 0 _ rfl⟩⟩
theorem bytes1 (c x : Int) (s : ByteArray) (k : Nat) (w : World) (h1 : utext_Bytes.f k [c] = some (s, x)) (hT : Tabs w) :
    Calls Tryd.prog 14 #[.slice (some ⟨w.heap.size, 0, none⟩) 1 1] (w.alloc (.cells #[.int .i64 c] 3)) fun e w' => e = .returned (.tuple #[.string s, .int .i64 x]) ∧ Below w.heap.size w w' := by
  have hb : Below w.heap.size w (w.alloc (.cells #[.int .i64 c] 3)) := (Below.refl _ w).alloc (Nat.le_refl _) _
  refine (utext_Bytes.calls k (some ⟨w.heap.size, 0, none⟩) 1 [c] s x _ (lit1 w c) (Nat.le_refl _) h1 (Tabs_below hT hb)).mono ?_
  rintro e w' ⟨rfl, h⟩
  exact ⟨rfl, below_step hb h⟩
theorem lit_own (W : World) (b : Int) : (W.alloc (.cells #[.int .u8 b] 5)).ownsRow 0 5 1 (.slice (some ⟨W.heap.size, 0, none⟩) 1 1) 1 (nums .u8 [b]) :=
  ⟨rfl, .inr ⟨W.heap.size, 1, #[.int .u8 b], rfl, Nat.zero_le _, heap_alloc_new W _, Nat.le_refl _, by decide, rfl, rfl⟩⟩
theorem cv0 (W : World) (g : Nat) (b : Int) (hg : W.heap.size = g) : (convert 32 9 (.slice (some ⟨g, 0, none⟩) 1 1)).run Tryd.prog (W.alloc (.cells #[.int .u8 b] 5)) = .ok (.string (strOfNums [b])) (W.alloc (.cells #[.int .u8 b] 5)) := by
  subst hg
  exact own_string Tryd.underlying32 Tryd.underlying5 Tryd.underlying9 (lit_own W b)
theorem cvm (W : World) (g m : Nat) (b : Int) (hg : W.heap.size = g) : (convert 32 9 (.slice (some ⟨g, 0, none⟩) 1 1)).run Tryd.prog ((W.alloc (.cells #[.int .u8 b] 5)).drewN m) = .ok (.string (strOfNums [b])) ((W.alloc (.cells #[.int .u8 b] 5)).drewN m) := by
  subst hg
  have h : Kd.R (Kd.int .u8) 5 (W.alloc (.cells #[.int .u8 b] 5)) 0 (fun _ => True) (.slice (some ⟨W.heap.size, 0, none⟩) 1 1) [b] := Kd.R_of_own (lit_own W b) (fun _ _ => trivial)
  exact own_string Tryd.underlying32 Tryd.underlying5 Tryd.underlying9 (Kd.own_of_R (Kd.R_drewN h m))
/-- How many bytes, counted by the first i bounds. -/
def cnt (c : Int) : Nat → Int
  | 0 => 1
  | 1 => 1 + (if c > 127 then 1 else 0)
  | 2 => 1 + (if c > 127 then 1 else 0) + (if c > 2047 then 1 else 0)
  | _ => 1 + (if c > 127 then 1 else 0) + (if c > 2047 then 1 else 0) + (if c > 65535 then 1 else 0)
theorem Addr_add0 (a : Addr) : a.add 0 = a := rfl
theorem rdx (x : Int) : rd [x] 0 = x := rfl
set_option maxHeartbeats 4000000 in
set_option maxRecDepth 100000 in
theorem one_good (c b x : Int) (s : ByteArray) (k : Nat) (w : World) (hT : Tabs w) (h1 : utext_Bytes.f k [c] = some (s, 0)) (h2 : utext_Signs.f k (strOfNums [b]) = some [x]) (h3 : umlautlaw2_awake.f k = some true)
    (hG : (0 ≤ c ∧ c < 128 ∧ s.size = 1) ∨ (128 ≤ c ∧ c < 2048 ∧ s.size = 2) ∨ (2048 ≤ c ∧ c < 55296 ∧ s.size = 3) ∨ (57344 ≤ c ∧ c < 65536 ∧ s.size = 3) ∨ (65536 ≤ c ∧ c ≤ 1114111 ∧ s.size = 4))
    (hen : ((Utf8.encode c).toList == s.toList) = true) (hx : (b < 128 ∧ b = x) ∨ (128 ≤ b ∧ 1114112 + b = x)) (hb0 : 0 ≤ b) (hb1 : b < 256) :
    Calls Tryd.prog 4 #[.int .i64 c, .int .u8 b] w fun e w' => e = .returned (.bool true) ∧ Below w.heap.size w w' := by
  have C1 := bytes1 c 0 s k w h1 hT
  have HT := Aside0.mk hT
  have H2 := Aside0.mk h2
  have H3 := Aside0.mk h3
  clear hT h1 h2 h3
  rcases hG with ⟨g1, g2, gs⟩ | ⟨g1, g2, gs⟩ | ⟨g1, g2, gs⟩ | ⟨g1, g2, gs⟩ | ⟨g1, g2, gs⟩ <;> rcases hx with ⟨b1, rfl⟩ | ⟨b1, rfl⟩
  all_goals
    have s1 := Nat.le_of_eq gs
    have s2 := Nat.le_of_eq gs.symm
    clear gs
    go_enter Tryd.func4, Tryd.ntmps4
    go_wp2_with (go_at_call 14; refine C1.mono ?_; rintro e w1 ⟨rfl, hb⟩)
    have HB := Aside0.mk hb
    clear hb C1
    go_loopg [9, 50] 4 (fun gk v9 v50 w' => ∃ i : Nat, v50 = .int .i64 i ∧ i ≤ 3 ∧ i + gk = 4 ∧ v9 = .int .i64 (cnt c i) ∧ ∃ m, w' = (w1.alloc (.cells #[.int .i64 127, .int .i64 2047, .int .i64 65535] 3)).drewN m)
    case atStart => exact ⟨0, rfl, by omega, by omega, rfl, 0, rfl⟩
    case round =>
      obtain ⟨i, rfl, hi3, hig, rfl, m, rfl⟩ := hrel
      obtain rfl | rfl | rfl | rfl : i = 0 ∨ i = 1 ∨ i = 2 ∨ i = 3 := by omega
      · have q0 : cnt c 0 = 1 := rfl
        rw [q0]
        clear q0
        go_wp2
        go_roundg (gk - 1)
        case measure => omega
        case rel => exact ⟨1, rfl, by omega, by omega, by unfold cnt; first | rw [if_pos (by omega)]; rfl | rw [if_neg (by omega)]; rfl, m, rfl⟩
      · have q1 : cnt c 1 = 1 + (if c > 127 then 1 else 0) := rfl
        rw [q1]
        clear q1
        first | rw [if_pos (by omega)] | rw [if_neg (by omega)]
        go_wp2
        go_roundg (gk - 1)
        case measure => omega
        case rel => exact ⟨2, rfl, by omega, by omega, by unfold cnt; (first | rw [if_pos (by omega)] | rw [if_neg (by omega)]); (first | rw [if_pos (by omega)]; rfl | rw [if_neg (by omega)]; rfl), m, rfl⟩
      · have q2 : cnt c 2 = 1 + (if c > 127 then 1 else 0) + (if c > 2047 then 1 else 0) := rfl
        rw [q2]
        clear q2
        first | rw [if_pos (by omega)] | rw [if_neg (by omega)]
        first | rw [if_pos (by omega)] | rw [if_neg (by omega)]
        go_wp2
        go_roundg (gk - 1)
        case measure => omega
        case rel => exact ⟨3, rfl, by omega, by omega, by unfold cnt; (first | rw [if_pos (by omega)] | rw [if_neg (by omega)]); (first | rw [if_pos (by omega)] | rw [if_neg (by omega)]); (first | rw [if_pos (by omega)]; rfl | rw [if_neg (by omega)]; rfl), m, rfl⟩
      · have q3 : cnt c 3 = 1 + (if c > 127 then 1 else 0) + (if c > 2047 then 1 else 0) + (if c > 65535 then 1 else 0) := rfl
        rw [q3]
        clear q3
        first | rw [if_pos (by omega)] | rw [if_neg (by omega)]
        first | rw [if_pos (by omega)] | rw [if_neg (by omega)]
        first | rw [if_pos (by omega)] | rw [if_neg (by omega)]
        have hcv := cv0 ((w1.alloc (.cells #[.int .i64 127, .int .i64 2047, .int .i64 65535] 3)).drewN m) (w1.heap.size + 1) b (by simp)
        go_wp2_with (first
        | (go_at_call 17; refine (utext_Signs.calls k _ _ _ H2.out (Tabs_below HT.out (by repeat (first | (with_reducible first | exact HB.out | apply below_alloc | apply pw_below_drewN | apply below_drew1) | exact HB.out)))).mono ?_; rintro e w2 ⟨v0, rfl, ho, hb⟩; have n0_ := Aside0.mk (below_step (by repeat (first | (with_reducible first | exact HB.out | apply below_alloc | apply pw_below_drewN | apply below_drew1) | exact HB.out)) hb); clear HB hb; have HB := n0_; clear n0_; obtain ⟨A1, c1, rfl, -, hf⟩ := ho; obtain ⟨ad, e1, hx⟩ := Kd.at_int (hf w2 (fun _ _ _ => rfl)) 0 (by decide) (by simp); subst e1; clear hf; simp only [Int.toNat_zero, rdx, Addr_add0] at hx)
        | (go_at_call 13; refine (umlautlaw2_awake.calls k true _ H3.out (Tabs_below HT.out (by repeat (first | (with_reducible first | exact HB.out | apply below_alloc | apply pw_below_drewN | apply below_drew1) | exact HB.out)))).mono ?_; rintro e w2 ⟨rfl, hb⟩; have n0_ := Aside0.mk (below_step (by repeat (first | (with_reducible first | exact HB.out | apply below_alloc | apply pw_below_drewN | apply below_drew1) | exact HB.out)) hb); clear HB hb; have HB := n0_; clear n0_))
        go_ret
        exact ⟨rfl, HB.out⟩
set_option maxHeartbeats 4000000 in
set_option maxRecDepth 100000 in
theorem one_other (c b x e0 : Int) (s : ByteArray) (k : Nat) (w : World) (hT : Tabs w) (h1 : utext_Bytes.f k [c] = some (s, e0)) (h2 : utext_Signs.f k (strOfNums [b]) = some [x]) (h3 : umlautlaw2_awake.f k = some true)
    (hG : (1114240 ≤ c ∧ c ≤ 1114367 ∧ e0 = 0) ∨ (c < 0 ∧ e0 = 1) ∨ (55296 ≤ c ∧ c ≤ 57343 ∧ e0 = 1) ∨ (1114112 ≤ c ∧ c < 1114240 ∧ e0 = 1) ∨ (1114367 < c ∧ e0 = 1))
    (hx : (b < 128 ∧ b = x) ∨ (128 ≤ b ∧ 1114112 + b = x)) (hb0 : 0 ≤ b) (hb1 : b < 256) :
    Calls Tryd.prog 4 #[.int .i64 c, .int .u8 b] w fun e w' => e = .returned (.bool true) ∧ Below w.heap.size w w' := by
  have HT := Aside0.mk hT
  have H2 := Aside0.mk h2
  have H3 := Aside0.mk h3
  clear h2 h3
  rcases hG with ⟨g1, g2, rfl⟩ | ⟨g1, rfl⟩ | ⟨g1, g2, rfl⟩ | ⟨g1, g2, rfl⟩ | ⟨g1, rfl⟩ <;> rcases hx with ⟨b1, rfl⟩ | ⟨b1, rfl⟩
  all_goals
    have C1 := bytes1 c _ s k w h1 hT
    clear h1 hT
    go_enter Tryd.func4, Tryd.ntmps4
    go_wp2_with (go_at_call 14; refine C1.mono ?_; rintro e w1 ⟨rfl, hb⟩; have HB := Aside0.mk hb; clear hb C1; have hcv := cv0 w1 w1.heap.size b rfl)
    go_wp2_with (first
    | (go_at_call 17; refine (utext_Signs.calls k _ _ _ H2.out (Tabs_below HT.out (by repeat (first | (with_reducible first | exact HB.out | apply below_alloc | apply pw_below_drewN | apply below_drew1) | exact HB.out)))).mono ?_; rintro e w2 ⟨v0, rfl, ho, hb⟩; have n0_ := Aside0.mk (below_step (by repeat (first | (with_reducible first | exact HB.out | apply below_alloc | apply pw_below_drewN | apply below_drew1) | exact HB.out)) hb); clear HB hb; have HB := n0_; clear n0_; obtain ⟨A1, c1, rfl, -, hf⟩ := ho; obtain ⟨ad, e1, hx⟩ := Kd.at_int (hf w2 (fun _ _ _ => rfl)) 0 (by decide) (by simp); subst e1; clear hf; simp only [Int.toNat_zero, rdx, Addr_add0] at hx)
    | (go_at_call 13; refine (umlautlaw2_awake.calls k true _ H3.out (Tabs_below HT.out (by repeat (first | (with_reducible first | exact HB.out | apply below_alloc | apply pw_below_drewN | apply below_drew1) | exact HB.out)))).mono ?_; rintro e w2 ⟨rfl, hb⟩; have n0_ := Aside0.mk (below_step (by repeat (first | (with_reducible first | exact HB.out | apply below_alloc | apply pw_below_drewN | apply below_drew1) | exact HB.out)) hb); clear HB hb; have HB := n0_; clear n0_))
    go_ret
    exact ⟨rfl, HB.out⟩
end Go.Proofs.YtjcgjchdelipcaaDoor.G
