-- Written by this session's program wip/gp/gprint.py round the kit's printer. Not trusted: Lean checks it.
import Derived.Test.YtjcgjchdelipcaaDoorR0
import Derived.Test.YtjcgjchdelipcaaDoorR1
namespace Go.Proofs.YtjcgjchdelipcaaDoor.R
open Go.RowKit Go.Proofs.YtjcgjchdelipcaaDoorW.PrintWords Go.Proofs.YtjcgjchdelipcaaDoorW.PrintLast Go.Proofs.YtjcgjchdelipcaaDoorW.PrintMore
attribute [local go_sem] max2_int min2_int max_two min_two max_three min_three max_four min_four   -- for this text's walks alone
set_option linter.unusedVariables false
set_option linter.unusedSimpArgs false

abbrev o_ : Bool := true
abbrev z_ : Bool := false
theorem same_q1 {A0 A1 : Option Addr} {c0 c1 : Nat} {l0 l1 : List Int} {k : Nat} {r : Bool} {w : World} (h0 : Kd.C (Kd.int .i64) w A0 l0.length l0) (hc0 : l0.length ≤ c0) (h1 : Kd.C (Kd.int .i64) w A1 l1.length l1) (hc1 : l1.length ≤ c1) (h : Aside0 (umlautref1_SameInts.f k l0 l1 = some r)) (n : Nat) :
    Calls Tryd.prog 16 #[.slice A0 l0.length c0, .slice A1 l1.length c1] (w.drewN n) fun e w' => e = .returned (.bool r) ∧ ∃ m, w' = w.drewN m := by
  refine (umlautref1_SameInts.calls k A0 c0 l0 A1 c1 l1 r (w.drewN n) (Kd.C_below h0 (Drawn0.below ⟨⟨n, rfl⟩⟩)) hc0 (Kd.C_below h1 (Drawn0.below ⟨⟨n, rfl⟩⟩)) hc1 h.out).mono ?_
  rintro e w' ⟨rfl, ⟨m, rfl⟩⟩
  exact ⟨rfl, Drawn0.out (Drawn0.step (w := w) (w' := w.drewN n) ⟨⟨n, rfl⟩⟩ m)⟩
/-- The two asked for: one contract for both. -/
theorem same_q {A0 A1 B0 B1 : Option Addr} {c0 c1 d0 d1 : Nat} {l0 l1 m0 m1 : List Int} {k k' : Nat} {r r' : Bool} {w : World} (h0 : Kd.C (Kd.int .i64) w A0 l0.length l0) (hc0 : l0.length ≤ c0) (h1 : Kd.C (Kd.int .i64) w A1 l1.length l1) (hc1 : l1.length ≤ c1)
    (j0 : Kd.C (Kd.int .i64) w B0 m0.length m0) (ic0 : m0.length ≤ d0) (j1 : Kd.C (Kd.int .i64) w B1 m1.length m1) (ic1 : m1.length ≤ d1) (h : Aside0 (umlautref1_SameInts.f k l0 l1 = some r)) (h' : Aside0 (umlautref1_SameInts.f k' m0 m1 = some r')) (n : Nat) (v : Value) {x y : Value}
    (hv : (x = .slice A0 l0.length c0 ∧ y = .slice A1 l1.length c1 ∧ v = .bool r) ∨ (x = .slice B0 m0.length d0 ∧ y = .slice B1 m1.length d1 ∧ v = .bool r')) :
    Calls Tryd.prog 16 #[x, y] (w.drewN n) fun e w' => e = .returned v ∧ ∃ m, w' = w.drewN m := by
  rcases hv with ⟨rfl, rfl, rfl⟩ | ⟨rfl, rfl, rfl⟩
  · exact same_q1 h0 hc0 h1 hc1 h n
  · exact same_q1 j0 ic0 j1 ic1 h' n
/-! ### umlautlaw6_Same: function 30 -/
def umlautlaw6_Same.l0 : Nat → List (S63) → List (S57) → Int → Option (Bool)
 | 0, _, _, _ => none
 | k + 1, x0, x1, x5 => if x5 < (x0.length : Int) then (if 0 ≤ x5 then (if x5 < (x1.length : Int) then (if ((rd_T63 x0 x5).f0) = ((rd_T57 x1 x5).f0) then ((umlautref1_SameInts.f k ((rd_T63 x0 x5).f1) ((rd_T57 x1 x5).f1)).bind fun t283 => (if t283 = true then ((umlautref1_SameInts.f k ((rd_T63 x0 x5).f2) ((rd_T57 x1 x5).f2)).bind fun t286 => (if t286 = true then (umlautlaw6_Same.l0 k x0 x1 (wrap64 (x5 + 1))) else (some false))) else (some false))) else (some false)) else (none)) else (none)) else (some true)
def umlautlaw6_Same.f (k : Nat) (l0 : List (S63)) (l1 : List (S57)) : Option (Bool) := if (l0.length : Int) = (l1.length : Int) then (umlautlaw6_Same.l0 k l0 l1 0) else (some false)
theorem umlautlaw6_Same.mono_l : ∀ k, (∀ y0 y1 y2, LeO (umlautlaw6_Same.l0 k y0 y1 y2) (umlautlaw6_Same.l0 (k + 1) y0 y1 y2))
 | 0 => fun _ _ _ r h => by simp [umlautlaw6_Same.l0] at h
 | k + 1 => by
  have ih0 := umlautlaw6_Same.mono_l k
  ·intro y0 y1 y2
   unfold umlautlaw6_Same.l0
   repeat' first
   | (with_reducible exact ih0 _ _ _)
   | (with_reducible exact umlautref1_SameInts.mono _ _ _)
   | (with_reducible exact LeO.refl _)
   | (with_reducible exact LeO.none _)
   | (with_reducible refine LeO.ite ?_ ?_)
   | (with_reducible refine LeO.bind ?_ (fun _ => ?_))
   | exact ih0 _ _ _
   | exact umlautref1_SameInts.mono _ _ _
   | exact LeO.none _
   | refine LeO.ite ?_ ?_
   | refine LeO.bind ?_ (fun _ => ?_)
theorem umlautlaw6_Same.mono : ∀ a0 a1 k, LeO (umlautlaw6_Same.f k a0 a1) (umlautlaw6_Same.f (k + 1) a0 a1) := by
 intro a0 a1 k
 have ih0 := umlautlaw6_Same.mono_l k
 unfold umlautlaw6_Same.f
 repeat' first
   | (with_reducible exact ih0 _ _ _)
   | (with_reducible exact umlautref1_SameInts.mono _ _ _)
   | (with_reducible exact LeO.refl _)
   | (with_reducible exact LeO.none _)
   | (with_reducible refine LeO.ite ?_ ?_)
   | (with_reducible refine LeO.bind ?_ (fun _ => ?_))
   | exact ih0 _ _ _
   | exact umlautref1_SameInts.mono _ _ _
   | exact LeO.none _
   | refine LeO.ite ?_ ?_
   | refine LeO.bind ?_ (fun _ => ?_)
set_option maxHeartbeats 4000000 in
set_option maxRecDepth 100000 in
theorem umlautlaw6_Same.calls (k : Nat) (A0 : Option Addr) (c0 : Nat) (l0 : List (S63)) (A1 : Option Addr) (c1 : Nat) (l1 : List (S57)) (r : Bool) (w : World) (hr0 : Kd.C k63 w A0 l0.length l0) (hc0 : l0.length ≤ c0) (hr1 : Kd.C k57 w A1 l1.length l1) (hc1 : l1.length ≤ c1) (h : umlautlaw6_Same.f k l0 l1 = some r) :
    Calls Tryd.prog 30 #[.slice A0 l0.length c0, .slice A1 l1.length c1] w fun e w' => e = .returned (.bool r) ∧ Below w.heap.size w w' := by
  have HA := Aside0.mk hr0
  have HC := Aside0.mk hr1
  have hm0 := Kd.C_max hr0
  have hm1 := Kd.C_max hr1
  have HB := Aside0.mk (Below.refl w.heap.size w)
  have H := Aside0.mk h
  clear hr0 hr1 h
  unfold umlautlaw6_Same.f at H
  by_cases hlen : (l0.length : Int) = (l1.length : Int)
  · have H1 : Aside0 (∃ kq, umlautlaw6_Same.l0 kq l0 l1 0 = some r) := ⟨⟨k, by have h := H.out; rw [if_pos hlen] at h; exact h⟩⟩
    have hd : ((l0.length : Int) != (l1.length : Int)) = false := by simp; omega
    have hd2 : (l0.length != l1.length) = false := by simp; omega
    have HL := Aside0.mk (show l0.length = l1.length by omega)
    clear hlen H
    go_enter Tryd.func30, Tryd.ntmps30
    go_wp2
    go_loopw [5] (fun v5 w' => ∃ i : Nat, i ≤ l0.length ∧ v5 = .int .i64 i ∧ Aside0 (∃ kq, umlautlaw6_Same.l0 kq l0 l1 (i : Int) = some r) ∧ Aside0 (Below w.heap.size w w')) (fun v5 _ => l0.length - (intOf v5).toNat)
    case atStart => exact ⟨0, Nat.zero_le _, rfl, H1, HB⟩
    case round =>
      clear H1 HB
      obtain ⟨i, hi, rfl, HE, HB⟩ := hrel
      obtain ⟨kq, hE⟩ := HE.out
      clear HE
      cases kq with
      | zero => exact absurd hE (by simp [umlautlaw6_Same.l0])
      | succ kq =>
        simp only [umlautlaw6_Same.l0] at hE
        by_cases hlt : i < l0.length
        · rw [if_pos (by omega), if_pos (by omega), if_pos (by have := HL.out; omega)] at hE
          obtain ⟨ad, A2, c2, A3, c3, ea, hx0, hx1, hx2, hl1, g1, hl2, g2⟩ := at_T63 HA.out (i : Int) (by omega) (by omega)
          obtain ⟨bd, B2, d2, B3, d3, eb, hy0, hy1, hy2, kl1, j1, kl2, j2⟩ := at_T57 HC.out (i : Int) (by omega) (by have := HL.out; omega)
          subst ea
          subst eb
          simp only [Int.toNat_natCast] at hx0 hx1 hx2 hy0 hy1 hy2
          have hbx := World.block_lt_of_cell? w _ hx0
          have hby := World.block_lt_of_cell? w _ hy0
          replace hx0 := (HB.out.cell hbx).trans hx0
          replace hx1 := (HB.out.cell (p := ⟨(ad.add (i * 3)).block, (ad.add (i * 3)).off + 1, none⟩) hbx).trans hx1
          replace hx2 := (HB.out.cell (p := ⟨(ad.add (i * 3)).block, (ad.add (i * 3)).off + 2, none⟩) hbx).trans hx2
          replace hy0 := (HB.out.cell hby).trans hy0
          replace hy1 := (HB.out.cell (p := ⟨(bd.add (i * 3)).block, (bd.add (i * 3)).off + 1, none⟩) hby).trans hy1
          replace hy2 := (HB.out.cell (p := ⟨(bd.add (i * 3)).block, (bd.add (i * 3)).off + 2, none⟩) hby).trans hy2
          have G1 := Kd.C_below g1 HB.out
          have G2 := Kd.C_below g2 HB.out
          have J1 := Kd.C_below j1 HB.out
          have J2 := Kd.C_below j2 HB.out
          have hltb : i < l1.length := by have := HL.out; omega
          have hw : wrap64 ((i : Int) + 1) = ((i + 1 : Nat) : Int) := by unfold wrap64; omega
          rw [hw] at hE
          clear g1 g2 j1 j2 hbx hby hw
          generalize rd_T63 l0 (i : Int) = x at *
          generalize rd_T57 l1 (i : Int) = y at *
          have HN : ∀ n : Nat, Aside0 (Below w.heap.size w (wr.drewN n)) := fun n => ⟨HB.out.trans ((Drawn0.below ⟨⟨n, rfl⟩⟩).mono HB.out.size)⟩
          clear HB
          by_cases q0 : x.f0 = y.f0
          · rw [if_pos q0] at hE
            have qb : (x.f0 != y.f0) = false := by simpa using q0
            clear q0
            obtain ⟨b1, hb1, hE⟩ := Option.bind_eq_some_iff.mp hE
            have HB1 := Aside0.mk hb1
            clear hb1
            cases b1 with
            | true =>
              rw [if_pos rfl] at hE
              obtain ⟨b2, hb2, hE⟩ := Option.bind_eq_some_iff.mp hE
              have HB2 := Aside0.mk hb2
              clear hb2
              cases b2 with
              | true =>
                rw [if_pos rfl] at hE
                have HE := Aside0.mk hE
                clear hE
                go_wp2
                go_quiet ((go_at_call 16; exact same_q G1 hl1 J1 kl1 G2 hl2 J2 kl2 HB1 HB2 _ _ (by first | exact .inl ⟨rfl, rfl, rfl⟩ | exact .inr ⟨rfl, rfl, rfl⟩)))
                clear HB1 HB2 G1 G2 J1 J2
                go_wp2
                go_roundw
                case rel => exact ⟨i + 1, by omega, by go_num, ⟨_, HE.out⟩, HN _⟩
                case measure => simp [intOf]; omega
              | false =>
                rw [if_neg (by simp)] at hE
                obtain rfl := Option.some.inj hE
                go_wp2
                go_quiet ((go_at_call 16; exact same_q G1 hl1 J1 kl1 G2 hl2 J2 kl2 HB1 HB2 _ _ (by first | exact .inl ⟨rfl, rfl, rfl⟩ | exact .inr ⟨rfl, rfl, rfl⟩)))
                clear HB1 HB2 G1 G2 J1 J2
                go_wp2
                go_ret
                exact ⟨rfl, (HN _).out⟩
            | false =>
              rw [if_neg (by simp)] at hE
              obtain rfl := Option.some.inj hE
              go_wp2
              go_quiet ((go_at_call 16; exact same_q1 G1 hl1 J1 kl1 HB1 _))
              clear HB1 G1 G2 J1 J2
              go_wp2
              go_ret
              exact ⟨rfl, (HN _).out⟩
          · rw [if_neg q0] at hE
            have qb : (x.f0 != y.f0) = true := by simpa using q0
            clear q0
            obtain rfl := Option.some.inj hE
            go_wp2
            go_quiet (fail)
            clear G1 G2 J1 J2
            go_wp2
            go_ret
            exact ⟨rfl, (HN _).out⟩
        · rw [if_neg (by omega)] at hE
          obtain rfl := Option.some.inj hE
          go_wp2
          go_ret
          exact ⟨rfl, HB.out⟩
  · have hd : ((l0.length : Int) != (l1.length : Int)) = true := by simp; omega
    have hd2 : (l0.length != l1.length) = true := by simp; omega
    have h := H.out
    rw [if_neg hlen] at h
    obtain rfl := Option.some.inj h
    clear h H hlen
    go_enter Tryd.func30, Tryd.ntmps30
    go_wp2
    go_ret
    exact ⟨rfl, HB.out⟩
end Go.Proofs.YtjcgjchdelipcaaDoor.R
