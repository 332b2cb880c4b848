/- The law's own helpers: may, find. -/
import Derived.Test.YtpameikbacnpcaaTA
namespace Go.Proofs.Ytpameikbacnpcaa.T
open Go Go.RowKit Go.Maps Go.Proofs.Ytpameikbacnpcaa.M
set_option linter.unusedVariables false

set_option maxHeartbeats 800000 in
theorem may_calls (c v : Int) (w : World) (b : Bool) (hb : okP (c, v) = b) : Calls Try.prog 8 #[.agg #[.int .i64 c, .int .i64 v]] w fun e w' => e = .returned (.bool b) ∧ Below w.heap.size w w' := by
  have HBB := Lib.hid hb
  clear hb
  by_cases h1 : 0 ≤ c
  · by_cases h2 : c ≤ 1114367
    · by_cases h3 : -2147483648 ≤ v
      · have HE := Lib.hid (show okP (c, v) = decide (v < 2147483648) by simp [okP, h1, h2, h3]; omega)
        have d1 : decide (0 ≤ c) = true := decide_eq_true h1
        have d2 : decide (c ≤ 1114367) = true := decide_eq_true h2
        have d3 : decide (-2147483648 ≤ v) = true := decide_eq_true h3
        go_enter Try.func8, Try.ntmps8
        go_wp2
        go_ret
        exact ⟨by rw [← HBB.out, HE.out]; rfl, (Below.refl _ _).alloc (Nat.le_refl _) _⟩
      · have HE := Lib.hid (show okP (c, v) = false by simp [okP, h1, h2, h3])
        have d1 : decide (0 ≤ c) = true := decide_eq_true h1
        have d2 : decide (c ≤ 1114367) = true := decide_eq_true h2
        have d3 : decide (-2147483648 ≤ v) = false := decide_eq_false h3
        go_enter Try.func8, Try.ntmps8
        go_wp2
        go_ret
        exact ⟨by rw [← HBB.out, HE.out]; rfl, (Below.refl _ _).alloc (Nat.le_refl _) _⟩
    · have HE := Lib.hid (show okP (c, v) = false by simp [okP, h1, h2])
      have d1 : decide (0 ≤ c) = true := decide_eq_true h1
      have d2 : decide (c ≤ 1114367) = false := decide_eq_false h2
      go_enter Try.func8, Try.ntmps8
      go_wp2
      go_ret
      exact ⟨by rw [← HBB.out, HE.out]; rfl, (Below.refl _ _).alloc (Nat.le_refl _) _⟩
  · have HE := Lib.hid (show okP (c, v) = false by simp [okP, h1])
    have d1 : decide (0 ≤ c) = false := decide_eq_false h1
    go_enter Try.func8, Try.ntmps8
    go_wp2
    go_ret
    exact ⟨by rw [← HBB.out, HE.out]; rfl, (Below.refl _ _).alloc (Nat.le_refl _) _⟩

/-- A sign's number in pairs. -/
def findP : List (Int × Int) → Int → Int
  | [], _ => 0
  | p :: r, c => if p.1 = c then p.2 else findP r c
set_option maxHeartbeats 800000 in
theorem find_calls (A : Option Addr) (c0 : Nat) (l : List (Int × Int)) (c : Int) (w : World) (hA : PRow w A l) (hl : l.length ≤ 1000000) :
    Calls Try.prog 10 #[.slice A l.length c0, .int .i64 c] w fun e w' => e = .returned (.int .i64 (findP l c)) ∧ w = w' := by
  have HA := Lib.hid hA
  clear hA
  go_enter Try.func10, Try.ntmps10
  go_wp2
  go_loop [5] (fun v5 => ∃ i : Nat, i ≤ l.length ∧ v5 = .int .i64 i ∧ Hid (findP (l.drop i) c = findP l c)) (fun v5 => l.length - (intOf v5).toNat)
  case atStart => exact ⟨0, Nat.zero_le _, rfl, Lib.hid rfl⟩
  case round =>
    obtain ⟨i, hi, rfl, HE⟩ := hrel
    by_cases hlt : i < l.length
    · obtain ⟨ad, ea, hx0, hx1⟩ := HA.out i hlt
      subst ea
      have hE := HE.out
      rw [List.drop_eq_getElem_cons hlt, findP] at hE
      have hg : l[i] = l.getD i (0, 0) := by simp [List.getD_eq_getElem?_getD, List.getElem?_eq_getElem hlt]
      rw [hg] at hE
      obtain ⟨p, hp⟩ : ∃ p, p = l.getD i (0, 0) := ⟨_, rfl⟩
      obtain ⟨pc, pv⟩ := p
      rw [← hp] at hE hx0 hx1
      clear hp hg HE
      by_cases hc : pc = c
      · rw [if_pos hc] at hE
        have HE := Lib.hid hE
        have hb : (pc == c) = true := beq_iff_eq.mpr hc
        clear hE hc
        go_wp2
        go_ret
        exact ⟨by rw [← HE.out]; rfl, rfl⟩
      · rw [if_neg hc] at hE
        have HE := Lib.hid hE
        have hb : (pc == c) = false := beq_eq_false_iff_ne.mpr hc
        clear hE hc
        go_wp2
        go_round
        case rel => exact ⟨i + 1, by omega, by go_num, HE⟩
        case measure => simp [intOf]; omega
    · have hE := HE.out
      rw [List.drop_of_length_le (by omega)] at hE
      have HE := Lib.hid hE
      clear hE
      go_wp2
      go_ret
      exact ⟨by rw [← HE.out]; rfl, rfl⟩
theorem heap_drewN (w : World) : ∀ n, (w.drewN n).heap = w.heap
  | 0 => rfl
  | n + 1 => by show ((w.drewN n).drew).heap = _; exact heap_drewN w n
theorem grown_drewN (w : World) (n : Nat) : w.grownBy (w.drewN n) none := by
  induction n with
  | zero => exact ⟨rfl, rfl, rfl, Nat.le_refl _, fun _ _ _ => rfl⟩
  | succ n ih => exact ⟨ih.os, ih.tape, ih.output, ih.size, ih.block⟩
theorem PRow.grown {w w' : World} {A : Option Addr} {l : List (Int × Int)} (h : PRow w A l) (hg : w.grownBy w' none) : PRow w' A l := fun i hi => by
  obtain ⟨ad, e, h0, h1⟩ := h i hi
  exact ⟨ad, e, (World.cell?_of_block (hg.block _ (World.block_lt_of_cell? w _ h0) (by simp))).trans h0, (World.cell?_of_block (hg.block _ (World.block_lt_of_cell? w _ h1) (by simp))).trans h1⟩
theorem find_q (A : Option Addr) (c0 : Nat) (l : List (Int × Int)) (c : Int) (w : World) (hA : PRow w A l) (hl : l.length ≤ 1000000) (n : Nat) :
    Calls Try.prog 10 #[.slice A l.length c0, .int .i64 c] (w.drewN n) fun e w' => e = .returned (.int .i64 (findP l c)) ∧ ∃ m, w' = w.drewN m :=
  Calls.quiet_of_same ((find_calls A c0 l c _ (hA.grown (grown_drewN w n)) hl).mono (fun _ _ h => ⟨h.1, h.2.symm⟩))
end Go.Proofs.Ytpameikbacnpcaa.T
