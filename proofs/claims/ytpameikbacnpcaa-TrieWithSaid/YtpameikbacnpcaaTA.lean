/- The trie, first part: which pairs may be, the closure that asks it, and the search for one that may not. -/
import Derived.Test.YtpameikbacnpcaaProg
import Derived.Test.YtpameikbacnpcaaK
import Derived.Below
import Derived.Deep.LoopGhost
import Derived.Deep.RegionWith
import Derived.BigGuardPart
import Derived.Deep.QuietTactic
import Derived.BigQuiet
import Derived.OwnWalk
import Derived.Lib.Hide
namespace Go.Proofs.Ytpameikbacnpcaa.T
open Go Go.RowKit Go.Maps Go.Proofs.Ytpameikbacnpcaa.M
set_option linter.unusedVariables false

/-- A pair may be. -/
def okP (p : Int × Int) : Bool := decide (0 ≤ p.1) && decide (p.1 ≤ 1114367) && decide (-2147483648 ≤ p.2) && decide (p.2 ≤ 2147483647)
/-- The cells of pairs. -/
def PRow (w : World) (A : Option Addr) (l : List (Int × Int)) : Prop :=
  ∀ i : Nat, i < l.length → ∃ ad, A = some ad ∧ w.cell? (ad.add (i * 2)) = some (.int .i64 (l.getD i (0, 0)).1) ∧ w.cell? ⟨(ad.add (i * 2)).block, (ad.add (i * 2)).off + 1, none⟩ = some (.int .i64 (l.getD i (0, 0)).2)
theorem PRow.below {w w' : World} {A : Option Addr} {l : List (Int × Int)} (h : PRow w A l) (hb : Below w.heap.size w w') : PRow w' A l := fun i hi => by
  obtain ⟨ad, e, h0, h1⟩ := h i hi
  exact ⟨ad, e, (hb.cell (World.block_lt_of_cell? w _ h0)).trans h0, (hb.cell (World.block_lt_of_cell? w _ h1)).trans h1⟩
theorem add_blk (ad : Addr) (k : Nat) : (ad.add k).block = ad.block := by unfold Addr.add; split <;> rfl
theorem add_one2 (ad : Addr) (k : Nat) : (⟨(ad.add k).block, (ad.add k).off + 1, none⟩ : Addr) = ad.add (k + 1) := by
  unfold Addr.add
  by_cases h : k = 0
  · subst h; simp
  · simp [h]; omega
theorem PRow.below' {w w' : World} {B : Nat} {A : Option Addr} {l : List (Int × Int)} (h : PRow w A l) (hb : Below B w w') (hB : ∀ a, A = some a → a.block < B) : PRow w' A l := fun i hi => by
  obtain ⟨ad, e, h0, h1⟩ := h i hi
  exact ⟨ad, e, (hb.cell (p := ad.add (i * 2)) (add_blk ad _ ▸ hB ad e)).trans h0, (hb.cell (p := ⟨(ad.add (i * 2)).block, (ad.add (i * 2)).off + 1, none⟩) (show (ad.add (i * 2)).block < B from add_blk ad _ ▸ hB ad e)).trans h1⟩

set_option maxHeartbeats 800000 in
theorem valid_calls (c v : Int) (w : World) : Calls Try.prog 17 #[.agg #[.int .i64 c, .int .i64 v]] w fun e w' => e = .returned (.bool (okP (c, v))) ∧ w' = w.alloc (.cells #[.int .i64 c, .int .i64 v] 29) := by
  by_cases h1 : 0 ≤ c
  · by_cases h2 : c ≤ 1114367
    · by_cases h3 : -2147483648 ≤ v
      · have e1 : okP (c, v) = decide (v ≤ 2147483647) := by simp [okP, h1, h2, h3]
        rw [e1]
        have d1 : decide (0 ≤ c) = true := decide_eq_true h1
        have d2 : decide (c ≤ 1114367) = true := decide_eq_true h2
        have d3 : decide (-2147483648 ≤ v) = true := decide_eq_true h3
        clear e1
        go_enter Try.func17, Try.ntmps17
        go_wp2
        go_ret
        exact ⟨rfl, rfl⟩
      · have e1 : okP (c, v) = false := by simp [okP, h1, h2, h3]
        rw [e1]
        have d1 : decide (0 ≤ c) = true := decide_eq_true h1
        have d2 : decide (c ≤ 1114367) = true := decide_eq_true h2
        have d3 : decide (-2147483648 ≤ v) = false := decide_eq_false h3
        clear e1
        go_enter Try.func17, Try.ntmps17
        go_wp2
        go_ret
        exact ⟨rfl, rfl⟩
    · have e1 : okP (c, v) = false := by simp [okP, h1, h2]
      rw [e1]
      have d1 : decide (0 ≤ c) = true := decide_eq_true h1
      have d2 : decide (c ≤ 1114367) = false := decide_eq_false h2
      clear e1
      go_enter Try.func17, Try.ntmps17
      go_wp2
      go_ret
      exact ⟨rfl, rfl⟩
  · have e1 : okP (c, v) = false := by simp [okP, h1]
    rw [e1]
    have d1 : decide (0 ≤ c) = false := decide_eq_false h1
    clear e1
    go_enter Try.func17, Try.ntmps17
    go_wp2
    go_ret
    exact ⟨rfl, rfl⟩

theorem b1_calls (c v : Int) (w : World) : Calls Try.prog 16 #[.agg #[.int .i64 c, .int .i64 v]] w fun e w' => e = .returned (.bool (!okP (c, v))) ∧ Below w.heap.size w w' := by
  go_enter Try.func16, Try.ntmps16
  go_wp2_with (go_at_call 17; refine (valid_calls c v _).mono ?_; rintro e w' ⟨rfl, rfl⟩)
  go_ret
  exact ⟨rfl, ((Below.refl _ w).alloc (Nat.le_refl _) _).alloc (by simp) _⟩

/-- The first place at which f holds, -1 if there is none. -/
def idxFrom (f : Int × Int → Bool) : List (Int × Int) → Int → Int
  | [], _ => -1
  | p :: r, i => if f p = true then i else idxFrom f r (i + 1)
theorem idxFrom_hit (f : Int × Int → Bool) : ∀ (l : List (Int × Int)) (i : Int), 0 ≤ i → (decide (0 ≤ idxFrom f l i)) = l.any f
  | [], i, _ => by simp [idxFrom]
  | p :: r, i, h => by
    rw [idxFrom]
    by_cases hp : f p = true
    · rw [if_pos hp]
      simp [hp, h]
    · rw [if_neg hp, idxFrom_hit f r (i + 1) (by omega)]
      simp [hp]

set_option maxHeartbeats 1600000 in
theorem idx_b1 (A : Option Addr) (c0 : Nat) (l : List (Int × Int)) (w : World) (hA : PRow w A l) (hl : l.length ≤ 1000000) :
    Calls Try.prog 24 #[.slice A l.length c0, .func (.func 16) #[] #[]] w fun e w' => e = .returned (.int .i64 (idxFrom (fun p => !okP p) l 0)) ∧ Below w.heap.size w w' := by
  have HA := Lib.hid hA
  have HB0 := Lib.hid (Below.refl w.heap.size w)
  clear hA
  go_enter Try.func24, Try.ntmps24
  go_wp2
  go_loopw [8] (fun v8 w' => ∃ i : Nat, i ≤ l.length ∧ v8 = .int .i64 i ∧ Hid (idxFrom (fun p => !okP p) (l.drop i) i = idxFrom (fun p => !okP p) l 0) ∧ Hid (Below w.heap.size w w')) (fun v8 _ => l.length - (intOf v8).toNat)
  case atStart => exact ⟨0, Nat.zero_le _, rfl, Lib.hid rfl, HB0⟩
  case round =>
    clear HB0
    obtain ⟨i, hi, rfl, HE, HB⟩ := hrel
    by_cases hlt : i < l.length
    · obtain ⟨ad, ea, hx0, hx1⟩ := (HA.out.below HB.out) i hlt
      subst ea
      have hE := HE.out
      rw [List.drop_eq_getElem_cons hlt, idxFrom] at hE
      have hg : l[i] = l.getD i (0, 0) := by simp [List.getD_eq_getElem?_getD, List.getElem?_eq_getElem hlt]
      rw [hg] at hE
      obtain ⟨c, hc⟩ : ∃ c, c = (l.getD i (0, 0)).1 := ⟨_, rfl⟩
      obtain ⟨v, hv⟩ : ∃ v, v = (l.getD i (0, 0)).2 := ⟨_, rfl⟩
      have hcv : l.getD i (0, 0) = (c, v) := by rw [hc, hv]
      rw [hcv] at hE hx0 hx1
      clear hc hv hcv hg HE
      by_cases hok : okP (c, v) = true
      · rw [if_neg (by simp [hok])] at hE
        have HE := Lib.hid hE
        have hk := hok
        have HB1 := HB
        clear hE HB
        go_wp2_with (go_at_call 16; refine (b1_calls c v _).mono ?_; rintro e w' ⟨rfl, hb⟩; rw [hk]; have HB2 := Lib.hid hb; clear hb)
        go_roundw
        case rel => exact ⟨i + 1, by omega, by go_num, by simpa using HE, Lib.hid (HB1.out.trans (HB2.out.mono HB1.out.size))⟩
        case measure => simp [intOf]; omega
      · have hk : okP (c, v) = false := by simpa using hok
        rw [if_pos (by simp [hk])] at hE
        have HE := Lib.hid hE
        have HB1 := HB
        clear hE HB hok
        go_wp2_with (go_at_call 16; refine (b1_calls c v _).mono ?_; rintro e w' ⟨rfl, hb⟩; rw [hk]; have HB2 := Lib.hid hb; clear hb)
        go_ret
        exact ⟨by rw [← HE.out]; rfl, HB1.out.trans (HB2.out.mono HB1.out.size)⟩
    · have hE := HE.out
      rw [List.drop_of_length_le (by omega)] at hE
      have HE := Lib.hid hE
      clear hE
      go_wp2
      go_ret
      exact ⟨by rw [← HE.out]; rfl, HB.out⟩
theorem contains_b1 (A : Option Addr) (c0 : Nat) (l : List (Int × Int)) (w : World) (hA : PRow w A l) (hl : l.length ≤ 1000000) (b : Bool) (hb : l.any (fun p => !okP p) = b) :
    Calls Try.prog 15 #[.slice A l.length c0, .func (.func 16) #[] #[]] w fun e w' => e = .returned (.bool b) ∧ Below w.heap.size w w' := by
  have HF := Lib.hid (idxFrom_hit (fun p => !okP p) l 0 (Int.le_refl _))
  have HH := Lib.hid hb
  clear hb
  go_enter Try.func15, Try.ntmps15
  go_wp2_with (go_at_call 24; refine (idx_b1 A c0 l _ hA hl).mono ?_; rintro e w' ⟨rfl, hb⟩; have HB2 := Lib.hid hb; clear hb)
  go_ret
  exact ⟨by rw [← HH.out, ← HF.out]; rfl, HB2.out⟩
end Go.Proofs.Ytpameikbacnpcaa.T
