/- The trie, fourth part: Get and Blocks. -/
import Derived.Test.YtpameikbacnpcaaTC
namespace Go.Proofs.Ytpameikbacnpcaa.T
open Go Go.RowKit Go.Maps Go.Proofs.Ytpameikbacnpcaa.M
set_option linter.unusedVariables false

/-- The places stand within the blocks. -/
def TOk (s : List (List Int) × (Int → Option Nat)) : Prop := ∀ i k, s.2 i = some k → k < s.1.length
theorem TOk.step {f : Int → Option (List Int)} {s : List (List Int) × (Int → Option Nat)} (h : TOk s) (i : Int) : TOk (tstep f s i) := by
  unfold tstep
  cases hp : place s.1 ((f i).getD zeroB) with
  | some k =>
    intro x j hx
    simp only [updA] at hx
    by_cases e : x = i
    · rw [if_pos e] at hx
      cases hx
      unfold place at hp
      exact (List.findIdx?_eq_some_iff_getElem.1 hp).1
    · rw [if_neg e] at hx
      exact h x j hx
  | none =>
    intro x j hx
    simp only [updA, List.length_append, List.length_cons, List.length_nil] at hx ⊢
    by_cases e : x = i
    · rw [if_pos e] at hx
      cases hx
      omega
    · rw [if_neg e] at hx
      have := h x j hx
      omega
theorem TOk.fold {f : Int → Option (List Int)} : ∀ (ks : List Int) (s : List (List Int) × (Int → Option Nat)), TOk s → TOk (ks.foldl (tstep f) s)
  | [], s, h => h
  | k :: ks, s, h => TOk.fold ks _ (h.step k)
theorem TOk.zero : TOk t0 := fun i k h => by cases h

theorem flat_at : ∀ (B : List (List Int)), (∀ b ∈ B, b.length = 64) → ∀ (k j : Nat), k < B.length → j < 64 → (flat B)[k * 64 + j]? = some (.int .i32 ((B.getD k []).getD j 0))
  | [], _, k, j, hk, _ => by simp at hk
  | b :: B, h, k, j, hk, hj => by
    have hb : (b.map (Value.int .i32)).length = 64 := by simp [h b (by simp)]
    have e : flat (b :: B) = b.map (Value.int .i32) ++ flat B := by simp [flat]
    rw [e]
    cases k with
    | zero =>
      rw [List.getElem?_append_left (by omega)]
      have : j < b.length := by have := h b (by simp); omega
      simp [List.getD_eq_getElem?_getD, List.getElem?_eq_getElem this]
    | succ k =>
      rw [List.getElem?_append_right (by omega), hb, show (k + 1) * 64 + j - 64 = k * 64 + j by omega]
      rw [flat_at B (fun x hx => h x (by simp [hx])) k j (by simpa using hk) hj]
      rfl

/-- A sign's number. -/
def getP (s : List (List Int) × (Int → Option Nat)) (c : Int) : Int :=
  if c < 0 then 0 else if 1114367 < c then 0 else match s.2 (c / 64) with
    | none => 0
    | some k => (s.1.getD k []).getD (c % 64).toNat 0

theorem encA_at (f : Int → Option Nat) (x : Int) : ∃ j : Int, (encA f (.int .i64 x)).getD (.int .i64 0) = .int .i64 j ∧ ∀ k, f x = some k → j = k := by
  show ∃ j : Int, ((f x).map fun (j : Nat) => Value.int .i64 (j : Int)).getD (.int .i64 0) = .int .i64 j ∧ _
  cases h : f x with
  | none => exact ⟨0, rfl, fun k e => by cases e⟩
  | some k => exact ⟨k, rfl, fun k' e => by cases e; rfl⟩
theorem encA_some (f : Int → Option Nat) (x : Int) : (encA f (.int .i64 x)).isSome = (f x).isSome := by
  show ((f x).map fun (j : Nat) => Value.int .i64 (j : Int)).isSome = _
  cases f x <;> rfl

set_option maxHeartbeats 2000000 in
theorem get_calls (g : Nat) (s : List (List Int) × (Int → Option Nat)) (c : Int) (w : World) (hs : IsTrie w g s) (ho : TOk s) (h1 : -9223372036854775808 ≤ c) (h2 : c ≤ 9223372036854775807) :
    Calls Try.prog 9 #[.pointer (some ⟨g, 0, none⟩), .int .i64 c] w fun e w' => e = .returned (.int .i64 (getP s c)) ∧ w = w' := by
  obtain ⟨ga, cap, ha, n, hg, hr, hf, hn, hb, hl⟩ := hs
  have hc0 : w.cell? ⟨g, 0, none⟩ = some (.slice (some ⟨ga, 0, none⟩) s.1.length cap) := E.blk_cell hg 0
  have hc1 : w.cell? ⟨g, 1, none⟩ = some (.map (some ha)) := E.blk_cell hg 1
  have HF := Lib.hid hf
  have HR := Lib.hid hr
  have HB := Lib.hid hb
  clear hg hr hf hb
  by_cases hneg : c < 0
  · have HE := Lib.hid (show getP s c = 0 by unfold getP; rw [if_pos hneg])
    obtain ⟨j, hj, -⟩ := encA_at s.2 (c.tdiv 64)
    have HJ := Lib.hid hj
    clear hj
    have hk : -9223372036854775808 ≤ c.tdiv 64 ∧ c.tdiv 64 ≤ 9223372036854775807 := by
      have := Int.tdiv_eq_ediv (a := c) (b := 64)
      have h64 : Int.sign 64 = 1 := rfl
      rw [h64] at this
      split at this <;> omega
    have d0 : decide (c < 0) = true := decide_eq_true hneg
    go_enter Try.func9, Try.ntmps9
    go_wp2_with (first | (at_lookup; with_reducible refine E.halt ?_))
    refine E.Halt.go (wp_look_ok rfl (.tmp 11) (.tmp 13) 45 rfl 3 3 lawI Try.underlying45 (.int .i64 0) (zeroInt _) ha n _ rfl HF.out _ (.int .i64 (c.tdiv 64)) rfl (keyI hk.1 hk.2) (.int .i64 j) _ HJ.out (encA_some _ _) ?_)
    go_wp2
    go_ret
    exact ⟨by rw [HE.out]; rfl, rfl⟩
  · by_cases hbig : 1114367 < c
    · have HE := Lib.hid (show getP s c = 0 by unfold getP; rw [if_neg hneg, if_pos hbig])
      obtain ⟨j, hj, -⟩ := encA_at s.2 (c / 64)
      have HJ := Lib.hid hj
      clear hj
      have d0 : decide (c < 0) = false := decide_eq_false hneg
      have d1 : decide (1114367 < c) = true := decide_eq_true hbig
      have p0 : 0 ≤ c := by omega
      go_enter Try.func9, Try.ntmps9
      go_wp2_with (first | (at_lookup; with_reducible refine E.halt ?_))
      refine E.Halt.go (wp_look_ok rfl (.tmp 11) (.tmp 13) 45 rfl 3 3 lawI Try.underlying45 (.int .i64 0) (zeroInt _) ha n _ rfl HF.out _ (.int .i64 (c / 64)) rfl (keyI (by omega) (by omega)) (.int .i64 j) _ HJ.out (encA_some _ _) ?_)
      go_wp2
      go_ret
      exact ⟨by rw [HE.out]; rfl, rfl⟩
    · have d0 : decide (c < 0) = false := decide_eq_false hneg
      have d1 : decide (1114367 < c) = false := decide_eq_false hbig
      have p0 : 0 ≤ c := by omega
      have hge : getP s c = match s.2 (c / 64) with | none => 0 | some k => (s.1.getD k []).getD (c % 64).toNat 0 := by unfold getP; rw [if_neg hneg, if_neg hbig]
      cases hat : s.2 (c / 64) with
      | none =>
        rw [hat] at hge
        have HE := Lib.hid hge
        obtain ⟨j, hj, -⟩ := encA_at s.2 (c / 64)
        have HJ := Lib.hid hj
        have HSM := Lib.hid (show (encA s.2 (.int .i64 (c / 64))).isSome = false by rw [encA_some, hat]; rfl)
        clear hj hge hat
        go_enter Try.func9, Try.ntmps9
        go_wp2_with (first | (at_lookup; with_reducible refine E.halt ?_))
        refine E.Halt.go (wp_look_ok rfl (.tmp 11) (.tmp 13) 45 rfl 3 3 lawI Try.underlying45 (.int .i64 0) (zeroInt _) ha n _ rfl HF.out _ (.int .i64 (c / 64)) rfl (keyI (by omega) (by omega)) (.int .i64 j) false HJ.out HSM.out ?_)
        go_wp2
        go_ret
        exact ⟨by rw [HE.out]; rfl, rfl⟩
      | some k =>
        rw [hat] at hge
        dsimp only at hge
        obtain ⟨j, hj, hjk⟩ := encA_at s.2 (c / 64)
        obtain rfl := hjk k hat
        have hkl := ho _ _ hat
        have hfl := flat_at s.1 (fun b hb => (HB.out b hb).1) k (c % 64).toNat hkl (by omega)
        obtain ⟨v, hv⟩ : ∃ v, v = (s.1.getD k []).getD (c % 64).toNat 0 := ⟨_, rfl⟩
        rw [← hv] at hfl hge
        have hwv : (Lit.int .i32 v).wf = true := by
          have hm : s.1.getD k [] ∈ s.1 := by rw [List.getD_eq_getElem?_getD, List.getElem?_eq_getElem hkl]; exact List.getElem_mem _
          have hb := HB.out _ hm
          refine hb.2 v ?_
          rw [hv]
          generalize s.1.getD k [] = bb at hb
          rw [List.getD_eq_getElem?_getD, List.getElem?_eq_getElem (by have := hb.1; omega)]
          exact List.getElem_mem _
        have hcell : w.cell? ⟨ga, k * 64 + (c % 64).toNat, none⟩ = some (.int .i32 v) := (HR.out.cellAt _ (by omega)).trans hfl
        have HE := Lib.hid hge
        have HJ := Lib.hid hj
        have HSM := Lib.hid (show (encA s.2 (.int .i64 (c / 64))).isSome = true by rw [encA_some, hat]; rfl)
        obtain ⟨pv0, pv1⟩ := i32_bounds hwv
        have q0 : 0 ≤ c % 64 := by omega
        have q1 : c % 64 < 64 := by omega
        clear hj hge hat hjk hfl hv hwv
        go_enter Try.func9, Try.ntmps9
        go_wp2_with (first | (at_lookup; with_reducible refine E.halt ?_))
        refine E.Halt.go (wp_look_ok rfl (.tmp 11) (.tmp 13) 45 rfl 3 3 lawI Try.underlying45 (.int .i64 0) (zeroInt _) ha n _ rfl HF.out _ (.int .i64 (c / 64)) rfl (keyI (by omega) (by omega)) (.int .i64 (k : Int)) true HJ.out HSM.out ?_)
        go_wp2
        go_ret
        exact ⟨by rw [HE.out]; rfl, rfl⟩
theorem blocks_calls (g : Nat) (s : List (List Int) × (Int → Option Nat)) (w : World) (hs : IsTrie w g s) :
    Calls Try.prog 11 #[.pointer (some ⟨g, 0, none⟩)] w fun e w' => e = .returned (.int .i64 s.1.length) ∧ w = w' := by
  obtain ⟨ga, cap, ha, n, hg, hr, hf, hn, hb, hl⟩ := hs
  have hc0 : w.cell? ⟨g, 0, none⟩ = some (.slice (some ⟨ga, 0, none⟩) s.1.length cap) := E.blk_cell hg 0
  clear hg hr hf hb
  go_enter Try.func11, Try.ntmps11
  go_wp2
  go_ret
  exact ⟨rfl, rfl⟩
end Go.Proofs.Ytpameikbacnpcaa.T
