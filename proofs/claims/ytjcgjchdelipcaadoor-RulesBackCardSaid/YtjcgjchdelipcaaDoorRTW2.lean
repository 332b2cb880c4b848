/- slices.EqualFunc at rules, walked by hand. -/
import Derived.Test.YtjcgjchdelipcaaDoorRTW
namespace Go.Proofs.YtjcgjchdelipcaaDoor.R
open Go.RowKit Go.Proofs.YtjcgjchdelipcaaDoorW.PrintWords Go.Proofs.YtjcgjchdelipcaaDoorW.PrintLast Go.Proofs.YtjcgjchdelipcaaDoorW.PrintMore
set_option linter.unusedVariables false
set_option linter.unusedSimpArgs false

theorem Equal_l0 (a b : List Int) (hab : a.length = b.length) (hl : a.length < 17592186044416) (d : Nat) : ∀ i : Nat, i + d = a.length →
    Ev (fun k => slices_Equal_int_int.l0 k a b (a.length : Int) (i : Int)) (decide (a.drop i = b.drop i)) := by
  induction d with
  | zero =>
    intro i hi
    refine Ev.step (f := fun _ => some _) (fun k => ?_) (Ev.now _)
    rw [slices_Equal_int_int.l0, if_neg (by omega), List.drop_of_length_le (by omega), List.drop_of_length_le (by omega)]
    rfl
  | succ d ih =>
    intro i hi
    have h1 : i < a.length := by omega
    have h2 : i < b.length := by omega
    rw [List.drop_eq_getElem_cons h1, List.drop_eq_getElem_cons h2]
    by_cases h : a[i] = b[i]
    · rw [dec_eq _ _ h]
      refine Ev.step (fun k => ?_) (ih (i + 1) (by omega))
      rw [slices_Equal_int_int.l0, if_pos (by omega), if_pos (by omega), if_pos (by omega), if_pos (by omega), rd_nat a i h1, rd_nat b i h2, if_pos h, w64 (by omega) (by omega)]
      rfl
    · rw [dec_ne _ _ h]
      refine Ev.step (f := fun _ => some _) (fun k => ?_) (Ev.now _)
      rw [slices_Equal_int_int.l0, if_pos (by omega), if_pos (by omega), if_pos (by omega), if_pos (by omega), rd_nat a i h1, rd_nat b i h2, if_neg h]
theorem Equal_ev (a b : List Int) (hl : a.length < 17592186044416) : Ev (fun k => slices_Equal_int_int.f k a b) (decide (a = b)) := by
  by_cases hab : a.length = b.length
  · have := Equal_l0 a b hab hl a.length 0 (by omega)
    simp only [List.drop_zero] at this
    refine Ev.congr (fun k => ?_) this
    unfold slices_Equal_int_int.f
    rw [if_pos (by omega)]
    rfl
  · have hd : decide (a = b) = false := by simp; intro e; exact hab (by rw [e])
    rw [hd]
    refine Ev.congr (f := fun _ => some false) (fun k => ?_) (Ev.now _)
    unfold slices_Equal_int_int.f
    rw [if_neg (by omega)]
/-- Are two rules one? -/
def eq63 (x y : S63) : Bool := decide (x.f0 = y.f0) && decide (x.f1 = y.f1) && decide (x.f2 = y.f2)
theorem same63 (x y : S63) (h1 : x.f1.length ≤ 1000) (h2 : x.f2.length ≤ 1000) : ∃ k, rules_same.f k x.f0 x.f1 x.f2 y.f0 y.f1 y.f2 = some (eq63 x y) := by
  refine Ev.rounds ?_
  unfold rules_same.f eq63
  have s1 := Equal_ev x.f1 y.f1 (by omega)
  have s2 := Equal_ev x.f2 y.f2 (by omega)
  by_cases e0 : x.f0 = y.f0
  · refine Ev.congr (fun k => if_pos e0) (Ev.bind s1 ?_)
    rw [decide_eq_true e0]
    by_cases e1 : x.f1 = y.f1
    · rw [decide_eq_true e1]
      exact Ev.congr (fun k => if_pos rfl) (Ev.bind s2 (Ev.now _))
    · rw [decide_eq_false e1]
      exact Ev.congr (f := fun _ => some false) (fun k => if_neg (by simp)) (Ev.now _)
  · rw [decide_eq_false e0]
    exact Ev.congr (f := fun _ => some false) (fun k => if_neg e0) (Ev.now _)
def eqs63 : List S63 → List S63 → Bool
  | [], [] => true
  | x :: a, y :: b => eq63 x y && eqs63 a b
  | _, _ => false
theorem eqs63_len : ∀ (a b : List S63), a.length ≠ b.length → eqs63 a b = false
  | [], [], h => absurd rfl h
  | [], _ :: _, _ => rfl
  | _ :: _, [], _ => rfl
  | x :: a, y :: b, h => by rw [eqs63, eqs63_len a b (by simpa using h)]; simp
theorem eqs63_drop (a b : List S63) (i : Nat) (h1 : i < a.length) (h2 : i < b.length) : eqs63 (a.drop i) (b.drop i) = (eq63 (rd_T63 a (i : Int)) (rd_T63 b (i : Int)) && eqs63 (a.drop (i + 1)) (b.drop (i + 1))) := by
  have ra : rd_T63 a (i : Int) = a[i] := by simp [rd_T63, List.getD_eq_getElem?_getD, List.getElem?_eq_getElem h1]
  have rb : rd_T63 b (i : Int) = b[i] := by simp [rd_T63, List.getD_eq_getElem?_getD, List.getElem?_eq_getElem h2]
  rw [ra, rb, List.drop_eq_getElem_cons h1, List.drop_eq_getElem_cons h2]
  rfl
set_option maxHeartbeats 2000000 in
set_option maxRecDepth 100000 in
theorem eqf_calls (A B : Option Addr) (ca cb : Nat) (a b : List S63) (w : World) (hA : Kd.C k63 w A a.length a) (hB : Kd.C k63 w B b.length b) (hl : a.length ≤ 1000) (hz : ∀ x ∈ a, x.f1.length ≤ 1000 ∧ x.f2.length ≤ 1000) :
    Calls Tryd.prog 60 #[.slice A a.length ca, .slice B b.length cb, .func (.func 61) #[] #[]] w fun e w' => e = .returned (.bool (eqs63 a b)) ∧ Below w.heap.size w w' := by
  have HA := Lib.hid hA
  have HBc := Lib.hid hB
  have HB0 := Lib.hid (Below.refl w.heap.size w)
  have HZ := Lib.hid hz
  clear hA hB hz
  by_cases hlen : a.length = b.length
  · have hd : ((a.length : Int) != (b.length : Int)) = false := by simp; omega
    have hd2 : (a.length != b.length) = false := by simp; omega
    have HLEN := Lib.hid hlen
    clear hlen
    go_enter Tryd.func60, Tryd.ntmps60
    go_wp2
    go_loopw [17] (fun v17 w' => ∃ i : Nat, i ≤ a.length ∧ v17 = .int .i64 i ∧ Hid (eqs63 (a.drop i) (b.drop i) = eqs63 a b) ∧ Hid (Below w.heap.size w w')) (fun v17 _ => a.length - (intOf v17).toNat)
    case atStart => exact ⟨0, Nat.zero_le _, rfl, Lib.hid rfl, HB0⟩
    case round =>
      clear HB0
      obtain ⟨i, hi, rfl, HE, HB⟩ := hrel
      by_cases hlt : i < a.length
      · obtain ⟨ad, A1, c1, A2, c2, ea, hx0, hx1, hx2, hl1, g1, hl2', g2⟩ := at_T63 (Kd.C_below HA.out HB.out) (i : Int) (by omega) (by omega)
        obtain ⟨bd, B1, d1, B2, d2, eb, hy0, hy1, hy2, kl1, j1, kl2, j2⟩ := at_T63 (Kd.C_below HBc.out HB.out) (i : Int) (by omega) (by have := HLEN.out; omega)
        subst ea
        subst eb
        simp only [Int.toNat_natCast] at hx0 hx1 hx2 hy0 hy1 hy2
        have hE := HE.out
        rw [eqs63_drop a b i hlt (by have := HLEN.out; omega)] at hE
        have hmem : rd_T63 a (i : Int) ∈ a := by
          have : rd_T63 a (i : Int) = a[i] := by simp [rd_T63, List.getD_eq_getElem?_getD, List.getElem?_eq_getElem hlt]
          rw [this]; exact List.getElem_mem _
        obtain ⟨z1, z2⟩ := HZ.out _ hmem
        clear hmem
        generalize rd_T63 a (i : Int) = x at *
        generalize rd_T63 b (i : Int) = y at *
        obtain ⟨k, hk⟩ := same63 x y z1 z2
        have HK := Lib.hid hk
        have HEE := Lib.hid hE
        have G1 := Lib.hid g1
        have G2 := Lib.hid g2
        have J1 := Lib.hid j1
        have J2 := Lib.hid j2
        clear hk hE g1 g2 j1 j2 HE z1 z2
        have hbl := World.block_lt_of_cell? wr _ hy0
        have hltb : i < b.length := by have := HLEN.out; omega
        have hy0' : ∀ o, (wr.alloc o).cell? (bd.add (i * 3)) = some (.int .i64 y.f0) := fun o => (((Below.refl wr.heap.size wr).alloc (Nat.le_refl _) o).cell hbl).trans hy0
        have hy1' : ∀ o, (wr.alloc o).cell? ⟨(bd.add (i * 3)).block, (bd.add (i * 3)).off + 1, none⟩ = some (.slice B1 y.f1.length d1) := fun o => (((Below.refl wr.heap.size wr).alloc (Nat.le_refl _) o).cell (p := ⟨(bd.add (i * 3)).block, (bd.add (i * 3)).off + 1, none⟩) hbl).trans hy1
        have hy2' : ∀ o, (wr.alloc o).cell? ⟨(bd.add (i * 3)).block, (bd.add (i * 3)).off + 2, none⟩ = some (.slice B2 y.f2.length d2) := fun o => (((Below.refl wr.heap.size wr).alloc (Nat.le_refl _) o).cell (p := ⟨(bd.add (i * 3)).block, (bd.add (i * 3)).off + 2, none⟩) hbl).trans hy2
        by_cases hq : eq63 x y = true
        · have HQ := Lib.hid hq
          clear hq
          go_wp2_with (go_at_call 61; refine (rules_same.calls k x.f0 A1 c1 x.f1 A2 c2 x.f2 y.f0 B1 d1 y.f1 B2 d2 y.f2 (eq63 x y) _ (Kd.C_below G1.out (((Below.refl _ _).alloc (Nat.le_refl _) _).alloc (by simp) _)) hl1 (Kd.C_below G2.out (((Below.refl _ _).alloc (Nat.le_refl _) _).alloc (by simp) _)) hl2' (Kd.C_below J1.out (((Below.refl _ _).alloc (Nat.le_refl _) _).alloc (by simp) _)) kl1 (Kd.C_below J2.out (((Below.refl _ _).alloc (Nat.le_refl _) _).alloc (by simp) _)) kl2 HK.out).mono ?_; rintro e w' ⟨rfl, hb⟩; rw [HQ.out]; have HB2 := Lib.hid hb; clear hb)
          go_roundw
          case rel => exact ⟨i + 1, by omega, by go_num, Lib.hid (by rw [← HEE.out, HQ.out]; simp), Lib.hid ((HB.out.trans ((((Below.refl _ _).alloc (Nat.le_refl _) _).alloc (by simp) _).mono HB.out.size)).trans (HB2.out.mono (by have := HB.out.size; simp; omega)))⟩
          case measure => simp [intOf]; omega
        · have hq : eq63 x y = false := by simpa using hq
          have HQ := Lib.hid hq
          clear hq
          go_wp2_with (go_at_call 61; refine (rules_same.calls k x.f0 A1 c1 x.f1 A2 c2 x.f2 y.f0 B1 d1 y.f1 B2 d2 y.f2 (eq63 x y) _ (Kd.C_below G1.out (((Below.refl _ _).alloc (Nat.le_refl _) _).alloc (by simp) _)) hl1 (Kd.C_below G2.out (((Below.refl _ _).alloc (Nat.le_refl _) _).alloc (by simp) _)) hl2' (Kd.C_below J1.out (((Below.refl _ _).alloc (Nat.le_refl _) _).alloc (by simp) _)) kl1 (Kd.C_below J2.out (((Below.refl _ _).alloc (Nat.le_refl _) _).alloc (by simp) _)) kl2 HK.out).mono ?_; rintro e w' ⟨rfl, hb⟩; rw [HQ.out]; have HB2 := Lib.hid hb; clear hb)
          go_ret
          exact ⟨by rw [← HEE.out, HQ.out]; rfl, (HB.out.trans ((((Below.refl _ _).alloc (Nat.le_refl _) _).alloc (by simp) _).mono HB.out.size)).trans (HB2.out.mono (by have := HB.out.size; simp; omega))⟩
      · have hE := HE.out
        rw [List.drop_of_length_le (by omega), List.drop_of_length_le (by have := HLEN.out; omega)] at hE
        have HEE := Lib.hid hE
        clear hE HE
        go_wp2
        go_ret
        exact ⟨by rw [← HEE.out]; rfl, HB.out⟩
  · have hd : ((a.length : Int) != (b.length : Int)) = true := by simp; omega
    have hd2 : (a.length != b.length) = true := by simp; omega
    have HE := Lib.hid (eqs63_len a b hlen)
    clear hlen
    go_enter Tryd.func60, Tryd.ntmps60
    go_wp2
    go_ret
    exact ⟨by rw [HE.out]; rfl, HB0.out⟩
end Go.Proofs.YtjcgjchdelipcaaDoor.R
