/- RulesBack, walked by hand. -/
import Derived.Test.YtjcgjchdelipcaaDoorRBack
import Derived.Test.YtjcgjchdelipcaaDoorRRead
import Derived.IntWalk
namespace Go.Proofs.YtjcgjchdelipcaaDoor.R
open Go.RowKit Go.Proofs.YtjcgjchdelipcaaDoorW.PrintWords Go.Proofs.YtjcgjchdelipcaaDoorW.PrintLast Go.Proofs.YtjcgjchdelipcaaDoorW.PrintMore
open Go.Proofs.YtjcgjchdelipcaaDoor.U (RuleM textM)
set_option linter.unusedVariables false
set_option linter.unusedSimpArgs false

theorem awake_any' (w : World) (hT : Tabs w) : Calls Tryd.prog 27 #[] w fun e w' => e = .returned (.bool true) ∧ Below w.heap.size w w' := by
  obtain ⟨k, hk⟩ := awake_ev.rounds
  exact umlautlaw6_awake.calls k true w hk hT
set_option maxHeartbeats 8000000 in
set_option maxRecDepth 100000 in
theorem RulesBack_law (A0 : Option Addr) (c0 : Nat) (l0 : List S57) (w : World) (hT : Tabs w) (hC : Kd.C k57 w A0 l0.length l0) (hc0 : l0.length ≤ c0) (hm : ∀ x ∈ l0, x.f1.length ≤ 140737488351232 ∧ x.f2.length ≤ 140737488351232) :
    Calls Tryd.prog 11 #[.slice A0 l0.length c0] w fun e w' => e = .returned (.bool true) ∧ Below w.heap.size w w' := by
  have HT := Lib.hid hT
  have HC := Lib.hid hC
  have HM := Lib.hid hm
  have hmax := Kd.C_max hC
  have HB := Lib.hid (Below.refl w.heap.size w)
  clear hT hC hm
  go_enter Tryd.func11, Tryd.ntmps11
  go_wp2
  go_loopw [3] (fun v3 w' => ∃ i : Nat, i ≤ l0.length ∧ v3 = .int .i64 i ∧ Hid (∀ x ∈ l0.take i, x.f1.length + x.f2.length ≤ 20) ∧ Hid (0 < i → l0.length ≤ 60) ∧ Hid (Below w.heap.size w w')) (fun v3 _ => l0.length - (intOf v3).toNat)
  case atStart => exact ⟨0, Nat.zero_le _, rfl, Lib.hid (by simp), Lib.hid (by omega), HB⟩
  case round =>
    clear HB
    obtain ⟨i, hi, rfl, HZ, HL, HB⟩ := hrel
    by_cases hlt : i < l0.length
    · by_cases h60 : 60 < l0.length
      · have d1 : decide (60 < (l0.length : Int)) = true := decide_eq_true (by omega)
        have d2 : decide (60 < l0.length) = true := decide_eq_true h60
        clear h60
        go_wp2
        go_quiet (fail)
        go_wp2_with (go_at_call 27; refine (awake_any' _ (Tabs_below HT.out (HB.out.trans ((below_drawn wr _).mono HB.out.size)))).mono ?_; rintro e w' ⟨rfl, hd⟩; have HB2 := Lib.hid ((HB.out.trans ((below_drawn wr _).mono HB.out.size)).trans (hd.mono (Nat.le_trans HB.out.size (below_drawn wr _).size))); clear hd)
        go_ret
        exact ⟨rfl, HB2.out⟩
      · have d1 : decide (60 < (l0.length : Int)) = false := decide_eq_false (by omega)
        have d2 : decide (60 < l0.length) = false := decide_eq_false h60
        have HL6 := Lib.hid (show l0.length ≤ 60 by omega)
        obtain ⟨ad, A1, c1, A2, c2, ea, hx0, hx1, hx2, hl1, g1, hl2, g2⟩ := at_T57 HC.out (i : Int) (by omega) (by omega)
        subst ea
        simp only [Int.toNat_natCast] at hx0 hx1 hx2
        have hbx := World.block_lt_of_cell? w _ hx0
        replace hx1 := (HB.out.cell (p := ⟨(ad.add (i * 3)).block, (ad.add (i * 3)).off + 1, none⟩) hbx).trans hx1
        replace hx2 := (HB.out.cell (p := ⟨(ad.add (i * 3)).block, (ad.add (i * 3)).off + 2, none⟩) hbx).trans hx2
        have e0 : rd_T57 l0 (i : Int) = l0[i] := by simp [rd_T57, List.getD_eq_getElem?_getD, List.getElem?_eq_getElem hlt]
        have hmem : rd_T57 l0 (i : Int) ∈ l0 := by rw [e0]; exact List.getElem_mem _
        obtain ⟨m1, m2⟩ := HM.out _ hmem
        have HTK := Lib.hid (show l0.take (i + 1) = l0.take i ++ [rd_T57 l0 (i : Int)] by rw [e0, List.take_succ_eq_append_getElem hlt])
        clear e0 hmem g1 g2 hx0 hbx h60
        generalize rd_T57 l0 (i : Int) = x at *
        obtain ⟨rel, q, ex⟩ := x
        dsimp only at hx1 hx2 hl1 hl2 m1 m2
        have hsum : IntKind.i64.wrap ((q.length : Int) + (ex.length : Int)) = (q.length : Int) + (ex.length : Int) := IntWalk.i64_in _ (by omega)
        by_cases h20 : q.length + ex.length ≤ 20
        · have d3 : decide (20 < (q.length : Int) + (ex.length : Int)) = false := decide_eq_false (by omega)
          have d4 : decide (20 < q.length + ex.length) = false := decide_eq_false (by omega)
          have H20 := Lib.hid h20
          clear h20
          go_wp2
          go_quiet (fail)
          clear hsum
          go_wp2
          go_roundw
          case rel => exact ⟨i + 1, by omega, by go_num, Lib.hid (by
            rw [HTK.out]
            intro y hy
            rcases List.mem_append.1 hy with hy | hy
            · exact HZ.out y hy
            · simp at hy; rw [hy]; exact H20.out), Lib.hid (fun _ => HL6.out), Lib.hid (HB.out.trans ((below_drawn wr _).mono HB.out.size))⟩
          case measure => simp [intOf]; omega
        · have d3 : decide (20 < (q.length : Int) + (ex.length : Int)) = true := decide_eq_true (by omega)
          have d4 : decide (20 < q.length + ex.length) = true := decide_eq_true (by omega)
          clear h20
          go_wp2
          go_quiet (fail)
          clear hsum
          go_wp2_with (go_at_call 27; refine (awake_any' _ (Tabs_below HT.out (HB.out.trans ((below_drawn wr _).mono HB.out.size)))).mono ?_; rintro e w' ⟨rfl, hd⟩; have HB2 := Lib.hid ((HB.out.trans ((below_drawn wr _).mono HB.out.size)).trans (hd.mono (Nat.le_trans HB.out.size (below_drawn wr _).size))); clear hd)
          go_ret
          exact ⟨rfl, HB2.out⟩
    · obtain rfl : i = l0.length := by omega
      rw [List.take_length] at HZ
      have h60 : l0.length ≤ 60 := by
        rcases Nat.eq_zero_or_pos l0.length with h | h
        · omega
        · exact HL.out h
      obtain ⟨L, eL⟩ : ∃ L, L = l0.map toM7 := ⟨_, rfl⟩
      have e57 : L.map to57 = l0 := by rw [eL]; exact to57_toM7 l0
      obtain ⟨k, k1, k2, k3, k4⟩ := back_k L (by rw [eL, List.length_map]; exact h60) (fun r hr => by
        rw [eL] at hr
        obtain ⟨x, hx, rfl⟩ := List.mem_map.1 hr
        exact HZ.out x hx)
      rw [e57] at k1 k3 k4
      have K1 := Lib.hid k1
      have K2 := Lib.hid k2
      have K3 := Lib.hid k3
      have K4 := Lib.hid k4
      clear eL e57 k1 k2 k3 k4 HZ HL h60
      generalize L.map to63 = R at *
      by_cases ht : (tellM L).2 = true
      · obtain ⟨t1, -, -, -⟩ := told L ht
        have hp : tellP L = (strOfNums (textM L), 0) := by unfold tellP; rw [if_pos ht]
        have hq : tellM L = (strOfNums (textM L), true) := Prod.ext t1 ht
        obtain ⟨k5, k6⟩ := K4.out ht
        have K2' := Lib.hid (show rules_Text.f k R = some (strOfNums (textM L), 0) by rw [K2.out, hp])
        have K3' := Lib.hid (show umlautref5_Text.f k l0 = some (strOfNums (textM L), true) by rw [K3.out, hq])
        have K5 := Lib.hid k5
        have K6 := Lib.hid k6
        clear ht t1 hp hq k5 k6 K2 K3 K4
        generalize strOfNums (textM L) = s at *
        clear L
        go_wp2_with (first
          | (go_at_call 35; refine (umlautlaw6_Of.calls k A0 c0 l0 R _ (Kd.C_below HC.out HB.out) hc0 K1.out).mono ?_; rintro e w1 ⟨v1, rfl, hv, hb⟩; obtain ⟨Ar, cr, e1_, hcr, hCr⟩ := Kd.S_reads hv; subst e1_; have HR := Lib.hid hCr; clear hv hCr; have n0_ := Lib.hid (HB.out.trans (hb.mono HB.out.size)); clear HB hb; have HB := n0_; clear n0_)
          | (go_at_call 34; refine (rules_Text.calls k Ar cr R s 0 _ HR.out hcr K2'.out (Tabs_below HT.out HB.out)).mono ?_; rintro e w2 ⟨rfl, hb⟩; have n0_ := Lib.hid (HB.out.trans (hb.mono HB.out.size)); clear HB hb; have HB := n0_; clear n0_)
          | (go_at_call 36; refine (umlautref5_Text.calls k A0 c0 l0 s true _ (Kd.C_below HC.out HB.out) hc0 K3'.out).mono ?_; rintro e w3 ⟨rfl, hb⟩; have n0_ := Lib.hid (HB.out.trans (hb.mono HB.out.size)); clear HB hb; have HB := n0_; clear n0_)
          | (go_at_call 28; refine (rules_Parse.calls k s R 0 0 _ K5.out (Tabs_below HT.out HB.out)).mono ?_; rintro e w4 ⟨v2_, rfl, hv, hb⟩; obtain ⟨Am, cm, e2_, hcm, hFm⟩ := hv; subst e2_; have HM2 := Lib.hid (hFm w4 (fun _ _ _ => rfl)); clear hFm; have n0_ := Lib.hid (HB.out.trans (hb.mono HB.out.size)); clear HB hb; have HB := n0_; clear n0_)
          | (go_at_call 30; refine (umlautlaw6_Same.calls k Am cm R A0 c0 l0 true _ HM2.out hcm (Kd.C_below HC.out HB.out) hc0 K6.out).mono ?_; rintro e w5 ⟨rfl, hb⟩; have n0_ := Lib.hid (HB.out.trans (hb.mono HB.out.size)); clear HB hb; have HB := n0_; clear n0_)
          | (go_at_call 27; refine (awake_any' _ (Tabs_below HT.out HB.out)).mono ?_; rintro e w6 ⟨rfl, hb⟩; have n0_ := Lib.hid (HB.out.trans (hb.mono HB.out.size)); clear HB hb; have HB := n0_; clear n0_))
        go_ret
        exact ⟨rfl, HB.out⟩
      · have ht2 : (tellM L).2 = false := by simpa using ht
        clear ht
        have hp : tellP L = (⟨#[]⟩, 1) := by unfold tellP; rw [if_neg (by simp [ht2])]
        obtain ⟨s, hs⟩ : ∃ s, s = (tellM L).1 := ⟨_, rfl⟩
        have hq : tellM L = (s, false) := Prod.ext hs.symm ht2
        have K2' := Lib.hid (show rules_Text.f k R = some (⟨#[]⟩, 1) by rw [K2.out, hp])
        have K3' := Lib.hid (show umlautref5_Text.f k l0 = some (s, false) by rw [K3.out, hq])
        clear ht2 hs hp hq K2 K3 K4
        clear L
        go_wp2_with (first
          | (go_at_call 35; refine (umlautlaw6_Of.calls k A0 c0 l0 R _ (Kd.C_below HC.out HB.out) hc0 K1.out).mono ?_; rintro e w1 ⟨v1, rfl, hv, hb⟩; obtain ⟨Ar, cr, e1_, hcr, hCr⟩ := Kd.S_reads hv; subst e1_; have HR := Lib.hid hCr; clear hv hCr; have n0_ := Lib.hid (HB.out.trans (hb.mono HB.out.size)); clear HB hb; have HB := n0_; clear n0_)
          | (go_at_call 34; refine (rules_Text.calls k Ar cr R ⟨#[]⟩ 1 _ HR.out hcr K2'.out (Tabs_below HT.out HB.out)).mono ?_; rintro e w2 ⟨rfl, hb⟩; have n0_ := Lib.hid (HB.out.trans (hb.mono HB.out.size)); clear HB hb; have HB := n0_; clear n0_)
          | (go_at_call 36; refine (umlautref5_Text.calls k A0 c0 l0 s false _ (Kd.C_below HC.out HB.out) hc0 K3'.out).mono ?_; rintro e w3 ⟨rfl, hb⟩; have n0_ := Lib.hid (HB.out.trans (hb.mono HB.out.size)); clear HB hb; have HB := n0_; clear n0_)
          | (go_at_call 27; refine (awake_any' _ (Tabs_below HT.out HB.out)).mono ?_; rintro e w6 ⟨rfl, hb⟩; have n0_ := Lib.hid (HB.out.trans (hb.mono HB.out.size)); clear HB hb; have HB := n0_; clear n0_))
        go_ret
        exact ⟨rfl, HB.out⟩
theorem RulesBack_row (A0 : Option Addr) (c0 : Nat) (l0 : List S57) (w : World) (hT : Tabs w) (hc0 : l0.length ≤ c0) (hC : Kd.C k57 w A0 l0.length l0) (hq : ∀ z ∈ l0, z.f1.length * 8 ≤ reachBytes ∧ z.f2.length * 8 ≤ reachBytes) :
    Calls Tryd.prog 11 #[.slice A0 l0.length c0] w fun e w' => e = .returned (.bool true) ∧ Below w.heap.size w w' :=
  RulesBack_law A0 c0 l0 w hT hC hc0 (fun x hx => by have := hq x hx; unfold reachBytes at this; omega)
end Go.Proofs.YtjcgjchdelipcaaDoor.R
