/- TriePairs' walk: the law returns true, whatever pairs. -/
import Derived.Test.YtpameikbacnpcaaTQ
namespace Go.Proofs.Ytpameikbacnpcaa.T
open Go Go.RowKit Go.Maps Go.Proofs.Ytpameikbacnpcaa.M
set_option linter.unusedVariables false

def cntV (l : List (Int × Int)) (i : Nat) : Nat := ((l.take i).filter fun p => decide (p.2 ≠ 0)).length
theorem cntV_succ (l : List (Int × Int)) (i : Nat) (h : i < l.length) : cntV l (i + 1) = if (l.getD i (0, 0)).2 ≠ 0 then cntV l i + 1 else cntV l i := by
  unfold cntV
  rw [List.take_succ_eq_append_getElem h, List.filter_append, List.length_append]
  have e : l[i] = l.getD i (0, 0) := by simp [List.getD_eq_getElem?_getD, List.getElem?_eq_getElem h]
  rw [e]
  have e2 : ∀ x : Int × Int, ([x].filter fun p => decide (p.2 ≠ 0)) = if x.2 ≠ 0 then [x] else [] := fun x => by
    by_cases h0 : x.2 = 0 <;> simp [h0]
  rw [e2]
  by_cases h0 : (l.getD i (0, 0)).2 ≠ 0
  · rw [if_pos h0, if_pos h0]; rfl
  · rw [if_neg h0, if_neg h0]; rfl
theorem cntV_le (l : List (Int × Int)) (i : Nat) : cntV l i ≤ l.length := by
  unfold cntV
  have h1 := List.length_filter_le (fun p : Int × Int => decide (p.2 ≠ 0)) (l.take i)
  have h2 : (l.take i).length ≤ l.length := by simp; omega
  omega

set_option maxHeartbeats 4000000 in
set_option maxRecDepth 100000 in
theorem prs_calls (A : Option Addr) (c0 : Nat) (l : List (Int × Int)) (w : World) (hA : PRow w A l) (hl : l.length ≤ 40) :
    Calls Try.prog 4 #[.slice A l.length c0] w fun e w' => e = .returned (.bool true) ∧ Below w.heap.size w w' := by
  have HA := Lib.hid hA
  clear hA
  go_enter Try.func4, Try.ntmps4
  go_wp2_with fail
  refine (build_any A c0 l _ HA.out (by omega)).mono ?_
  rintro e w1 ⟨v, x, rfl, hE, hb⟩
  have HB := Lib.hid hb
  have HP1 := Lib.hid (HA.out.below hb)
  clear hb
  cases hE with
  | bad h =>
    clear h
    go_wp2_with (go_at_call 6; refine (awake_calls _).mono ?_; rintro e w4 ⟨rfl, hb⟩; have HB4 := Lib.hid hb; clear hb)
    go_ret
    exact ⟨rfl, HB.out.trans (HB4.out.mono HB.out.size)⟩
  | dup h hd =>
    clear h hd
    go_wp2_with (go_at_call 6; refine (awake_calls _).mono ?_; rintro e w4 ⟨rfl, hb⟩; have HB4 := Lib.hid hb; clear hb)
    go_ret
    exact ⟨rfl, HB.out.trans (HB4.out.mono HB.out.size)⟩
  | good g ks0 h hd hk ht =>
    have HOK := Lib.hid h
    have HND := Lib.hid hd
    have HK0 := Lib.hid hk
    have HTR := Lib.hid ht
    clear h hd hk ht
    go_wp2_with fail
    refine (pairs_calls g l ks0 _ HTR.out HND.out HOK.out HK0.out).mono ?_
    rintro e w2 ⟨Ap, ks, cp, rfl, hrise, hkeys, hrow, hb⟩
    have HRI := Lib.hid hrise
    have HKS := Lib.hid hkeys
    have HB2 := Lib.hid (HB.out.trans (hb.mono HB.out.size))
    have HTR2 := Lib.hid (HTR.out.below hb)
    have HP2 := Lib.hid (HP1.out.below hb)
    obtain ⟨A9, c9, e9, hle, hpr, -⟩ := row_pairs hrow
    obtain ⟨rfl, -, rfl⟩ : Ap = A9 ∧ (prsP l ks).length = (prsP l ks).length ∧ cp = c9 := by simpa using e9
    have HPP := Lib.hid hpr
    have hpl : (prsP l ks).length = cntV l l.length := by
      rw [prs_len HND.out HOK.out HRI.out HKS.out]
      unfold cntV
      rw [List.take_length]
    have HPL := Lib.hid hpl
    have hp40 : (prsP l ks).length ≤ 40 := by have := cntV_le l l.length; omega
    clear hrise hkeys hrow hb e9 hle hpr hpl
    obtain ⟨P, eP⟩ : ∃ q, q = prsP l ks := ⟨_, rfl⟩
    rw [← eP] at HPP HPL hp40 ⊢
    have HPE := Lib.hid eP
    clear eP
    go_wp2
    go_loop [7, 6] (fun v7 v6 => ∃ i : Nat, i ≤ l.length ∧ v7 = .int .i64 i ∧ v6 = .int .i64 (cntV l i)) (fun v7 _ => l.length - (intOf v7).toNat)
    case atStart => exact ⟨0, Nat.zero_le _, rfl, rfl⟩
    case round =>
      obtain ⟨i, hi, rfl, rfl⟩ := hrel
      have hcl := cntV_le l i
      by_cases hlt : i < l.length
      · obtain ⟨ad, eA, hx0, hx1⟩ := HP2.out i hlt
        subst eA
        have hcs := cntV_succ l i hlt
        obtain ⟨pv, hpv⟩ : ∃ q, q = (l.getD i (0, 0)).2 := ⟨_, rfl⟩
        rw [← hpv] at hx1 hcs
        clear hpv
        by_cases hz : pv = 0
        · rw [if_neg (fun h => h hz)] at hcs
          have HCS := Lib.hid hcs
          have hzb : (pv != 0) = false := bne_eq_false_iff_eq.mpr hz
          clear hz hcs
          go_wp2
          go_round
          case rel => exact ⟨i + 1, by omega, by go_num, by rw [HCS.out]⟩
          case measure => simp [intOf]; omega
        · rw [if_pos hz] at hcs
          have HCS := Lib.hid hcs
          have hzb : (pv != 0) = true := bne_iff_ne.mpr hz
          clear hz hcs
          go_wp2
          go_round
          case rel => exact ⟨i + 1, by omega, by go_num, by rw [HCS.out]; go_num⟩
          case measure => simp [intOf]; omega
      · obtain rfl : i = l.length := by omega
        obtain ⟨n, hn⟩ : ∃ n, n = cntV l l.length := ⟨_, rfl⟩
        have hnP : P.length = n := by rw [hn]; exact HPL.out
        rw [← hn]
        subst hnP
        have hne : ((P.length : Int) != (P.length : Int)) = false := by simp
        clear hn hcl
        go_wp2
        go_loopw [8] (fun v8 wq => ∃ i : Nat, i ≤ P.length ∧ v8 = .int .i64 i ∧ Hid (w2.grownBy wq none)) (fun v8 _ => P.length - (intOf v8).toNat)
        case atStart => exact ⟨0, Nat.zero_le _, rfl, Lib.hid (World.grownBy.refl _ _)⟩
        case round =>
          obtain ⟨i, hi, rfl, HG⟩ := hrel
          by_cases hlt2 : i < P.length
          · obtain ⟨ad, eA, hx0, hx1⟩ := (HPP.out.grown HG.out) i hlt2
            subst eA
            obtain ⟨pc, hpc⟩ : ∃ q, q = (P.getD i (0, 0)).1 := ⟨_, rfl⟩
            obtain ⟨pv, hpv⟩ : ∃ q, q = (P.getD i (0, 0)).2 := ⟨_, rfl⟩
            have hcv : P.getD i (0, 0) = (pc, pv) := by rw [hpc, hpv]
            rw [hcv] at hx0 hx1
            have hmem : (pc, pv) ∈ P := by rw [← hcv, List.getD_eq_getElem?_getD, List.getElem?_eq_getElem hlt2]; exact List.getElem_mem _
            have hval := prs_val HND.out HOK.out HKS.out (p := (pc, pv)) (by rw [← HPE.out]; exact hmem)
            have hz : (pv == 0) = false := beq_eq_false_iff_ne.mpr hval.1
            have hf : (pv == findP l pc) = true := beq_iff_eq.mpr hval.2
            have hf2 : (pv != findP l pc) = false := bne_eq_false_iff_eq.mpr hval.2
            have HPW := Lib.hid (HP2.out.grown HG.out)
            have HPG := Lib.hid (HPP.out.grown HG.out)
            have HCV := Lib.hid hcv
            clear hpc hpv hcv hmem hval
            have hsort := prsP_rising l ks HRI.out
            rw [← HPE.out] at hsort
            have q0 : i < P.length := hlt2
            by_cases h0 : 0 < i
            · obtain ⟨ad2, eA, hy0, -⟩ := (HPP.out.grown HG.out) (i - 1) (by omega)
              obtain rfl : ad = ad2 := by injection eA
              obtain ⟨qc, hqc⟩ : ∃ q, q = (P.getD (i - 1) (0, 0)).1 := ⟨_, rfl⟩
              have hlt3 : qc < pc := by
                have h1 := List.pairwise_iff_getElem.1 hsort (i - 1) i (by omega) hlt2 (by omega)
                have e1 : P[i - 1] = P.getD (i - 1) (0, 0) := by simp [List.getD_eq_getElem?_getD, List.getElem?_eq_getElem (show i - 1 < P.length by omega)]
                have e2 : P[i] = P.getD i (0, 0) := by simp [List.getD_eq_getElem?_getD, List.getElem?_eq_getElem hlt2]
                rw [e1, e2, HCV.out] at h1
                rw [hqc]; exact h1
              rw [← hqc] at hy0
              have hle2 : decide (pc ≤ qc) = false := decide_eq_false (by omega)
              have hd0 : decide (0 < i) = true := decide_eq_true h0
              have hi1 : ((i : Int) - 1).toNat = i - 1 := by omega
              have q1 : i - 1 < P.length := by omega
              have q2 : (0 : Int) ≤ (i : Int) - 1 := by omega
              have q3 : (i : Int) - 1 < P.length := by omega
              clear hqc hsort eA
              go_wp2
              go_quiet ((go_at_call 10; exact find_q _ c0 l _ wr HPW.out (by omega) _))
              go_wp2
              go_roundw
              case rel => exact ⟨i + 1, by omega, by go_num, Lib.hid (E.grown_trans HG.out (grown_drewN _ _))⟩
              case measure => simp [intOf]; omega
            · have hd0 : decide (0 < i) = false := decide_eq_false h0
              clear hsort
              go_wp2
              go_quiet ((go_at_call 10; exact find_q _ c0 l _ wr HPW.out (by omega) _))
              go_wp2
              go_roundw
              case rel => exact ⟨i + 1, by omega, by go_num, Lib.hid (E.grown_trans HG.out (grown_drewN _ _))⟩
              case measure => simp [intOf]; omega
          · obtain rfl : i = P.length := by omega
            have HTG := Lib.hid (HTR2.out.grown HG.out)
            have HPG := Lib.hid (HPP.out.grown HG.out)
            have HBG := Lib.hid (HB2.out.trans (HG.out.below_none.mono HB2.out.size))
            have hok2 := prs_ok HND.out HOK.out HKS.out
            have hnd2 := rising_nodup (prsP_rising l ks HRI.out)
            rw [← HPE.out] at hok2 hnd2
            go_wp2_with fail
            refine (build_ok Ap P.length P _ HPG.out (by omega) hok2).mono ?_
            rintro e w6 ⟨h6, -⟩
            obtain ⟨g2, ks2, rfl, -, hk2, hT2, hb6⟩ := h6 hnd2
            have HOK2 := Lib.hid hok2
            have HND2 := Lib.hid hnd2
            have HK2 := Lib.hid hk2
            have HT2 := Lib.hid (show IsTrie w6 g2 (triOf P ks2) from hT2)
            have HTR6 := Lib.hid (HTG.out.below hb6)
            have HB6 := Lib.hid (HBG.out.trans (hb6.mono HBG.out.size))
            have hbl : (triOf P ks2).1.length = (triOf l ks0).1.length := by
              have h1 := blocks_is HND.out HOK.out HKS.out
              have h2 := blocks_is HND.out HOK.out HK0.out
              have h3 := prs_blocks HND.out HOK.out HRI.out HKS.out (ks2 := ks2) (by rw [← HPE.out]; exact hk2)
              rw [← HPE.out] at h3
              omega
            have HBLK := Lib.hid hbl
            clear h6 hk2 hT2 hb6 hok2 hnd2 hbl
            unfold ret
            go_wp2_with fail
            refine (blocks_calls g2 _ _ HT2.out).mono ?_
            rintro e w7 ⟨rfl, rfl⟩
            rw [HBLK.out]
            go_wp2_with fail
            refine (blocks_calls g _ _ HTR6.out).mono ?_
            rintro e w7 ⟨rfl, rfl⟩
            go_wp2_with fail
            refine (pairs_calls g2 P ks2 _ HT2.out HND2.out HOK2.out HK2.out).mono ?_
            rintro e w8 ⟨Aq, ks3, cq, rfl, hr3, hk3, -, hb8⟩
            have hql : (prsP P ks3).length = P.length := by
              rw [prs_len HND2.out HOK2.out hr3 hk3]
              have := prs_filter HND.out HOK.out HKS.out
              rw [← HPE.out] at this
              rw [this]
            rw [hql]
            have HB8 := Lib.hid (HB6.out.trans (hb8.mono HB6.out.size))
            clear hr3 hk3 hb8 hql
            go_wp2_with fail
            refine (awake_calls _).mono ?_
            rintro e w9 ⟨rfl, hb9⟩
            have HB9 := Lib.hid hb9
            clear hb9
            go_wp2
            go_ret
            exact ⟨rfl, HB8.out.trans (HB9.out.mono HB8.out.size)⟩
theorem prs_all (A : Option Addr) (c0 : Nat) (l : List (Int × Int)) (w : World) (hA : PRow w A l) :
    Calls Try.prog 4 #[.slice A l.length c0] w fun e w' => e = .returned (.bool true) ∧ Below w.heap.size w w' := by
  by_cases hl : l.length ≤ 40
  · exact prs_calls A c0 l w hA hl
  · have hd : decide (40 < l.length) = true := decide_eq_true (by omega)
    go_enter Try.func4, Try.ntmps4
    go_wp2_with (go_at_call 6; refine (awake_calls _).mono ?_; rintro e w4 ⟨rfl, hb⟩; have HB4 := Lib.hid hb; clear hb)
    go_ret
    exact ⟨rfl, HB4.out⟩
end Go.Proofs.Ytpameikbacnpcaa.T
