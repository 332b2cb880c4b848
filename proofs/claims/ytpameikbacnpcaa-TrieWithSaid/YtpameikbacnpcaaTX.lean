/- TrieWith's walk. -/
import Derived.Test.YtpameikbacnpcaaTJ
namespace Go.Proofs.Ytpameikbacnpcaa.T
open Go Go.RowKit Go.Maps Go.Proofs.Ytpameikbacnpcaa.M
set_option linter.unusedVariables false

theorem same_sub {l m : List (Int × Int)} {ks ks2 : List Int} (hd : (l.map Prod.fst).Nodup) (hok : l.any (fun p => !okP p) = false) (hk : ∀ x, x ∈ ks ↔ (own l x).isSome = true)
    (hd2 : (m.map Prod.fst).Nodup) (hok2 : m.any (fun p => !okP p) = false) (hf : ∀ x, findP m x = findP l x) : ∀ b, b ∈ (triOf m ks2).1 → b ∈ (triOf l ks).1 := fun b hb => by
  have st1 := tri_st l ks
  have st2 := tri_st m ks2
  have o1 := own_all hd (fun q hq => (ok_of hok hq).1)
  have o2 := own_all hd2 (fun q hq => (ok_of hok2 hq).1)
  have hbf : ∀ i, blkF m i = blkF l i := fun i => by
    unfold blkF
    apply List.map_congr_left
    intro c _
    exact hf _
  rw [st1.mem]
  rw [st2.mem] at hb
  rcases hb with e | ⟨i, hi, e⟩
  · exact .inl e
  · rw [o2.1, hbf, ← o1.1] at e
    by_cases h2 : i ∈ ks
    · exact .inr ⟨i, h2, e⟩
    · left
      have h3 : own l i = none := by
        cases ho : own l i with
        | none => rfl
        | some b => exact absurd ((hk i).2 (by rw [ho]; rfl)) h2
      rw [h3] at e
      exact e
theorem same_blocks {l m : List (Int × Int)} {ks ks2 : List Int} (hd : (l.map Prod.fst).Nodup) (hok : l.any (fun p => !okP p) = false) (hk : ∀ x, x ∈ ks ↔ (own l x).isSome = true)
    (hd2 : (m.map Prod.fst).Nodup) (hok2 : m.any (fun p => !okP p) = false) (hk2 : ∀ x, x ∈ ks2 ↔ (own m x).isSome = true) (hf : ∀ x, findP m x = findP l x) : (triOf m ks2).1.length = (triOf l ks).1.length :=
  (List.perm_ext_iff_of_nodup (tri_st m ks2).nodup (tri_st l ks).nodup |>.2 fun b => ⟨same_sub hd hok hk hd2 hok2 hf b, same_sub hd2 hok2 hk2 hd hok (fun x => (hf x).symm) b⟩).length_eq
theorem findP_range {l : List (Int × Int)} (hok : l.any (fun p => !okP p) = false) (c v : Int) (hc : okP (c, v) = true) : okP (c, findP l c) = true := by
  simp only [okP, Bool.and_eq_true, decide_eq_true_eq] at hc ⊢
  by_cases h : findP l c = 0
  · rw [h]; omega
  · obtain ⟨p, hp, e1, e2⟩ := findP_ne h
    have := ok_of hok hp
    rw [e2] at this
    omega
theorem get_find (g : Nat) (l : List (Int × Int)) (ks : List Int) (c : Int) (w : World) (ht : IsTrie w g (triOf l ks)) (hd : (l.map Prod.fst).Nodup) (hok : l.any (fun p => !okP p) = false) (hk : ∀ x, x ∈ ks ↔ (own l x).isSome = true) (h1 : -9223372036854775808 ≤ c) (h2 : c ≤ 9223372036854775807) :
    Calls Try.prog 9 #[.pointer (some ⟨g, 0, none⟩), .int .i64 c] w fun e w' => e = .returned (.int .i64 (findP l c)) ∧ w = w' := by
  have := get_calls g _ c w ht (tri_ok l ks) h1 h2
  rwa [get_is hd hok hk] at this

set_option maxHeartbeats 4000000 in
set_option maxRecDepth 100000 in
theorem law_calls (A : Option Addr) (c0 : Nat) (l : List (Int × Int)) (c v : Int) (w : World) (hA : PRow w A l) (hl : l.length ≤ 20) :
    Calls Try.prog 5 #[.slice A l.length c0, .int .i64 c, .int .i64 v] w fun e w' => e = .returned (.bool true) ∧ Below w.heap.size w w' := by
  have HA := Lib.hid hA
  clear hA
  go_enter Try.func5, Try.ntmps5
  go_wp2_with fail
  refine (build_any A c0 l _ HA.out (by omega)).mono ?_
  rintro e w1 ⟨u, x, rfl, hE, hb⟩
  have HB := Lib.hid hb
  have HP1 := Lib.hid (HA.out.below hb)
  clear hb
  cases hE with
  | bad h =>
    clear h
    go_wp2_with (go_at_call 6; refine (awake_calls _).mono ?_; rintro e w4 ⟨rfl, hb⟩; have HB4 := Lib.hid hb; clear hb)
    go_ret
    exact ⟨rfl, HB.out.trans (HB4.out.mono HB.out.size)⟩
  | dup h hd =>
    clear h hd
    go_wp2_with (go_at_call 6; refine (awake_calls _).mono ?_; rintro e w4 ⟨rfl, hb⟩; have HB4 := Lib.hid hb; clear hb)
    go_ret
    exact ⟨rfl, HB.out.trans (HB4.out.mono HB.out.size)⟩
  | good g ks0 h hd hk ht =>
    have HOK := Lib.hid h
    have HND := Lib.hid hd
    have HK0 := Lib.hid hk
    have HTR := Lib.hid ht
    clear h hd hk ht
    cases hcv : okP (c, v) with
    | false =>
      have HCV := Lib.hid hcv
      clear hcv
      go_wp2_with fail
      refine (with_bad g c v _ HCV.out).mono ?_
      rintro e w2 ⟨rfl, hb2⟩
      have HB2 := Lib.hid (HB.out.trans (hb2.mono HB.out.size))
      clear hb2
      unfold ret
      go_wp2_with (go_at_call 8; refine (may_calls c v _ false HCV.out).mono ?_; rintro e w4 ⟨rfl, hb⟩; have HB4 := Lib.hid (HB2.out.trans (hb.mono HB2.out.size)); clear hb)
      go_wp2_with (go_at_call 6; refine (awake_calls _).mono ?_; rintro e w5 ⟨rfl, hb⟩; have HB5 := Lib.hid hb; clear hb)
      go_ret
      exact ⟨rfl, HB4.out.trans (HB5.out.mono HB4.out.size)⟩
    | true =>
      have HCV := Lib.hid hcv
      have hcr : 0 ≤ c ∧ c ≤ 1114367 := by
        simp only [okP, Bool.and_eq_true, decide_eq_true_eq] at hcv
        omega
      clear hcv
      go_wp2_with fail
      refine (with_ok g l ks0 c v _ HCV.out HTR.out HND.out HOK.out HK0.out (by omega)).mono ?_
      rintro e w2 ⟨m, hmd, hmo, hmf, hml, g2, ks2, rfl, hk2, ht2, hb2⟩
      have HMD := Lib.hid hmd
      have HMO := Lib.hid hmo
      have HMF := Lib.hid hmf
      have HML := Lib.hid hml
      have HK2 := Lib.hid hk2
      have HT2 := Lib.hid ht2
      have HTR2 := Lib.hid (HTR.out.below hb2)
      have HP2 := Lib.hid (HP1.out.below hb2)
      have HB2 := Lib.hid (HB.out.trans (hb2.mono HB.out.size))
      have hmv : findP m c = v := by rw [hmf, if_pos rfl]
      have HMV := Lib.hid hmv
      clear hmd hmo hmf hml hk2 ht2 hb2 hmv
      unfold ret
      go_wp2_with (go_at_call 8; refine (may_calls c v _ true HCV.out).mono ?_; rintro e w4 ⟨rfl, hb⟩; have HB4 := Lib.hid (HB2.out.trans (hb.mono HB2.out.size)); have HT4 := Lib.hid (HT2.out.below hb); have HTR4 := Lib.hid (HTR2.out.below hb); have HP4 := Lib.hid (HP2.out.below hb); clear hb)
      refine (get_find g2 m ks2 c _ HT4.out HMD.out HMO.out HK2.out (by omega) (by omega)).mono ?_
      rintro e w5 ⟨rfl, rfl⟩
      rw [HMV.out]
      have hvv : (v != v) = false := by simp
      go_wp2_with fail
      refine (get_find g l ks0 c _ HTR4.out HND.out HOK.out HK0.out (by omega) (by omega)).mono ?_
      rintro e w5 ⟨rfl, rfl⟩
      have hff : (findP l c != findP l c) = false := by simp
      go_wp2_with (go_at_call 10; refine (find_calls A c0 l c _ HP4.out (by omega)).mono ?_; rintro e w6 ⟨rfl, rfl⟩)
      go_loopw [11] (fun v11 wq => ∃ i : Nat, i ≤ l.length ∧ v11 = .int .i64 i ∧ Hid (w4.grownBy wq none)) (fun v11 _ => l.length - (intOf v11).toNat)
      case atStart => exact ⟨0, Nat.zero_le _, rfl, Lib.hid (World.grownBy.refl _ _)⟩
      case round =>
        obtain ⟨i, hi, rfl, HG⟩ := hrel
        by_cases hlt : i < l.length
        · obtain ⟨ad, eA, hx0, hx1⟩ := (HP4.out.grown HG.out) i hlt
          subst eA
          obtain ⟨pc, hpc⟩ : ∃ q, q = (l.getD i (0, 0)).1 := ⟨_, rfl⟩
          obtain ⟨pv, hpv⟩ : ∃ q, q = (l.getD i (0, 0)).2 := ⟨_, rfl⟩
          have hcv : l.getD i (0, 0) = (pc, pv) := by rw [hpc, hpv]
          rw [hcv] at hx0 hx1
          have hmem : (pc, pv) ∈ l := by rw [← hcv, List.getD_eq_getElem?_getD, List.getElem?_eq_getElem hlt]; exact List.getElem_mem _
          have hval : findP l pc = pv := findP_mem l (pc, pv) HND.out hmem
          have hr := ok_of HOK.out hmem
          have HTW := Lib.hid (HT4.out.grown HG.out)
          have HTRW := Lib.hid (HTR4.out.grown HG.out)
          have HVAL := Lib.hid hval
          have hpp : (pv != pv) = false := by simp
          clear hpc hpv hcv hmem hval
          simp only at hr
          have hl2 : (findP l pc != pv) = false := bne_eq_false_iff_eq.mpr HVAL.out
          by_cases he : pc = c
          · have hne : (pc != c) = false := bne_eq_false_iff_eq.mpr he
            clear he
            go_wp2
            go_quiet ((go_at_call 9; exact get_qf g l ks0 _ wr HTRW.out HND.out HOK.out HK0.out (by omega) (by omega) _))
            go_wp2
            go_roundw
            case rel => exact ⟨i + 1, by omega, by go_num, Lib.hid (E.grown_trans HG.out (grown_drewN _ _))⟩
            case measure => simp [intOf]; omega
          · have hne : (pc != c) = true := bne_iff_ne.mpr he
            have hm2 : findP m pc = pv := by rw [HMF.out, if_neg (fun h => he h.symm), HVAL.out]
            have HQ := Lib.hid (show ∀ gx, (gx = g ∨ gx = g2) → ∀ n, Calls Try.prog 9 #[.pointer (some ⟨gx, 0, none⟩), .int .i64 pc] (wr.drewN n) fun e w' => e = .returned (.int .i64 pv) ∧ ∃ m, w' = wr.drewN m from fun gx hx n => by
              rcases hx with rfl | rfl
              · have := get_qf gx l ks0 pc wr HTRW.out HND.out HOK.out HK0.out (by omega) (by omega) n
                rwa [HVAL.out] at this
              · have := get_qf gx m ks2 pc wr HTW.out HMD.out HMO.out HK2.out (by omega) (by omega) n
                rwa [hm2] at this)
            clear hm2
            clear he
            go_wp2
            go_quiet ((go_at_call 9; exact HQ.out _ (by first | exact .inl rfl | exact .inr rfl) _))
            go_wp2
            go_roundw
            case rel => exact ⟨i + 1, by omega, by go_num, Lib.hid (E.grown_trans HG.out (grown_drewN _ _))⟩
            case measure => simp [intOf]; omega
        · obtain rfl : i = l.length := by omega
          have HTW := Lib.hid (HT4.out.grown HG.out)
          have HTRW := Lib.hid (HTR4.out.grown HG.out)
          have HPW := Lib.hid (HP4.out.grown HG.out)
          have HBW := Lib.hid (HB4.out.trans (HG.out.below_none.mono HB4.out.size))
          have hfo := findP_range HOK.out c v HCV.out
          have HFO := Lib.hid hfo
          obtain ⟨fv, efv⟩ : ∃ q, q = findP l c := ⟨_, rfl⟩
          rw [← efv] at HFO
          have HFV := Lib.hid efv
          clear hfo efv hvv hff
          go_wp2_with (go_at_call 10; refine (find_calls A c0 l c _ HPW.out (by omega)).mono ?_; rintro e w6 ⟨rfl, rfl⟩; rw [← HFV.out])
          refine (with_ok g2 m ks2 c fv _ HFO.out HTW.out HMD.out HMO.out HK2.out ?_).mono ?_
          · have := HML.out; omega
          rintro e w8 ⟨m3, hmd3, hmo3, hmf3, -, g3, ks3, rfl, hk3, ht3, hb3⟩
          have hbl : (triOf m3 ks3).1.length = (triOf l ks0).1.length := same_blocks HND.out HOK.out HK0.out hmd3 hmo3 hk3 (fun x => by
            rw [hmf3]
            by_cases h : c = x
            · rw [if_pos h, ← h, HFV.out]
            · rw [if_neg h, HMF.out, if_neg h])
          have HBL := Lib.hid hbl
          have HT3 := Lib.hid ht3
          have HTR3 := Lib.hid (HTRW.out.below hb3)
          have HB8 := Lib.hid (HBW.out.trans (hb3.mono HBW.out.size))
          clear hmd3 hmo3 hmf3 hk3 ht3 hb3 hbl
          unfold ret
          go_wp2_with fail
          refine (blocks_calls g3 _ _ HT3.out).mono ?_
          rintro e w9 ⟨rfl, rfl⟩
          rw [HBL.out]
          go_wp2_with fail
          refine (blocks_calls g _ _ HTR3.out).mono ?_
          rintro e w9 ⟨rfl, rfl⟩
          go_wp2_with fail
          refine (awake_calls _).mono ?_
          rintro e w9 ⟨rfl, hb9⟩
          have HB9 := Lib.hid hb9
          clear hb9
          go_wp2
          go_ret
          exact ⟨rfl, HB8.out.trans (HB9.out.mono HB8.out.size)⟩
theorem law_all (A : Option Addr) (c0 : Nat) (l : List (Int × Int)) (c v : Int) (w : World) (hA : PRow w A l) :
    Calls Try.prog 5 #[.slice A l.length c0, .int .i64 c, .int .i64 v] w fun e w' => e = .returned (.bool true) ∧ Below w.heap.size w w' := by
  by_cases hl : l.length ≤ 20
  · exact law_calls A c0 l c v w hA hl
  · have hd : decide (20 < l.length) = true := decide_eq_true (by omega)
    go_enter Try.func5, Try.ntmps5
    go_wp2_with (go_at_call 6; refine (awake_calls _).mono ?_; rintro e w4 ⟨rfl, hb⟩; have HB4 := Lib.hid hb; clear hb)
    go_ret
    exact ⟨rfl, HB4.out⟩
theorem with_all (A : Option Addr) (c0 : Nat) (l : List (Int × Int)) (c v : Int) (w : World) (hA : PRow w A l) (hc : (Lit.int .i64 c).wf = true) (hv : (Lit.int .i64 v).wf = true) :
    Calls Try.prog 5 #[.slice A l.length c0, .int .i64 c, .int .i64 v] w fun e w' => e = .returned (.bool true) ∧ Below w.heap.size w w' := law_all A c0 l c v w hA
end Go.Proofs.Ytpameikbacnpcaa.T
