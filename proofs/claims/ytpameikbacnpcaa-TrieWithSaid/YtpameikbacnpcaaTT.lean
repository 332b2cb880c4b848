/- TrieTells' walk: the law returns true, whatever pairs and whatever number. -/
import Derived.Test.YtpameikbacnpcaaTW
namespace Go.Proofs.Ytpameikbacnpcaa.T
open Go Go.RowKit Go.Maps Go.Proofs.Ytpameikbacnpcaa.M
set_option linter.unusedVariables false

def fstAt (l : List (Int × Int)) (i : Nat) : Int := (l.getD i (0, 0)).1
/-- A sign that stands at place j stood ahead of it, among the first k. -/
def dupK (l : List (Int × Int)) (j k : Nat) : Bool := (List.range k).any fun k' => fstAt l k' == fstAt l j
theorem dupK_succ (l : List (Int × Int)) (j k : Nat) : dupK l j (k + 1) = (dupK l j k || (fstAt l k == fstAt l j)) := by
  unfold dupK; rw [List.range_succ, List.any_append]; simp
/-- .. of the last d places. -/
def dupD (l : List (Int × Int)) : Nat → Bool
  | 0 => false
  | d + 1 => dupD l d || dupK l (l.length - 1 - d) (l.length - 1 - d)
theorem dupD_iff (l : List (Int × Int)) : ∀ d, d ≤ l.length → (dupD l d = true ↔ ∃ j k, l.length - d ≤ j ∧ j < l.length ∧ k < j ∧ fstAt l k = fstAt l j)
  | 0, _ => by
    constructor
    · intro h; cases h
    · rintro ⟨j, k, h1, h2, -⟩; omega
  | d + 1, hd => by
    rw [dupD, Bool.or_eq_true, dupD_iff l d (by omega)]
    constructor
    · rintro (⟨j, k, h1, h2⟩ | h)
      · exact ⟨j, k, by omega, h2⟩
      · unfold dupK at h
        rw [List.any_eq_true] at h
        obtain ⟨k, hk, e⟩ := h
        exact ⟨l.length - 1 - d, k, by omega, by omega, by simpa using hk, by simpa using e⟩
    · rintro ⟨j, k, h1, h2, h3, h4⟩
      by_cases hj : l.length - d ≤ j
      · exact .inl ⟨j, k, hj, h2, h3, h4⟩
      · right
        obtain rfl : j = l.length - 1 - d := by omega
        unfold dupK
        rw [List.any_eq_true]
        exact ⟨k, by simpa using h3, by simpa using h4⟩
theorem dup_is (l : List (Int × Int)) : dupD l l.length = false ↔ (l.map Prod.fst).Nodup := by
  have hf : ∀ i, i < l.length → fstAt l i = (l.map Prod.fst)[i]?.getD 0 := fun i hi => by
    simp [fstAt, List.getD_eq_getElem?_getD, List.getElem?_eq_getElem hi]
  constructor
  · intro h
    rw [List.nodup_iff_pairwise_ne, List.pairwise_iff_getElem]
    intro i j hi hj hij e
    have : dupD l l.length = true := (dupD_iff l _ (Nat.le_refl _)).2 ⟨j, i, by omega, by simpa using hj, hij, by
      rw [hf i (by simpa using hi), hf j (by simpa using hj), List.getElem?_eq_getElem hi, List.getElem?_eq_getElem hj, e]⟩
    rw [h] at this
    cases this
  · intro h
    cases hd : dupD l l.length with
    | false => rfl
    | true =>
      obtain ⟨j, k, -, hj, hk, e⟩ := (dupD_iff l _ (Nat.le_refl _)).1 hd
      rw [List.nodup_iff_pairwise_ne, List.pairwise_iff_getElem] at h
      have := h k j (by simp; omega) (by simp; omega) hk
      rw [hf k (by omega), hf j hj, List.getElem?_eq_getElem (by simp; omega), List.getElem?_eq_getElem (by simp; omega)] at e
      exact absurd e this

theorem get_v (g : Nat) (l : List (Int × Int)) (ks : List Int) (c v : Int) (w : World) (hs : IsTrie w g (triOf l ks)) (hd : (l.map Prod.fst).Nodup) (hok : l.any (fun p => !okP p) = false) (hk : ∀ x, x ∈ ks ↔ (own l x).isSome = true)
    (h1 : -9223372036854775808 ≤ c) (h2 : c ≤ 9223372036854775807) (hv : findP l c = v) : Calls Try.prog 9 #[.pointer (some ⟨g, 0, none⟩), .int .i64 c] w fun e w' => e = .returned (.int .i64 v) ∧ w = w' :=
  (get_calls g _ c w hs (tri_ok l ks) h1 h2).mono fun e w' h => ⟨by rw [h.1, get_is hd hok hk c, hv], h.2⟩
theorem get_f (g : Nat) (l : List (Int × Int)) (ks : List Int) (c : Int) (w : World) (hs : IsTrie w g (triOf l ks)) (hd : (l.map Prod.fst).Nodup) (hok : l.any (fun p => !okP p) = false) (hk : ∀ x, x ∈ ks ↔ (own l x).isSome = true)
    (h1 : -9223372036854775808 ≤ c) (h2 : c ≤ 9223372036854775807) : Calls Try.prog 9 #[.pointer (some ⟨g, 0, none⟩), .int .i64 c] w fun e w' => e = .returned (.int .i64 (findP l c)) ∧ w = w' := get_v g l ks c _ w hs hd hok hk h1 h2 rfl
theorem get_qf (g : Nat) (l : List (Int × Int)) (ks : List Int) (c : Int) (w : World) (hs : IsTrie w g (triOf l ks)) (hd : (l.map Prod.fst).Nodup) (hok : l.any (fun p => !okP p) = false) (hk : ∀ x, x ∈ ks ↔ (own l x).isSome = true)
    (h1 : -9223372036854775808 ≤ c) (h2 : c ≤ 9223372036854775807) (n : Nat) : Calls Try.prog 9 #[.pointer (some ⟨g, 0, none⟩), .int .i64 c] (w.drewN n) fun e w' => e = .returned (.int .i64 (findP l c)) ∧ ∃ m, w' = w.drewN m :=
  Calls.quiet_of_same ((get_f g l ks c _ (hs.grown (grown_drewN w n)) hd hok hk h1 h2).mono fun _ _ h => ⟨h.1, h.2.symm⟩)

/-- What the law expects of Build. -/
def wantA (l : List (Int × Int)) (d : Bool) : Int := if d = true then 64 else 0
def badTo (l : List (Int × Int)) (i : Nat) : Bool := (l.take i).any fun p => !okP p
def wantB (l : List (Int × Int)) (i : Nat) : Int := if badTo l i = true then 1 else wantA l (dupD l l.length)
theorem badTo_succ (l : List (Int × Int)) (i : Nat) (h : i < l.length) : badTo l (i + 1) = (badTo l i || !okP (l.getD i (0, 0))) := by
  unfold badTo
  rw [List.take_succ_eq_append_getElem h, List.any_append]
  simp [List.getD_eq_getElem?_getD, List.getElem?_eq_getElem h]

/-- How Build ends. -/
inductive Ended (l : List (Int × Int)) (w w1 : World) : Value → Int → Prop
  | bad (h : l.any (fun p => !okP p) = true) : Ended l w w1 (.pointer none) 1
  | dup (h : l.any (fun p => !okP p) = false) (hd : ¬ (l.map Prod.fst).Nodup) : Ended l w w1 (.pointer none) 64
  | good (g : Nat) (ks : List Int) (h : l.any (fun p => !okP p) = false) (hd : (l.map Prod.fst).Nodup) (hk : ∀ x, x ∈ ks ↔ (own l x).isSome = true) (ht : IsTrie w1 g (triOf l ks)) : Ended l w w1 (.pointer (some ⟨g, 0, none⟩)) 0
theorem Ended.want {l : List (Int × Int)} {w w1 : World} {v : Value} {x : Int} (h : Ended l w w1 v x) : wantB l l.length = x := by
  unfold wantB badTo wantA
  rw [List.take_length]
  cases h with
  | bad h => rw [if_pos h]
  | dup h hd =>
    rw [if_neg (by rw [h]; simp), if_pos]
    cases hdd : dupD l l.length with
    | true => rfl
    | false => exact absurd ((dup_is l).1 hdd) hd
  | good g ks h hd hk ht => rw [if_neg (by rw [h]; simp), if_neg (by rw [(dup_is l).2 hd]; simp)]
theorem build_any (A : Option Addr) (c0 : Nat) (l : List (Int × Int)) (w : World) (hA : PRow w A l) (hl : l.length ≤ 1000) :
    Calls Try.prog 7 #[.slice A l.length c0] w fun e w' => ∃ (v : Value) (x : Int), e = .returned (.tuple #[v, .int .i64 x]) ∧ Ended l w w' v x ∧ Below w.heap.size w w' := by
  cases hok : l.any (fun p => !okP p) with
  | true => exact (build_bad A c0 l w hA hl hok).mono fun e w' h => ⟨_, _, h.1, .bad hok, h.2⟩
  | false =>
    refine (build_ok A c0 l w hA hl hok).mono fun e w' h => ?_
    by_cases hd : (l.map Prod.fst).Nodup
    · obtain ⟨g, ks, h1, -, h2, h3, h4⟩ := h.1 hd
      exact ⟨_, _, h1, .good g ks hok hd h2 h3, h4⟩
    · obtain ⟨h1, h2⟩ := h.2 hd
      exact ⟨_, _, h1, .dup hok hd, h2⟩

set_option maxHeartbeats 4000000 in
set_option maxRecDepth 100000 in
theorem tells_calls (A : Option Addr) (c0 : Nat) (l : List (Int × Int)) (c : Int) (w : World) (hA : PRow w A l) (hl : l.length ≤ 40) (hc1 : -9223372036854775808 ≤ c) (hc2 : c ≤ 9223372036854775807) :
    Calls Try.prog 3 #[.slice A l.length c0, .int .i64 c] w fun e w' => e = .returned (.bool true) ∧ Below w.heap.size w w' := by
  have HA := Lib.hid hA
  clear hA
  go_enter Try.func3, Try.ntmps3
  go_wp2_with (go_at_call 7; refine (build_any A c0 l _ HA.out (by omega)).mono ?_; rintro e w1 ⟨v, x, rfl, hE, hb⟩; have HE := Lib.hid hE; have HB := Lib.hid hb; clear hE hb)
  have HG0 := Lib.hid (World.grownBy.refl w1 none)
  have HP1 := Lib.hid (HA.out.below HB.out)
  go_loopw [8, 7] (fun v8 v7 wq => ∃ d : Nat, d ≤ l.length ∧ v8 = .int .i64 ((l.length : Int) - 1 - d) ∧ v7 = .int .i64 (wantA l (dupD l d)) ∧ Hid (w1.grownBy wq none)) (fun v8 _ _ => (intOf v8 + 1).toNat)
  case atStart => exact ⟨0, Nat.zero_le _, by simp, rfl, HG0⟩
  case round =>
    clear HG0
    obtain ⟨d, hd, rfl, rfl, HG⟩ := hrel
    by_cases hlt : d < l.length
    · obtain ⟨j, ej⟩ : ∃ j : Nat, j = l.length - 1 - d := ⟨_, rfl⟩
      have ej2 : (l.length : Int) - 1 - d = (j : Int) := by omega
      have hjl : j < l.length := by omega
      rw [ej2]
      have HJ := Lib.hid ej
      have HJ2 := Lib.hid ej2
      clear ej ej2
      obtain ⟨wn, hw⟩ : ∃ q, q = wantA l (dupD l d) := ⟨_, rfl⟩
      rw [← hw]
      have HW := Lib.hid hw
      clear hw
      obtain ⟨w3, rfl⟩ : ∃ q : World, q = wr := ⟨_, rfl⟩
      go_wp2
      go_loopw [9, 7] (fun v9 v7 wq => ∃ (k : Nat), k ≤ j ∧ v9 = .int .i64 k ∧ v7 = .int .i64 (wantA l (dupD l d || dupK l j k)) ∧ Hid (w1.grownBy wq none)) (fun v9 _ _ => j - (intOf v9).toNat)
      case atStart => exact ⟨0, Nat.zero_le _, rfl, by rw [HW.out]; simp [dupK], HG⟩
      case round =>
        clear HG
        obtain ⟨k, hk, rfl, rfl, HG⟩ := hrel
        by_cases hkj : k < j
        · obtain ⟨adk, eA, hk0, -⟩ := (HP1.out.grown HG.out) k (by omega)
          subst eA
          obtain ⟨adj, eA, hj0, -⟩ := (HP1.out.grown HG.out) j hjl
          obtain rfl : adk = adj := by injection eA
          clear eA
          change _ = some (Value.int IntKind.i64 (fstAt l k)) at hk0
          change _ = some (Value.int IntKind.i64 (fstAt l j)) at hj0
          obtain ⟨wn2, hw⟩ : ∃ q, q = wantA l (dupD l d || dupK l j k) := ⟨_, rfl⟩
          rw [← hw]
          have HW2 := Lib.hid hw
          clear hw
          have q1 : k < l.length := by omega
          by_cases hsame : fstAt l k = fstAt l j
          · have hs : (fstAt l k == fstAt l j) = true := beq_iff_eq.mpr hsame
            have HS := Lib.hid hs
            clear hsame
            go_wp2
            go_quiet (fail)
            go_wp2
            go_roundw
            case rel => exact ⟨k + 1, by omega, by go_num, by rw [dupK_succ, HS.out]; simp [wantA], Lib.hid (E.grown_trans HG.out (grown_drewN _ _))⟩
            case measure => simp [intOf]; omega
          · have hs : (fstAt l k == fstAt l j) = false := beq_eq_false_iff_ne.mpr hsame
            have HS := Lib.hid hs
            clear hsame
            go_wp2
            go_quiet (fail)
            go_wp2
            go_roundw
            case rel => exact ⟨k + 1, by omega, by go_num, by rw [dupK_succ, HS.out, Bool.or_false, HW2.out], Lib.hid (E.grown_trans HG.out (grown_drewN _ _))⟩
            case measure => simp [intOf]; omega
        · obtain rfl : k = j := by omega
          have HD := Lib.hid (show dupD l (d + 1) = (dupD l d || dupK l k k) by rw [dupD, ← HJ.out])
          go_wp2
          go_roundw
          case rel => exact ⟨d + 1, by omega, by have := HJ2.out; go_num, by rw [HD.out], HG⟩
          case measure => simp [intOf]; first | done | omega
    · obtain rfl : d = l.length := by omega
      obtain ⟨wa, ewa⟩ : ∃ q, q = wantA l (dupD l l.length) := ⟨_, rfl⟩
      rw [← ewa]
      have HWA := Lib.hid ewa
      clear ewa
      have hneg : decide (0 ≤ (l.length : Int) - 1 - l.length) = false := decide_eq_false (by omega)
      have HBR := Lib.hid (HB.out.trans (HG.out.below_none.mono HB.out.size))
      obtain ⟨w3, rfl⟩ : ∃ q : World, q = wr := ⟨_, rfl⟩
      go_wp2
      go_loopw [10, 7] (fun v10 v7 wq => ∃ i : Nat, i ≤ l.length ∧ v10 = .int .i64 i ∧ v7 = .int .i64 (if badTo l i = true then 1 else wa) ∧ Hid (Below w3.heap.size w3 wq)) (fun v10 _ _ => l.length - (intOf v10).toNat)
      case atStart => exact ⟨0, Nat.zero_le _, rfl, rfl, Lib.hid (Below.refl _ _)⟩
      case round =>
        obtain ⟨i, hi, rfl, rfl, HGB⟩ := hrel
        obtain ⟨wb, ewb⟩ : ∃ q, q = if badTo l i = true then 1 else wa := ⟨_, rfl⟩
        rw [← ewb]
        have HWB := Lib.hid ewb
        clear ewb
        by_cases hlt2 : i < l.length
        · obtain ⟨adk, eA, hk0, hk1⟩ := ((HP1.out.grown HG.out).below HGB.out) i hlt2
          subst eA
          obtain ⟨pc, hpc⟩ : ∃ q, q = (l.getD i (0, 0)).1 := ⟨_, rfl⟩
          obtain ⟨pv, hpv⟩ : ∃ q, q = (l.getD i (0, 0)).2 := ⟨_, rfl⟩
          have hcv : l.getD i (0, 0) = (pc, pv) := by rw [hpc, hpv]
          rw [hcv] at hk0 hk1
          have hbs := badTo_succ l i hlt2
          rw [hcv] at hbs
          have HBS := Lib.hid hbs
          clear hpc hpv hcv hbs
          cases hmy : okP (pc, pv) with
          | true =>
            have HMY := Lib.hid hmy
            have HGB1 := HGB
            clear hmy HGB
            go_wp2_with (go_at_call 8; refine (may_calls pc pv _ true HMY.out).mono ?_; rintro e w4 ⟨rfl, hb⟩; have HB4 := Lib.hid hb; clear hb)
            go_roundw
            case rel => exact ⟨i + 1, by omega, by go_num, by rw [HBS.out, HMY.out]; simp [HWB.out], Lib.hid (HGB1.out.trans (HB4.out.mono HGB1.out.size))⟩
            case measure => simp [intOf]; omega
          | false =>
            have HMY := Lib.hid hmy
            have HGB1 := HGB
            clear hmy HGB
            go_wp2_with (go_at_call 8; refine (may_calls pc pv _ false HMY.out).mono ?_; rintro e w4 ⟨rfl, hb⟩; have HB4 := Lib.hid hb; clear hb)
            go_roundw
            case rel => exact ⟨i + 1, by omega, by go_num, by rw [HBS.out, HMY.out]; simp, Lib.hid (HGB1.out.trans (HB4.out.mono HGB1.out.size))⟩
            case measure => simp [intOf]; omega
        · obtain rfl : i = l.length := by omega
          have hwb : wb = x := by
            have h1 := HE.out.want
            have h2 := HWB.out
            rw [HWA.out] at h2
            exact h2.trans h1
          subst hwb
          have HBQ := Lib.hid (HBR.out.trans (HGB.out.mono HBR.out.size))
          have HEQ := Lib.hid (show Ended l w wr v wb from by
            cases HE.out with
            | bad h => exact .bad h
            | dup h hd => exact .dup h hd
            | good g ks h hd hk ht => exact .good g ks h hd hk ((ht.grown HG.out).below HGB.out))
          have HPQ := Lib.hid ((HP1.out.grown HG.out).below HGB.out)
          clear HE HWB HGB HG HWA HP1 hneg
          have hq := HEQ.out
          clear HEQ
          cases hq with
          | bad h =>
            clear h
            go_wp2_with (go_at_call 6; refine (awake_calls _).mono ?_; rintro e w4 ⟨rfl, hb⟩; have HB4 := Lib.hid hb; clear hb)
            go_ret
            exact ⟨rfl, HBQ.out.trans (HB4.out.mono HBQ.out.size)⟩
          | dup h hd =>
            clear h hd
            go_wp2_with (go_at_call 6; refine (awake_calls _).mono ?_; rintro e w4 ⟨rfl, hb⟩; have HB4 := Lib.hid hb; clear hb)
            go_ret
            exact ⟨rfl, HBQ.out.trans (HB4.out.mono HBQ.out.size)⟩
          | good g ks h hd hk ht =>
            have HOK := Lib.hid h
            have HND := Lib.hid hd
            have HKS := Lib.hid hk
            have HTR := Lib.hid ht
            clear h hd hk ht
            obtain ⟨w5, rfl⟩ : ∃ q : World, q = wr := ⟨_, rfl⟩
            go_wp2
            go_loopw [11] (fun v11 wq => ∃ i : Nat, i ≤ l.length ∧ v11 = .int .i64 i ∧ Hid (w5.grownBy wq none)) (fun v11 _ => l.length - (intOf v11).toNat)
            case atStart => exact ⟨0, Nat.zero_le _, rfl, Lib.hid (World.grownBy.refl _ _)⟩
            case round =>
              obtain ⟨i, hi, rfl, HG⟩ := hrel
              by_cases hlt3 : i < l.length
              · obtain ⟨adk, eA, hk0, hk1⟩ := (HPQ.out.grown HG.out) i hlt3
                subst eA
                obtain ⟨pc, hpc⟩ : ∃ q, q = (l.getD i (0, 0)).1 := ⟨_, rfl⟩
                obtain ⟨pv, hpv⟩ : ∃ q, q = (l.getD i (0, 0)).2 := ⟨_, rfl⟩
                have hcv : l.getD i (0, 0) = (pc, pv) := by rw [hpc, hpv]
                rw [hcv] at hk0 hk1
                have hmem : (pc, pv) ∈ l := by rw [← hcv, List.getD_eq_getElem?_getD, List.getElem?_eq_getElem hlt3]; exact List.getElem_mem _
                have hcok : okP (pc, pv) = true := by have := List.any_eq_false.1 HOK.out _ hmem; simpa using this
                simp only [okP, Bool.and_eq_true, decide_eq_true_eq] at hcok
                obtain ⟨⟨⟨b1, b2⟩, b3⟩, b4⟩ := hcok
                have hv1 : findP l pc = pv := findP_mem l (pc, pv) HND.out hmem
                have hself : (findP l pc == pv) = true := beq_iff_eq.mpr hv1
                have hself2 : (findP l pc != pv) = false := bne_eq_false_iff_eq.mpr hv1
                have HTW := Lib.hid (HTR.out.grown HG.out)
                have HPW := Lib.hid (HPQ.out.grown HG.out)
                clear hpc hpv hcv hmem hv1
                by_cases hb : pc < 1114367
                · have d1 : decide (pc < 1114367) = true := decide_eq_true hb
                  go_wp2
                  go_quiet (first
                    | (go_at_call 9; exact get_qf g l ks _ wr HTW.out HND.out HOK.out HKS.out (by omega) (by omega) _)
                    | (go_at_call 10; exact find_q _ c0 l _ wr HPW.out (by omega) _))
                  go_wp2
                  go_roundw
                  case rel => exact ⟨i + 1, by omega, by go_num, Lib.hid (E.grown_trans HG.out (grown_drewN _ _))⟩
                  case measure => simp [intOf]; omega
                · have d1 : decide (pc < 1114367) = false := decide_eq_false hb
                  go_wp2
                  go_quiet ((go_at_call 9; exact get_qf g l ks _ wr HTW.out HND.out HOK.out HKS.out (by omega) (by omega) _))
                  go_wp2
                  go_roundw
                  case rel => exact ⟨i + 1, by omega, by go_num, Lib.hid (E.grown_trans HG.out (grown_drewN _ _))⟩
                  case measure => simp [intOf]; omega
              · obtain rfl : i = l.length := by omega
                have HTW := Lib.hid (HTR.out.grown HG.out)
                have HPW := Lib.hid (HPQ.out.grown HG.out)
                have HBW := Lib.hid (HBQ.out.trans (HG.out.below_none.mono HBQ.out.size))
                have HBK := Lib.hid (blocks_is HND.out HOK.out HKS.out)
                go_wp2_with fail
                refine (get_f g l ks c _ HTW.out HND.out HOK.out HKS.out hc1 hc2).mono ?_
                rintro e w6 ⟨rfl, rfl⟩
                go_wp2_with fail
                refine (find_calls A c0 l c _ HPW.out (by omega)).mono ?_
                rintro e w6 ⟨rfl, rfl⟩
                go_wp2_with fail
                refine (blocks_calls g _ _ HTW.out).mono ?_
                rintro e w6 ⟨rfl, rfl⟩
                rw [HBK.out]
                go_wp2_with fail
                refine (blk_calls A c0 l _ HPW.out (by omega) HOK.out).mono ?_
                rintro e w6 ⟨rfl, hb6⟩
                have HB6 := Lib.hid hb6
                clear hb6
                go_wp2_with fail
                refine (awake_calls _).mono ?_
                rintro e w7 ⟨rfl, hb7⟩
                have HB7 := Lib.hid hb7
                clear hb7
                go_wp2
                go_ret
                exact ⟨rfl, (HBW.out.trans (HB6.out.mono HBW.out.size)).trans (HB7.out.mono (Nat.le_trans HBW.out.size HB6.out.size))⟩
theorem i64_bounds {x : Int} (h : (Lit.int .i64 x).wf = true) : -9223372036854775808 ≤ x ∧ x ≤ 9223372036854775807 := by
  have e1 : IntKind.i64.min = -9223372036854775808 := by decide
  have e2 : IntKind.i64.max = 9223372036854775807 := by decide
  simp [Lit.wf, e1, e2] at h
  omega
theorem tells_all (A : Option Addr) (c0 : Nat) (l : List (Int × Int)) (c : Int) (w : World) (hA : PRow w A l) (hc : (Lit.int .i64 c).wf = true) :
    Calls Try.prog 3 #[.slice A l.length c0, .int .i64 c] w fun e w' => e = .returned (.bool true) ∧ Below w.heap.size w w' := by
  obtain ⟨h1, h2⟩ := i64_bounds hc
  by_cases hl : l.length ≤ 40
  · exact tells_calls A c0 l c w hA hl h1 h2
  · have hd : decide (40 < l.length) = true := decide_eq_true (by omega)
    go_enter Try.func3, Try.ntmps3
    go_wp2_with (go_at_call 6; refine (awake_calls _).mono ?_; rintro e w4 ⟨rfl, hb⟩; have HB4 := Lib.hid hb; clear hb)
    go_ret
    exact ⟨rfl, HB4.out⟩
end Go.Proofs.Ytpameikbacnpcaa.T
