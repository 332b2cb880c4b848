/- The law's count of blocks. -/
import Derived.Test.YtpameikbacnpcaaTF
import Derived.Test.YtpameikbacnpcaaTC
import Derived.Outline
namespace Go.Proofs.Ytpameikbacnpcaa.T
open Go Go.RowKit Go.Maps Go.Proofs.Ytpameikbacnpcaa.M
set_option linter.unusedVariables false

/-- The blocks that hold a number that is not nought, each once. -/
def atStep (acc : List Int) (p : Int × Int) : List Int := if (decide (p.2 = 0) || decide (p.1 / 64 ∈ acc)) = true then acc else acc ++ [p.1 / 64]
def atL (l : List (Int × Int)) : List Int := l.foldl atStep []
theorem atL_take (l : List (Int × Int)) (i : Nat) (h : i < l.length) : atL (l.take (i + 1)) = atStep (atL (l.take i)) (l.getD i (0, 0)) := by
  rw [List.take_succ_eq_append_getElem h]
  unfold atL
  rw [List.foldl_append]
  simp [List.getD_eq_getElem?_getD, List.getElem?_eq_getElem h]
def inB (z : Bool) (acc : List Int) (x : Int) : Bool := z || decide (x ∈ acc)
theorem inB_snoc (z : Bool) (acc : List Int) (y x : Int) : inB z (acc ++ [y]) x = (inB z acc x || (y == x)) := by
  unfold inB
  rw [Bool.eq_iff_iff]
  simp only [Bool.or_eq_true, decide_eq_true_eq, List.mem_append, List.mem_singleton, beq_iff_eq]
  constructor
  · rintro (h | h | h)
    · exact .inl (.inl h)
    · exact .inl (.inr h)
    · exact .inr h.symm
  · rintro ((h | h) | h)
    · exact .inl h
    · exact .inr (.inl h)
    · exact .inr (.inr h.symm)
def eqUpto (l : List (Int × Int)) (x y : Int) (c : Nat) : Bool := (List.range c).all fun c' => findP l (64 * x + (c' : Int)) == findP l (64 * y + (c' : Int))
theorem eqUpto_succ (l : List (Int × Int)) (x y : Int) (c : Nat) : eqUpto l x y (c + 1) = (eqUpto l x y c && (findP l (64 * x + (c : Int)) == findP l (64 * y + (c : Int)))) := by
  unfold eqUpto; rw [List.range_succ, List.all_append]; simp
theorem eqUpto_false {l : List (Int × Int)} {x y : Int} {c : Nat} (h : eqUpto l x y c = false) {d : Nat} (hd : c ≤ d) : eqUpto l x y d = false := by
  induction d with
  | zero => obtain rfl : c = 0 := by omega
            exact h
  | succ d ih =>
    by_cases e : c = d + 1
    · subst e; exact h
    · rw [eqUpto_succ, ih (by omega)]; rfl
def oldU (l : List (Int × Int)) (at_ : List Int) (i k : Nat) : Bool := (List.range k).any fun k' => eqUpto l (at_.getD i 0) (at_.getD k' 0) 64
theorem oldU_succ (l : List (Int × Int)) (at_ : List Int) (i k : Nat) : oldU l at_ i (k + 1) = (oldU l at_ i k || eqUpto l (at_.getD i 0) (at_.getD k 0) 64) := by
  unfold oldU; rw [List.range_succ, List.any_append]; simp
theorem oldU_true {l : List (Int × Int)} {at_ : List Int} {i k : Nat} (h : oldU l at_ i k = true) {d : Nat} (hd : k ≤ d) : oldU l at_ i d = true := by
  induction d with
  | zero => obtain rfl : k = 0 := by omega
            exact h
  | succ d ih =>
    by_cases e : k = d + 1
    · subst e; exact h
    · rw [oldU_succ, ih (by omega)]; rfl
/-- The law's count. -/
def cntN (l : List (Int × Int)) (at_ : List Int) : Nat → Nat
  | 0 => 1
  | i + 1 => if oldU l at_ i i = true then cntN l at_ i else cntN l at_ i + 1
theorem cntN_le (l : List (Int × Int)) (at_ : List Int) : ∀ i, cntN l at_ i ≤ i + 1
  | 0 => Nat.le_refl _
  | i + 1 => by have := cntN_le l at_ i; unfold cntN; split <;> omega
theorem atL_range_from : ∀ (l : List (Int × Int)) (acc : List Int), (∀ p ∈ l, okP p = true) → (∀ x ∈ acc, 0 ≤ x ∧ x ≤ 17411) → ∀ x ∈ l.foldl atStep acc, 0 ≤ x ∧ x ≤ 17411
  | [], acc, _, h, x, hx => h x hx
  | p :: l, acc, hl, h, x, hx => by
    refine atL_range_from l (atStep acc p) (fun q hq => hl q (by simp [hq])) (fun y hy => ?_) x hx
    unfold atStep at hy
    split at hy
    · exact h y hy
    · rcases List.mem_append.1 hy with h1 | h1
      · exact h y h1
      · have := hl p (by simp)
        simp only [okP, Bool.and_eq_true, decide_eq_true_eq] at this
        simp at h1
        omega
theorem atL_range {l : List (Int × Int)} (h : l.any (fun p => !okP p) = false) : ∀ x ∈ atL l, 0 ≤ x ∧ x ≤ 17411 :=
  atL_range_from l [] (fun p hp => by have := List.any_eq_false.1 h p hp; simpa using this) (by simp)
theorem _root_.Go.World.grownBy.below_none {w w' : World} (h : w.grownBy w' none) : Below w.heap.size w w' := (Below.refl _ _).grown h (Nat.le_refl _) (fun k e => by cases e)
theorem getD_mem {l : List Int} {i : Nat} (h : i < l.length) : l.getD i 0 ∈ l := by rw [List.getD_eq_getElem?_getD, List.getElem?_eq_getElem h]; exact List.getElem_mem _
theorem infoI : (Try.prog.info? 3).map (fun i => (i.zero, i.size, i.bytes)) = some (some (.int .i64 0), 1, 8) := by kernel_rfl
def numV (l : List Int) : List Value := l.map (Value.int .i64)
theorem row_nums {w : World} {base : Nat} {v : Value} {ks : List Int} (h : w.ownsRow base 3 1 v ks.length (numV ks)) :
    ∃ (Ak : Option Addr) (ck : Nat), v = .slice Ak ks.length ck ∧ ∀ j, j < ks.length → ∃ gk, Ak = some ⟨gk, 0, none⟩ ∧ base ≤ gk ∧ w.cell? ⟨gk, j, none⟩ = some (.int .i64 (ks.getD j 0)) := by
  rcases h.2 with ⟨e, h0⟩ | ⟨g, cap, cur, e, hb, hg, hn, hm, hs, ht⟩
  · exact ⟨none, 0, by rw [e, h0], fun j hj => by omega⟩
  · refine ⟨some ⟨g, 0, none⟩, cap, e, fun j hj => ⟨g, rfl, hb, ?_⟩⟩
    rw [E.blk_cell hg j]
    have h1 : (cur.toList.take (ks.length * 1))[j]? = (numV ks)[j]? := by rw [ht]
    rw [List.getElem?_take_of_lt (by omega)] at h1
    rw [← Array.getElem?_toList, h1]
    simp [numV, List.getD_eq_getElem?_getD, List.getElem?_eq_getElem hj]

set_option maxHeartbeats 4000000 in
set_option maxRecDepth 100000 in
theorem blk_calls (A : Option Addr) (c0 : Nat) (l : List (Int × Int)) (w : World) (hA : PRow w A l) (hl : l.length ≤ 1000) (hok : l.any (fun p => !okP p) = false):
    Calls Try.prog 12 #[.slice A l.length c0] w fun e w' => e = .returned (.int .i64 (cntN l (atL l) (atL l).length)) ∧ Below w.heap.size w w' := by
  have HA := Lib.hid hA
  have HOK := Lib.hid hok
  have HB0 := Lib.hid (Below.refl w.heap.size w)
  have HR0 := Lib.hid (World.ownsRow_nil w w.heap.size 3 1)
  clear hA hok
  go_enter Try.func12, Try.ntmps12
  go_wp2
  go_loopw [4, 3] (fun v4 v3 w' => ∃ (i : Nat) (at_ : List Int) (Ak : Option Addr) (ck : Nat), i ≤ l.length ∧ v4 = .int .i64 i ∧ v3 = .slice Ak at_.length ck ∧ Hid (at_ = atL (l.take i)) ∧ Hid (at_.length ≤ i) ∧ Hid (w'.ownsRow w.heap.size 3 1 (.slice Ak at_.length ck) at_.length (numV at_)) ∧ Hid (Below w.heap.size w w')) (fun v4 _ _ => l.length - (intOf v4).toNat)
  case atStart => exact ⟨0, [], none, 0, Nat.zero_le _, rfl, rfl, Lib.hid rfl, Lib.hid (Nat.le_refl _), HR0, HB0⟩
  case round =>
    clear HB0 HR0
    obtain ⟨i, at_, Ak, ck, hi, rfl, rfl, HAT, HLE, HR, HB⟩ := hrel
    by_cases hlt : i < l.length
    · obtain ⟨ad, ea, hx0, hx1⟩ := (HA.out.below HB.out) i hlt
      subst ea
      obtain ⟨c, hc⟩ : ∃ c, c = (l.getD i (0, 0)).1 := ⟨_, rfl⟩
      obtain ⟨v, hv⟩ : ∃ v, v = (l.getD i (0, 0)).2 := ⟨_, rfl⟩
      have hcv : l.getD i (0, 0) = (c, v) := by rw [hc, hv]
      rw [hcv] at hx0 hx1
      have hcok : okP (c, v) = true := by
        have h1 := List.any_eq_false.1 HOK.out (l.getD i (0, 0)) (by rw [List.getD_eq_getElem?_getD, List.getElem?_eq_getElem hlt]; exact List.getElem_mem _)
        rw [hcv] at h1
        simpa using h1
      simp only [okP, Bool.and_eq_true, decide_eq_true_eq] at hcok
      obtain ⟨⟨⟨b1, b2⟩, b3⟩, b4⟩ := hcok
      have HCV := Lib.hid hcv
      have hal : at_.length ≤ 1000 := by have := HLE.out; omega
      clear hc hv hcv
      obtain ⟨wo, rfl⟩ : ∃ x : World, x = wr := ⟨_, rfl⟩
      obtain ⟨Ak', ck', evk, hcells⟩ := row_nums HR.out
      obtain ⟨rfl, -, rfl⟩ : Ak = Ak' ∧ at_.length = at_.length ∧ ck = ck' := by simpa using evk
      have HCE := Lib.hid hcells
      clear evk hcells
      go_wp2
      go_loop [7, 6] (fun v7 v6 => ∃ (k : Nat) (bi : Bool), k ≤ at_.length ∧ v7 = .int .i64 k ∧ v6 = .bool bi ∧ Hid (bi = inB (v == 0) (at_.take k) (c / 64))) (fun v7 _ => at_.length - (intOf v7).toNat)
      case atStart => exact ⟨0, (v == 0), Nat.zero_le _, rfl, rfl, Lib.hid (by simp [inB])⟩
      case round =>
        obtain ⟨k, bi, hk, rfl, rfl, HI⟩ := hrel
        by_cases hlt2 : k < at_.length
        · have ht : at_.take (k + 1) = at_.take k ++ [at_.getD k 0] := by rw [List.take_succ_eq_append_getElem hlt2]; simp [List.getD_eq_getElem?_getD, List.getElem?_eq_getElem hlt2]
          have HT := Lib.hid ht
          clear ht
          cases bi with
          | true =>
            go_wp2
            go_round
            case rel => exact ⟨k + 1, true, by omega, by go_num, rfl, Lib.hid (by rw [HT.out, inB_snoc, ← HI.out]; rfl)⟩
            case measure => simp [intOf]; omega
          | false =>
            obtain ⟨gk, eA, hge, hck⟩ := HCE.out k hlt2
            subst eA
            obtain ⟨x, ex⟩ : ∃ x, x = at_.getD k 0 := ⟨_, rfl⟩
            rw [← ex] at hck
            have HX := Lib.hid ex
            clear ex hge
            go_wp2
            go_round
            case rel => exact ⟨k + 1, (x == c / 64), by omega, by go_num, by first | rfl | simp, Lib.hid (by rw [HT.out, inB_snoc, ← HI.out, HX.out]; rfl)⟩
            case measure => simp [intOf]; omega
        · obtain rfl : k = at_.length := by omega
          have hI := HI.out
          rw [List.take_length] at hI
          have hstep : atL (l.take (i + 1)) = if bi = true then at_ else at_ ++ [c / 64] := by
            rw [atL_take l i hlt, HCV.out, ← HAT.out]
            unfold atStep
            have e : (decide (v = 0) || decide (c / 64 ∈ at_)) = bi := by rw [hI]; unfold inB; rfl
            rw [e]
          have HST := Lib.hid hstep
          have HI2 := Lib.hid hI
          clear hI hstep HI
          cases bi with
          | true =>
            go_wp2
            go_roundw
            case rel => exact ⟨i + 1, at_, Ak, ck, by omega, by go_num, rfl, Lib.hid (by rw [HST.out]; rfl), Lib.hid (by have := HLE.out; omega), HR, HB⟩
            case measure => simp [intOf]; omega
          | false =>
            go_wp2_with (first | ((with_reducible refine E.gate 50 rfl ?_); with_reducible refine E.halt ?_) | ((with_reducible refine E.gate 51 rfl ?_); with_reducible refine E.halt ?_))
            refine E.Halt.go (E.ev_one rfl 50 3 (.tmp 49) rfl 1 (.int .i64 0) (.int .i64 (c / 64)) 8 Try.underlying50 infoI rfl (by omega) (by omega) rfl rfl ?_)
            intro gn wE egn hgn hgE hsE
            have HGN := Lib.hid hgn
            have hbE := below_of HB.out hgE (by simp) HB.out.size
            have HBE := Lib.hid hbE
            have HRE := Lib.hid (HR.out.kept hgE (by rcases Ak with _ | ⟨q, r, s⟩ <;> simp [Value.ownBlock]))
            clear egn hgn hgE hsE hbE
            obtain ⟨iI, hiI, hI0, hI1, hI2⟩ := info_parts infoI
            go_wp2_with (first | ((with_reducible refine E.gate 50 rfl ?_); with_reducible refine E.halt ?_) | ((with_reducible refine E.gate 51 rfl ?_); with_reducible refine E.halt ?_))
            refine E.Halt.go (wpList_append_lies _ rfl (.tmp 48) (.tmp 50) 50 rfl w.heap.size 3 iI (.int .i64 0) 1 8 Try.underlying50 hiI hI0 hI1 hI2 rfl (by omega) (.slice Ak at_.length ck) at_.length (numV at_) rfl HRE.out ⟨gn, 0, none⟩ 1 1 [.int .i64 (c / 64)] rfl rfl (World.news_of_block HGN.out) (fun u hu => by simp at hu; subst hu; rfl) (by omega) (by unfold maxLen; omega) (by omega) (by have := HBE.out.size; omega) wE.heap.size rfl ?_)
            intro gz cz wF hwF hgF hat hlz
            have hbF := below_of HBE.out hgF (fun k e => (HRE.out.lt k e).1) HBE.out.size
            have HBF := Lib.hid hbF
            have hnv : numV at_ ++ [.int .i64 (c / 64)] = numV (at_ ++ [c / 64]) := by simp [numV]
            have hwF2 : wF.ownsRow w.heap.size 3 1 (.slice (some ⟨gz, 0, none⟩) (at_ ++ [c / 64]).length cz) (at_ ++ [c / 64]).length (numV (at_ ++ [c / 64])) := by rw [← hnv]; simpa using hwF
            have HRF := Lib.hid hwF2
            clear hwF hwF2 hgF hat hlz hbF hnv
            go_wp2
            go_roundw
            case rel => exact ⟨i + 1, at_ ++ [c / 64], some ⟨gz, 0, none⟩, cz, by omega, by go_num, by first | rfl | simp, Lib.hid (by rw [HST.out]; rfl), Lib.hid (by have := HLE.out; simp; omega), HRF, HBF⟩
            case measure => simp [intOf]; omega
    · obtain rfl : i = l.length := by omega
      have hat := HAT.out
      rw [List.take_length] at hat
      subst hat
      have hal : (atL l).length ≤ 1000 := by have := HLE.out; omega
      obtain ⟨wo, rfl⟩ : ∃ x : World, x = wr := ⟨_, rfl⟩
      obtain ⟨Ak', ck', evk, hcells⟩ := row_nums HR.out
      obtain ⟨rfl, -, rfl⟩ : Ak = Ak' ∧ (atL l).length = (atL l).length ∧ ck = ck' := by simpa using evk
      have HCE := Lib.hid hcells
      have HPW := Lib.hid (HA.out.below HB.out)
      have HG0 := Lib.hid (World.grownBy.refl wo none)
      clear evk hcells HR HLE HAT
      go_wp2
      go_loopw [9, 8] (fun v9 v8 wq => ∃ (i : Nat), i ≤ (atL l).length ∧ v9 = .int .i64 i ∧ v8 = .int .i64 (cntN l (atL l) i) ∧ Hid (wo.grownBy wq none)) (fun v9 _ _ => (atL l).length - (intOf v9).toNat)
      case atStart => exact ⟨0, Nat.zero_le _, rfl, rfl, HG0⟩
      case round =>
        clear HG0
        obtain ⟨i, hi, rfl, rfl, HG⟩ := hrel
        have hcn := cntN_le l (atL l) i
        by_cases hlt3 : i < (atL l).length
        · obtain ⟨w3, rfl⟩ : ∃ x : World, x = wr := ⟨_, rfl⟩
          obtain ⟨gk, eA, -, hci⟩ := HCE.out i hlt3
          subst eA
          go_wp2
          go_loopw [11, 10] (fun v11 v10 wq => ∃ (k : Nat) (o : Bool), k ≤ i ∧ v11 = .int .i64 k ∧ v10 = .bool o ∧ Hid (o = oldU l (atL l) i k) ∧ Hid (wo.grownBy wq none)) (fun v11 _ _ => i - (intOf v11).toNat)
          case atStart => exact ⟨0, false, Nat.zero_le _, rfl, rfl, Lib.hid rfl, HG⟩
          case round =>
            clear HG
            obtain ⟨k, o, hk, rfl, rfl, HOU, HG⟩ := hrel
            by_cases hgo : k < i ∧ o = false
            · obtain ⟨hki, rfl⟩ := hgo
              obtain ⟨gk', eA', -, hck⟩ := HCE.out k (by omega)
              obtain rfl : gk = gk' := by injection eA' with e; injection e
              clear eA'
              obtain ⟨w4, rfl⟩ : ∃ x : World, x = wr := ⟨_, rfl⟩
              go_wp2
              go_loopw [12, 10] (fun v12 v10 wq => ∃ (c : Nat) (o : Bool), c ≤ 64 ∧ v12 = .int .i64 c ∧ v10 = .bool o ∧ Hid (o = eqUpto l ((atL l).getD i 0) ((atL l).getD k 0) c) ∧ Hid (wo.grownBy wq none)) (fun v12 _ _ => 64 - (intOf v12).toNat)
              case atStart => exact ⟨0, true, Nat.zero_le _, rfl, rfl, Lib.hid rfl, HG⟩
              case round =>
                clear HG
                obtain ⟨c, o, hc, rfl, rfl, HEU, HG⟩ := hrel
                by_cases hgo : c < 64 ∧ o = true
                · obtain ⟨hc64, rfl⟩ := hgo
                  obtain ⟨x, ex⟩ : ∃ x, x = (atL l).getD i 0 := ⟨_, rfl⟩
                  obtain ⟨y, ey⟩ : ∃ y, y = (atL l).getD k 0 := ⟨_, rfl⟩
                  have hx := atL_range HOK.out _ (getD_mem hlt3)
                  have hy := atL_range HOK.out _ (getD_mem (show k < (atL l).length by omega))
                  rw [← ex] at hx hci
                  rw [← ey] at hy hck
                  have h1 : wr.cell? ⟨gk, i, none⟩ = some (.int .i64 x) := (World.cell?_of_block (HG.out.block _ (World.block_lt_of_cell? _ _ hci) (by simp))).trans hci
                  have h2 : wr.cell? ⟨gk, k, none⟩ = some (.int .i64 y) := (World.cell?_of_block (HG.out.block _ (World.block_lt_of_cell? _ _ hck) (by simp))).trans hck
                  have HPQ := Lib.hid (HPW.out.grown HG.out)
                  have HXY := Lib.hid (And.intro ex ey)
                  obtain ⟨hx0, hx1⟩ := hx
                  obtain ⟨hy0, hy1⟩ := hy
                  have q1 : i < (atL l).length := hlt3
                  have q2 : k < (atL l).length := by omega
                  clear ex ey
                  have hd64 : decide ((c : Int) < 64) = true := decide_eq_true (by omega)
                  go_wp2
                  go_quiet ((go_at_call 10; exact find_q A c0 l _ wr HPQ.out (by omega) _))
                  go_wp2
                  go_roundw
                  case rel =>
                    have h := HEU.out
                    refine ⟨c + 1, (findP l (64 * x + (c : Int)) == findP l (64 * y + (c : Int))), by omega, by go_num, rfl, Lib.hid ?_, Lib.hid (E.grown_trans HG.out (grown_drewN _ _))⟩
                    rw [eqUpto_succ, ← h, ← HXY.out.1, ← HXY.out.2]
                    rfl
                  case measure => simp [intOf]; omega
                · have hfin : o = eqUpto l ((atL l).getD i 0) ((atL l).getD k 0) 64 := by
                    have h := HEU.out
                    by_cases hc64 : c < 64
                    · have ho : o = false := by
                        cases o with
                        | false => rfl
                        | true => exact absurd ⟨hc64, rfl⟩ hgo
                      subst ho
                      exact (eqUpto_false h.symm (by omega)).symm
                    · obtain rfl : c = 64 := by omega
                      exact h
                  have HFIN := Lib.hid hfin
                  have hd : (decide ((c : Int) < 64) && o) = false := by
                    by_cases hc64 : c < 64
                    · have ho : o = false := by
                        cases o with
                        | false => rfl
                        | true => exact absurd ⟨hc64, rfl⟩ hgo
                      simp [ho]
                    · have : ¬ ((c : Int) < 64) := by omega
                      simp [this]
                  have hcase : (c < 64 ∧ o = false) ∨ c = 64 := by
                    by_cases hc64 : c < 64
                    · left
                      refine ⟨hc64, ?_⟩
                      cases o with
                      | false => rfl
                      | true => exact absurd ⟨hc64, rfl⟩ hgo
                    · right; omega
                  clear hfin hgo HEU hd
                  rcases hcase with ⟨hc64, rfl⟩ | rfl
                  · have hd64 : decide ((c : Int) < 64) = true := decide_eq_true (by omega)
                    go_wp2
                    go_roundw
                    case rel => exact ⟨k + 1, _, by omega, by go_num, rfl, Lib.hid (by rw [oldU_succ, ← HOU.out, ← HFIN.out]; rfl), HG⟩
                    case measure => simp [intOf]; omega
                  · go_wp2
                    go_roundw
                    case rel => exact ⟨k + 1, _, by omega, by go_num, rfl, Lib.hid (by rw [oldU_succ, ← HOU.out, ← HFIN.out]; rfl), HG⟩
                    case measure => simp [intOf]; omega
            · have hfin : o = oldU l (atL l) i i := by
                have h := HOU.out
                by_cases hki : k < i
                · have ho : o = true := by
                    cases o with
                    | true => rfl
                    | false => exact absurd ⟨hki, rfl⟩ hgo
                  subst ho
                  exact (oldU_true h.symm (by omega)).symm
                · obtain rfl : k = i := by omega
                  exact h
              have HFIN := Lib.hid hfin
              have hcase : (k < i ∧ o = true) ∨ k = i := by
                by_cases hki : k < i
                · left
                  refine ⟨hki, ?_⟩
                  cases o with
                  | true => rfl
                  | false => exact absurd ⟨hki, rfl⟩ hgo
                · right; omega
              clear hfin hgo HOU
              have hcase2 : (k < i ∧ o = true) ∨ (k = i ∧ o = true) ∨ (k = i ∧ o = false) := by
                rcases hcase with h | h
                · exact .inl h
                · cases o with
                  | true => exact .inr (.inl ⟨h, rfl⟩)
                  | false => exact .inr (.inr ⟨h, rfl⟩)
              clear hcase
              rcases hcase2 with ⟨hki, rfl⟩ | ⟨rfl, rfl⟩ | ⟨rfl, rfl⟩
              · go_wp2
                go_roundw
                case rel => exact ⟨i + 1, by omega, by go_num, by first | (rw [cntN, if_pos HFIN.out.symm]) | rfl, HG⟩
                case measure => simp [intOf]; omega
              · go_wp2
                go_roundw
                case rel => exact ⟨k + 1, by omega, by go_num, by rw [cntN, if_pos HFIN.out.symm], HG⟩
                case measure => simp [intOf]; omega
              · go_wp2
                go_roundw
                case rel => exact ⟨k + 1, by omega, by go_num, by rw [cntN, if_neg (by rw [← HFIN.out]; simp)]; go_num, HG⟩
                case measure => simp [intOf]; omega
        · obtain rfl : i = (atL l).length := by omega
          go_wp2
          go_ret
          exact ⟨rfl, HB.out.trans ((HG.out.below_none).mono HB.out.size)⟩
end Go.Proofs.Ytpameikbacnpcaa.T
