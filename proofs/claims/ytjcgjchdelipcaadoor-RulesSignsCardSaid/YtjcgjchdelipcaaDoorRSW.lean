/- RulesSigns, walked by hand. -/
import Derived.Test.YtjcgjchdelipcaaDoorRSigns
import Derived.Test.YtjcgjchdelipcaaDoorR10
namespace Go.Proofs.YtjcgjchdelipcaaDoor.R
open Go.RowKit Go.Proofs.YtjcgjchdelipcaaDoorW.PrintWords Go.Proofs.YtjcgjchdelipcaaDoorW.PrintLast Go.Proofs.YtjcgjchdelipcaaDoorW.PrintMore
set_option linter.unusedVariables false
set_option linter.unusedSimpArgs false

theorem isSign_any (x : Int) (w : World) : Calls Tryd.prog 37 #[.int .i64 x] w fun e w' => e = .returned (.bool (U.isS x)) ∧ Below w.heap.size w w' :=
  (umlautref1_IsSign.calls x (U.isS x) w (by
    unfold umlautref1_IsSign.f U.isS
    repeat' split
    all_goals (congr 1; rw [Bool.eq_iff_iff]; simp; try omega))).mono fun e w' h => ⟨h.1, h.2.below⟩
theorem awake_any (w : World) (hT : Tabs w) : Calls Tryd.prog 27 #[] w fun e w' => e = .returned (.bool true) ∧ Below w.heap.size w w' := by
  obtain ⟨k, hk⟩ := awake_ev.rounds
  exact umlautlaw6_awake.calls k true w hk hT
set_option maxHeartbeats 4000000 in
theorem signs_no (a b c : Int) (w : World) (hT : Tabs w) (h : ¬ (U.isS a = true ∧ U.isS b = true ∧ U.isS c = true ∧ a ≤ 1114111 ∧ b ≤ 1114111 ∧ c ≤ 1114111)) :
    Calls Tryd.prog 12 #[.int .i64 a, .int .i64 b, .int .i64 c] w fun e w' => e = .returned (.bool true) ∧ Below w.heap.size w w' := by
  have HT := Lib.hid hT
  have HB := Lib.hid (Below.refl w.heap.size w)
  have HH := Lib.hid h
  clear h hT
  by_cases h1 : U.isS a = true
  · by_cases h2 : U.isS b = true
    · by_cases h3 : U.isS c = true
      · by_cases h4 : a ≤ 1114111
        · have d4 : decide (1114111 < a) = false := decide_eq_false (by omega)
          by_cases h5 : b ≤ 1114111
          · have d5 : decide (1114111 < b) = false := decide_eq_false (by omega)
            have h6 : ¬ c ≤ 1114111 := fun h6 => HH.out ⟨h1, h2, h3, h4, h5, h6⟩
            have d6 : decide (1114111 < c) = true := decide_eq_true (by omega)
            clear h4 h5 h6
            go_enter Tryd.func12, Tryd.ntmps12
            go_wp2_with (first
              | (go_at_call 37; refine (isSign_any _ _).mono ?_; rintro e w' ⟨rfl, hd⟩; have n0_ := Lib.hid (HB.out.trans (hd.mono HB.out.size)); clear HB hd; have HB := n0_; clear n0_)
              | (go_at_call 27; refine (awake_any _ (Tabs_below HT.out HB.out)).mono ?_; rintro e w' ⟨rfl, hd⟩; have n0_ := Lib.hid (HB.out.trans (hd.mono HB.out.size)); clear HB hd; have HB := n0_; clear n0_))
            go_ret
            exact ⟨rfl, HB.out⟩
          · have d5 : decide (1114111 < b) = true := decide_eq_true (by omega)
            clear h4 h5
            go_enter Tryd.func12, Tryd.ntmps12
            go_wp2_with (first
              | (go_at_call 37; refine (isSign_any _ _).mono ?_; rintro e w' ⟨rfl, hd⟩; have n0_ := Lib.hid (HB.out.trans (hd.mono HB.out.size)); clear HB hd; have HB := n0_; clear n0_)
              | (go_at_call 27; refine (awake_any _ (Tabs_below HT.out HB.out)).mono ?_; rintro e w' ⟨rfl, hd⟩; have n0_ := Lib.hid (HB.out.trans (hd.mono HB.out.size)); clear HB hd; have HB := n0_; clear n0_))
            go_ret
            exact ⟨rfl, HB.out⟩
        · have d4 : decide (1114111 < a) = true := decide_eq_true (by omega)
          clear h4
          go_enter Tryd.func12, Tryd.ntmps12
          go_wp2_with (first
            | (go_at_call 37; refine (isSign_any _ _).mono ?_; rintro e w' ⟨rfl, hd⟩; have n0_ := Lib.hid (HB.out.trans (hd.mono HB.out.size)); clear HB hd; have HB := n0_; clear n0_)
            | (go_at_call 27; refine (awake_any _ (Tabs_below HT.out HB.out)).mono ?_; rintro e w' ⟨rfl, hd⟩; have n0_ := Lib.hid (HB.out.trans (hd.mono HB.out.size)); clear HB hd; have HB := n0_; clear n0_))
          go_ret
          exact ⟨rfl, HB.out⟩
      · have h3 : U.isS c = false := by simpa using h3
        go_enter Tryd.func12, Tryd.ntmps12
        go_wp2_with (first
          | (go_at_call 37; refine (isSign_any _ _).mono ?_; rintro e w' ⟨rfl, hd⟩; have n0_ := Lib.hid (HB.out.trans (hd.mono HB.out.size)); clear HB hd; have HB := n0_; clear n0_)
          | (go_at_call 27; refine (awake_any _ (Tabs_below HT.out HB.out)).mono ?_; rintro e w' ⟨rfl, hd⟩; have n0_ := Lib.hid (HB.out.trans (hd.mono HB.out.size)); clear HB hd; have HB := n0_; clear n0_))
        go_ret
        exact ⟨rfl, HB.out⟩
    · have h2 : U.isS b = false := by simpa using h2
      go_enter Tryd.func12, Tryd.ntmps12
      go_wp2_with (first
        | (go_at_call 37; refine (isSign_any _ _).mono ?_; rintro e w' ⟨rfl, hd⟩; have n0_ := Lib.hid (HB.out.trans (hd.mono HB.out.size)); clear HB hd; have HB := n0_; clear n0_)
        | (go_at_call 27; refine (awake_any _ (Tabs_below HT.out HB.out)).mono ?_; rintro e w' ⟨rfl, hd⟩; have n0_ := Lib.hid (HB.out.trans (hd.mono HB.out.size)); clear HB hd; have HB := n0_; clear n0_))
      go_ret
      exact ⟨rfl, HB.out⟩
  · have h1 : U.isS a = false := by simpa using h1
    go_enter Tryd.func12, Tryd.ntmps12
    go_wp2_with (first
      | (go_at_call 37; refine (isSign_any _ _).mono ?_; rintro e w' ⟨rfl, hd⟩; have n0_ := Lib.hid (HB.out.trans (hd.mono HB.out.size)); clear HB hd; have HB := n0_; clear n0_)
      | (go_at_call 27; refine (awake_any _ (Tabs_below HT.out HB.out)).mono ?_; rintro e w' ⟨rfl, hd⟩; have n0_ := Lib.hid (HB.out.trans (hd.mono HB.out.size)); clear HB hd; have HB := n0_; clear n0_))
    go_ret
    exact ⟨rfl, HB.out⟩
theorem same_any (A : Option Addr) (c : Nat) (A' : Option Addr) (c' : Nat) (l : List Int) (w : World) (hl : l.length ≤ 1000) (h : Kd.C (Kd.int .i64) w A l.length l) (h' : Kd.C (Kd.int .i64) w A' l.length l) (hc : l.length ≤ c) (hc' : l.length ≤ c') :
    Calls Tryd.prog 16 #[.slice A l.length c, .slice A' l.length c'] w fun e w' => e = .returned (.bool true) ∧ Below w.heap.size w w' := by
  have hs := Same_ev l l (by omega)
  simp only [decide_true] at hs
  obtain ⟨k, hk⟩ := hs.rounds
  exact (umlautref1_SameInts.calls k A c l A' c' l true w h hc h' hc' hk).mono fun e w' h => ⟨h.1, h.2.below⟩
theorem C_blk (w : World) (g : Nat) (xs : List Int) (h : w.heap[g]? = some (.cells (xs.map (Value.int .i64)).toArray 3 (0, 0))) (hl : xs.length ≤ 1000) : Kd.C (Kd.int .i64) w (some ⟨g, 0, none⟩) xs.length xs := by
  refine Kd.C_of_reads (d := (0 : Int)) ⟨rfl, by omega, fun _ => ⟨_, rfl, fun j hj => ?_⟩⟩
  have hj' : j < xs.length := by simpa using hj
  have e : (⟨g, 0, none⟩ : Addr).add j = ⟨g, j, none⟩ := by simp [Addr.add_lit]
  rw [e]
  simp only [World.cell?, h]
  simp [List.getD_eq_getElem?_getD, List.getElem?_eq_getElem hj']
theorem C_two (w : World) (G : Nat) (a b c : Int) (h0 : w.heap[G]? = some (.cells #[.int .i64 a] 3 (0, 0))) (h1 : w.heap[G + 1]? = some (.cells #[.int .i64 b, .int .i64 c] 3 (0, 0))) (h2 : w.heap[G + 1 + 1]? = some (.cells #[.int .i64 a, .int .i64 b, .int .i64 c] 3 (0, 0)))
    (h3 : w.heap[G + 1 + 1 + 1]? = some (.cells #[.int .i64 1, .slice (some ⟨G, 0, none⟩) 1 1, .slice none 0 0, .int .i64 3, .slice (some ⟨G + 1, 0, none⟩) 2 2, .slice (some ⟨G + 1 + 1, 0, none⟩) 3 3] 63 (0, 0))) : Kd.C k63 w (some ⟨G + 1 + 1 + 1, 0, none⟩) 2 (two a b c) := by
  have c0 := C_blk w G [a] h0 (by simp)
  have c1 := C_blk w (G + 1) [b, c] h1 (by simp)
  have c2 := C_blk w (G + 1 + 1) [a, b, c] h2 (by simp)
  refine ⟨rfl, by omega, fun _ => ⟨_, rfl, fun j p hj => ?_⟩⟩
  have hj2 : j < 2 := (List.getElem?_eq_some_iff.1 hj).1
  rcases (show j = 0 ∨ j = 1 by omega) with rfl | rfl
  · obtain rfl : (⟨1, [a], []⟩ : S63) = p := by simpa [two] using hj
    refine ⟨_, rfl, k63_mk w ⟨1, [a], []⟩ (A1 := some ⟨G, 0, none⟩) (c1 := 1) (by simp) c0 (A2 := none) (c2 := 0) (by simp) (Kd.C_nil _ _), fun i u hu => ?_⟩
    have hi : i < 3 := (List.getElem?_eq_some_iff.1 hu).1
    have e : (⟨G + 1 + 1 + 1, 0, none⟩ : Addr).add (0 * k63.sz + i) = ⟨G + 1 + 1 + 1, i, none⟩ := by rw [Nat.zero_mul, Nat.zero_add]; simp [Addr.add_lit]
    rw [e]
    simp only [World.cell?, h3]
    rcases (show i = 0 ∨ i = 1 ∨ i = 2 by omega) with rfl | rfl | rfl <;> simpa using hu
  · obtain rfl : (⟨3, [b, c], [a, b, c]⟩ : S63) = p := by simpa [two] using hj
    refine ⟨_, rfl, k63_mk w ⟨3, [b, c], [a, b, c]⟩ (A1 := some ⟨G + 1, 0, none⟩) (c1 := 2) (by simp) c1 (A2 := some ⟨G + 1 + 1, 0, none⟩) (c2 := 3) (by simp) c2, fun i u hu => ?_⟩
    have hi : i < 3 := (List.getElem?_eq_some_iff.1 hu).1
    have e : (⟨G + 1 + 1 + 1, 0, none⟩ : Addr).add (1 * k63.sz + i) = ⟨G + 1 + 1 + 1, 3 + i, none⟩ := by
      have : k63.sz = 3 := rfl
      rw [this, Nat.one_mul]; simp [Addr.add_lit]
    rw [e]
    simp only [World.cell?, h3]
    rcases (show i = 0 ∨ i = 1 ∨ i = 2 by omega) with rfl | rfl | rfl <;> simpa using hu
theorem alloc4 (w : World) (o0 o1 o2 o3 : Obj) : ((((w.alloc o0).alloc o1).alloc o2).alloc o3).heap[w.heap.size]? = some o0 ∧ ((((w.alloc o0).alloc o1).alloc o2).alloc o3).heap[w.heap.size + 1]? = some o1 ∧ ((((w.alloc o0).alloc o1).alloc o2).alloc o3).heap[w.heap.size + 1 + 1]? = some o2 ∧ ((((w.alloc o0).alloc o1).alloc o2).alloc o3).heap[w.heap.size + 1 + 1 + 1]? = some o3 ∧
    ((((w.alloc o0).alloc o1).alloc o2).alloc o3).heap.size = w.heap.size + 4 ∧ Below w.heap.size w ((((w.alloc o0).alloc o1).alloc o2).alloc o3) := by
  have s0 : (w.alloc o0).heap.size = w.heap.size + 1 := World.size_alloc _ _
  have s1 : ((w.alloc o0).alloc o1).heap.size = w.heap.size + 1 + 1 := by rw [World.size_alloc, s0]
  have s2 : (((w.alloc o0).alloc o1).alloc o2).heap.size = w.heap.size + 1 + 1 + 1 := by rw [World.size_alloc, s1]
  have n0 := heap_alloc_new w o0
  have n1 := heap_alloc_new (w.alloc o0) o1
  have n2 := heap_alloc_new ((w.alloc o0).alloc o1) o2
  have n3 := heap_alloc_new (((w.alloc o0).alloc o1).alloc o2) o3
  rw [s0] at n1
  rw [s1] at n2
  rw [s2] at n3
  have b1 : Below (w.alloc o0).heap.size (w.alloc o0) ((w.alloc o0).alloc o1) := (Below.refl _ _).alloc (Nat.le_refl _) _
  have b2 : Below ((w.alloc o0).alloc o1).heap.size ((w.alloc o0).alloc o1) (((w.alloc o0).alloc o1).alloc o2) := (Below.refl _ _).alloc (Nat.le_refl _) _
  have b3 : Below (((w.alloc o0).alloc o1).alloc o2).heap.size (((w.alloc o0).alloc o1).alloc o2) ((((w.alloc o0).alloc o1).alloc o2).alloc o3) := (Below.refl _ _).alloc (Nat.le_refl _) _
  refine ⟨box_below (box_below (box_below n0 b1) b2) b3, box_below (box_below n1 b2) b3, box_below n2 b3, n3, by rw [World.size_alloc, s2], ?_⟩
  exact (((Below.refl _ w).alloc (Nat.le_refl _) o0).trans (b1.mono (by omega))).trans ((b2.mono (by omega)).trans (b3.mono (by omega)))
set_option maxHeartbeats 8000000 in
set_option maxRecDepth 100000 in
theorem signs_yes (a b c : Int) (w : World) (hT : Tabs w) (h1 : U.isS a = true) (h2 : U.isS b = true) (h3 : U.isS c = true) (h4 : a ≤ 1114111) (h5 : b ≤ 1114111) (h6 : c ≤ 1114111) :
    Calls Tryd.prog 12 #[.int .i64 a, .int .i64 b, .int .i64 c] w fun e w' => e = .returned (.bool true) ∧ Below w.heap.size w w' := by
  have HT := Lib.hid hT
  have HB := Lib.hid (Below.refl w.heap.size w)
  obtain ⟨k, k1, k2, k3⟩ := two_ev a b c ⟨h1, by omega⟩ ⟨h2, by omega⟩ ⟨h3, by omega⟩
  have K1 := Lib.hid k1
  have K2 := Lib.hid k2
  have d4 : decide (1114111 < a) = false := decide_eq_false (by omega)
  have d5 : decide (1114111 < b) = false := decide_eq_false (by omega)
  have d6 : decide (1114111 < c) = false := decide_eq_false (by omega)
  clear hT k1 k2 k3 h4 h5 h6
  go_enter Tryd.func12, Tryd.ntmps12
  go_wp2_with (first
    | (go_at_call 37; refine (isSign_any _ _).mono ?_; rintro e w' ⟨rfl, hd⟩; have n0_ := Lib.hid (HB.out.trans (hd.mono HB.out.size)); clear HB hd; have HB := n0_; clear n0_)
    | (go_at_call 34; with_reducible refine haltR ?_))
  obtain ⟨wl, el⟩ : ∃ y, y = (((w'.alloc (.cells #[.int .i64 a] 3)).alloc (.cells #[.int .i64 b, .int .i64 c] 3)).alloc (.cells #[.int .i64 a, .int .i64 b, .int .i64 c] 3)).alloc (.cells #[.int .i64 1, .slice (some ⟨w'.heap.size, 0, none⟩) 1 1, .slice none 0 0, .int .i64 3, .slice (some ⟨w'.heap.size + 1, 0, none⟩) 2 2, .slice (some ⟨w'.heap.size + 1 + 1, 0, none⟩) 3 3] 63) := ⟨_, rfl⟩
  obtain ⟨g0, g1, g2, g3, hs, hBl⟩ := alloc4 w' (.cells #[.int .i64 a] 3) (.cells #[.int .i64 b, .int .i64 c] 3) (.cells #[.int .i64 a, .int .i64 b, .int .i64 c] 3) (.cells #[.int .i64 1, .slice (some ⟨w'.heap.size, 0, none⟩) 1 1, .slice none 0 0, .int .i64 3, .slice (some ⟨w'.heap.size + 1, 0, none⟩) 2 2, .slice (some ⟨w'.heap.size + 1 + 1, 0, none⟩) 3 3] 63)
  rw [← el] at g0 g1 g2 g3 hs hBl ⊢
  have HBl := Lib.hid (HB.out.trans (hBl.mono HB.out.size))
  have HC := Lib.hid (C_two wl w'.heap.size a b c g0 g1 g2 g3)
  have HG0 := Lib.hid g0
  have HG1 := Lib.hid g1
  have HG2 := Lib.hid g2
  have HG3 := Lib.hid g3
  have HS := Lib.hid hs
  clear el hBl g0 g1 g2 g3 hs
  refine HaltR.go ((rules_Text.calls k _ 2 (two a b c) _ 0 wl HC.out (by show 2 ≤ 2; omega) K1.out (Tabs_below HT.out HBl.out)).mono ?_)
  rintro e w1 ⟨rfl, hb1⟩
  have HB1 := Lib.hid hb1
  have HB1w := Lib.hid (HBl.out.trans (hb1.mono HBl.out.size))
  clear hb1
  go_wp2_with (go_at_call 28; refine (rules_Parse.calls k (strT (two a b c)) (two a b c) 0 0 _ K2.out (Tabs_below HT.out HB1w.out)).mono ?_; rintro e w2 ⟨v2_, rfl, hv, hb2⟩; obtain ⟨Am, cm, e2_, hcm, hFm⟩ := hv; subst e2_; have HB2 := Lib.hid hb2; have HM := Lib.hid (hFm w2 (fun _ _ _ => rfl)); have HCM := Lib.hid hcm; clear hb2 hFm hcm; have e3_ : (two a b c).length = 2 := rfl; rw [e3_]; clear e3_)
  have e3 : (two a b c).length = 2 := rfl
  rw [e3] at HM HCM
  clear e3
  obtain ⟨am, B1, d1, B2, d2, ea, hm0, hm1, hm2, ml1, mg1, ml2, mg2⟩ := at_T63 HM.out 0 (by omega) (by omega)
  obtain ⟨am', C1, f1, C2, f2, ea', hn0, hn1, hn2, nl1, ng1, nl2, ng2⟩ := at_T63 HM.out 1 (by omega) (by omega)
  have eam : am = am' := Option.some.inj (ea.symm.trans ea')
  subst eam
  clear ea'
  subst ea
  have er0 : rd_T63 (two a b c) 0 = ⟨1, [a], []⟩ := rfl
  have er1 : rd_T63 (two a b c) 1 = ⟨3, [b, c], [a, b, c]⟩ := rfl
  rw [er0] at hm0 hm1 hm2 ml1 mg1 ml2 mg2
  rw [er1] at hn0 hn1 hn2 nl1 ng1 nl2 ng2
  dsimp only at hm0 hm1 hm2 ml1 mg1 ml2 mg2 hn0 hn1 hn2 nl1 ng1 nl2 ng2
  have ea0 : am.add 0 = am := rfl
  simp only [Int.toNat_zero, Int.toNat_one, Nat.zero_mul, Nat.one_mul, List.length_cons, List.length_nil, Nat.zero_add, Nat.reduceAdd, ea0] at hm0 hm1 hm2 ml1 mg1 ml2 mg2 hn0 hn1 hn2 nl1 ng1 nl2 ng2
  have HBl2 : Below wl.heap.size wl w2 := HB1.out.trans (HB2.out.mono HB1.out.size)
  have HL0 := Lib.hid (C_blk w2 w'.heap.size [a] (box_below HG0.out HBl2) (by simp))
  have HL1 := Lib.hid (C_blk w2 (w'.heap.size + 1) [b, c] (box_below HG1.out HBl2) (by simp))
  have HL2 := Lib.hid (C_blk w2 (w'.heap.size + 1 + 1) [a, b, c] (box_below HG2.out HBl2) (by simp))
  have HBw := Lib.hid (HBl.out.trans (HBl2.mono HBl.out.size))
  have hg3 := box_below HG3.out HBl2
  have HSS := Lib.hid (show ∀ W, Below w2.heap.size w2 W → (fun W => W.cell? ⟨am.block, am.off + 1, none⟩ = some (.slice B1 1 d1) ∧ W.cell? ⟨am.block, am.off + 3 + 1, none⟩ = some (.slice C1 2 f1) ∧ W.cell? ⟨am.block, am.off + 3 + 2, none⟩ = some (.slice C2 3 f2) ∧ W.cell? ⟨w'.heap.size + 1 + 1 + 1, 1, none⟩ = some (.slice (some ⟨w'.heap.size, 0, none⟩) 1 1) ∧ W.cell? ⟨w'.heap.size + 1 + 1 + 1, 4, none⟩ = some (.slice (some ⟨w'.heap.size + 1, 0, none⟩) 2 2) ∧ W.cell? ⟨w'.heap.size + 1 + 1 + 1, 5, none⟩ = some (.slice (some ⟨w'.heap.size + 1 + 1, 0, none⟩) 3 3)) W from fun W hW => by
    have h3 := box_below hg3 hW
    have hlm := World.block_lt_of_cell? w2 _ hm1
    have hln := World.block_lt_of_cell? w2 _ hn1
    refine ⟨(hW.cell (p := ⟨am.block, am.off + 1, none⟩) hlm).trans hm1, (hW.cell (p := ⟨am.block, am.off + 3 + 1, none⟩) hln).trans hn1, (hW.cell (p := ⟨am.block, am.off + 3 + 2, none⟩) hln).trans hn2, ?_, ?_, ?_⟩
    all_goals (simp only [World.cell?, h3]; rfl))
  clear HBl2 hg3 hm0 hm1 hm2 hn0 hn1 hn2 HB1 HB2 HG0 HG1 HG2 HG3 HC HM HCM HS K1 K2
  refine start_ (n := 52) (ds := []) (S := fun W => W.cell? ⟨am.block, am.off + 1, none⟩ = some (.slice B1 1 d1) ∧ W.cell? ⟨am.block, am.off + 3 + 1, none⟩ = some (.slice C1 2 f1) ∧ W.cell? ⟨am.block, am.off + 3 + 2, none⟩ = some (.slice C2 3 f2) ∧ W.cell? ⟨w'.heap.size + 1 + 1 + 1, 1, none⟩ = some (.slice (some ⟨w'.heap.size, 0, none⟩) 1 1) ∧ W.cell? ⟨w'.heap.size + 1 + 1 + 1, 4, none⟩ = some (.slice (some ⟨w'.heap.size + 1, 0, none⟩) 2 2) ∧ W.cell? ⟨w'.heap.size + 1 + 1 + 1, 5, none⟩ = some (.slice (some ⟨w'.heap.size + 1 + 1, 0, none⟩) 3 3)) #[false,false,false,false,false,false,false,false,false,false,false,false,false,false,false,false,false,false,false,false,false,false,false,false,false,false,false,false,false,false,false,false,false,false,false,false,false,false,false,false,false,false,false,false,false,false,false,false,false,false,false,false] rfl rfl rfl (HSS.out _ (below_drawn w2 1)) ?_
  intro hHeld
  refine pure_ (i := 0) (N := some 62) (v := ?_) (a' := ?_) #[true,false,false,false,false,false,false,false,false,false,false,false,false,false,false,false,false,false,false,false,false,false,false,false,false,false,false,false,false,false,false,false,false,false,false,false,false,false,false,false,false,false,false,false,false,false,false,false,false,false,false,false] rfl rfl (by kernel_rfl) (fun _ _ _ h => h) (Or.inl ⟨by rfl, ?_⟩) ?_ ?_
  rotate_left
  · intro w_
    go_simp
    with_reducible rfl
  rotate_left
  · simp only [Act.put, List.setIfInBounds_toArray, List.set_cons_zero, List.set_cons_succ]
    rfl
  refine pure_ (i := 1) (N := some 63) (v := ?_) (a' := ?_) #[true,true,false,false,false,false,false,false,false,false,false,false,false,false,false,false,false,false,false,false,false,false,false,false,false,false,false,false,false,false,false,false,false,false,false,false,false,false,false,false,false,false,false,false,false,false,false,false,false,false,false,false] rfl rfl (by kernel_rfl) (fun _ _ _ h => h) (Or.inl ⟨by rfl, ?_⟩) ?_ ?_
  rotate_left
  · intro w_
    go_simp
    with_reducible rfl
  rotate_left
  · simp only [Act.put, List.setIfInBounds_toArray, List.set_cons_zero, List.set_cons_succ]
    rfl
  refine pure_ (i := 2) (N := some 64) (v := ?_) (a' := ?_) #[true,true,true,false,false,false,false,false,false,false,false,false,false,false,false,false,false,false,false,false,false,false,false,false,false,false,false,false,false,false,false,false,false,false,false,false,false,false,false,false,false,false,false,false,false,false,false,false,false,false,false,false] rfl rfl (by kernel_rfl) (fun _ _ _ h => h) (Or.inl ⟨by rfl, ?_⟩) ?_ ?_
  rotate_left
  · intro w_
    go_simp
    with_reducible rfl
  rotate_left
  · simp only [Act.put, List.setIfInBounds_toArray, List.set_cons_zero, List.set_cons_succ]
    rfl
  refine pure_ (i := 3) (N := some 65) (v := ?_) (a' := ?_) #[true,true,true,true,false,false,false,false,false,false,false,false,false,false,false,false,false,false,false,false,false,false,false,false,false,false,false,false,false,false,false,false,false,false,false,false,false,false,false,false,false,false,false,false,false,false,false,false,false,false,false,false] rfl rfl (by kernel_rfl) (fun _ _ _ h => h) (Or.inl ⟨by rfl, ?_⟩) ?_ ?_
  rotate_left
  · intro w_
    go_simp
    with_reducible rfl
  rotate_left
  · simp only [Act.put, List.setIfInBounds_toArray, List.set_cons_zero, List.set_cons_succ]
    rfl
  refine pure_ (i := 4) (N := some 66) (v := ?_) (a' := ?_) #[true,true,true,true,true,false,false,false,false,false,false,false,false,false,false,false,false,false,false,false,false,false,false,false,false,false,false,false,false,false,false,false,false,false,false,false,false,false,false,false,false,false,false,false,false,false,false,false,false,false,false,false] rfl rfl (by kernel_rfl) (fun _ _ _ h => h) (Or.inl ⟨by rfl, ?_⟩) ?_ ?_
  rotate_left
  · intro w_
    go_simp
    with_reducible rfl
  rotate_left
  · simp only [Act.put, List.setIfInBounds_toArray, List.set_cons_zero, List.set_cons_succ]
    rfl
  refine pure_ (i := 5) (N := some 67) (v := ?_) (a' := ?_) #[true,true,true,true,true,true,false,false,false,false,false,false,false,false,false,false,false,false,false,false,false,false,false,false,false,false,false,false,false,false,false,false,false,false,false,false,false,false,false,false,false,false,false,false,false,false,false,false,false,false,false,false] rfl rfl (by kernel_rfl) (fun _ _ _ h => h) (Or.inl ⟨by rfl, ?_⟩) ?_ ?_
  rotate_left
  · intro w_
    go_simp
    with_reducible rfl
  rotate_left
  · simp only [Act.put, List.setIfInBounds_toArray, List.set_cons_zero, List.set_cons_succ]
    rfl
  refine pure_ (i := 6) (N := some 68) (v := ?_) (a' := ?_) #[true,true,true,true,true,true,true,false,false,false,false,false,false,false,false,false,false,false,false,false,false,false,false,false,false,false,false,false,false,false,false,false,false,false,false,false,false,false,false,false,false,false,false,false,false,false,false,false,false,false,false,false] rfl rfl (by kernel_rfl) (fun _ _ _ h => h) (Or.inl ⟨by rfl, ?_⟩) ?_ ?_
  rotate_left
  · intro w_
    go_simp
    with_reducible rfl
  rotate_left
  · simp only [Act.put, List.setIfInBounds_toArray, List.set_cons_zero, List.set_cons_succ]
    rfl
  refine pure_ (i := 7) (N := some 69) (v := ?_) (a' := ?_) #[true,true,true,true,true,true,true,true,false,false,false,false,false,false,false,false,false,false,false,false,false,false,false,false,false,false,false,false,false,false,false,false,false,false,false,false,false,false,false,false,false,false,false,false,false,false,false,false,false,false,false,false] rfl rfl (by kernel_rfl) (fun _ _ _ h => h) (Or.inl ⟨by rfl, ?_⟩) ?_ ?_
  rotate_left
  · intro w_
    go_simp
    with_reducible rfl
  rotate_left
  · simp only [Act.put, List.setIfInBounds_toArray, List.set_cons_zero, List.set_cons_succ]
    rfl
  refine pure_ (i := 8) (N := some 70) (v := ?_) (a' := ?_) #[true,true,true,true,true,true,true,true,true,false,false,false,false,false,false,false,false,false,false,false,false,false,false,false,false,false,false,false,false,false,false,false,false,false,false,false,false,false,false,false,false,false,false,false,false,false,false,false,false,false,false,false] rfl rfl (by kernel_rfl) (fun _ _ _ h => h) (Or.inl ⟨by rfl, ?_⟩) ?_ ?_
  rotate_left
  · intro w_
    go_simp
    with_reducible rfl
  rotate_left
  · simp only [Act.put, List.setIfInBounds_toArray, List.set_cons_zero, List.set_cons_succ]
    rfl
  refine pure_ (i := 9) (N := some 71) (v := ?_) (a' := ?_) #[true,true,true,true,true,true,true,true,true,true,false,false,false,false,false,false,false,false,false,false,false,false,false,false,false,false,false,false,false,false,false,false,false,false,false,false,false,false,false,false,false,false,false,false,false,false,false,false,false,false,false,false] rfl rfl (by kernel_rfl) (fun _ _ _ h => h) (Or.inl ⟨by rfl, ?_⟩) ?_ ?_
  rotate_left
  · intro w_
    go_simp
    with_reducible rfl
  rotate_left
  · simp only [Act.put, List.setIfInBounds_toArray, List.set_cons_zero, List.set_cons_succ]
    rfl
  refine pure_ (i := 10) (N := some 72) (v := ?_) (a' := ?_) #[true,true,true,true,true,true,true,true,true,true,true,false,false,false,false,false,false,false,false,false,false,false,false,false,false,false,false,false,false,false,false,false,false,false,false,false,false,false,false,false,false,false,false,false,false,false,false,false,false,false,false,false] rfl rfl (by kernel_rfl) (fun _ _ _ h => h) (Or.inl ⟨by rfl, ?_⟩) ?_ ?_
  rotate_left
  · intro w_
    go_simp
    with_reducible rfl
  rotate_left
  · simp only [Act.put, List.setIfInBounds_toArray, List.set_cons_zero, List.set_cons_succ]
    rfl
  refine pure_ (i := 11) (N := some 73) (v := ?_) (a' := ?_) #[true,true,true,true,true,true,true,true,true,true,true,true,false,false,false,false,false,false,false,false,false,false,false,false,false,false,false,false,false,false,false,false,false,false,false,false,false,false,false,false,false,false,false,false,false,false,false,false,false,false,false,false] rfl rfl (by kernel_rfl) (fun _ _ _ h => h) (Or.inl ⟨by rfl, ?_⟩) ?_ ?_
  rotate_left
  · intro w_
    go_simp
    with_reducible rfl
  rotate_left
  · simp only [Act.put, List.setIfInBounds_toArray, List.set_cons_zero, List.set_cons_succ]
    rfl
  refine pure_ (i := 12) (N := some 74) (v := ?_) (a' := ?_) #[true,true,true,true,true,true,true,true,true,true,true,true,true,false,false,false,false,false,false,false,false,false,false,false,false,false,false,false,false,false,false,false,false,false,false,false,false,false,false,false,false,false,false,false,false,false,false,false,false,false,false,false] rfl rfl (by kernel_rfl) (fun _ _ _ h => h) (Or.inl ⟨by rfl, ?_⟩) ?_ ?_
  rotate_left
  · intro w_
    go_simp
    with_reducible rfl
  rotate_left
  · simp only [Act.put, List.setIfInBounds_toArray, List.set_cons_zero, List.set_cons_succ]
    rfl
  refine pure_ (i := 13) (N := some 75) (v := ?_) (a' := ?_) #[true,true,true,true,true,true,true,true,true,true,true,true,true,true,false,false,false,false,false,false,false,false,false,false,false,false,false,false,false,false,false,false,false,false,false,false,false,false,false,false,false,false,false,false,false,false,false,false,false,false,false,false] rfl rfl (by kernel_rfl) (fun _ _ _ h => h) (Or.inl ⟨by rfl, ?_⟩) ?_ ?_
  rotate_left
  · intro w_
    go_simp
    with_reducible rfl
  rotate_left
  · simp only [Act.put, List.setIfInBounds_toArray, List.set_cons_zero, List.set_cons_succ]
    rfl
  refine pure_ (i := 14) (N := some 76) (v := ?_) (a' := ?_) #[true,true,true,true,true,true,true,true,true,true,true,true,true,true,true,false,false,false,false,false,false,false,false,false,false,false,false,false,false,false,false,false,false,false,false,false,false,false,false,false,false,false,false,false,false,false,false,false,false,false,false,false] rfl rfl (by kernel_rfl) (fun _ _ _ h => h) (Or.inl ⟨by rfl, ?_⟩) ?_ ?_
  rotate_left
  · intro w_
    go_simp
    with_reducible rfl
  rotate_left
  · simp only [Act.put, List.setIfInBounds_toArray, List.set_cons_zero, List.set_cons_succ]
    rfl
  refine pure_ (i := 15) (N := some 77) (v := ?_) (a' := ?_) #[true,true,true,true,true,true,true,true,true,true,true,true,true,true,true,true,false,false,false,false,false,false,false,false,false,false,false,false,false,false,false,false,false,false,false,false,false,false,false,false,false,false,false,false,false,false,false,false,false,false,false,false] rfl rfl (by kernel_rfl) (fun _ _ _ h => h) (Or.inl ⟨by rfl, ?_⟩) ?_ ?_
  rotate_left
  · intro w_
    go_simp
    with_reducible rfl
  rotate_left
  · simp only [Act.put, List.setIfInBounds_toArray, List.set_cons_zero, List.set_cons_succ]
    rfl
  refine pure_ (i := 16) (N := some 78) (v := ?_) (a' := ?_) #[true,true,true,true,true,true,true,true,true,true,true,true,true,true,true,true,true,false,false,false,false,false,false,false,false,false,false,false,false,false,false,false,false,false,false,false,false,false,false,false,false,false,false,false,false,false,false,false,false,false,false,false] rfl rfl (by kernel_rfl) (fun _ _ _ h => h) (Or.inl ⟨by rfl, ?_⟩) ?_ ?_
  rotate_left
  · intro w_
    go_simp
    with_reducible rfl
  rotate_left
  · simp only [Act.put, List.setIfInBounds_toArray, List.set_cons_zero, List.set_cons_succ]
    rfl
  refine pure_ (i := 17) (N := some 79) (v := ?_) (a' := ?_) #[true,true,true,true,true,true,true,true,true,true,true,true,true,true,true,true,true,true,false,false,false,false,false,false,false,false,false,false,false,false,false,false,false,false,false,false,false,false,false,false,false,false,false,false,false,false,false,false,false,false,false,false] rfl rfl (by kernel_rfl) (fun _ _ _ h => h) (Or.inl ⟨by rfl, ?_⟩) ?_ ?_
  rotate_left
  · intro w_
    go_simp
    with_reducible rfl
  rotate_left
  · simp only [Act.put, List.setIfInBounds_toArray, List.set_cons_zero, List.set_cons_succ]
    rfl
  refine pure_ (i := 18) (N := some 80) (v := ?_) (a' := ?_) #[true,true,true,true,true,true,true,true,true,true,true,true,true,true,true,true,true,true,true,false,false,false,false,false,false,false,false,false,false,false,false,false,false,false,false,false,false,false,false,false,false,false,false,false,false,false,false,false,false,false,false,false] rfl rfl (by kernel_rfl) (fun _ _ _ h => h) (Or.inl ⟨by rfl, ?_⟩) ?_ ?_
  rotate_left
  · intro w_
    go_simp
    with_reducible rfl
  rotate_left
  · simp only [Act.put, List.setIfInBounds_toArray, List.set_cons_zero, List.set_cons_succ]
    rfl
  refine take_ (i := 19) (N := some 81) (v := ?_) (a' := ?_) #[true,true,true,true,true,true,true,true,true,true,true,true,true,true,true,true,true,true,true,true,false,false,false,false,false,false,false,false,false,false,false,false,false,false,false,false,false,false,false,false,false,false,false,false,false,false,false,false,false,false,false,false] rfl rfl (by kernel_rfl) (fun _ _ _ h => h) (Or.inl ⟨by rfl, ?_⟩) hHeld ?_ ?_
  rotate_left
  · rintro w_ ⟨s0, s1, s2, s3, s4, s5⟩
    go_simp
    with_reducible rfl
  rotate_left
  · simp only [Act.put, List.setIfInBounds_toArray, List.set_cons_zero, List.set_cons_succ]
    rfl
  refine pure_ (i := 20) (N := some 82) (v := ?_) (a' := ?_) #[true,true,true,true,true,true,true,true,true,true,true,true,true,true,true,true,true,true,true,true,true,false,false,false,false,false,false,false,false,false,false,false,false,false,false,false,false,false,false,false,false,false,false,false,false,false,false,false,false,false,false,false] rfl rfl (by kernel_rfl) (fun _ _ _ h => h) (Or.inl ⟨by rfl, ?_⟩) ?_ ?_
  rotate_left
  · intro w_
    go_simp
    with_reducible rfl
  rotate_left
  · simp only [Act.put, List.setIfInBounds_toArray, List.set_cons_zero, List.set_cons_succ]
    rfl
  refine pure_ (i := 21) (N := some 83) (v := ?_) (a' := ?_) #[true,true,true,true,true,true,true,true,true,true,true,true,true,true,true,true,true,true,true,true,true,true,false,false,false,false,false,false,false,false,false,false,false,false,false,false,false,false,false,false,false,false,false,false,false,false,false,false,false,false,false,false] rfl rfl (by kernel_rfl) (fun _ _ _ h => h) (Or.inl ⟨by rfl, ?_⟩) ?_ ?_
  rotate_left
  · intro w_
    go_simp
    with_reducible rfl
  rotate_left
  · simp only [Act.put, List.setIfInBounds_toArray, List.set_cons_zero, List.set_cons_succ]
    rfl
  refine pure_ (i := 22) (N := some 84) (v := ?_) (a' := ?_) #[true,true,true,true,true,true,true,true,true,true,true,true,true,true,true,true,true,true,true,true,true,true,true,false,false,false,false,false,false,false,false,false,false,false,false,false,false,false,false,false,false,false,false,false,false,false,false,false,false,false,false,false] rfl rfl (by kernel_rfl) (fun _ _ _ h => h) (Or.inl ⟨by rfl, ?_⟩) ?_ ?_
  rotate_left
  · intro w_
    go_simp
    with_reducible rfl
  rotate_left
  · simp only [Act.put, List.setIfInBounds_toArray, List.set_cons_zero, List.set_cons_succ]
    rfl
  refine take_ (i := 23) (N := some 85) (v := ?_) (a' := ?_) #[true,true,true,true,true,true,true,true,true,true,true,true,true,true,true,true,true,true,true,true,true,true,true,true,false,false,false,false,false,false,false,false,false,false,false,false,false,false,false,false,false,false,false,false,false,false,false,false,false,false,false,false] rfl rfl (by kernel_rfl) (fun _ _ _ h => h) (Or.inl ⟨by rfl, ?_⟩) hHeld ?_ ?_
  rotate_left
  · rintro w_ ⟨s0, s1, s2, s3, s4, s5⟩
    go_simp
    with_reducible rfl
  rotate_left
  · simp only [Act.put, List.setIfInBounds_toArray, List.set_cons_zero, List.set_cons_succ]
    rfl
  obtain ⟨v0, ev0⟩ : ∃ y, y = w2.drew := ⟨_, rfl⟩
  have hV0 : Below w2.heap.size w2 v0 := ev0 ▸ below_drawn w2 1
  rw [← ev0]
  refine one_ (i := 24) (N := some 86) #[true,true,true,true,true,true,true,true,true,true,true,true,true,true,true,true,true,true,true,true,true,true,true,true,true,false,false,false,false,false,false,false,false,false,false,false,false,false,false,false,false,false,false,false,false,false,false,false,false,false,false,false] rfl rfl (by kernel_rfl) (by decide) (fun K hK => ?_)
  refine goes_ Tryd.func16 (by kernel_rfl) rfl #[.slice B1 1 d1, .slice (some ⟨w'.heap.size, 0, none⟩) 1 1] (by rfl) rfl rfl (by simp only [List.map_toArray, List.map_cons, List.map_nil]; rfl) ?_
  refine (same_any B1 d1 (some ⟨w'.heap.size, 0, none⟩) 1 [a] _ (by simp) (Kd.C_below mg1 hV0) (Kd.C_below HL0.out hV0) ml1 (by simp)).mono ?_
  rintro e v1 ⟨rfl, hb_⟩
  refine ⟨_, rfl, ?_⟩
  have hV1 : Below w2.heap.size w2 v1 := hV0.trans (hb_.mono hV0.size)
  refine hK.out _ _ (HSS.out v1 hV1) (fun hHeld => ?_)
  clear hK hb_
  refine norm_ (a' := ?_) ?_ ?_
  rotate_left
  · simp only [Act.put, List.setIfInBounds_toArray, List.set_cons_zero, List.set_cons_succ]
    rfl
  refine pure_ (i := 25) (N := some 87) (v := ?_) (a' := ?_) #[true,true,true,true,true,true,true,true,true,true,true,true,true,true,true,true,true,true,true,true,true,true,true,true,true,true,false,false,false,false,false,false,false,false,false,false,false,false,false,false,false,false,false,false,false,false,false,false,false,false,false,false] rfl rfl (by kernel_rfl) (fun _ _ _ h => h) (Or.inl ⟨by rfl, ?_⟩) ?_ ?_
  rotate_left
  · intro w_
    go_simp
    with_reducible rfl
  rotate_left
  · simp only [Act.put, List.setIfInBounds_toArray, List.set_cons_zero, List.set_cons_succ]
    rfl
  refine pure_ (i := 26) (N := some 88) (v := ?_) (a' := ?_) #[true,true,true,true,true,true,true,true,true,true,true,true,true,true,true,true,true,true,true,true,true,true,true,true,true,true,true,false,false,false,false,false,false,false,false,false,false,false,false,false,false,false,false,false,false,false,false,false,false,false,false,false] rfl rfl (by kernel_rfl) (fun _ _ _ h => h) (Or.inl ⟨by rfl, ?_⟩) ?_ ?_
  rotate_left
  · intro w_
    go_simp
    with_reducible rfl
  rotate_left
  · simp only [Act.put, List.setIfInBounds_toArray, List.set_cons_zero, List.set_cons_succ]
    rfl
  refine pure_ (i := 27) (N := some 89) (v := ?_) (a' := ?_) #[true,true,true,true,true,true,true,true,true,true,true,true,true,true,true,true,true,true,true,true,true,true,true,true,true,true,true,true,false,false,false,false,false,false,false,false,false,false,false,false,false,false,false,false,false,false,false,false,false,false,false,false] rfl rfl (by kernel_rfl) (fun _ _ _ h => h) (Or.inl ⟨by rfl, ?_⟩) ?_ ?_
  rotate_left
  · intro w_
    go_simp
    with_reducible rfl
  rotate_left
  · simp only [Act.put, List.setIfInBounds_toArray, List.set_cons_zero, List.set_cons_succ]
    rfl
  refine pure_ (i := 28) (N := some 90) (v := ?_) (a' := ?_) #[true,true,true,true,true,true,true,true,true,true,true,true,true,true,true,true,true,true,true,true,true,true,true,true,true,true,true,true,true,false,false,false,false,false,false,false,false,false,false,false,false,false,false,false,false,false,false,false,false,false,false,false] rfl rfl (by kernel_rfl) (fun _ _ _ h => h) (Or.inl ⟨by rfl, ?_⟩) ?_ ?_
  rotate_left
  · intro w_
    go_simp
    with_reducible rfl
  rotate_left
  · simp only [Act.put, List.setIfInBounds_toArray, List.set_cons_zero, List.set_cons_succ]
    rfl
  refine pure_ (i := 29) (N := some 91) (v := ?_) (a' := ?_) #[true,true,true,true,true,true,true,true,true,true,true,true,true,true,true,true,true,true,true,true,true,true,true,true,true,true,true,true,true,true,false,false,false,false,false,false,false,false,false,false,false,false,false,false,false,false,false,false,false,false,false,false] rfl rfl (by kernel_rfl) (fun _ _ _ h => h) (Or.inl ⟨by rfl, ?_⟩) ?_ ?_
  rotate_left
  · intro w_
    go_simp
    with_reducible rfl
  rotate_left
  · simp only [Act.put, List.setIfInBounds_toArray, List.set_cons_zero, List.set_cons_succ]
    rfl
  refine take_ (i := 30) (N := some 92) (v := ?_) (a' := ?_) #[true,true,true,true,true,true,true,true,true,true,true,true,true,true,true,true,true,true,true,true,true,true,true,true,true,true,true,true,true,true,true,false,false,false,false,false,false,false,false,false,false,false,false,false,false,false,false,false,false,false,false,false] rfl rfl (by kernel_rfl) (fun _ _ _ h => h) (Or.inl ⟨by rfl, ?_⟩) hHeld ?_ ?_
  rotate_left
  · rintro w_ ⟨s0, s1, s2, s3, s4, s5⟩
    go_simp
    with_reducible rfl
  rotate_left
  · simp only [Act.put, List.setIfInBounds_toArray, List.set_cons_zero, List.set_cons_succ]
    rfl
  refine pure_ (i := 31) (N := some 93) (v := ?_) (a' := ?_) #[true,true,true,true,true,true,true,true,true,true,true,true,true,true,true,true,true,true,true,true,true,true,true,true,true,true,true,true,true,true,true,true,false,false,false,false,false,false,false,false,false,false,false,false,false,false,false,false,false,false,false,false] rfl rfl (by kernel_rfl) (fun _ _ _ h => h) (Or.inl ⟨by rfl, ?_⟩) ?_ ?_
  rotate_left
  · intro w_
    go_simp
    with_reducible rfl
  rotate_left
  · simp only [Act.put, List.setIfInBounds_toArray, List.set_cons_zero, List.set_cons_succ]
    rfl
  refine pure_ (i := 32) (N := some 94) (v := ?_) (a' := ?_) #[true,true,true,true,true,true,true,true,true,true,true,true,true,true,true,true,true,true,true,true,true,true,true,true,true,true,true,true,true,true,true,true,true,false,false,false,false,false,false,false,false,false,false,false,false,false,false,false,false,false,false,false] rfl rfl (by kernel_rfl) (fun _ _ _ h => h) (Or.inl ⟨by rfl, ?_⟩) ?_ ?_
  rotate_left
  · intro w_
    go_simp
    with_reducible rfl
  rotate_left
  · simp only [Act.put, List.setIfInBounds_toArray, List.set_cons_zero, List.set_cons_succ]
    rfl
  refine pure_ (i := 33) (N := some 95) (v := ?_) (a' := ?_) #[true,true,true,true,true,true,true,true,true,true,true,true,true,true,true,true,true,true,true,true,true,true,true,true,true,true,true,true,true,true,true,true,true,true,false,false,false,false,false,false,false,false,false,false,false,false,false,false,false,false,false,false] rfl rfl (by kernel_rfl) (fun _ _ _ h => h) (Or.inl ⟨by rfl, ?_⟩) ?_ ?_
  rotate_left
  · intro w_
    go_simp
    with_reducible rfl
  rotate_left
  · simp only [Act.put, List.setIfInBounds_toArray, List.set_cons_zero, List.set_cons_succ]
    rfl
  refine take_ (i := 34) (N := some 96) (v := ?_) (a' := ?_) #[true,true,true,true,true,true,true,true,true,true,true,true,true,true,true,true,true,true,true,true,true,true,true,true,true,true,true,true,true,true,true,true,true,true,true,false,false,false,false,false,false,false,false,false,false,false,false,false,false,false,false,false] rfl rfl (by kernel_rfl) (fun _ _ _ h => h) (Or.inl ⟨by rfl, ?_⟩) hHeld ?_ ?_
  rotate_left
  · rintro w_ ⟨s0, s1, s2, s3, s4, s5⟩
    go_simp
    with_reducible rfl
  rotate_left
  · simp only [Act.put, List.setIfInBounds_toArray, List.set_cons_zero, List.set_cons_succ]
    rfl
  refine one_ (i := 35) (N := some 97) #[true,true,true,true,true,true,true,true,true,true,true,true,true,true,true,true,true,true,true,true,true,true,true,true,true,true,true,true,true,true,true,true,true,true,true,true,false,false,false,false,false,false,false,false,false,false,false,false,false,false,false,false] rfl rfl (by kernel_rfl) (by decide) (fun K hK => ?_)
  refine goes_ Tryd.func16 (by kernel_rfl) rfl #[.slice C1 2 f1, .slice (some ⟨w'.heap.size + 1, 0, none⟩) 2 2] (by rfl) rfl rfl (by simp only [List.map_toArray, List.map_cons, List.map_nil]; rfl) ?_
  refine (same_any C1 f1 (some ⟨w'.heap.size + 1, 0, none⟩) 2 [b, c] _ (by simp) (Kd.C_below ng1 hV1) (Kd.C_below HL1.out hV1) nl1 (by simp)).mono ?_
  rintro e v2 ⟨rfl, hb_⟩
  refine ⟨_, rfl, ?_⟩
  have hV2 : Below w2.heap.size w2 v2 := hV1.trans (hb_.mono hV1.size)
  refine hK.out _ _ (HSS.out v2 hV2) (fun hHeld => ?_)
  clear hK hb_
  refine norm_ (a' := ?_) ?_ ?_
  rotate_left
  · simp only [Act.put, List.setIfInBounds_toArray, List.set_cons_zero, List.set_cons_succ]
    rfl
  refine pure_ (i := 36) (N := some 98) (v := ?_) (a' := ?_) #[true,true,true,true,true,true,true,true,true,true,true,true,true,true,true,true,true,true,true,true,true,true,true,true,true,true,true,true,true,true,true,true,true,true,true,true,true,false,false,false,false,false,false,false,false,false,false,false,false,false,false,false] rfl rfl (by kernel_rfl) (fun _ _ _ h => h) (Or.inl ⟨by rfl, ?_⟩) ?_ ?_
  rotate_left
  · intro w_
    go_simp
    with_reducible rfl
  rotate_left
  · simp only [Act.put, List.setIfInBounds_toArray, List.set_cons_zero, List.set_cons_succ]
    rfl
  refine pure_ (i := 37) (N := some 99) (v := ?_) (a' := ?_) #[true,true,true,true,true,true,true,true,true,true,true,true,true,true,true,true,true,true,true,true,true,true,true,true,true,true,true,true,true,true,true,true,true,true,true,true,true,true,false,false,false,false,false,false,false,false,false,false,false,false,false,false] rfl rfl (by kernel_rfl) (fun _ _ _ h => h) (Or.inl ⟨by rfl, ?_⟩) ?_ ?_
  rotate_left
  · intro w_
    go_simp
    with_reducible rfl
  rotate_left
  · simp only [Act.put, List.setIfInBounds_toArray, List.set_cons_zero, List.set_cons_succ]
    rfl
  refine pure_ (i := 38) (N := some 100) (v := ?_) (a' := ?_) #[true,true,true,true,true,true,true,true,true,true,true,true,true,true,true,true,true,true,true,true,true,true,true,true,true,true,true,true,true,true,true,true,true,true,true,true,true,true,true,false,false,false,false,false,false,false,false,false,false,false,false,false] rfl rfl (by kernel_rfl) (fun _ _ _ h => h) (Or.inl ⟨by rfl, ?_⟩) ?_ ?_
  rotate_left
  · intro w_
    go_simp
    with_reducible rfl
  rotate_left
  · simp only [Act.put, List.setIfInBounds_toArray, List.set_cons_zero, List.set_cons_succ]
    rfl
  refine pure_ (i := 39) (N := some 101) (v := ?_) (a' := ?_) #[true,true,true,true,true,true,true,true,true,true,true,true,true,true,true,true,true,true,true,true,true,true,true,true,true,true,true,true,true,true,true,true,true,true,true,true,true,true,true,true,false,false,false,false,false,false,false,false,false,false,false,false] rfl rfl (by kernel_rfl) (fun _ _ _ h => h) (Or.inl ⟨by rfl, ?_⟩) ?_ ?_
  rotate_left
  · intro w_
    go_simp
    with_reducible rfl
  rotate_left
  · simp only [Act.put, List.setIfInBounds_toArray, List.set_cons_zero, List.set_cons_succ]
    rfl
  refine pure_ (i := 40) (N := some 102) (v := ?_) (a' := ?_) #[true,true,true,true,true,true,true,true,true,true,true,true,true,true,true,true,true,true,true,true,true,true,true,true,true,true,true,true,true,true,true,true,true,true,true,true,true,true,true,true,true,false,false,false,false,false,false,false,false,false,false,false] rfl rfl (by kernel_rfl) (fun _ _ _ h => h) (Or.inl ⟨by rfl, ?_⟩) ?_ ?_
  rotate_left
  · intro w_
    go_simp
    with_reducible rfl
  rotate_left
  · simp only [Act.put, List.setIfInBounds_toArray, List.set_cons_zero, List.set_cons_succ]
    rfl
  refine take_ (i := 41) (N := some 103) (v := ?_) (a' := ?_) #[true,true,true,true,true,true,true,true,true,true,true,true,true,true,true,true,true,true,true,true,true,true,true,true,true,true,true,true,true,true,true,true,true,true,true,true,true,true,true,true,true,true,false,false,false,false,false,false,false,false,false,false] rfl rfl (by kernel_rfl) (fun _ _ _ h => h) (Or.inl ⟨by rfl, ?_⟩) hHeld ?_ ?_
  rotate_left
  · rintro w_ ⟨s0, s1, s2, s3, s4, s5⟩
    go_simp
    with_reducible rfl
  rotate_left
  · simp only [Act.put, List.setIfInBounds_toArray, List.set_cons_zero, List.set_cons_succ]
    rfl
  refine pure_ (i := 42) (N := some 104) (v := ?_) (a' := ?_) #[true,true,true,true,true,true,true,true,true,true,true,true,true,true,true,true,true,true,true,true,true,true,true,true,true,true,true,true,true,true,true,true,true,true,true,true,true,true,true,true,true,true,true,false,false,false,false,false,false,false,false,false] rfl rfl (by kernel_rfl) (fun _ _ _ h => h) (Or.inl ⟨by rfl, ?_⟩) ?_ ?_
  rotate_left
  · intro w_
    go_simp
    with_reducible rfl
  rotate_left
  · simp only [Act.put, List.setIfInBounds_toArray, List.set_cons_zero, List.set_cons_succ]
    rfl
  refine pure_ (i := 43) (N := some 105) (v := ?_) (a' := ?_) #[true,true,true,true,true,true,true,true,true,true,true,true,true,true,true,true,true,true,true,true,true,true,true,true,true,true,true,true,true,true,true,true,true,true,true,true,true,true,true,true,true,true,true,true,false,false,false,false,false,false,false,false] rfl rfl (by kernel_rfl) (fun _ _ _ h => h) (Or.inl ⟨by rfl, ?_⟩) ?_ ?_
  rotate_left
  · intro w_
    go_simp
    with_reducible rfl
  rotate_left
  · simp only [Act.put, List.setIfInBounds_toArray, List.set_cons_zero, List.set_cons_succ]
    rfl
  refine pure_ (i := 44) (N := some 106) (v := ?_) (a' := ?_) #[true,true,true,true,true,true,true,true,true,true,true,true,true,true,true,true,true,true,true,true,true,true,true,true,true,true,true,true,true,true,true,true,true,true,true,true,true,true,true,true,true,true,true,true,true,false,false,false,false,false,false,false] rfl rfl (by kernel_rfl) (fun _ _ _ h => h) (Or.inl ⟨by rfl, ?_⟩) ?_ ?_
  rotate_left
  · intro w_
    go_simp
    with_reducible rfl
  rotate_left
  · simp only [Act.put, List.setIfInBounds_toArray, List.set_cons_zero, List.set_cons_succ]
    rfl
  refine take_ (i := 45) (N := some 107) (v := ?_) (a' := ?_) #[true,true,true,true,true,true,true,true,true,true,true,true,true,true,true,true,true,true,true,true,true,true,true,true,true,true,true,true,true,true,true,true,true,true,true,true,true,true,true,true,true,true,true,true,true,true,false,false,false,false,false,false] rfl rfl (by kernel_rfl) (fun _ _ _ h => h) (Or.inl ⟨by rfl, ?_⟩) hHeld ?_ ?_
  rotate_left
  · rintro w_ ⟨s0, s1, s2, s3, s4, s5⟩
    go_simp
    with_reducible rfl
  rotate_left
  · simp only [Act.put, List.setIfInBounds_toArray, List.set_cons_zero, List.set_cons_succ]
    rfl
  refine one_ (i := 46) (N := some 108) #[true,true,true,true,true,true,true,true,true,true,true,true,true,true,true,true,true,true,true,true,true,true,true,true,true,true,true,true,true,true,true,true,true,true,true,true,true,true,true,true,true,true,true,true,true,true,true,false,false,false,false,false] rfl rfl (by kernel_rfl) (by decide) (fun K hK => ?_)
  refine goes_ Tryd.func16 (by kernel_rfl) rfl #[.slice C2 3 f2, .slice (some ⟨w'.heap.size + 1 + 1, 0, none⟩) 3 3] (by rfl) rfl rfl (by simp only [List.map_toArray, List.map_cons, List.map_nil]; rfl) ?_
  refine (same_any C2 f2 (some ⟨w'.heap.size + 1 + 1, 0, none⟩) 3 [a, b, c] _ (by simp) (Kd.C_below ng2 hV2) (Kd.C_below HL2.out hV2) nl2 (by simp)).mono ?_
  rintro e v3 ⟨rfl, hb_⟩
  refine ⟨_, rfl, ?_⟩
  have hV3 : Below w2.heap.size w2 v3 := hV2.trans (hb_.mono hV2.size)
  refine hK.out _ _ (HSS.out v3 hV3) (fun hHeld => ?_)
  clear hK hb_
  refine norm_ (a' := ?_) ?_ ?_
  rotate_left
  · simp only [Act.put, List.setIfInBounds_toArray, List.set_cons_zero, List.set_cons_succ]
    rfl
  refine pure_ (i := 47) (N := some 109) (v := ?_) (a' := ?_) #[true,true,true,true,true,true,true,true,true,true,true,true,true,true,true,true,true,true,true,true,true,true,true,true,true,true,true,true,true,true,true,true,true,true,true,true,true,true,true,true,true,true,true,true,true,true,true,true,false,false,false,false] rfl rfl (by kernel_rfl) (fun _ _ _ h => h) (Or.inl ⟨by rfl, ?_⟩) ?_ ?_
  rotate_left
  · intro w_
    go_simp
    with_reducible rfl
  rotate_left
  · simp only [Act.put, List.setIfInBounds_toArray, List.set_cons_zero, List.set_cons_succ]
    rfl
  refine pure_ (i := 48) (N := some 110) (v := ?_) (a' := ?_) #[true,true,true,true,true,true,true,true,true,true,true,true,true,true,true,true,true,true,true,true,true,true,true,true,true,true,true,true,true,true,true,true,true,true,true,true,true,true,true,true,true,true,true,true,true,true,true,true,true,false,false,false] rfl rfl (by kernel_rfl) (fun _ _ _ h => h) (Or.inl ⟨by rfl, ?_⟩) ?_ ?_
  rotate_left
  · intro w_
    go_simp
    with_reducible rfl
  rotate_left
  · simp only [Act.put, List.setIfInBounds_toArray, List.set_cons_zero, List.set_cons_succ]
    rfl
  refine one_ (i := 49) (N := some 111) #[true,true,true,true,true,true,true,true,true,true,true,true,true,true,true,true,true,true,true,true,true,true,true,true,true,true,true,true,true,true,true,true,true,true,true,true,true,true,true,true,true,true,true,true,true,true,true,true,true,true,false,false] rfl rfl (by kernel_rfl) (by decide) (fun K hK => ?_)
  refine goes_ Tryd.func27 (by kernel_rfl) rfl #[] (by rfl) rfl rfl (by simp only [List.map_toArray, List.map_cons, List.map_nil]) ?_
  refine (awake_any _ (Tabs_below HT.out (HBw.out.trans (hV3.mono HBw.out.size)))).mono ?_
  rintro e v4 ⟨rfl, hb_⟩
  refine ⟨_, rfl, ?_⟩
  have hV4 : Below w2.heap.size w2 v4 := hV3.trans (hb_.mono hV3.size)
  refine hK.out _ _ (HSS.out v4 hV4) (fun hHeld => ?_)
  clear hK hb_
  refine norm_ (a' := ?_) ?_ ?_
  rotate_left
  · simp only [Act.put, List.setIfInBounds_toArray, List.set_cons_zero, List.set_cons_succ]
    rfl
  refine pure_ (i := 50) (N := some 112) (v := ?_) (a' := ?_) #[true,true,true,true,true,true,true,true,true,true,true,true,true,true,true,true,true,true,true,true,true,true,true,true,true,true,true,true,true,true,true,true,true,true,true,true,true,true,true,true,true,true,true,true,true,true,true,true,true,true,true,false] rfl rfl (by kernel_rfl) (fun _ _ _ h => h) (Or.inl ⟨by rfl, ?_⟩) ?_ ?_
  rotate_left
  · intro w_
    go_simp
    with_reducible rfl
  rotate_left
  · simp only [Act.put, List.setIfInBounds_toArray, List.set_cons_zero, List.set_cons_succ]
    rfl
  refine pure_ (i := 51) (N := some 6) (v := ?_) (a' := ?_) #[true,true,true,true,true,true,true,true,true,true,true,true,true,true,true,true,true,true,true,true,true,true,true,true,true,true,true,true,true,true,true,true,true,true,true,true,true,true,true,true,true,true,true,true,true,true,true,true,true,true,true,true] rfl rfl (by kernel_rfl) (fun _ _ _ h => h) (Or.inl ⟨by rfl, ?_⟩) ?_ ?_
  rotate_left
  · intro w_
    go_simp
    with_reducible rfl
  rotate_left
  · simp only [Act.put, List.setIfInBounds_toArray, List.set_cons_zero, List.set_cons_succ]
    rfl
  refine done_ (by kernel_rfl) ?_
  have HV := Lib.hid (HBw.out.trans (hV4.mono HBw.out.size))
  go_wp2
  go_ret
  exact ⟨rfl, HV.out⟩
/-- Every sign can stand in a rule. -/
theorem RulesSigns_law (a b c : Int) (w : World) (hT : Tabs w) (_w0 : (Lit.int .i64 a).wf = true) (_w1 : (Lit.int .i64 b).wf = true) (_w2 : (Lit.int .i64 c).wf = true) :
    Calls Tryd.prog 12 #[.int .i64 a, .int .i64 b, .int .i64 c] w fun e w' => e = .returned (.bool true) ∧ Below w.heap.size w w' := by
  by_cases h : U.isS a = true ∧ U.isS b = true ∧ U.isS c = true ∧ a ≤ 1114111 ∧ b ≤ 1114111 ∧ c ≤ 1114111
  · obtain ⟨h1, h2, h3, h4, h5, h6⟩ := h
    exact signs_yes a b c w hT h1 h2 h3 h4 h5 h6
  · exact signs_no a b c w hT h
end Go.Proofs.YtjcgjchdelipcaaDoor.R
