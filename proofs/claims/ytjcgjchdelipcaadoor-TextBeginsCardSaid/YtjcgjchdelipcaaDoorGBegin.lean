import Derived.Test.YtjcgjchdelipcaaDoorG7
import Derived.Test.YtjcgjchdelipcaaDoorGEvA
import Derived.WalkLawsBesides
import Derived.Outline
import Derived.Deep.RegionWith
import Derived.Test.YtjcgjchdelipcaaDoorG6
import Derived.Test.YtjcgjchdelipcaaDoorGClip
namespace Go.Proofs.YtjcgjchdelipcaaDoor.G
open Go.RowKit Go.Proofs.YtjcgjchdelipcaaDoorW.PrintWords Go.Proofs.YtjcgjchdelipcaaDoorW.PrintLast Go.Proofs.YtjcgjchdelipcaaDoorW.PrintMore
attribute [local go_sem] max2_int min2_int max_two min_two max_three min_three max_four min_four
set_option linter.unusedVariables false
set_option linter.unusedSimpArgs false
set_option maxHeartbeats 4000000 in
set_option maxRecDepth 100000 in
theorem begin_walk (b p : ByteArray) (n K : Int) (L M1 M2 : List Int) (k : Nat) (w : World) (hT : Tabs w) (hb1 : b.size ≤ 1000) (h0 : utext_Begin.f k b n = some p) (h1 : umlautref1_Signs.f k b = some L)
    (h2 : utext_Count.f p = some K) (hK : K = mn (mx n 0) (L.length : Int)) (hp : p.size ≤ b.size) (he : (b.extract 0 p.size).toList = p.toList) (h3 : utext_Signs.f k p = some M1)
    (h4 : utext_Signs.f k (b.extract p.size b.size) = some M2) (hl : M1.length + M2.length ≤ 1000) (h5 : umlautref1_SameInts.f k (M1 ++ M2) L = some true) (h6 : umlautlaw2_awake.f k = some true) :
    Calls Tryd.prog 7 #[.string b, .int .i64 n] w fun e w' => e = .returned (.bool true) ∧ Below w.heap.size w w' := by
  have H0 := Aside0.mk h0
  have H1 := Aside0.mk h1
  have H2 := Aside0.mk h2
  have H3 := Aside0.mk h3
  have H4 := Aside0.mk h4
  have H5 := Aside0.mk h5
  have H6 := Aside0.mk h6
  have HT := Aside0.mk hT
  have HK := Aside0.mk hK
  have HB := Aside0.mk (Below.refl w.heap.size w)
  clear h0 h1 h2 h3 h4 h5 h6 hT hK
  have he1 : ((b.extract 0 p.size).toList == p.toList) = true := beq_iff_eq.mpr he
  clear he
  obtain ⟨hk1, rfl⟩ | ⟨hk1, hk2, rfl⟩ | ⟨hk1, hk2, rfl⟩ : (n < 0 ∧ K = 0) ∨ (0 ≤ n ∧ n ≤ (L.length : Int) ∧ K = n) ∨ (0 ≤ n ∧ (L.length : Int) < n ∧ K = (L.length : Int)) := by
    have := HK.out
    unfold mn mx at this
    split at this <;> split at this <;> omega
  all_goals clear HK
  all_goals
    go_enter Tryd.func7, Tryd.ntmps7
    go_wp2_with (first
    | (go_at_call 25; refine (utext_Begin.calls k b _ p _ H0.out (Tabs_below HT.out HB.out)).mono ?_; rintro e w2 ⟨rfl, hb⟩; have n0_ := Aside0.mk (below_step HB.out hb); clear HB hb; have HB := n0_; clear n0_)
    | (go_at_call 26; refine (umlautref1_Signs.calls k b L _ H1.out).mono ?_; rintro e w2 ⟨v1, rfl, ho, hb⟩; have n0_ := Aside0.mk (below_step HB.out hb); clear HB hb; have HB := n0_; clear n0_; have HO := Aside0.mk ho; clear ho; obtain ⟨A1, c1, e1⟩ := Kd.R_slice HO.out; subst e1)
    | (go_at_call 24; refine (utext_Count.calls p _ _ H2.out).mono ?_; rintro e w2 ⟨rfl, hb⟩; have n0_ := Aside0.mk (below_step HB.out hb); clear HB hb; have HB := n0_; clear n0_))
    have C3 := fun (W : World) (hW : Below w.heap.size w W) => utext_Signs.own k p M1 W H3.out (Tabs_below HT.out hW)
    have C4 := fun (W : World) (hW : Below w.heap.size w W) => utext_Signs.own k (b.extract p.size b.size) M2 W H4.out (Tabs_below HT.out hW)
    have HC3 := Aside0.mk C3
    have HC4 := Aside0.mk C4
    clear C3 C4
    refine wp_region_any (by kernel_rfl) ?_
    change wpAny _ _ _ _ _ _ _ (World.drew _)
    refine wpAny_take (i := 0) (v := ?_) rfl (by kernel_rfl) (by kernel_rfl) (by kernel_rfl) (fun _ _ _ h => h) (Or.inl ⟨by rfl, ?_⟩) ?_
    rotate_left 1
    · intro w
      go_simp
      try with_reducible rfl
    refine wpAny_take (i := 2) (v := ?_) rfl (by kernel_rfl) (by kernel_rfl) (by kernel_rfl) (fun _ _ _ h => h) (Or.inl ⟨by rfl, ?_⟩) ?_
    rotate_left 1
    · intro w
      go_simp
      try with_reducible rfl
    refine wpAny_take (i := 3) (v := ?_) rfl (by kernel_rfl) (by kernel_rfl) (by kernel_rfl) (fun _ _ _ h => h) (Or.inl ⟨by rfl, ?_⟩) ?_
    rotate_left 1
    · intro w
      go_simp
      try with_reducible rfl
    refine wpAny_take (i := 4) (v := ?_) rfl (by kernel_rfl) (by kernel_rfl) (by kernel_rfl) (fun _ _ _ h => h) (Or.inl ⟨by rfl, ?_⟩) ?_
    rotate_left 1
    · intro w
      go_simp
      try with_reducible rfl
    refine wpAny_take (i := 5) (v := ?_) rfl (by kernel_rfl) (by kernel_rfl) (by kernel_rfl) (fun _ _ _ h => h) (Or.inl ⟨by rfl, ?_⟩) ?_
    rotate_left 1
    · intro w
      go_simp
      try with_reducible rfl
    refine wpAny_ready (rs := [1]) (by kernel_rfl) (by simp) ?_
    refine AllReady.cons rfl (fun K hK => ?_) AllReady.nil
    go_simp
    go_wp2_with (first
      | (go_at_call_of 17 (Value.string p); refine (HC3.out _ (by repeat (first | (with_reducible first | exact HB.out | apply below_alloc | apply pw_below_drewN | apply below_drew1) | exact HB.out))).mono ?_; rintro e w3 ⟨A3, c3, rfl, ho, hb⟩; have n0_ := Aside0.mk (below_step (by repeat (first | (with_reducible first | exact HB.out | apply below_alloc | apply pw_below_drewN | apply below_drew1) | exact HB.out)) hb); clear HB hb; have HB := n0_; clear n0_; have HO3 := Aside0.mk ho; clear ho))
    refine wpAny_ready (rs := [6]) (by kernel_rfl) (by simp) ?_
    refine AllReady.cons rfl (fun K hK => ?_) AllReady.nil
    go_simp
    go_wp2_with (first
      | (go_at_call_of 17 (ByteArray.extract b p.size b.size); refine (HC4.out _ (by repeat (first | (with_reducible first | exact HB.out | apply below_alloc | apply pw_below_drewN | apply below_drew1) | exact HB.out))).mono ?_; rintro e w4 ⟨A4, c4, rfl, ho, hb⟩; have n0_ := Aside0.mk (below_step (by repeat (first | (with_reducible first | exact HB.out | apply below_alloc | apply pw_below_drewN | apply below_drew1) | exact HB.out)) hb); have n1_ := Aside0.mk (Kd.R_below HO3.out hb); clear HB hb HO3; have HB := n0_; have HO3 := n1_; clear n0_ n1_; have HO4 := Aside0.mk ho; clear ho))
    refine wpAny_ready (rs := [7]) (by kernel_rfl) (by simp) ?_
    refine AllReady.cons rfl (fun K hK => ?_) AllReady.nil
    refine append_clip_step (w0 := w) (enc := Value.int .i64) (h1 := fun _ => rfl) w.heap.size (by rfl) (.tmp 41) (.tmp 46) 22 3 Tryd.t3 (.int .i64 0) 8 rfl Tryd.underlying22 (by rfl) (by rfl) (by rfl) (by rfl) (by rfl) (by omega) A3 A4 M2.length M2.length M1 M2 (by rfl) (by rfl) (Kd.R_reads' HO3.out).2.2 (Kd.R_reads' HO4.out).2.2 HB.out (below_size HB.out) (by omega) ?_
    intro A5 c5 w5 hle5 hC5 hb5
    go_simp
    refine hK _ _ ?_
    clear hK K
    refine wpAny_ready (rs := [8]) (by kernel_rfl) (by simp) ?_
    refine AllReady.cons rfl (fun K hK => ?_) AllReady.nil
    go_simp
    refine hK _ _ ?_
    clear hK K
    refine wpAny_done (by kernel_rfl) ?_ _
    have CS := fun (W : World) (A6 : Option Addr) (c6 : Nat) (h5a : Kd.C (Kd.int .i64) W A5 (M1 ++ M2).length (M1 ++ M2)) (h6a : Kd.C (Kd.int .i64) W A6 L.length L) (h6b : L.length ≤ c6) => umlautref1_SameInts.calls k A5 c5 (M1 ++ M2) A6 c6 L true W h5a hle5 h6a h6b H5.out
    simp only [List.length_append] at CS
    have HCS := Aside0.mk CS
    clear CS
    have HC5 := Aside0.mk hC5
    clear HB hC5 hle5
    have HB := Aside0.mk hb5
    clear hb5
    go_wp2_with (first
    | (go_at_call 26; refine (umlautref1_Signs.calls k b L _ H1.out).mono ?_; rintro e w2 ⟨v1, rfl, ho, hb⟩; have n0_ := Aside0.mk (below_step HB.out hb); have n1_ := Aside0.mk (Kd.C_below HC5.out hb); clear HB hb HC5; have HB := n0_; have HC5 := n1_; clear n0_ n1_; have HO6 := Aside0.mk ho; clear ho; obtain ⟨A6, c6, e6⟩ := Kd.R_slice HO6.out; subst e6)
    | (go_at_call 16; refine (HCS.out _ _ _ ?sd1 (Kd.R_reads' HO6.out).2.2 (Kd.R_reads' HO6.out).2.1).mono ?_; (case sd1 => have h := HC5.out; rw [List.length_append] at h; exact h); rintro e w2 ⟨rfl, ⟨nd, rfl⟩⟩)
    | (go_at_call 13; refine (umlautlaw2_awake.calls k true _ H6.out (Tabs_below HT.out (by repeat (first | (with_reducible first | exact HB.out | apply below_alloc | apply pw_below_drewN | apply below_drew1) | exact HB.out)))).mono ?_; rintro e w2 ⟨rfl, hb⟩; have n0_ := Aside0.mk (below_step (by repeat (first | (with_reducible first | exact HB.out | apply below_alloc | apply pw_below_drewN | apply below_drew1) | exact HB.out)) hb); clear HB hb; have HB := n0_; clear n0_))
    go_ret
    exact ⟨rfl, HB.out⟩
end Go.Proofs.YtjcgjchdelipcaaDoor.G
