/- The plain law of TextNext: the next text is above all that begin so, and nothing lies between. -/
import Derived.Test.YtjcgjchdelipcaaDoorGNext
namespace Go.Proofs.YtjcgjchdelipcaaDoor.G
open Go.RowKit Go.Proofs.YtjcgjchdelipcaaDoorW.PrintWords Go.Proofs.YtjcgjchdelipcaaDoorW.PrintLast Go.Proofs.YtjcgjchdelipcaaDoorW.PrintMore
set_option linter.unusedVariables false
set_option linter.unusedSimpArgs false

/-- The next text of the first n bytes. -/
def nextV (p : ByteArray) : Nat → ByteArray × Bool
  | 0 => (⟨#[]⟩, false)
  | n + 1 => if (p.get! n).toNat = 255 then nextV p n else (p.extract 0 n ++ strOfNums [(((p.get! n).toNat : Int) + 1) % 256], true)
theorem next_l0 (p : ByteArray) (hp : p.size ≤ 140737488351232) : ∀ n : Nat, n ≤ p.size → Ev (fun k => utext_Next.l0 k p (n : Int)) (nextV p n)
  | 0, _ => by
    refine Ev.step (f := fun _ => some (nextV p 0)) (fun k => ?_) (Ev.now _)
    rw [utext_Next.l0, if_neg (by omega), if_pos (by omega)]
    rfl
  | n + 1, hn => by
    have e : wrap64 (((n + 1 : Nat) : Int) - 1) = (n : Int) := by rw [w64 (by omega) (by omega)]; omega
    have hb := bt_eq p n (by omega)
    by_cases h : (p.get! n).toNat = 255
    · have e2 : nextV p (n + 1) = nextV p n := by rw [nextV, if_pos h]
      rw [e2]
      refine Ev.step (fun k => ?_) (next_l0 p hp n (by omega))
      rw [utext_Next.l0, if_pos (by omega), e, if_pos (by omega), if_pos (by omega), hb, if_pos (by omega)]
    · refine Ev.step (f := fun _ => some (nextV p (n + 1))) (fun k => ?_) (Ev.now _)
      rw [utext_Next.l0, if_pos (by omega), e, if_pos (by omega), if_pos (by omega), hb, if_neg (by omega), if_neg (by omega), if_pos (by omega), Option.bind_some, if_pos (by rw [ext0 p _ (by simp; omega), strOfNums_size]; simp; omega)]
      rw [nextV, if_neg h]
      rfl

theorem next_same : ∀ (k : Nat) (p : ByteArray) (x : Int), umlautref1_Next.l0 k p x = utext_Next.l0 k p x
  | 0, _, _ => rfl
  | k + 1, p, x => by simp only [umlautref1_Next.l0, utext_Next.l0, next_same k]
theorem Next_ev (p : ByteArray) (hp : p.size ≤ 140737488351232) : Ev (fun k => utext_Next.f k p) (nextV p p.size) := Ev.congr (fun k => rfl) (next_l0 p hp p.size (Nat.le_refl _))
theorem refNext_ev (p : ByteArray) (hp : p.size ≤ 140737488351232) : Ev (fun k => umlautref1_Next.f k p) (nextV p p.size) := Ev.congr (fun k => next_same k p p.size) (next_l0 p hp p.size (Nat.le_refl _))

/-- What a next text is: p without the bytes 255 at its end, its last byte one more. -/
theorem nextV_true (p t : ByteArray) : ∀ n : Nat, n ≤ p.size → nextV p n = (t, true) →
    ∃ m, m < n ∧ (p.get! m).toNat ≠ 255 ∧ t = p.extract 0 m ++ strOfNums [(((p.get! m).toNat : Int) + 1) % 256] ∧ ∀ j, m < j → j < n → (p.get! j).toNat = 255
  | 0, _, h => by simp [nextV] at h
  | n + 1, hn, h => by
    rw [nextV] at h
    by_cases hb : (p.get! n).toNat = 255
    · rw [if_pos hb] at h
      obtain ⟨m, h1, h2, h3, h4⟩ := nextV_true p t n (by omega) h
      refine ⟨m, by omega, h2, h3, fun j hj hjn => ?_⟩
      by_cases e : j = n
      · subst e; exact hb
      · exact h4 j hj (by omega)
    · rw [if_neg hb] at h
      exact ⟨n, by omega, hb, (Prod.mk.inj h).1.symm, fun j hj hjn => by omega⟩

/-- Does a list begin with another one? -/
def beg : List UInt8 → List UInt8 → Bool
  | [], _ => true
  | _ :: _, [] => false
  | x :: p, y :: a => x == y && beg p a
theorem beg_iff : ∀ (p a : List UInt8), beg p a = (decide (p.length ≤ a.length) && (a.take p.length == p))
  | [], a => by simp [beg]
  | x :: p, [] => by simp [beg]
  | x :: p, y :: a => by
    rw [beg, beg_iff p a]
    by_cases h : x = y
    · subst h
      simp
    · have h1 : (x == y) = false := beq_eq_false_iff_ne.mpr h
      have h2 : (y == x) = false := beq_eq_false_iff_ne.mpr (fun e => h e.symm)
      simp [h1, h2]
theorem less_nil (a : List UInt8) : Op.bytesLess a [] = false := by cases a <;> rfl
theorem full_fits : ∀ (f a : List UInt8), (∀ x ∈ f, x.toNat = 255) → beg f a = !(Op.bytesLess a f)
  | [], a, _ => by simp [beg, less_nil]
  | x :: f, [], _ => by simp [beg, Op.bytesLess]
  | x :: f, y :: a, h => by
    have hx := h x (by simp)
    have ih := full_fits f a (fun z hz => h z (by simp [hz]))
    rw [beg, Op.bytesLess, ih]
    have hy : y.toNat < 256 := UInt8.toNat_lt _
    by_cases e : x = y
    · subst e
      simp
    · have e2 : ¬ y = x := fun q => e q.symm
      have e3 : y < x := by
        rw [UInt8.lt_iff_toNat_lt]
        have : y.toNat ≠ x.toNat := fun q => e2 (UInt8.toNat_inj.1 q)
        omega
      simp [e, e2, e3]
theorem fits_list : ∀ (q : List UInt8) (x : UInt8) (f a : List UInt8) (z : UInt8), x.toNat ≠ 255 → z.toNat = x.toNat + 1 → (∀ y ∈ f, y.toNat = 255) →
    beg (q ++ x :: f) a = (!(Op.bytesLess a (q ++ x :: f)) && Op.bytesLess a (q ++ [z]))
  | [], x, f, [], z, _, _, _ => by simp [beg, Op.bytesLess]
  | [], x, f, y :: a, z, hx, hz, hf => by
    have ih := full_fits f a hf
    simp only [List.nil_append, beg, Op.bytesLess, less_nil, Bool.and_false, Bool.or_false, ih]
    by_cases e : x = y
    · subst e
      have : x < z := by rw [UInt8.lt_iff_toNat_lt]; omega
      simp [this]
    · have e2 : ¬ y = x := fun q => e q.symm
      by_cases l : y < x
      · simp [e, e2, l]
      · have : ¬ y < z := by
          rw [UInt8.lt_iff_toNat_lt] at l ⊢
          have : y.toNat ≠ x.toNat := fun q => e2 (UInt8.toNat_inj.1 q)
          omega
        simp [e, e2, l, this]
  | w :: q, x, f, [], z, _, _, _ => by simp [beg, Op.bytesLess]
  | w :: q, x, f, y :: a, z, hx, hz, hf => by
    have ih := fits_list q x f a z hx hz hf
    simp only [List.cons_append, beg, Op.bytesLess, ih]
    by_cases e : w = y
    · subst e
      simp
    · have e1 : (w == y) = false := beq_eq_false_iff_ne.mpr e
      have e2 : (y == w) = false := beq_eq_false_iff_ne.mpr (fun q => e q.symm)
      simp [e1, e2]
theorem extract_list (s : ByteArray) (n : Nat) : (s.extract 0 n).toList = s.toList.take n := by
  rw [Lib.toList_data, Lib.toList_data, Lib.extract_data]
  simp
theorem next_fits (p a t : ByteArray) (h : nextV p p.size = (t, true)) : NextFits p a t := by
  obtain ⟨m, h1, h2, h3, h4⟩ := nextV_true p t p.size (Nat.le_refl _) h
  have hlen : p.toList.length = p.size := by rw [Lib.toList_data, Lib.size_eq]
  have hal : a.toList.length = a.size := by rw [Lib.toList_data, Lib.size_eq]
  have hget : ∀ j, j < p.size → p.toList[j]? = some (p.get! j) := by
    intro j hj
    rw [Lib.toList_data, List.getElem?_eq_getElem (by rw [← Lib.size_eq]; exact hj), Utf8W.get!_of_lt p j hj]
    rfl
  have hx : (p.get! m).toNat < 256 := UInt8.toNat_lt _
  have hp : p.toList = p.toList.take m ++ p.get! m :: p.toList.drop (m + 1) := by
    have e := hget m h1
    have hm : m < p.toList.length := by omega
    rw [List.getElem?_eq_getElem hm] at e
    rw [← Option.some.inj e, ← List.drop_eq_getElem_cons hm, List.take_append_drop]
  have ht : t.toList = p.toList.take m ++ [UInt8.ofNat ((p.get! m).toNat + 1)] := by
    rw [h3, Lib.toList_data]
    have : (p.extract 0 m ++ strOfNums [(((p.get! m).toNat : Int) + 1) % 256]).data.toList = (p.extract 0 m).data.toList ++ (strOfNums [(((p.get! m).toNat : Int) + 1) % 256]).data.toList := by simp
    rw [this, ← Lib.toList_data, extract_list, strOfNums_data]
    congr 1
    simp only [List.map_cons, List.map_nil, List.cons.injEq, and_true]
    congr 1
    omega
  have hf : ∀ y ∈ p.toList.drop (m + 1), y.toNat = 255 := by
    intro y hy
    obtain ⟨j, hj, rfl⟩ := List.getElem_of_mem hy
    rw [List.length_drop] at hj
    have e := hget (m + 1 + j) (by omega)
    have e2 : (p.toList.drop (m + 1))[j]? = some (p.get! (m + 1 + j)) := by rw [List.getElem?_drop]; exact e
    rw [List.getElem?_eq_getElem (by rw [List.length_drop]; omega)] at e2
    rw [Option.some.inj e2]
    exact h4 _ (by omega) (by omega)
  have key := fits_list (p.toList.take m) (p.get! m) (p.toList.drop (m + 1)) a.toList (UInt8.ofNat ((p.get! m).toNat + 1)) h2 (by rw [UInt8.toNat_ofNat']; omega) hf
  rw [← hp, ← ht, beg_iff, hlen, hal] at key
  refine ⟨fun hs => ?_, fun hs => ?_⟩
  · rw [← key, extract_list]
    simp [hs]
  · rw [← key]
    simp
    omega
theorem TextNext_law (a0 a1 : ByteArray) (w : World) (hT : Tabs w) (w0 : a0.size ≤ 140737488351232) (w1 : a1.size ≤ 140737488351232) :
    Calls Tryd.prog 5 #[.string a0, .string a1] w fun e w' => e = .returned (.bool true) ∧ Below w.heap.size w w' := by
  obtain ⟨k1, h1⟩ := Next_ev a0 w0
  obtain ⟨k2, h2⟩ := refNext_ev a0 w0
  obtain ⟨k3, h3⟩ := awake_ev
  obtain ⟨⟨t, b⟩, hv⟩ : ∃ x, nextV a0 a0.size = x := ⟨_, rfl⟩
  rw [hv] at h1 h2
  exact next_walk a0 a1 t b (max k1 (max k2 k3)) w hT (h1 _ (by omega)) (h2 _ (by omega)) (h3 _ (by omega)) (fun hb => next_fits a0 a1 t (by rw [hv, hb]))

end Go.Proofs.YtjcgjchdelipcaaDoor.G
