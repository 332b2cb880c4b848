/- The keys of a map with whole numbers for keys, sorted: the library's contracts at this program. -/
import Derived.Test.YtpameikbacnpcaaShelf
import Derived.Test.YtpameikbacnpcaaTB
namespace Go.Proofs.Ytpameikbacnpcaa.T
open Go Go.WideShapes Go.RowKit Go.Maps Go.Sort Go.Shelf Go.Proofs.Ytpameikbacnpcaa.M Go.Proofs
set_option linter.unusedVariables false

theorem intKeys_of {P : Program} {k : TypeId} (hk : P.underlying k = some (.int .i64)) {w : World} {b n : Nat} {D : DataW Value} (h : w.ownsMap P k tok b n D) :
    (intKeys D).Nodup ∧ ∀ x, x ∈ intKeys D ↔ Maps.has D (.int .i64 x) = true := by
  have K : Keyed P k := int_keyed hk
  obtain ⟨es, clock, hb, F, hs, rfl⟩ := h
  have hkeys : ∀ p ∈ (es.toList.map (WideElems.rg P k tok)).foldr DataW.insert [], ∃ x, p.1 = Lit.int .i64 x := by
    intro p hp
    obtain ⟨v, hv⟩ := Maps.fit_keys F p (mem_sorted.1 hp)
    obtain ⟨x, _, e, _⟩ := Maps.keyOf_i64 hk hv
    exact ⟨x, e⟩
  have hne := ((sorted_perm (es.toList.map (WideElems.rg P k tok))).pairwise_iff (fun {_ _} hne => Ne.symm hne)).2 (Maps.fit_apart K F)
  refine ⟨?_, fun x => ?_⟩
  · show (((es.toList.map (WideElems.rg P k tok)).foldr DataW.insert []).map fun p => _root_.Go.intOf p.1).Nodup
    refine List.pairwise_map.2 (hne.imp_of_mem fun {p q} hp hq hn e => hn ?_)
    obtain ⟨a, ha⟩ := hkeys p hp
    obtain ⟨b, hb⟩ := hkeys q hq
    rw [ha, hb] at e ⊢
    exact congrArg _ e
  · rw [Maps.has_eq, List.any_eq_true]
    show x ∈ (((es.toList.map (WideElems.rg P k tok)).foldr DataW.insert []).map fun p => _root_.Go.intOf p.1) ↔ _
    rw [List.mem_map]
    constructor
    · rintro ⟨p, hp, rfl⟩
      obtain ⟨a, ha⟩ := hkeys p hp
      exact ⟨p, hp, by rw [ha]; simp [Lit.sameKey, _root_.Go.intOf]⟩
    · rintro ⟨p, hp, hs⟩
      obtain ⟨a, ha⟩ := hkeys p hp
      rw [ha] at hs
      exact ⟨p, hp, by rw [ha]; simpa [Lit.sameKey, _root_.Go.intOf] using hs⟩

theorem sorts_in (m : Nat) : AnyZI.SortsIn Try.prog Try.sortedA_ren Fence.wide m :=
  ⟨fun blk off cap ss W hH hblk hsz => callsIn_wide.2 (AnyM.slices_Sort_int Try.sortA blk off cap ss W hH hblk hsz),
   fun p cap W => callsIn_wide.2 (AnyM.slices_Sort_int_none Try.sortA p cap W)⟩

/-- The keys, rising. -/
def KeysOut (m : Lit → Option Value) (B : Nat) (w : World) (e : Ending) (w' : World) : Prop :=
  ∃ (v : Value) (ks : List Int), e = .returned v ∧ ks.Pairwise (· < ·) ∧ (∀ x, x ∈ ks ↔ (m (.int .i64 x)).isSome = true) ∧ w'.ownsRow w.heap.size 3 1 v ks.length (ks.map encZ) ∧ (v = .slice none 0 0 ↔ ks = []) ∧ Below w.heap.size w w'

theorem rising {l : List Int} (h : l.Nodup) : (l.mergeSort leI).Pairwise (· < ·) := by
  have tr : ∀ a b c : Int, leI a b = true → leI b c = true → leI a c = true := fun a b c h1 h2 => by simp only [leI, decide_eq_true_eq] at *; exact Int.le_trans h1 h2
  have to : ∀ a b : Int, (leI a b || leI b a) = true := fun a b => by simp only [leI, Bool.or_eq_true, decide_eq_true_eq]; exact Int.le_total a b
  have h1 := List.pairwise_mergeSort tr to l
  have h2 : (l.mergeSort leI).Nodup := (List.mergeSort_perm l leI).nodup_iff.2 h
  refine (h1.and h2).imp ?_
  rintro a b ⟨h3, h4⟩
  have := of_decide_eq_true h3
  omega

theorem keysO_calls (mb : Option Nat) (W : World) : Calls Try.prog 19 #[.map mb] W fun e w' => e = .returned (.func (.func 27) #[] #[.pointer (some ⟨W.heap.size, 0, none⟩)]) ∧ w' = W.alloc (.cells #[.map mb] 42) :=
  (callsIn_wide (n := 5)).1 (AnyZI.keys_in Try.keysO Fence.wide 5 trivial rfl mb W)
theorem keysA_calls (mb : Option Nat) (W : World) : Calls Try.prog 20 #[.map mb] W fun e w' => e = .returned (.func (.func 28) #[] #[.pointer (some ⟨W.heap.size, 0, none⟩)]) ∧ w' = W.alloc (.cells #[.map mb] 45) :=
  (callsIn_wide (n := 5)).1 (AnyZI.keys_in Try.keysA Fence.wide 5 trivial rfl mb W)

theorem out_of {m : Lit → Option Value} {b n : Nat} {W : World} {D : DataW Value} (hown : W.ownsMap Try.prog 3 tok b n D) (hm : Holds D m) {B : Nat} {e : Ending} {w' : World}
    (h : ∃ (v : Value) (ss : List Int), e = .returned v ∧ ss.Perm (intKeys D) ∧ w'.ownsRow W.heap.size 3 1 v ss.length ((ss.mergeSort leI).map encZ) ∧ (v = .slice none 0 0 ↔ ss = []) ∧ Below W.heap.size W w') : KeysOut m B W e w' := by
  obtain ⟨v, ss, rfl, hp, hr, hn, hb⟩ := h
  obtain ⟨hk1, hk2⟩ := intKeys_of Try.underlying3 hown
  have hl : (ss.mergeSort leI).length = ss.length := (List.mergeSort_perm ss leI).length_eq
  refine ⟨v, ss.mergeSort leI, rfl, rising (hp.nodup_iff.2 hk1), fun x => ?_, by rw [hl]; exact hr, ?_, hb⟩
  · rw [← hm.has, ← hk2, (List.mergeSort_perm ss leI).mem_iff, hp.mem_iff]
  · rw [hn]
    constructor
    · rintro rfl; simp
    · intro h0
      have : ss.length = 0 := by rw [← hl, h0]; rfl
      exact List.length_eq_zero_iff.1 this

theorem sortedO_calls (Bm b n : Nat) (m : Lit → Option Value) (W : World) (hc : W.cell? ⟨Bm, 0, none⟩ = some (.map (some b))) (h : FM W Try.prog 3 b n m) (hn : n ≤ 1000000) :
    Calls Try.prog 18 #[.func (.func 27) #[] #[.pointer (some ⟨Bm, 0, none⟩)]] W (KeysOut m b W) := by
  obtain ⟨D, hown, hm⟩ := h
  have hs : Maps.size D ≤ 1000000 := Nat.le_trans hown.size_le hn
  have hmax : Maps.size D ≤ maxLen := by unfold maxLen; omega
  have hseq := AnyZI.keys_gives (ρ := Try.keysO_ren) { Try.keysO with } Fence.wide 2 trivial rfl (by omega) Bm b n D W (World.block_lt_of_cell? W _ hc) hc hown
  have cS := AnyZI.sorted_in Try.sortedA Fence.wide 5 trivial trivial trivial trivial rfl (by omega) (sorts_in _) (enters_of Try.func26 (by kernel_rfl) rfl) 27 #[.pointer (some ⟨Bm, 0, none⟩)] trivial (enters_of Try.func27 (by kernel_rfl) rfl) _ _ hmax (by omega) _ hseq
  exact ((callsIn_wide (n := 5)).1 cS).mono (fun e w' hh => out_of hown hm hh)
theorem sortedA_calls (Bm b n : Nat) (m : Lit → Option Value) (W : World) (hc : W.cell? ⟨Bm, 0, none⟩ = some (.map (some b))) (h : FM W Try.prog 3 b n m) (hn : n ≤ 1000000) :
    Calls Try.prog 18 #[.func (.func 28) #[] #[.pointer (some ⟨Bm, 0, none⟩)]] W (KeysOut m b W) := by
  obtain ⟨D, hown, hm⟩ := h
  have hs : Maps.size D ≤ 1000000 := Nat.le_trans hown.size_le hn
  have hmax : Maps.size D ≤ maxLen := by unfold maxLen; omega
  have hseq := AnyZI.keys_gives (ρ := Try.keysA_ren) { Try.keysA with } Fence.wide 2 trivial rfl (by omega) Bm b n D W (World.block_lt_of_cell? W _ hc) hc hown
  have cS := AnyZI.sorted_in Try.sortedA Fence.wide 5 trivial trivial trivial trivial rfl (by omega) (sorts_in _) (enters_of Try.func26 (by kernel_rfl) rfl) 28 #[.pointer (some ⟨Bm, 0, none⟩)] trivial (enters_of Try.func28 (by kernel_rfl) rfl) _ _ hmax (by omega) _ hseq
  exact ((callsIn_wide (n := 5)).1 cS).mono (fun e w' hh => out_of hown hm hh)
/-- A row of numbers that the call owns: its value, its cells. -/
theorem row_keys {w : World} {base : Nat} {v : Value} {ks : List Int} (h : w.ownsRow base 3 1 v ks.length (ks.map encZ)) :
    ∃ (Ak : Option Addr) (ck : Nat), v = .slice Ak ks.length ck ∧ ∀ j, j < ks.length → ∃ gk, Ak = some ⟨gk, 0, none⟩ ∧ base ≤ gk ∧ w.cell? ⟨gk, j, none⟩ = some (.int .i64 (ks.getD j 0)) := by
  rcases h.2 with ⟨e, h0⟩ | ⟨g, cap, cur, e, hb, hg, hn, hm, hs, ht⟩
  · exact ⟨none, 0, by rw [e, h0], fun j hj => by omega⟩
  · refine ⟨some ⟨g, 0, none⟩, cap, e, fun j hj => ⟨g, rfl, hb, ?_⟩⟩
    rw [E.blk_cell hg j]
    have h1 : (cur.toList.take (ks.length * 1))[j]? = (ks.map encZ)[j]? := by rw [ht]
    rw [List.getElem?_take_of_lt (by omega)] at h1
    rw [← Array.getElem?_toList, h1]
    simp [List.getD_eq_getElem?_getD, List.getElem?_eq_getElem hj]
theorem rising_length (b : Int) : ∀ (l : List Int) (a : Int), l.Pairwise (· < ·) → (∀ x ∈ l, a ≤ x ∧ x < b) → (l.length : Int) ≤ max 0 (b - a)
  | [], a, _, _ => by simp; omega
  | x :: l, a, h, hx => by
    obtain ⟨h1, h2⟩ := List.pairwise_cons.1 h
    have := hx x (by simp)
    have ih := rising_length b l (x + 1) h2 (fun y hy => ⟨by have := h1 y hy; omega, (hx y (by simp [hy])).2⟩)
    simp only [List.length_cons]
    omega
end Go.Proofs.Ytpameikbacnpcaa.T
