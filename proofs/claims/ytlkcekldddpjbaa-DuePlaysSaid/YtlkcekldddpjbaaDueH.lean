/- Heaps, in plain Lean. -/
import Derived.Test.YtlkcekldddpjbaaDueA
import Derived.Deep.RegionHeld3
import Derived.Deep.RegionLaw
import Derived.Deep.AppendLies
import Derived.RegionTactic
import Derived.ChangeAlike
import Derived.BigRegion
import Derived.Outline
import Derived.Deep.DeepCutAuto
import Derived.Maps.Keyed
import Derived.WideKeyEntry
namespace Go.Proofs.Ytlkcekldddpjbaa.Due
open Go.RowKit Go.Proofs.YtlkcekldddpjbaaW.PrintWords Go.Proofs.YtlkcekldddpjbaaW.PrintLast Go.Proofs.YtlkcekldddpjbaaW.PrintMore
open Go.MapKept (Stamped)
open Go.ChangeMaps (setBlock)
open Go.Maps (Keyed int_keyed keyOf_int_mk)
set_option linter.unusedVariables false
set_option linter.unusedSimpArgs false

/-- The item at place k (the zero item where there is none). -/
def it (L : List Item) (k : Nat) : Item := L[k]?.getD (0, 0)
theorem it_at {L : List Item} {k : Nat} (h : k < L.length) : L[k]? = some (it L k) := by unfold it; rw [List.getElem?_eq_getElem h]; rfl
/-- Two items change places. -/
def sw (L : List Item) (i j : Nat) : List Item := swapL L i j (it L i) (it L j)
theorem sw_len (L : List Item) (i j : Nat) : (sw L i j).length = L.length := by unfold sw swapL; simp
theorem it_sw {L : List Item} {i j : Nat} (hi : i < L.length) (hj : j < L.length) (k : Nat) : it (sw L i j) k = if k = j then it L i else if k = i then it L j else it L k := by
  unfold sw swapL it
  by_cases h1 : k = j
  · subst h1
    rw [if_pos rfl, List.getElem?_set_self (by simpa using hj)]
    rfl
  · rw [if_neg h1, List.getElem?_set_ne (by omega)]
    by_cases h2 : k = i
    · subst h2
      rw [if_pos rfl, List.getElem?_set_self hi]
      rfl
    · rw [if_neg h2, List.getElem?_set_ne (by omega)]
/-- The same items, in whatever order. -/
def Same (L M : List Item) : Prop := L.length = M.length ∧ ∀ x, x ∈ L ↔ x ∈ M
theorem Same.refl (L : List Item) : Same L L := ⟨rfl, fun _ => Iff.rfl⟩
theorem Same.trans {L M N : List Item} (h : Same L M) (k : Same M N) : Same L N := ⟨h.1.trans k.1, fun x => (h.2 x).trans (k.2 x)⟩
theorem mem_it {L : List Item} {x : Item} : x ∈ L ↔ ∃ k, k < L.length ∧ it L k = x := by
  constructor
  · intro h
    obtain ⟨k, hk, e⟩ := List.mem_iff_getElem.1 h
    exact ⟨k, hk, by unfold it; rw [List.getElem?_eq_getElem hk]; exact e⟩
  · rintro ⟨k, hk, rfl⟩
    have := it_at hk
    exact List.mem_of_getElem? this
theorem sw_same {L : List Item} {i j : Nat} (hi : i < L.length) (hj : j < L.length) : Same (sw L i j) L := by
  refine ⟨sw_len L i j, fun x => ?_⟩
  rw [mem_it, mem_it, sw_len]
  constructor
  · rintro ⟨k, hk, rfl⟩
    rw [it_sw hi hj]
    split
    · exact ⟨i, hi, rfl⟩
    · split
      · exact ⟨j, hj, rfl⟩
      · exact ⟨k, hk, rfl⟩
  · rintro ⟨k, hk, rfl⟩
    by_cases h1 : k = i
    · subst h1; exact ⟨j, hj, by rw [it_sw hi hj, if_pos rfl]⟩
    · by_cases h2 : k = j
      · subst h2; exact ⟨i, hi, by rw [it_sw hi hj, if_neg (by omega), if_pos rfl]⟩
      · exact ⟨k, hk, by rw [it_sw hi hj, if_neg h2, if_neg h1]⟩
theorem less_trans {a b c : Item} (h : lessB b a = false) (k : lessB c b = false) : lessB c a = false := by
  unfold lessB at *
  simp only [Bool.or_eq_false_iff, decide_eq_false_iff_not, Bool.and_eq_false_iff, beq_eq_false_iff_ne, ne_eq] at *
  omega
theorem less_not {a b : Item} (h : lessB a b = true) : lessB b a = false := by
  unfold lessB at *
  simp only [Bool.or_eq_false_iff, decide_eq_false_iff_not, Bool.and_eq_false_iff, beq_eq_false_iff_ne, ne_eq, Bool.or_eq_true, decide_eq_true_eq, Bool.and_eq_true, beq_iff_eq] at *
  omega
theorem less_self (a : Item) : lessB a a = false := by unfold lessB; simp
/-- The first n places are in the order of a heap. -/
def HeapTo (L : List Item) (n : Nat) : Prop := ∀ j, 0 < j → j < n → lessB (it L j) (it L ((j - 1) / 2)) = false
/-- .. but for j and what stands over it. -/
def UpI (L : List Item) (n j : Nat) : Prop := (∀ i, 0 < i → i < n → i ≠ j → lessB (it L i) (it L ((i - 1) / 2)) = false) ∧
  ∀ i, 0 < i → i < n → (i - 1) / 2 = j → 0 < j → lessB (it L i) (it L ((j - 1) / 2)) = false
theorem up_end {L : List Item} {n j : Nat} (h : UpI L n j) (e : j = 0 ∨ lessB (it L j) (it L ((j - 1) / 2)) = false) : HeapTo L n := fun i h0 hi => by
  by_cases hij : i = j
  · subst hij
    exact e.resolve_left (by omega)
  · exact h.1 i h0 hi hij
theorem up_step {L : List Item} {n j : Nat} (h : UpI L n j) (hn : n ≤ L.length) (hj : j < n) (h0 : 0 < j) (hl : lessB (it L j) (it L ((j - 1) / 2)) = true) : UpI (sw L ((j - 1) / 2) j) n ((j - 1) / 2) := by
  have hp : (j - 1) / 2 < j := by omega
  have q := it_sw (L := L) (i := (j - 1) / 2) (j := j) (by omega) (by omega)
  refine ⟨fun i hi0 hi hne => ?_, fun i hi0 hi hpar hp0 => ?_⟩
  · rw [q i, q ((i - 1) / 2)]
    by_cases h1 : i = j
    · subst h1
      rw [if_pos rfl, if_neg (by omega), if_pos rfl]
      exact less_not hl
    · rw [if_neg h1, if_neg hne]
      by_cases h2 : (i - 1) / 2 = j
      · rw [if_pos h2]
        exact h.2 i hi0 hi h2 h0
      · rw [if_neg h2]
        by_cases h3 : (i - 1) / 2 = (j - 1) / 2
        · rw [if_pos h3]
          have := h.1 i hi0 hi h1
          rw [h3] at this
          exact less_trans (less_not hl) this
        · rw [if_neg h3]
          exact h.1 i hi0 hi h1
  · rw [q i, q (((j - 1) / 2 - 1) / 2), if_neg (by omega : ((j - 1) / 2 - 1) / 2 ≠ j), if_neg (by omega : ((j - 1) / 2 - 1) / 2 ≠ (j - 1) / 2)]
    have hpp := h.1 ((j - 1) / 2) hp0 (by omega) (by omega)
    by_cases h1 : i = j
    · rw [if_pos h1]
      exact hpp
    · rw [if_neg h1, if_neg (by omega)]
      have := h.1 i hi0 hi h1
      rw [hpar] at this
      exact less_trans hpp this
/-- What down holds on its way. -/
def DownI (L : List Item) (n i0 i : Nat) : Prop := (∀ j, 0 < j → j < n → (j - 1) / 2 ≠ i → (j = i0 → i ≠ i0) → lessB (it L j) (it L ((j - 1) / 2)) = false) ∧
  ∀ j, 0 < j → j < n → (j - 1) / 2 = i → 0 < i → lessB (it L j) (it L ((i - 1) / 2)) = false
theorem down_end {L : List Item} {n i0 i : Nat} (h : DownI L n i0 i) (e : ∀ j, 0 < j → j < n → (j - 1) / 2 = i → lessB (it L j) (it L i) = false) : if i0 < i then HeapTo L n else i = i0 → UpI L n i0 := by
  have all : ∀ j, 0 < j → j < n → (j = i0 → i ≠ i0) → lessB (it L j) (it L ((j - 1) / 2)) = false := fun j h0 hj hn => by
    by_cases hp : (j - 1) / 2 = i
    · rw [hp]; exact e j h0 hj hp
    · exact h.1 j h0 hj hp hn
  split
  · exact fun j h0 hj => all j h0 hj (fun _ => by omega)
  · rintro rfl
    exact ⟨fun j h0 hj hne => all j h0 hj (fun hh => absurd hh hne), fun j h0 hj hp hi => h.2 j h0 hj hp hi⟩
theorem down_step {L : List Item} {n i0 i c : Nat} (h : DownI L n i0 i) (hn : n ≤ L.length) (hi0 : i0 ≤ i) (hc : c < n) (hc0 : 0 < c) (hp : (c - 1) / 2 = i) (hl : lessB (it L c) (it L i) = true)
    (hmin : ∀ j, 0 < j → j < n → (j - 1) / 2 = i → lessB (it L j) (it L c) = false) : DownI (sw L i c) n i0 c := by
  have q := it_sw (L := L) (i := i) (j := c) (by omega) (by omega)
  refine ⟨fun j h0 hj hpc hne => ?_, fun j h0 hj hpj hcp => ?_⟩
  · rw [q j, q ((j - 1) / 2), if_neg hpc]
    by_cases h1 : j = c
    · subst h1
      rw [if_pos rfl, if_pos hp]
      exact less_not hl
    · rw [if_neg h1]
      by_cases h2 : j = i
      · subst h2
        rw [if_pos rfl, if_neg (by omega)]
        exact h.2 c hc0 hc hp h0
      · rw [if_neg h2]
        by_cases h3 : (j - 1) / 2 = i
        · rw [if_pos h3]
          exact hmin j h0 hj h3
        · rw [if_neg h3]
          exact h.1 j h0 hj h3 (fun hh => by omega)
  · rw [q j, q ((c - 1) / 2), if_neg (by omega), if_neg (by omega), if_neg (by omega), if_pos hp]
    have := h.1 j h0 hj (by omega) (fun hh => by omega)
    rw [hpj] at this
    exact this

end Go.Proofs.Ytlkcekldddpjbaa.Due
