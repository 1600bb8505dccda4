/- Tables, in plain Lean. -/
import Derived.Test.YtlkcekldddpjbaaDueT
import Derived.Deep.RegionHeld3
import Derived.Deep.RegionLaw
import Derived.Deep.AppendLies
import Derived.RegionTactic
import Derived.ChangeAlike
import Derived.BigRegion
import Derived.Outline
import Derived.Deep.DeepCutAuto
import Derived.Maps.Keyed
import Derived.WideKeyEntry
import Derived.Deep.LoopGhost
import Derived.StillTailTactics
namespace Go.Proofs.Ytlkcekldddpjbaa.Due
open Go.RowKit Go.Proofs.YtlkcekldddpjbaaW.PrintWords Go.Proofs.YtlkcekldddpjbaaW.PrintLast Go.Proofs.YtlkcekldddpjbaaW.PrintMore
open Go.MapKept (Stamped)
open Go.ChangeMaps (setBlock)
open Go.Maps (Keyed int_keyed keyOf_int_mk)
set_option linter.unusedVariables false
set_option linter.unusedSimpArgs false

/-- What many puts leave. -/
def puts (Z : List Item) (M : List Item) : List Item := Z.foldl (fun M p => putM M p.1 p.2) M
theorem puts_snoc (Z : List Item) (p : Item) (M : List Item) : puts (Z ++ [p]) M = putM (puts Z M) p.1 p.2 := by unfold puts; rw [List.foldl_append]; rfl
theorem put_len (M : List Item) (k t : Int) : (putM M k t).length ≤ M.length + 1 := by unfold putM; rw [List.length_append]; have := drop_len M k; simp; omega
theorem puts_len : ∀ (Z M : List Item), (puts Z M).length ≤ M.length + Z.length
  | [], M => by simp [puts]
  | p :: Z, M => by
    have := puts_len Z (putM M p.1 p.2)
    have := put_len M p.1 p.2
    show (puts Z (putM M p.1 p.2)).length ≤ _
    rw [List.length_cons]
    omega
theorem drop_drop (M : List Item) (j k : Int) : dropM (dropM M j) k = dropM (dropM M k) j := by
  unfold dropM
  rw [List.filter_filter, List.filter_filter]
  congr 1
  funext p
  exact Bool.and_comm _ _
theorem drop_twice (M : List Item) (k : Int) : dropM (dropM M k) k = dropM M k := by
  unfold dropM
  rw [List.filter_filter]
  congr 1
  funext p
  exact Bool.and_self _
theorem drop_append (M N : List Item) (k : Int) : dropM (M ++ N) k = dropM M k ++ dropM N k := by unfold dropM; exact List.filter_append _ _
theorem drop_put_same (M : List Item) (k t : Int) : dropM (putM M k t) k = dropM M k := by
  unfold putM
  rw [drop_append, drop_twice]
  have : dropM [(k, t)] k = [] := by unfold dropM; simp
  rw [this, List.append_nil]
theorem drop_put_other (M : List Item) {j k : Int} (t : Int) (h : j ≠ k) : dropM (putM M j t) k = putM (dropM M k) j t := by
  unfold putM
  rw [drop_append, drop_drop]
  have : dropM [(j, t)] k = [(j, t)] := by unfold dropM; simp [h]
  rw [this]
/-- A key that goes may as well never have come. -/
theorem drop_puts (k : Int) : ∀ (Z M : List Item), dropM (puts Z M) k = puts (Z.filter fun p => !(p.1 == k)) (dropM M k)
  | [], M => rfl
  | p :: Z, M => by
    show dropM (puts Z (putM M p.1 p.2)) k = _
    rw [drop_puts k Z]
    by_cases h : p.1 = k
    · rw [List.filter_cons_of_neg (by simp [h])]
      subst h
      rw [drop_put_same]
    · rw [List.filter_cons_of_pos (by simp [h]), drop_put_other _ _ h]
      rfl
theorem has_put (M : List Item) (j t k : Int) : hasM (putM M j t) k = (hasM M k || j == k) := by
  unfold hasM putM
  rw [List.any_append]
  by_cases h : j = k
  · subst h; simp
  · have : (dropM M j).any (fun p => p.1 == k) = M.any (fun p => p.1 == k) := by
      rw [Bool.eq_iff_iff, List.any_eq_true, List.any_eq_true]
      constructor
      · rintro ⟨p, hp, e⟩
        exact ⟨p, (mem_drop.1 hp).1, e⟩
      · rintro ⟨p, hp, e⟩
        have e' : p.1 = k := by simpa using e
        exact ⟨p, mem_drop.2 ⟨hp, by rw [e']; exact fun h' => h h'.symm⟩, e⟩
    rw [this]
    simp
theorem has_puts (k : Int) : ∀ (Z M : List Item), hasM (puts Z M) k = (hasM M k || Z.any fun p => p.1 == k)
  | [], M => by simp [puts]
  | p :: Z, M => by
    show hasM (puts Z (putM M p.1 p.2)) k = _
    rw [has_puts k Z, has_put, List.any_cons, Bool.or_assoc]
theorem has_drop (M : List Item) (k : Int) : hasM (dropM M k) k = false := by
  cases h : hasM (dropM M k) k with
  | false => rfl
  | true =>
    obtain ⟨p, hp, e⟩ := has_yes h
    exact absurd e (mem_drop.1 hp).2
/-- The items of two rows of numbers. -/
def both (l0 l1 : List Int) : List Item := l0.zip l1
theorem both_at {l0 l1 : List Int} {i : Nat} (h0 : i < l0.length) (h1 : i < l1.length) : (both l0 l1).take (i + 1) = (both l0 l1).take i ++ [(rd l0 i, rd l1 i)] := by
  have hl : i < (both l0 l1).length := by unfold both; rw [List.length_zip]; omega
  rw [List.take_add_one, List.getElem?_eq_getElem hl]
  congr 1
  unfold both rd
  simp [h0, h1]
  exact List.getElem_zip
theorem take_same {M N : List Item} (h : ∀ x, x ∈ M ↔ x ∈ N) (now : Int) : (takeM M now).1 = (takeM N now).1 ∧ ∀ x, x ∈ (takeM M now).2 ↔ x ∈ (takeM N now).2 := by
  have hb := best_same h
  unfold takeM
  rw [hb]
  cases best N with
  | none => exact ⟨rfl, h⟩
  | some p =>
    simp only
    split
    · exact ⟨rfl, h⟩
    · exact ⟨rfl, fun x => by rw [mem_drop, mem_drop, h x]⟩
theorem take_len (M : List Item) (now : Int) : (takeM M now).2.length ≤ M.length := by
  unfold takeM
  cases best M with
  | none => exact Nat.le_refl _
  | some p =>
    simp only
    split
    · exact Nat.le_refl _
    · exact drop_len _ _

end Go.Proofs.Ytlkcekldddpjbaa.Due
