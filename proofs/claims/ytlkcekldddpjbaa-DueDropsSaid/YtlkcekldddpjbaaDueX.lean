/- Tables, more of them. -/
import Derived.Test.YtlkcekldddpjbaaDueV
import Derived.Deep.RegionHeld3
import Derived.Deep.RegionLaw
import Derived.Deep.AppendLies
import Derived.RegionTactic
import Derived.ChangeAlike
import Derived.BigRegion
import Derived.Outline
import Derived.Deep.DeepCutAuto
import Derived.Maps.Keyed
import Derived.WideKeyEntry
import Derived.Deep.LoopGhost
import Derived.StillTailTactics
namespace Go.Proofs.Ytlkcekldddpjbaa.Due
open Go.RowKit Go.Proofs.YtlkcekldddpjbaaW.PrintWords Go.Proofs.YtlkcekldddpjbaaW.PrintLast Go.Proofs.YtlkcekldddpjbaaW.PrintMore
open Go.MapKept (Stamped)
open Go.ChangeMaps (setBlock)
open Go.Maps (Keyed int_keyed keyOf_int_mk)
set_option linter.unusedVariables false
set_option linter.unusedSimpArgs false

theorem mem_put {M : List Item} {k t : Int} {x : Item} : x ∈ putM M k t ↔ (x ∈ M ∧ x.1 ≠ k) ∨ x = (k, t) := by
  unfold putM
  rw [List.mem_append, mem_drop, List.mem_singleton]
/-- The last time of a key. -/
def lastT : List Item → Int → Option Int
  | [], _ => none
  | p :: Z, k => match lastT Z k with
    | some t => some t
    | none => if p.1 = k then some p.2 else none
theorem mem_puts : ∀ (Z M : List Item) (x : Item), x ∈ puts Z M ↔ lastT Z x.1 = some x.2 ∨ (lastT Z x.1 = none ∧ x ∈ M)
  | [], M, x => by simp [puts, lastT]
  | p :: Z, M, x => by
    show x ∈ puts Z (putM M p.1 p.2) ↔ _
    rw [mem_puts Z, mem_put]
    cases hl : lastT Z x.1 with
    | some t => simp [lastT, hl]
    | none =>
      by_cases hp : p.1 = x.1
      · simp only [lastT, hl, if_pos hp, Option.some.injEq, reduceCtorEq, false_and, or_false, false_or, true_and]
        constructor
        · rintro (⟨_, h⟩ | h)
          · exact absurd hp.symm h
          · rw [h]
        · intro h
          exact .inr (Prod.ext hp.symm h.symm)
      · have e : ¬ x = (p.1, p.2) := fun h => hp (by rw [h])
        simp [lastT, hl, hp, e]
        intro _ h
        exact hp h.symm
theorem puts_nodup : ∀ (Z M : List Item), (M.map Prod.fst).Nodup → ((puts Z M).map Prod.fst).Nodup
  | [], M, h => h
  | p :: Z, M, h => puts_nodup Z _ (put_nodup h p.1 p.2)
theorem nodup_of {M : List Item} (h : (M.map Prod.fst).Nodup) : M.Nodup := by
  exact List.Pairwise.imp (fun {a b} hab e => hab (by rw [e])) (List.pairwise_map.1 h)
theorem same_len {M N : List Item} (hM : (M.map Prod.fst).Nodup) (hN : (N.map Prod.fst).Nodup) (h : ∀ x, x ∈ M ↔ x ∈ N) : M.length = N.length :=
  ((List.perm_ext_iff_of_nodup (nodup_of hM) (nodup_of hN)).2 h).length_eq
/-- One is taken, if there is one that is due. -/
theorem take_some {M : List Item} {now : Int} {p : Item} (hb : best M = some p) (ht : p.2 ≤ now) : takeM M now = ((p.1, true), dropM M p.1) := by
  unfold takeM
  rw [hb]
  simp only
  rw [if_neg (by omega)]
theorem take_none {M : List Item} {now : Int} (h : ∀ q ∈ M, now < q.2) : takeM M now = ((0, false), M) := by
  unfold takeM
  cases hb : best M with
  | none => rfl
  | some p =>
    simp only
    rw [if_pos (h p (best_spec hb).1)]
theorem take_all {M : List Item} {now : Int} (hn : (M.map Prod.fst).Nodup) (h : ∀ q ∈ M, q.2 ≤ now) : (takeM M now).2.length + 1 = M.length ∨ (M = [] ∧ (takeM M now).2 = []) := by
  cases hb : best M with
  | none => right; have := best_none hb; subst this; exact ⟨rfl, rfl⟩
  | some p =>
    left
    have hp := (best_spec hb).1
    rw [take_some hb (h p hp)]
    exact drop_one hn ⟨p, hp, rfl⟩
theorem take_nodup {M : List Item} (now : Int) (hn : (M.map Prod.fst).Nodup) : (((takeM M now).2).map Prod.fst).Nodup := by
  unfold takeM
  cases best M with
  | none => exact hn
  | some p =>
    simp only
    split
    · exact hn
    · exact drop_nodup hn _
theorem take_sub {M : List Item} {now : Int} {x : Item} (h : x ∈ (takeM M now).2) : x ∈ M := by
  unfold takeM at h
  cases hb : best M with
  | none => rw [hb] at h; exact h
  | some p =>
    rw [hb] at h
    simp only at h
    split at h
    · exact h
    · exact (mem_drop.1 h).1
theorem both_get {l0 l1 : List Int} {r : Nat} (h0 : r < l0.length) (h1 : r < l1.length) : (both l0 l1)[r]? = some (rd l0 r, rd l1 r) := by
  unfold both rd
  rw [List.getElem?_zip_eq_some]
  simp [h0, h1]
theorem both_has {l0 l1 : List Int} {r n : Nat} (h0 : r < l0.length) (h1 : r < l1.length) (hn : r < n) : ((both l0 l1).take n).any (fun p => p.1 == rd l0 r) = true := by
  rw [List.any_eq_true]
  refine ⟨(rd l0 r, rd l1 r), ?_, by simp⟩
  apply List.mem_of_getElem? (i := r)
  rw [List.getElem?_take_of_lt hn, both_get h0 h1]
theorem both_len {l0 l1 : List Int} {n : Nat} (h0 : n ≤ l0.length) (h1 : n ≤ l1.length) : ((both l0 l1).take n).length = n := by
  unfold both
  rw [List.length_take, List.length_zip]
  omega

end Go.Proofs.Ytlkcekldddpjbaa.Due
