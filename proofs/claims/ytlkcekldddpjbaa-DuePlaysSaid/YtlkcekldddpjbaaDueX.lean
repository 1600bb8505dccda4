/- Tables, more of them. -/
import Derived.Test.YtlkcekldddpjbaaDueV
import Derived.Deep.RegionHeld3
import Derived.Deep.RegionLaw
import Derived.Deep.AppendLies
import Derived.RegionTactic
import Derived.ChangeAlike
import Derived.BigRegion
import Derived.Outline
import Derived.Deep.DeepCutAuto
import Derived.Maps.Keyed
import Derived.WideKeyEntry
import Derived.Deep.LoopGhost
import Derived.StillTailTactics
namespace Go.Proofs.Ytlkcekldddpjbaa.Due
open Go.RowKit Go.Proofs.YtlkcekldddpjbaaW.PrintWords Go.Proofs.YtlkcekldddpjbaaW.PrintLast Go.Proofs.YtlkcekldddpjbaaW.PrintMore
open Go.MapKept (Stamped)
open Go.ChangeMaps (setBlock)
open Go.Maps (Keyed int_keyed keyOf_int_mk)
set_option linter.unusedVariables false
set_option linter.unusedSimpArgs false

theorem mem_put {M : List Item} {k t : Int} {x : Item} : x ∈ putM M k t ↔ (x ∈ M ∧ x.1 ≠ k) ∨ x = (k, t) := by
  unfold putM
  rw [List.mem_append, mem_drop, List.mem_singleton]
/-- The last time of a key. -/
def lastT : List Item → Int → Option Int
  | [], _ => none
  | p :: Z, k => match lastT Z k with
    | some t => some t
    | none => if p.1 = k then some p.2 else none
theorem mem_puts : ∀ (Z M : List Item) (x : Item), x ∈ puts Z M ↔ lastT Z x.1 = some x.2 ∨ (lastT Z x.1 = none ∧ x ∈ M)
  | [], M, x => by simp [puts, lastT]
  | p :: Z, M, x => by
    show x ∈ puts Z (putM M p.1 p.2) ↔ _
    rw [mem_puts Z, mem_put]
    cases hl : lastT Z x.1 with
    | some t => simp [lastT, hl]
    | none =>
      by_cases hp : p.1 = x.1
      · simp only [lastT, hl, if_pos hp, Option.some.injEq, reduceCtorEq, false_and, or_false, false_or, true_and]
        constructor
        · rintro (⟨_, h⟩ | h)
          · exact absurd hp.symm h
          · rw [h]
        · intro h
          exact .inr (Prod.ext hp.symm h.symm)
      · have e : ¬ x = (p.1, p.2) := fun h => hp (by rw [h])
        simp [lastT, hl, hp, e]
        intro _ h
        exact hp h.symm
theorem puts_nodup : ∀ (Z M : List Item), (M.map Prod.fst).Nodup → ((puts Z M).map Prod.fst).Nodup
  | [], M, h => h
  | p :: Z, M, h => puts_nodup Z _ (put_nodup h p.1 p.2)
theorem nodup_of {M : List Item} (h : (M.map Prod.fst).Nodup) : M.Nodup := by
  exact List.Pairwise.imp (fun {a b} hab e => hab (by rw [e])) (List.pairwise_map.1 h)
theorem same_len {M N : List Item} (hM : (M.map Prod.fst).Nodup) (hN : (N.map Prod.fst).Nodup) (h : ∀ x, x ∈ M ↔ x ∈ N) : M.length = N.length :=
  ((List.perm_ext_iff_of_nodup (nodup_of hM) (nodup_of hN)).2 h).length_eq
/-- One is taken, if there is one that is due. -/
theorem take_some {M : List Item} {now : Int} {p : Item} (hb : best M = some p) (ht : p.2 ≤ now) : takeM M now = ((p.1, true), dropM M p.1) := by
  unfold takeM
  rw [hb]
  simp only
  rw [if_neg (by omega)]
theorem take_none {M : List Item} {now : Int} (h : ∀ q ∈ M, now < q.2) : takeM M now = ((0, false), M) := by
  unfold takeM
  cases hb : best M with
  | none => rfl
  | some p =>
    simp only
    rw [if_pos (h p (best_spec hb).1)]
theorem take_all {M : List Item} {now : Int} (hn : (M.map Prod.fst).Nodup) (h : ∀ q ∈ M, q.2 ≤ now) : (takeM M now).2.length + 1 = M.length ∨ (M = [] ∧ (takeM M now).2 = []) := by
  cases hb : best M with
  | none => right; have := best_none hb; subst this; exact ⟨rfl, rfl⟩
  | some p =>
    left
    have hp := (best_spec hb).1
    rw [take_some hb (h p hp)]
    exact drop_one hn ⟨p, hp, rfl⟩
theorem take_nodup {M : List Item} (now : Int) (hn : (M.map Prod.fst).Nodup) : (((takeM M now).2).map Prod.fst).Nodup := by
  unfold takeM
  cases best M with
  | none => exact hn
  | some p =>
    simp only
    split
    · exact hn
    · exact drop_nodup hn _
theorem take_sub {M : List Item} {now : Int} {x : Item} (h : x ∈ (takeM M now).2) : x ∈ M := by
  unfold takeM at h
  cases hb : best M with
  | none => rw [hb] at h; exact h
  | some p =>
    rw [hb] at h
    simp only at h
    split at h
    · exact h
    · exact (mem_drop.1 h).1
theorem both_get {l0 l1 : List Int} {r : Nat} (h0 : r < l0.length) (h1 : r < l1.length) : (both l0 l1)[r]? = some (rd l0 r, rd l1 r) := by
  unfold both rd
  rw [List.getElem?_zip_eq_some]
  simp [h0, h1]
theorem both_has {l0 l1 : List Int} {r n : Nat} (h0 : r < l0.length) (h1 : r < l1.length) (hn : r < n) : ((both l0 l1).take n).any (fun p => p.1 == rd l0 r) = true := by
  rw [List.any_eq_true]
  refine ⟨(rd l0 r, rd l1 r), ?_, by simp⟩
  apply List.mem_of_getElem? (i := r)
  rw [List.getElem?_take_of_lt hn, both_get h0 h1]
theorem both_len {l0 l1 : List Int} {n : Nat} (h0 : n ≤ l0.length) (h1 : n ≤ l1.length) : ((both l0 l1).take n).length = n := by
  unfold both
  rw [List.length_take, List.length_zip]
  omega
theorem lastT_none {Z : List Item} {k : Int} : lastT Z k = none ↔ ∀ p ∈ Z, p.1 ≠ k := by
  induction Z with
  | nil => simp [lastT]
  | cons p Z ih =>
    cases hl : lastT Z k with
    | some t =>
      have : ¬ (∀ p ∈ Z, p.1 ≠ k) := fun h => by rw [ih.2 h] at hl; cases hl
      simp only [lastT, hl, reduceCtorEq, false_iff]
      exact fun h => this (fun q hq => h q (List.mem_cons_of_mem _ hq))
    | none =>
      simp only [lastT, hl]
      by_cases hp : p.1 = k
      · rw [if_pos hp]
        simp [hp]
      · rw [if_neg hp]
        simp only [true_iff]
        intro q hq
        rcases List.mem_cons.1 hq with rfl | hq
        · exact hp
        · exact ih.1 hl q hq
theorem both_drop {l0 l1 : List Int} {N i : Nat} (h0 : N ≤ l0.length) (h1 : N ≤ l1.length) (hi : i < N) : ((both l0 l1).take N).drop i = (rd l0 i, rd l1 i) :: ((both l0 l1).take N).drop (i + 1) := by
  have hl := both_len h0 h1
  rw [List.drop_eq_getElem_cons (by omega : i < ((both l0 l1).take N).length)]
  congr 1
  have h := both_get (l0 := l0) (l1 := l1) (r := i) (by omega) (by omega)
  rw [← List.getElem?_take_of_lt hi] at h
  exact (List.getElem?_eq_some_iff.1 h).2
/-- Is no key between i and j the i-th one? -/
def alone (l0 : List Int) (i j : Nat) : Bool := decide (∀ m, m < j → i < m → rd l0 m ≠ rd l0 i)
theorem alone_first (l0 : List Int) (i : Nat) : alone l0 i (i + 1) = true := by
  unfold alone
  exact decide_eq_true (fun m h1 h2 => by omega)
theorem alone_next {l0 : List Int} {i j : Nat} (h : i < j) : alone l0 i (j + 1) = (alone l0 i j && (rd l0 j != rd l0 i)) := by
  unfold alone
  rw [Bool.eq_iff_iff, decide_eq_true_iff, Bool.and_eq_true, decide_eq_true_iff, bne_iff_ne]
  constructor
  · exact fun h2 => ⟨fun m hm hi => h2 m (by omega) hi, h2 j (by omega) h⟩
  · rintro ⟨h2, h3⟩ m hm hi
    rcases Nat.lt_succ_iff_lt_or_eq.1 hm with hlt | rfl
    · exact h2 m hlt hi
    · exact h3
theorem mem_drop_both {l0 l1 : List Int} {N i : Nat} (h0 : N ≤ l0.length) (h1 : N ≤ l1.length) {x : Item} : x ∈ ((both l0 l1).take N).drop i ↔ ∃ m, i ≤ m ∧ m < N ∧ x = (rd l0 m, rd l1 m) := by
  have hl := both_len h0 h1
  rw [List.mem_iff_getElem?]
  constructor
  · rintro ⟨j, hj⟩
    have hlt := (List.getElem?_eq_some_iff.1 hj).1
    rw [List.length_drop] at hlt
    rw [List.getElem?_drop, List.getElem?_take_of_lt (by omega), both_get (by omega) (by omega)] at hj
    exact ⟨i + j, by omega, by omega, (Option.some.inj hj).symm⟩
  · rintro ⟨m, h2, h3, rfl⟩
    refine ⟨m - i, ?_⟩
    rw [List.getElem?_drop, List.getElem?_take_of_lt (by omega), show i + (m - i) = m from by omega, both_get (by omega) (by omega)]
theorem alone_last {l0 l1 : List Int} {N i : Nat} (h0 : N ≤ l0.length) (h1 : N ≤ l1.length) : alone l0 i N = true ↔ lastT (((both l0 l1).take N).drop (i + 1)) (rd l0 i) = none := by
  rw [lastT_none]
  unfold alone
  rw [decide_eq_true_iff]
  constructor
  · intro h p hp
    obtain ⟨m, h2, h3, rfl⟩ := (mem_drop_both h0 h1).1 hp
    exact h m h3 (by omega)
  · intro h m hm hi
    exact h _ ((mem_drop_both h0 h1).2 ⟨m, by omega, hm, rfl⟩)
/-- What the second Due of DueLast holds: of the keys from the i-th on the last times, and the one key. -/
def BackOf (Z : List Item) (i : Nat) (k t : Int) (M : List Item) : Prop := ∀ x, x ∈ M ↔ x = (k, t) ∨ (x.1 ≠ k ∧ lastT (Z.drop i) x.1 = some x.2)
theorem back_first (Z : List Item) (k t : Int) : BackOf Z Z.length k t (putM [] k t) := fun x => by
  rw [mem_put, List.drop_length]
  simp [lastT]
theorem back_put {l0 l1 : List Int} {N i : Nat} {k t : Int} {M : List Item} (h0 : N ≤ l0.length) (h1 : N ≤ l1.length) (hi : i < N) (h : BackOf ((both l0 l1).take N) (i + 1) k t M) (hk : rd l0 i ≠ k) (ha : alone l0 i N = true) :
    BackOf ((both l0 l1).take N) i k t (putM M (rd l0 i) (rd l1 i)) := fun x => by
  have hn := (alone_last h0 h1).1 ha
  rw [mem_put, h x, both_drop h0 h1 hi]
  by_cases hx : x.1 = rd l0 i
  · have e : lastT ((rd l0 i, rd l1 i) :: ((both l0 l1).take N).drop (i + 1)) x.1 = some (rd l1 i) := by
      rw [hx]
      simp [lastT, hn]
    rw [e]
    constructor
    · rintro (⟨_, h⟩ | h)
      · exact absurd hx h
      · right
        rw [h]
        exact ⟨hk, rfl⟩
    · rintro (h | ⟨_, h⟩)
      · exact absurd (by rw [← hx, h]) hk
      · right
        exact Prod.ext hx (Option.some.inj h).symm
  · have e : lastT ((rd l0 i, rd l1 i) :: ((both l0 l1).take N).drop (i + 1)) x.1 = lastT (((both l0 l1).take N).drop (i + 1)) x.1 := by
      simp only [lastT]
      rw [if_neg (fun h => hx h.symm)]
      split <;> simp_all
    rw [e]
    constructor
    · rintro (⟨h, _⟩ | h)
      · exact h
      · exact absurd (by rw [h]) hx
    · exact fun h => .inl ⟨h, hx⟩
theorem back_skip {l0 l1 : List Int} {N i : Nat} {k t : Int} {M : List Item} (h0 : N ≤ l0.length) (h1 : N ≤ l1.length) (hi : i < N) (h : BackOf ((both l0 l1).take N) (i + 1) k t M) (hk : rd l0 i = k ∨ alone l0 i N = false) :
    BackOf ((both l0 l1).take N) i k t M := fun x => by
  rw [h x, both_drop h0 h1 hi]
  by_cases hx : x.1 = rd l0 i
  · rcases hk with hk | hk
    · simp [hx, hk]
    · cases hl : lastT (((both l0 l1).take N).drop (i + 1)) (rd l0 i) with
      | none => rw [(alone_last h0 h1).2 hl] at hk; cases hk
      | some u => rw [hx, hl]; simp [lastT, hl]
  · have e : lastT ((rd l0 i, rd l1 i) :: ((both l0 l1).take N).drop (i + 1)) x.1 = lastT (((both l0 l1).take N).drop (i + 1)) x.1 := by
      simp only [lastT]
      rw [if_neg (fun h => hx h.symm)]
      split <;> simp_all
    rw [e]
theorem back_same {Z : List Item} {k t : Int} {M : List Item} (h : BackOf Z 0 k t M) (x : Item) : x ∈ putM (puts Z []) k t ↔ x ∈ M := by
  rw [h x, mem_put, mem_puts, List.drop_zero]
  simp only [List.not_mem_nil, and_false, or_false]
  constructor
  · rintro (⟨h1, h2⟩ | h)
    · exact .inr ⟨h2, h1⟩
    · exact .inl h
  · rintro (h | ⟨h1, h2⟩)
    · exact .inr h
    · exact .inl ⟨h2, h1⟩
theorem lastT_mem {Z : List Item} {k t : Int} (h : lastT Z k = some t) : (k, t) ∈ Z := by
  induction Z with
  | nil => simp [lastT] at h
  | cons p Z ih =>
    cases hl : lastT Z k with
    | some u =>
      simp only [lastT, hl, Option.some.injEq] at h
      subst h
      exact List.mem_cons_of_mem _ (ih hl)
    | none =>
      simp only [lastT, hl] at h
      by_cases hp : p.1 = k
      · rw [if_pos hp] at h
        have : p = (k, t) := Prod.ext hp (Option.some.inj h)
        rw [this]
        exact List.mem_cons_self
      · rw [if_neg hp] at h
        cases h
theorem puts_mem {Z : List Item} {x : Item} (h : x ∈ puts Z []) : x ∈ Z := by
  rcases (mem_puts Z [] x).1 h with h | ⟨_, h⟩
  · exact lastT_mem h
  · cases h
theorem mem_both {l0 l1 : List Int} {N : Nat} (h0 : N ≤ l0.length) (h1 : N ≤ l1.length) {x : Item} (h : x ∈ (both l0 l1).take N) : ∃ m, m < N ∧ x = (rd l0 m, rd l1 m) := by
  have h' : x ∈ ((both l0 l1).take N).drop 0 := by rw [List.drop_zero]; exact h
  obtain ⟨m, _, h2, h3⟩ := (mem_drop_both h0 h1).1 h'
  exact ⟨m, h2, h3⟩
theorem put_len_has {M : List Item} (hM : (M.map Prod.fst).Nodup) {k : Int} (t : Int) (h : hasM M k = true) : (putM M k t).length = M.length := by
  unfold putM
  rw [List.length_append, List.length_singleton]
  exact drop_one hM (has_yes h)

end Go.Proofs.Ytlkcekldddpjbaa.Due
