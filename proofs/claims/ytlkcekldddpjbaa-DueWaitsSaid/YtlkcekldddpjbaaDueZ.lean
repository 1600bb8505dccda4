/- What timeOf and many tell. -/
import Derived.Test.YtlkcekldddpjbaaDueY
import Derived.Test.YtlkcekldddpjbaaPDueOrderx1
import Derived.Deep.RegionHeld3
import Derived.Deep.RegionLaw
import Derived.Deep.AppendLies
import Derived.RegionTactic
import Derived.ChangeAlike
import Derived.BigRegion
import Derived.Outline
import Derived.Deep.DeepCutAuto
import Derived.Maps.Keyed
import Derived.WideKeyEntry
import Derived.Deep.LoopGhost
import Derived.StillTailTactics
namespace Go.Proofs.Ytlkcekldddpjbaa.Due
open Go.RowKit Go.Proofs.YtlkcekldddpjbaaW.PrintWords Go.Proofs.YtlkcekldddpjbaaW.PrintLast Go.Proofs.YtlkcekldddpjbaaW.PrintMore
open Go.MapKept (Stamped)
open Go.ChangeMaps (setBlock)
open Go.Maps (Keyed int_keyed keyOf_int_mk)
set_option linter.unusedVariables false
set_option linter.unusedSimpArgs false

open Go.Proofs.Ytlkcekldddpjbaa.PDuePlays
open Go.Proofs.Ytlkcekldddpjbaa.PDueOrder
theorem lastT_append (A B : List Item) (k : Int) : lastT (A ++ B) k = match lastT B k with | some t => some t | none => lastT A k := by
  induction A with
  | nil => simp only [List.nil_append, lastT]; cases lastT B k <;> rfl
  | cons p A ih =>
    rw [List.cons_append]
    simp only [lastT]
    rw [ih]
    cases lastT B k <;> rfl
theorem lastT_drop {Z : List Item} {j : Nat} {k t : Int} (h : lastT (Z.drop j) k = some t) : lastT Z k = some t := by
  rw [← List.take_append_drop j Z, lastT_append, h]
theorem rd_take {l : List Int} {N j : Nat} (h : j < N) : rd (l.take N) j = rd l j := by
  unfold rd
  simp [List.getD_eq_getElem?_getD, List.getElem?_take_of_lt h]
/-- timeOf finds the last time of a key. -/
theorem timeOf_found {l0 l1 : List Int} {N : Nat} (h0 : N ≤ l0.length) (h1 : N ≤ l1.length) (hN : N ≤ 100) {key t : Int} (ht : lastT ((both l0 l1).take N) key = some t) :
    ∀ j : Nat, j ≤ N → lastT (((both l0 l1).take N).drop j) key = none → postroomlaw15_timeOf.l0 (j + 1) (l0.take N) l1 key ((j : Int) - 1) = some (t, true)
  | 0, _, h => by rw [List.drop_zero, ht] at h; cases h
  | j + 1, hj, h => by
    have e : ((j + 1 : Nat) : Int) - 1 = (j : Int) := by omega
    rw [e]
    have hlen : (l0.take N).length = N := by rw [List.length_take]; omega
    have IH := timeOf_found h0 h1 hN ht j (by omega)
    generalize j + 1 = f at IH ⊢
    simp only [postroomlaw15_timeOf.l0, hlen]
    rw [if_pos (by omega), if_pos (by omega), if_pos (by omega), rd_take (by omega)]
    have hd := both_drop h0 h1 (i := j) (by omega)
    by_cases hk : rd l0 j = key
    · rw [if_pos hk, if_pos (by omega)]
      have e2 : lastT (((both l0 l1).take N).drop j) key = some (rd l1 j) := by rw [hd]; simp [lastT, h, hk]
      rw [lastT_drop e2] at ht
      rw [Option.some.inj ht]
    · rw [if_neg hk]
      have e2 : lastT (((both l0 l1).take N).drop j) key = none := by rw [hd]; simp [lastT, h, hk]
      have e3 : wrap64 ((j : Int) - 1) = (j : Int) - 1 := by unfold wrap64; omega
      rw [e3]
      exact IH e2
theorem timeOf_tells {l0 l1 : List Int} {N : Nat} (h0 : N ≤ l0.length) (h1 : N ≤ l1.length) (hN : N ≤ 100) {key t : Int} (ht : lastT ((both l0 l1).take N) key = some t) :
    postroomlaw15_timeOf.f (N + 1) (l0.take N) l1 key = some (t, true) := by
  unfold postroomlaw15_timeOf.f
  have hlen : (l0.take N).length = N := by rw [List.length_take]; omega
  have e3 : wrap64 (((l0.take N).length : Int) - 1) = (N : Int) - 1 := by rw [hlen]; unfold wrap64; omega
  rw [e3]
  exact timeOf_found h0 h1 hN ht N (Nat.le_refl _) (by rw [List.drop_eq_nil_of_le (by rw [both_len h0 h1]; omega)]; rfl)
/-- How many keys there are in the first i. -/
def keysIn (l0 l1 : List Int) (i : Nat) : Nat := (puts ((both l0 l1).take i) []).length
theorem put_len_new {M : List Item} {k : Int} (t : Int) (h : hasM M k = false) : (putM M k t).length = M.length + 1 := by
  unfold putM
  rw [List.length_append, List.length_singleton, drop_none (has_no h)]
theorem keys_step {l0 l1 : List Int} {i : Nat} (h0 : i < l0.length) (h1 : i < l1.length) : keysIn l0 l1 (i + 1) = if (((both l0 l1).take i).any fun p => p.1 == rd l0 i) then keysIn l0 l1 i else keysIn l0 l1 i + 1 := by
  unfold keysIn
  rw [both_at h0 h1, puts_snoc]
  have hh := has_puts (rd l0 i) ((both l0 l1).take i) []
  have e : hasM [] (rd l0 i) = false := rfl
  rw [e, Bool.false_or] at hh
  cases ha : (((both l0 l1).take i).any fun p => p.1 == rd l0 i) with
  | true =>
    rw [if_pos rfl]
    exact put_len_has (puts_nodup _ _ (by simp)) _ (hh.trans ha)
  | false =>
    rw [if_neg (by simp)]
    exact put_len_new _ (hh.trans ha)
theorem any_keys {l0 l1 : List Int} {i : Nat} (k : Int) (h0 : i ≤ l0.length) (h1 : i ≤ l1.length) : (((both l0 l1).take i).any fun p => p.1 == k) = false ↔ ∀ m, m < i → rd l0 m ≠ k := by
  rw [List.any_eq_false]
  constructor
  · intro h m hm e
    have hx := (mem_drop_both (i := 0) h0 h1 (x := (rd l0 m, rd l1 m))).2 ⟨m, by omega, hm, rfl⟩
    rw [List.drop_zero] at hx
    exact h _ hx (by simp [e])
  · intro h p hp
    obtain ⟨m, hm, rfl⟩ := mem_both h0 h1 hp
    simpa using h m hm
theorem many_inner {l0 : List Int} {N i : Nat} (h0 : N ≤ l0.length) (hN : N ≤ 100) (hi : i < N) (c F : Nat) (hc : c ≤ 100) (r : Int) :
    ∀ (d m : Nat) (b : Bool), m + d = i → postroomlaw15_many.l0 F (l0.take N) ((if b && decide (∀ x, x < i → m ≤ x → rd l0 x ≠ rd l0 i) then c + 1 else c : Nat) : Int) ((i : Int) + 1) = some r →
      postroomlaw15_many.l1 (F + d + 1) (l0.take N) (c : Int) (i : Int) b (m : Int) = some r
  | 0, m, b, hm, h => by
    have hlen : (l0.take N).length = N := by rw [List.length_take]; omega
    obtain rfl : m = i := by omega
    simp only [postroomlaw15_many.l1]
    rw [if_neg (by omega)]
    have e : (decide (∀ x, x < m → m ≤ x → rd l0 x ≠ rd l0 m)) = true := decide_eq_true (fun x h1 h2 => by omega)
    rw [e, Bool.and_true] at h
    have e1 : wrap64 ((m : Int) + 1) = (m : Int) + 1 := by unfold wrap64; omega
    have e2 : wrap64 ((c : Int) + 1) = ((c + 1 : Nat) : Int) := by unfold wrap64; omega
    rw [e1, e2]
    cases b with
    | true => rw [if_pos rfl]; exact h
    | false => rw [if_neg (by simp)]; exact h
  | d + 1, m, b, hm, h => by
    have hlen : (l0.take N).length = N := by rw [List.length_take]; omega
    have e1 : wrap64 ((m : Int) + 1) = ((m + 1 : Nat) : Int) := by unfold wrap64; omega
    have IH := many_inner h0 hN hi c F hc r d (m + 1)
    rw [show F + (d + 1) + 1 = (F + d + 1) + 1 from by omega]
    generalize F + d + 1 = f at IH ⊢
    simp only [postroomlaw15_many.l1, hlen]
    rw [if_pos (by omega), e1]
    cases b with
    | true =>
      rw [if_pos rfl, if_pos (by omega), if_pos (by omega), if_pos (by omega), if_pos (by omega), rd_take (by omega), rd_take (by omega)]
      refine IH _ (by omega) ?_
      have e : (rd l0 m != rd l0 i && decide (∀ x, x < i → m + 1 ≤ x → rd l0 x ≠ rd l0 i)) = (true && decide (∀ x, x < i → m ≤ x → rd l0 x ≠ rd l0 i)) := by
        rw [Bool.true_and, Bool.eq_iff_iff, Bool.and_eq_true, decide_eq_true_iff, decide_eq_true_iff, bne_iff_ne]
        constructor
        · rintro ⟨h1, h2⟩ x hxi hx
          rcases Nat.lt_or_ge m x with hl | hl
          · exact h2 x hxi hl
          · obtain rfl : x = m := by omega
            exact h1
        · exact fun h1 => ⟨h1 m (by omega) (Nat.le_refl _), fun x hxi hx => h1 x hxi (by omega)⟩
      rw [e]
      exact h
    | false =>
      rw [if_neg (by simp)]
      refine IH false (by omega) ?_
      rw [Bool.false_and] at h ⊢
      exact h
theorem many_outer {l0 l1 : List Int} {N : Nat} (h0 : N ≤ l0.length) (h1 : N ≤ l1.length) (hN : N ≤ 100) :
    ∀ d i : Nat, i + d = N → ∃ F, postroomlaw15_many.l0 F (l0.take N) (keysIn l0 l1 i : Int) (i : Int) = some (keysIn l0 l1 N : Int)
  | 0, i, hi => by
    have hlen : (l0.take N).length = N := by rw [List.length_take]; omega
    obtain rfl : i = N := by omega
    refine ⟨1, ?_⟩
    simp only [postroomlaw15_many.l0, hlen]
    rw [if_neg (by omega)]
  | d + 1, i, hi => by
    have hlen : (l0.take N).length = N := by rw [List.length_take]; omega
    obtain ⟨F, hF⟩ := many_outer h0 h1 hN d (i + 1) (by omega)
    refine ⟨F + i + 1 + 1, ?_⟩
    have IH := fun c hc => many_inner h0 hN (by omega : i < N) c F hc (keysIn l0 l1 N : Int) i 0 true (by omega)
    generalize F + i + 1 = f at IH ⊢
    simp only [postroomlaw15_many.l0, hlen]
    rw [if_pos (by omega)]
    have hc : keysIn l0 l1 i ≤ 100 := by
      unfold keysIn
      have := puts_len ((both l0 l1).take i) []
      rw [both_len (by omega) (by omega)] at this
      simp at this
      omega
    refine IH (keysIn l0 l1 i) hc ?_
    have hs := keys_step (l0 := l0) (l1 := l1) (i := i) (by omega) (by omega)
    have ha := any_keys (l0 := l0) (l1 := l1) (i := i) (rd l0 i) (by omega) (by omega)
    rw [Bool.true_and]
    have e : ((i : Int) + 1) = ((i + 1 : Nat) : Int) := by omega
    rw [e]
    cases hb : (((both l0 l1).take i).any fun p => p.1 == rd l0 i) with
    | true =>
      rw [hb, if_pos rfl] at hs
      rw [if_neg (fun h => by
        have := ha.2 (fun m hm => of_decide_eq_true h m hm (by omega))
        rw [hb] at this; cases this), ← hs]
      exact hF
    | false =>
      rw [hb, if_neg (by simp)] at hs
      rw [if_pos (decide_eq_true (fun x hx _ => ha.1 hb x hx)), ← hs]
      exact hF
theorem many_tells {l0 l1 : List Int} {N : Nat} (h0 : N ≤ l0.length) (h1 : N ≤ l1.length) (hN : N ≤ 100) : ∃ F, postroomlaw15_many.f F (l0.take N) = some ((puts ((both l0 l1).take N) []).length : Int) := by
  obtain ⟨F, hF⟩ := many_outer h0 h1 hN N 0 (by omega)
  exact ⟨F, hF⟩

end Go.Proofs.Ytlkcekldddpjbaa.Due
