/- What pick tells; two rows of numbers. -/
import Derived.Test.YtlkcekldddpjbaaDueX
import Derived.Test.YtlkcekldddpjbaaPDuePlaysx1
import Derived.Deep.RegionHeld3
import Derived.Deep.RegionLaw
import Derived.Deep.AppendLies
import Derived.RegionTactic
import Derived.ChangeAlike
import Derived.BigRegion
import Derived.Outline
import Derived.Deep.DeepCutAuto
import Derived.Maps.Keyed
import Derived.WideKeyEntry
import Derived.Deep.LoopGhost
import Derived.StillTailTactics
namespace Go.Proofs.Ytlkcekldddpjbaa.Due
open Go.RowKit Go.Proofs.YtlkcekldddpjbaaW.PrintWords Go.Proofs.YtlkcekldddpjbaaW.PrintLast Go.Proofs.YtlkcekldddpjbaaW.PrintMore
open Go.MapKept (Stamped)
open Go.ChangeMaps (setBlock)
open Go.Maps (Keyed int_keyed keyOf_int_mk)
set_option linter.unusedVariables false
set_option linter.unusedSimpArgs false

open Go.Proofs.Ytlkcekldddpjbaa.PDuePlays

theorem i64_bounds {n : Int} (h : (Lit.int .i64 n).wf = true) : -9223372036854775808 ≤ n ∧ n ≤ 9223372036854775807 := by
  simp [Lit.wf, IntKind.min, IntKind.max, IntKind.signed, IntKind.bits] at h
  omega
theorem pick_some (c : Int) (N : Nat) (hw : (Lit.int .i64 c).wf = true) (hN : 0 < N) : ∃ r : Nat, r < N ∧ postroomlaw15_pick.f c (N : Int) = some (r : Int) := by
  have hc := i64_bounds hw
  suffices h : ∃ r, postroomlaw15_pick.f c (N : Int) = some r ∧ 0 ≤ r ∧ r < (N : Int) by
    obtain ⟨r, h1, h2, h3⟩ := h
    exact ⟨r.toNat, by omega, by rw [h1]; congr 1; omega⟩
  unfold postroomlaw15_pick.f
  by_cases h : c < 0
  · rw [if_pos h, if_neg (by omega)]
    have e1 : wrap64 (c + 1) = c + 1 := by unfold wrap64; omega
    have e2 : wrap64 (-(c + 1)) = -(c + 1) := by unfold wrap64; omega
    rw [e1, e2, Int.tmod_eq_emod_of_nonneg (by omega)]
    exact ⟨_, rfl, Int.emod_nonneg _ (by omega), Int.emod_lt_of_pos _ (by omega)⟩
  · rw [if_neg h, if_neg (by omega), Int.tmod_eq_emod_of_nonneg (by omega)]
    exact ⟨_, rfl, Int.emod_nonneg _ (by omega), Int.emod_lt_of_pos _ (by omega)⟩
theorem rd_wf {k : IntKind} {l : List Int} (h : ∀ x ∈ l, (Lit.int k x).wf = true) {i : Nat} (hi : i < l.length) : (Lit.int k (rd l i)).wf = true := by
  have : rd l i = l[i] := by unfold rd; simp [hi]
  rw [this]
  exact h _ (List.getElem_mem hi)
theorem duo_drewN {D E : Nat} {M N : List Item} {W0 w : World} (h : Duo D M E N W0 w) (n : Nat) : Duo D M E N W0 (w.drewN n) := duo_below h ⟨rfl, rfl, rfl, Nat.le_refl _, fun _ _ => rfl⟩
theorem solo_drewN {D : Nat} {M : List Item} {W0 w : World} (h : Solo D M W0 w) (n : Nat) : Solo D M W0 (w.drewN n) := solo_below h ⟨rfl, rfl, rfl, Nat.le_refl _, fun _ _ => rfl⟩
theorem duo_nodup {D E : Nat} {M N : List Item} {W0 w : World} (h : Duo D M E N W0 w) : (M.map Prod.fst).Nodup := by
  obtain ⟨A, B, ⟨R, L, _, _, _, _, _, h⟩, _⟩ := h
  exact h
theorem solo_nodup {D : Nat} {M : List Item} {W0 w : World} (h : Solo D M W0 w) : (M.map Prod.fst).Nodup := by
  obtain ⟨A, ⟨R, L, _, _, _, _, _, h⟩, _⟩ := h
  exact h
theorem u64_bounds {n : Int} (h : (Lit.int .u64 n).wf = true) : 0 ≤ n ∧ n ≤ 18446744073709551615 := by
  simp [Lit.wf, IntKind.min, IntKind.max, IntKind.signed, IntKind.bits] at h
  omega

end Go.Proofs.Ytlkcekldddpjbaa.Due
