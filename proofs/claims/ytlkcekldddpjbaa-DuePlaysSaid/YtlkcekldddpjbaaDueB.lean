/- What Len and Less of the row of items tell. -/
import Derived.Test.YtlkcekldddpjbaaDueA
import Derived.Deep.RegionHeld3
import Derived.Deep.RegionLaw
import Derived.Deep.AppendLies
import Derived.RegionTactic
import Derived.ChangeAlike
import Derived.BigRegion
import Derived.Outline
import Derived.Deep.DeepCutAuto
import Derived.Maps.Keyed
import Derived.WideKeyEntry
namespace Go.Proofs.Ytlkcekldddpjbaa.Due
open Go.RowKit Go.Proofs.YtlkcekldddpjbaaW.PrintWords Go.Proofs.YtlkcekldddpjbaaW.PrintLast Go.Proofs.YtlkcekldddpjbaaW.PrintMore
open Go.MapKept (Stamped)
open Go.ChangeMaps (setBlock)
open Go.Maps (Keyed int_keyed keyOf_int_mk)
set_option linter.unusedVariables false
set_option linter.unusedSimpArgs false

set_option maxHeartbeats 1000000 in
theorem len_row (W : World) (ok : Nat → Prop) (R : Nat) (L : List Item) (h : RowAt W ok R L) :
    Calls Try.prog 24 #[.pointer (some ⟨R, 0, none⟩)] W fun e w' => e = .returned (.int .i64 (L.length : Int)) ∧ W = w' := by
  obtain ⟨iv, Mb, hR, hI, hP, _⟩ := h
  obtain ⟨A, c, rfl⟩ := row_slice hI
  have c0 : W.cell? ⟨R, 0, none⟩ = some (.slice A L.length c) := (blk_cell hR 0).trans rfl
  clear hI hP hR
  go_enter Try.func24, Try.ntmps24
  go_wp2
  go_ret
  exact ⟨rfl, rfl⟩
set_option maxHeartbeats 1000000 in
theorem less_row (W : World) (ok : Nat → Prop) (R : Nat) (L : List Item) (i j : Nat) (p q : Item) (h : RowAt W ok R L) (hi : L[i]? = some p) (hj : L[j]? = some q) :
    Calls Try.prog 43 #[.pointer (some ⟨R, 0, none⟩), .int .i64 (i : Int), .int .i64 (j : Int)] W fun e w' => e = .returned (.bool (lessB p q)) ∧ Below W.heap.size W w' := by
  obtain ⟨iv, Mb, hR, hI, hP, _⟩ := h
  have hil : i < L.length := (List.getElem?_eq_some_iff.1 hi).1
  have hjl : j < L.length := (List.getElem?_eq_some_iff.1 hj).1
  obtain ⟨g, cap, rfl, hcap, hcm⟩ := hI.form (by omega)
  have hcells := hI.cells (g := g) rfl
  have c0 : W.cell? ⟨R, 0, none⟩ = some (.slice (some ⟨g, 0, none⟩) L.length cap) := (blk_cell hR 0).trans rfl
  have ci0 := hcells (i * 2) _ (flat_get L i p hi).1
  have ci1 := hcells (i * 2 + 1) _ (flat_get L i p hi).2
  have cj0 := hcells (j * 2) _ (flat_get L j q hj).1
  have cj1 := hcells (j * 2 + 1) _ (flat_get L j q hj).2
  rw [add_plain] at ci0 ci1 cj0 cj1
  have hRl : R < W.heap.size := blk_lt hR
  have hgl : g < W.heap.size := by have := World.block_lt_of_cell? W _ ci0; exact this
  have hRl1 : R < W.heap.size + 1 := by omega
  have hgl1 : g < W.heap.size + 1 := by omega
  have i0 : 0 ≤ (i : Int) := by omega
  have i1 : (i : Int) < (L.length : Int) := by omega
  have j0 : 0 ≤ (j : Int) := by omega
  have j1 : (j : Int) < (L.length : Int) := by omega
  clear hI hP hR hcells hi hj
  obtain ⟨k1, a1⟩ := p
  obtain ⟨k2, a2⟩ := q
  simp only at ci0 ci1 cj0 cj1
  have hless : lessB (k1, a1) (k2, a2) = (decide (a1 < a2) || (a1 == a2 && decide (k1 < k2))) := rfl
  rw [hless]
  clear hless
  cases hb1 : decide (a1 < a2) with
  | true =>
    go_enter Try.func43, Try.ntmps43
    go_wp2
    go_region
    all_goals go_wp2
    all_goals go_ret
    all_goals (refine ⟨rfl, ?_⟩; repeat (first | exact Below.refl _ _ | apply below_alloc | apply below_drew))
  | false =>
    cases hb2 : (a1 == a2) with
    | false =>
      go_enter Try.func43, Try.ntmps43
      go_wp2
      go_region
      all_goals go_wp2
      all_goals go_ret
      all_goals (refine ⟨rfl, ?_⟩; repeat (first | exact Below.refl _ _ | apply below_alloc | apply below_drew))
    | true =>
      cases hb3 : decide (k1 < k2) with
      | true =>
        go_enter Try.func43, Try.ntmps43
        go_wp2
        go_region
        all_goals go_wp2
        all_goals go_ret
        all_goals (refine ⟨rfl, ?_⟩; repeat (first | exact Below.refl _ _ | apply below_alloc | apply below_drew))
      | false =>
        go_enter Try.func43, Try.ntmps43
        go_wp2
        go_region
        all_goals go_wp2
        all_goals go_ret
        all_goals (refine ⟨rfl, ?_⟩; repeat (first | exact Below.refl _ _ | apply below_alloc | apply below_drew))

end Go.Proofs.Ytlkcekldddpjbaa.Due
