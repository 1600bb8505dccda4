/- What Swap of the row of items does: two items, and their places, change. -/
import Derived.Test.YtlkcekldddpjbaaDueA
import Derived.Deep.RegionHeld3
import Derived.Deep.RegionLaw
import Derived.Deep.AppendLies
import Derived.RegionTactic
import Derived.ChangeAlike
import Derived.BigRegion
import Derived.Outline
import Derived.Deep.DeepCutAuto
import Derived.Maps.Keyed
import Derived.WideKeyEntry
namespace Go.Proofs.Ytlkcekldddpjbaa.Due
open Go.RowKit Go.Proofs.YtlkcekldddpjbaaW.PrintWords Go.Proofs.YtlkcekldddpjbaaW.PrintLast Go.Proofs.YtlkcekldddpjbaaW.PrintMore
open Go.MapKept (Stamped)
open Go.ChangeMaps (setBlock)
open Go.Maps (Keyed int_keyed keyOf_int_mk)
set_option linter.unusedVariables false
set_option linter.unusedSimpArgs false

set_option maxHeartbeats 2000000 in
theorem swap_row (W : World) (ok : Nat → Prop) (R : Nat) (L : List Item) (i j : Nat) (p q : Item) (h : RowAt W ok R L) (hi : L[i]? = some p) (hj : L[j]? = some q) (hij : i ≠ j) :
    Calls Try.prog 44 #[.pointer (some ⟨R, 0, none⟩), .int .i64 (i : Int), .int .i64 (j : Int)] W fun e w' => e = .returned (.tuple #[]) ∧ RowAt w' ok R (swapL L i j p q) ∧ Moved ok W w' := by
  obtain ⟨iv, Mb, hR, hI, hP, hokR, hokM, hokI⟩ := h
  have hil : i < L.length := (List.getElem?_eq_some_iff.1 hi).1
  have hjl : j < L.length := (List.getElem?_eq_some_iff.1 hj).1
  obtain ⟨g, cap, rfl, hcap, hcm⟩ := hI.form (by omega)
  have hcells := hI.cells (g := g) rfl
  have c0 : W.cell? ⟨R, 0, none⟩ = some (.slice (some ⟨g, 0, none⟩) L.length cap) := (blk_cell hR 0).trans rfl
  have ci0 := hcells (i * 2) _ (flat_get L i p hi).1
  have ci1 := hcells (i * 2 + 1) _ (flat_get L i p hi).2
  have cj0 := hcells (j * 2) _ (flat_get L j q hj).1
  have cj1 := hcells (j * 2 + 1) _ (flat_get L j q hj).2
  rw [add_plain] at ci0 ci1 cj0 cj1
  obtain ⟨cur, hg⟩ := own_typed hI g rfl
  have fi0 := blk_frozen hg (i * 2)
  have fi1 := blk_frozen hg (i * 2 + 1)
  have fj0 := blk_frozen hg (j * 2)
  have fj1 := blk_frozen hg (j * 2 + 1)
  have i0 : 0 ≤ (i : Int) := by omega
  have i1 : (i : Int) < (L.length : Int) := by omega
  have j0 : 0 ≤ (j : Int) := by omega
  have j1 : (j : Int) < (L.length : Int) := by omega
  have n1 : i * 2 ≠ j * 2 := by omega
  have n2 : i * 2 ≠ j * 2 + 1 := by omega
  have n3 : i * 2 + 1 ≠ j * 2 := by omega
  have n4 : i * 2 + 1 ≠ j * 2 + 1 := by omega
  obtain ⟨k1, a1⟩ := p
  obtain ⟨k2, a2⟩ := q
  simp only at ci0 ci1 cj0 cj1
  have HPi := Aside0.mk hi
  have HPj := Aside0.mk hj
  have HI := Aside0.mk hI
  have HP := Aside0.mk hP
  have HR := Aside0.mk hR
  have HG := Aside0.mk hg
  clear hI hP hR hcells hi hj hg
  go_enter Try.func44, Try.ntmps44
  go_wp2
  go_region
  go_wp2
  generalize hX : World.drew _ = X
  have hXe : X = ((((W.setCell ⟨g, i * 2, none⟩ (.int .i64 k2)).setCell ⟨g, i * 2 + 1, none⟩ (.int .u64 a2)).setCell ⟨g, j * 2, none⟩ (.int .i64 k1)).setCell ⟨g, j * 2 + 1, none⟩ (.int .u64 a1)).drew := hX.symm
  have HX := Aside0.mk hXe
  clear hX c0 ci0 ci1 cj0 cj1 fi0 fi1 fj0 fj1 n1 n2 n3 n4
  obtain ⟨b1, b2, es1, es2, clock, cR0, cR1, cg1, cg2, q1, q2, q3, q4, hend, hmov⟩ := swap_mid HR.out HI.out HP.out hokR hokM (hokI g rfl) HPi.out HPj.out hij hXe
  have HEND := Aside0.mk hend
  have HMOV := Aside0.mk hmov
  clear hXe hend hmov HX HP HI HR HG HPi HPj hokI
  go_region
  go_end0
  exact ⟨rfl, HEND.out, HMOV.out⟩

end Go.Proofs.Ytlkcekldddpjbaa.Due
