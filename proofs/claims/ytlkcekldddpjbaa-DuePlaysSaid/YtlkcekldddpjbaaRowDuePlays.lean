/- The row of DuePlays: its arguments are opened, its walk is taken, and what was handed in reads as before. -/
import Derived.Test.YtlkcekldddpjbaaRows
import Derived.Test.YtlkcekldddpjbaaWalkDuePlays
import Derived.Deep.Slices
import Derived.Deep.Strs
import Derived.ChangeSlices
import Derived.WalkKit
import Derived.ProofKit
import Derived.OpenShut
import Derived.ShutString
import Derived.ChangeOld
import Derived.Below
import Derived.SizedLaws
import Derived.SliceStrings
namespace Go.Proofs.Ytlkcekldddpjbaa.duePlays
open Go.ChangeShapes Go.WideShapes Go.ChangeAt Go.RowKit Go.Proofs.YtlkcekldddpjbaaW.PrintWords
open Go.ChangeMaps (open_string shut_string)
set_option linter.unusedVariables false
theorem own : ownKnob Try.prog.godebug = none := by kernel_rfl
theorem laidOut : laidOutB Try.prog = true := by kernel_rfl
open Go.Deep
/-- A row of acts that came in. -/
theorem open_acts {H : Type} {enc : TypeId × Value → H} {W : World} {base : Nat} {spare : Nat → Bool} {held : Bool} {fuel : Nat} {a : Option Addr} {len cap : Nat} {x : DataW H × List MemPlace}
    (h : DataW.trod enc Try.prog W base spare held fuel 22 [.slice a len cap] = some x) :
    Due.ActsAt W a len cap := by
  have c33 : Try.prog.cellsOf 33 = 3 := by kernel_rfl
  have c3 : Try.prog.cellsOf 3 = 1 := by kernel_rfl
  have c31 : Try.prog.cellsOf 31 = 1 := by kernel_rfl
  rcases open_slice Try.underlying22 h with ⟨hcs, _⟩ | ⟨ad, l, c, m, n, D, Pl, hcs, _, hl, hm, hmm, _, hx⟩
  · simp at hcs
    exact Or.inl hcs
  · simp at hcs
    obtain ⟨rfl, rfl, rfl⟩ := hcs
    have key : ∀ i : Nat, ∃ p : Int × Int × Int, i < len → (W.cell? (ad.add (i * 3)) = some (.int .i64 p.1) ∧ W.cell? (ad.add (i * 3 + 1)) = some (.int .i64 p.2.1) ∧ W.cell? (ad.add (i * 3 + 2)) = some (.int .u64 p.2.2)) ∧ (Lit.int .i64 p.1).wf = true ∧ (Lit.int .i64 p.2.1).wf = true := fun i => by
      by_cases hi : i < len
      · obtain ⟨cs, h1, h2⟩ := hx i (by rw [hmm]; split <;> omega)
        rw [c33] at h1
        obtain ⟨y0, y1, y2, n', _, hlen, t0, t1, t2⟩ := trod_struct3 Try.underlying33 h2
        obtain ⟨g1, g2, g3⟩ := World.cells?_some h1
        rw [c3] at t0 t1
        rw [c31] at t2
        obtain ⟨v0, e0, _, w0⟩ := DataW.trod_int Try.underlying3 t0
        obtain ⟨v1, e1, _, w1⟩ := DataW.trod_int Try.underlying3 t1
        obtain ⟨v2, e2, _, w2⟩ := DataW.trod_int Try.underlying31 t2
        rw [c33] at hlen
        match cs, hlen with
        | [u0, u1, u2], _ =>
          simp at e0 e1 e2
          subst e0; subst e1; subst e2
          refine ⟨(v0, v1, v2), fun _ => ⟨⟨?_, ?_, ?_⟩, w0, w1⟩⟩
          · have z := g3 0 (by omega); rw [Addr.add_add] at z; simpa using z
          · have z := g3 1 (by omega); rw [Addr.add_add] at z; simpa using z
          · have z := g3 2 (by omega); rw [Addr.add_add] at z; simpa using z
      · exact ⟨(0, 0, 0), fun h => absurd h hi⟩
    exact Or.inr ⟨ad, fun i => (Classical.choose (key i)).1, fun i => (Classical.choose (key i)).2.1, fun i => (Classical.choose (key i)).2.2, rfl, hl, hm, fun i hi => (Classical.choose_spec (key i) hi).1, fun i hi => (Classical.choose_spec (key i) hi).2⟩

set_option maxRecDepth 100000 in
theorem lifted (os : Os) (started : os.Started) (H : Type) (enc : TypeId × Value → H) :
    ReturnsInHanded {} Try.checked os 3 .any (Rows.duePlaysSpec.pre6 enc Try.prog Try.f3 Rows.duePlaysRow.domain false) (Rows.duePlaysSpec.post enc Try.prog Try.f3 false true false false) := by
  refine returnsInHanded_of_change_sized (C := Try.checked) own started (by kernel_rfl) Try.func3
    (ChangeSpec.witness6 (enc := enc) (C := Try.checked) false ⟨#[], #[.slice none 0 0], []⟩ 8 (by kernel_rfl) (by kernel_rfl) (by kernel_rfl) (by kernel_rfl)) ?_
  intro W base args ds gs before hval0 hW hcnd hsz0 _
  have hsz : (DataW.weightsEach Try.prog (Try.f3.params.toList ++ Rows.duePlaysSpec.plain.varTypes Try.prog) (ds ++ gs)).all (· ≤ reachBytes) = true := hsz0
  have hval : ∀ (j : Nat) t v, Try.f3.params[j]? = some t → args[j]? = some v → Value.okWide Try.prog W .any base t v := hval0
  have hW' := hW
  obtain ⟨p, q, hA0, hV, rfl, hfz, hnd⟩ := hW
  have hA : DataW.TrodAll enc Try.prog W 0 (fun _ => true) true Try.f3.params.toList args.toList ds p := hA0
  rw [Try.params3] at hA hval hsz
  obtain ⟨v0, vs0, d0, ds0, p0, q0, hargs, rfl, rfl, h0, r0⟩ := trodAll_cons hA
  obtain ⟨rfl, rfl, rfl⟩ := trodAll_nil r0
  obtain rfl : args = #[v0] := by cases args; simp_all
  obtain ⟨rfl, rfl⟩ := trodVars_none hV
  obtain ⟨a0, len0, cap0, rfl⟩ := okWide_slice Try.underlying22 (hval 0 22 v0 rfl rfl)
  have k0 := h0
  have lt0 : ∀ x ∈ p0, x.block < W.heap.size := by obtain ⟨m, hm⟩ := k0; exact DataW.trod_lt m _ _ _ hm
  have z0 : Due.ActsAt W a0 len0 cap0 := by obtain ⟨fuel, hf⟩ := h0; exact open_acts (by simpa [Value.cells] using hf)
  clear hA0 hval0 hsz0 hsz
  refine (Due.DuePlaysW W a0 cap0 len0 z0).mono fun e W' ⟨he, bel⟩ => ?_
  subst he
  exact ⟨_, rfl, _, _, _, [], _, [], hW', trodAll_mk1 (shut_bool Try.underlying4 _), (trodAll_cons_mk (Below.trod laidOut (by kernel_rfl) (of_decide_eq_true (by kernel_rfl)) k0 bel lt0) trodAll_mk0), rfl, bel.frame _, fun h => by cases h⟩
theorem over : Rows.duePlaysRow.holds Try.pinned (OpenSpec.ofChange Rows.duePlaysSpec) :=
  OpenClaim.holds_of_wide 3 Try.f3 rfl rfl rfl rfl rfl rfl rfl ⟨rfl, rfl, rfl, rfl, rfl⟩ rfl rfl rfl rfl rfl (by kernel_rfl) Try.func3 (by kernel_rfl)
    (of_decide_eq_true (by kernel_rfl)) (by unfold Func.isWrapper; first | (rw [if_pos (by decide +kernel)]; kernel_rfl) | (rw [if_neg (by decide +kernel)]; exact ⟨rfl, rfl⟩))
    (fun os started H enc _ => lifted os started H enc)
theorem proved : Rows.DuePlaysSaid := over
#print axioms proved
end Go.Proofs.Ytlkcekldddpjbaa.duePlays
namespace Go.Proofs.Ytlkcekldddpjbaa
/-- The row, under a short name, for the claim. -/
theorem duePlays_holds : Rows.DuePlaysSaid := duePlays.proved
end Go.Proofs.Ytlkcekldddpjbaa
