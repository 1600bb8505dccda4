/- The row of SenderRuns: its arguments are opened, its walk is taken, and what was handed in reads as before. -/
import Derived.Test.YtieimafoacdefaaRows
import Derived.Test.YtieimafoacdefaaRunsW
import Derived.Deep.Slices
import Derived.Deep.Strs
import Derived.ChangeSlices
import Derived.WalkKit
import Derived.ProofKit
import Derived.OpenShut
import Derived.ShutString
import Derived.ChangeOld
import Derived.Below
import Derived.SizedLaws
import Derived.SliceStrings
namespace Go.Proofs.Ytieimafoacdefaa.senderRuns
open Go.ChangeShapes Go.WideShapes Go.ChangeAt Go.RowKit Go.Proofs.YtieimafoacdefaaW.PrintWords
open Go.ChangeMaps (open_string shut_string)
set_option linter.unusedVariables false
theorem own : ownKnob Try.prog.godebug = none := by kernel_rfl
theorem laidOut : laidOutB Try.prog = true := by kernel_rfl
open Go.Deep Go.Proofs.Ytieimafoacdefaa.QSenderRuns
section
variable {H : Type} {enc : TypeId × Value → H} {P : Program} {w : World} {base : Nat} {spare : Nat → Bool} {held : Bool}
theorem trod_struct6 {t : TypeId} {f0 f1 f2 f3 f4 f5 : Field} {fuel : Nat} {cs : List Value} {x : DataW H × List MemPlace} (ht : P.underlying t = some (.struct #[f0, f1, f2, f3, f4, f5])) (h : DataW.trod enc P w base spare held fuel t cs = some x) :
    ∃ y0 y1 y2 y3 y4 y5 n, cs.length = P.cellsOf t ∧ DataW.trod enc P w base spare held n f0.type ((cs.drop f0.offset).take (P.cellsOf f0.type)) = some y0 ∧
      DataW.trod enc P w base spare held n f1.type ((cs.drop f1.offset).take (P.cellsOf f1.type)) = some y1 ∧ DataW.trod enc P w base spare held n f2.type ((cs.drop f2.offset).take (P.cellsOf f2.type)) = some y2 ∧
      DataW.trod enc P w base spare held n f3.type ((cs.drop f3.offset).take (P.cellsOf f3.type)) = some y3 ∧ DataW.trod enc P w base spare held n f4.type ((cs.drop f4.offset).take (P.cellsOf f4.type)) = some y4 ∧
      DataW.trod enc P w base spare held n f5.type ((cs.drop f5.offset).take (P.cellsOf f5.type)) = some y5 := by
  obtain ⟨xs, n, _, rfl, hl, hlen, hf⟩ := DataW.trod_struct ht h
  match xs, hlen with
  | [y0, y1, y2, y3, y4, y5], _ => exact ⟨y0, y1, y2, y3, y4, y5, n, hl, by simpa using hf 0 f0 rfl, by simpa using hf 1 f1 rfl, by simpa using hf 2 f2 rfl, by simpa using hf 3 f3 rfl, by simpa using hf 4 f4 rfl, by simpa using hf 5 f5 rfl⟩
end
/-- A row of acts that came in. -/
theorem open_acts {H : Type} {enc : TypeId × Value → H} {W : World} {base : Nat} {spare : Nat → Bool} {held : Bool} {fuel : Nat} {a : Option Addr} {len cap : Nat} {x : DataW H × List MemPlace}
    (h : DataW.trod enc Try.prog W base spare held fuel 39 [.slice a len cap] = some x) :
    Runs.ActsAt W a len cap := by
  have c41 : Try.prog.cellsOf 41 = 6 := by kernel_rfl
  have c3 : Try.prog.cellsOf 3 = 1 := by kernel_rfl
  have c23 : Try.prog.cellsOf 23 = 1 := by kernel_rfl
  have c4 : Try.prog.cellsOf 4 = 1 := by kernel_rfl
  rcases open_slice Try.underlying39 h with ⟨hcs, _⟩ | ⟨ad, l, c, m, n, D, Pl, hcs, _, hl, hm, hmm, _, hx⟩
  · simp at hcs
    obtain ⟨rfl, rfl, rfl⟩ := hcs
    exact ⟨[], rfl, Kd.C_nil _ _, fun i hi => absurd hi (Nat.not_lt_zero _)⟩
  · simp at hcs
    obtain ⟨rfl, rfl, rfl⟩ := hcs
    have key : ∀ i : Nat, ∃ p : S41, i < len → (∀ (j : Nat) (u : Value), ([.int .i64 p.f0, .int .i64 p.f1, .int .i64 p.f2, .int .i64 p.f3, .int .u64 p.f4, .bool p.f5] : List Value)[j]? = some u → W.cell? (ad.add (i * 6 + j)) = some u) ∧ (Lit.int .i64 p.f0).wf = true ∧ (Lit.int .i64 p.f1).wf = true ∧ (Lit.int .i64 p.f2).wf = true ∧ (Lit.int .i64 p.f3).wf = true ∧ (Lit.int .u64 p.f4).wf = true := fun i => by
      by_cases hi : i < len
      · obtain ⟨cs, h1, h2⟩ := hx i (by rw [hmm]; split <;> omega)
        rw [c41] at h1
        obtain ⟨y0, y1, y2, y3, y4, y5, n', hlen, t0, t1, t2, t3, t4, t5⟩ := trod_struct6 Try.underlying41 h2
        obtain ⟨g1, g2, g3⟩ := World.cells?_some h1
        rw [c3] at t0 t1 t2 t3
        rw [c23] at t4
        rw [c4] at t5
        obtain ⟨v0, e0, _, w0⟩ := DataW.trod_int Try.underlying3 t0
        obtain ⟨v1, e1, _, w1⟩ := DataW.trod_int Try.underlying3 t1
        obtain ⟨v2, e2, _, w2⟩ := DataW.trod_int Try.underlying3 t2
        obtain ⟨v3, e3, _, w3⟩ := DataW.trod_int Try.underlying3 t3
        obtain ⟨v4, e4, _, w4⟩ := DataW.trod_int Try.underlying23 t4
        obtain ⟨v5, e5, _⟩ := DataW.trod_bool Try.underlying4 t5
        rw [c41] at hlen
        match cs, hlen with
        | [u0, u1, u2, u3, u4, u5], _ =>
          simp at e0 e1 e2 e3 e4 e5
          subst e0; subst e1; subst e2; subst e3; subst e4; subst e5
          refine ⟨⟨v0, v1, v2, v3, v4, v5⟩, fun _ => ⟨fun j u hj => ?_, w0, w1, w2, w3, w4⟩⟩
          have hj6 : j < 6 := by have := (List.getElem?_eq_some_iff.1 hj).1; simpa using this
          have z := g3 j (by omega)
          rw [Addr.add_add] at z
          rw [z]
          exact hj
      · exact ⟨z41, fun h => absurd h hi⟩
    have hsp := fun (i : Nat) (hi : i < len) => Classical.choose_spec (key i) hi
    refine ⟨(List.range len).map fun i => Classical.choose (key i), by simp, ⟨by simp, by unfold maxLen at hm; omega, fun hp => ⟨ad, rfl, fun j p hj => ?_⟩⟩, fun i hi => ?_⟩
    · rw [List.getElem?_map] at hj
      have hjl : j < len := by
        by_cases h : j < len
        · exact h
        · rw [List.getElem?_eq_none (by simp; omega)] at hj
          cases hj
      rw [List.getElem?_range hjl] at hj
      simp only [Option.map_some, Option.some.injEq] at hj
      subst hj
      exact ⟨_, rfl, k41_mk W _, (hsp j hjl).1⟩
    · have e : rd_T41 ((List.range len).map fun i => Classical.choose (key i)) (i : Int) = Classical.choose (key i) := by
        unfold rd_T41
        rw [Int.toNat_natCast, List.getD_eq_getElem?_getD, List.getElem?_map, List.getElem?_range hi]
        rfl
      rw [e]
      exact (hsp i hi).2

set_option maxRecDepth 100000 in
theorem lifted (os : Os) (started : os.Started) (H : Type) (enc : TypeId × Value → H) :
    ReturnsInHanded {} Try.checked os 5 .any (Rows.senderRunsSpec.pre6 enc Try.prog Try.f5 Rows.senderRunsRow.domain false) (Rows.senderRunsSpec.post enc Try.prog Try.f5 false true false false) := by
  refine returnsInHanded_of_change_sized (C := Try.checked) own started (by kernel_rfl) Try.func5
    (ChangeSpec.witness6 (enc := enc) (C := Try.checked) false ⟨#[], #[.int .i64 0, .int .i64 0, .int .i64 0, .int .i64 0, .slice none 0 0], []⟩ 8 (by kernel_rfl) (by kernel_rfl) (by kernel_rfl) (by kernel_rfl)) ?_
  intro W base args ds gs before hval0 hW hcnd hsz0 _
  have hsz : (DataW.weightsEach Try.prog (Try.f5.params.toList ++ Rows.senderRunsSpec.plain.varTypes Try.prog) (ds ++ gs)).all (· ≤ reachBytes) = true := hsz0
  have hval : ∀ (j : Nat) t v, Try.f5.params[j]? = some t → args[j]? = some v → Value.okWide Try.prog W .any base t v := hval0
  have hW' := hW
  obtain ⟨p, q, hA0, hV, rfl, hfz, hnd⟩ := hW
  have hA : DataW.TrodAll enc Try.prog W 0 (fun _ => true) true Try.f5.params.toList args.toList ds p := hA0
  rw [Try.params5] at hA hval hsz
  obtain ⟨v0, vs0, d0, ds0, p0, q0, hargs, rfl, rfl, h0, r0⟩ := trodAll_cons hA
  obtain ⟨v1, vs1, d1, ds1, p1, q1, rfl, rfl, rfl, h1, r1⟩ := trodAll_cons r0
  obtain ⟨v2, vs2, d2, ds2, p2, q2, rfl, rfl, rfl, h2, r2⟩ := trodAll_cons r1
  obtain ⟨v3, vs3, d3, ds3, p3, q3, rfl, rfl, rfl, h3, r3⟩ := trodAll_cons r2
  obtain ⟨v4, vs4, d4, ds4, p4, q4, rfl, rfl, rfl, h4, r4⟩ := trodAll_cons r3
  obtain ⟨rfl, rfl, rfl⟩ := trodAll_nil r4
  obtain rfl : args = #[v0, v1, v2, v3, v4] := by cases args; simp_all
  obtain ⟨rfl, rfl⟩ := trodVars_none hV
  obtain ⟨a0, rfl, rfl, rfl, w0⟩ := open_int Try.underlying3 (hval 0 3 v0 rfl rfl) h0
  obtain ⟨a1, rfl, rfl, rfl, w1⟩ := open_int Try.underlying3 (hval 1 3 v1 rfl rfl) h1
  obtain ⟨a2, rfl, rfl, rfl, w2⟩ := open_int Try.underlying3 (hval 2 3 v2 rfl rfl) h2
  obtain ⟨a3, rfl, rfl, rfl, w3⟩ := open_int Try.underlying3 (hval 3 3 v3 rfl rfl) h3
  obtain ⟨a4, len4, cap4, rfl⟩ := okWide_slice Try.underlying39 (hval 4 39 v4 rfl rfl)
  have k4 := h4
  have lt4 : ∀ x ∈ p4, x.block < W.heap.size := by obtain ⟨m, hm⟩ := k4; exact DataW.trod_lt m _ _ _ hm
  have z4 : Runs.ActsAt W a4 len4 cap4 := by obtain ⟨fuel, hf⟩ := h4; exact open_acts (by simpa [Value.cells] using hf)
  clear hA0 hval0 hsz0 hsz
  refine (Runs.SenderRunsW W a0 w0 a1 w1 a2 w2 a3 w3 a4 cap4 len4 z4).mono fun e W' ⟨he, bel⟩ => ?_
  subst he
  exact ⟨_, rfl, _, _, _, [], _, [], hW', trodAll_mk1 (shut_bool Try.underlying4 _), (trodAll_cons_mk (shut_int Try.underlying3 w0) (trodAll_cons_mk (shut_int Try.underlying3 w1) (trodAll_cons_mk (shut_int Try.underlying3 w2) (trodAll_cons_mk (shut_int Try.underlying3 w3) (trodAll_cons_mk (Below.trod laidOut (by kernel_rfl) (of_decide_eq_true (by kernel_rfl)) k4 bel lt4) trodAll_mk0))))), rfl, bel.frame _, fun h => by cases h⟩
theorem over : Rows.senderRunsRow.holds Try.pinned (OpenSpec.ofChange Rows.senderRunsSpec) :=
  OpenClaim.holds_of_wide 5 Try.f5 rfl rfl rfl rfl rfl rfl rfl ⟨rfl, rfl, rfl, rfl, rfl⟩ rfl rfl rfl rfl rfl (by kernel_rfl) Try.func5 (by kernel_rfl)
    (of_decide_eq_true (by kernel_rfl)) (by unfold Func.isWrapper; first | (rw [if_pos (by decide +kernel)]; kernel_rfl) | (rw [if_neg (by decide +kernel)]; exact ⟨rfl, rfl⟩))
    (fun os started H enc _ => lifted os started H enc)
theorem proved : Rows.SenderRunsSaid := over
#print axioms proved
end Go.Proofs.Ytieimafoacdefaa.senderRuns
namespace Go.Proofs.Ytieimafoacdefaa
/-- The row, under a short name, for the claim. -/
theorem senderRuns_holds : Rows.SenderRunsSaid := senderRuns.proved
end Go.Proofs.Ytieimafoacdefaa
