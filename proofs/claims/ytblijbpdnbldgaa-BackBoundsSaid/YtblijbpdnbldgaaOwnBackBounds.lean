/- A delay is never less than the least wait nor more than the longest one, and that one is never more than the greatest: for all numbers. -/
import Derived.Test.YtblijbpdnbldgaaRows
import Derived.Test.YtblijbpdnbldgaaPureBackTells
import Derived.WalkKit
import Derived.ProofKit
import Derived.OpenShut
import Derived.ShutString
import Derived.ChangeOld
import Derived.Below
import Derived.SizedLaws
namespace Go.Proofs.Ytblijbpdnbldgaa.ownBackBounds
open Go.RowKit Go.Proofs.YtblijbpdnbldgaaW.PrintWords Go.Proofs.YtblijbpdnbldgaaW.PrintLast Go.Proofs.YtblijbpdnbldgaaW.PrintMore Go.Proofs.Ytblijbpdnbldgaa.PBackTells Go.Proofs.Ytblijbpdnbldgaa.Pure.AtBackTells
attribute [local go_sem] max2_int min2_int max_two min_two max_three min_three max_four min_four

set_option maxHeartbeats 1000000 in
set_option maxRecDepth 100000 in
theorem walk (b m t j : Int) (w : World) (hb : (Lit.int .u64 b).wf = true) (hm : (Lit.int .u64 m).wf = true) (ht : (Lit.int .i64 t).wf = true) (hj : (Lit.int .u64 j).wf = true) :
    Calls Try.prog 4 #[.int .u64 b, .int .u64 m, .int .i64 t, .int .u64 j] w fun e w' => e = .returned (.bool true) ∧ Below w.heap.size w w' := by
  obtain ⟨s, hs⟩ : ∃ x, S b m t.toNat = x := ⟨_, rfl⟩
  obtain ⟨d, hd⟩ : ∃ x, D b m t.toNat j = x := ⟨_, rfl⟩
  obtain ⟨l, hl⟩ : ∃ x, mn b m = x := ⟨_, rfl⟩
  have A5 := Aside0.mk (shown_tells (t.toNat + 300) (by omega))
  have A7 := Aside0.mk (delay_tells b m t j hb hm (i64_rng ht).2 (u64_rng hj).1 (t.toNat + 300) (by omega))
  have A8 := Aside0.mk (span_tells b m t hb hm (i64_rng ht).2 (t.toNat + 300) (by omega))
  rw [hd] at A7
  rw [hs] at A8
  obtain ⟨h0, h1, h2, h3⟩ := parts b m t.toNat (u64_rng hb) (u64_rng hm)
  have h4 := D_rng b m t.toNat j (u64_rng hb) (u64_rng hm)
  rw [hs, hl] at h1
  rw [hs] at h2
  rw [hd, hs, hl] at h4
  have c1 : decide (l ≤ d) = true := decide_eq_true h4.1
  have c2 : decide (d ≤ s) = true := decide_eq_true h4.2
  have c3 : decide (s ≤ m) = true := decide_eq_true h2
  have c4 : decide (l ≤ s) = true := decide_eq_true h1
  have hl_ : (if m < b then m else b) = l := hl
  clear h0 h1 h2 h3 h4 hl hs hd hb hm ht hj
  have HB := Aside0.mk (Below.refl w.heap.size w)
  generalize t.toNat + 300 = k at *
  go_enter Try.func4, Try.ntmps4
  go_wp2_with (first
    | (go_at_call 8; refine (postroomlaw14_shown.calls k true _ A5.out).mono ?_; rintro e w1 ⟨rfl, hb1⟩; have n0_ := Aside0.mk (below_step HB.out hb1); clear HB; have HB := n0_; clear n0_ hb1)
    | (go_at_call 11; refine (back_Delay.calls k b m t j d _ A7.out).mono ?_; rintro e w2 ⟨rfl, hb1⟩; have n0_ := Aside0.mk (below_step HB.out hb1); clear HB; have HB := n0_; clear n0_ hb1)
    | (go_at_call 9; refine (back_Span.calls k b m t s _ A8.out).mono ?_; rintro e w3 ⟨rfl, hb1⟩; have n0_ := Aside0.mk (below_step HB.out hb1); clear HB; have HB := n0_; clear n0_ hb1))
  go_ret
  exact ⟨rfl, HB.out⟩
end Go.Proofs.Ytblijbpdnbldgaa.ownBackBounds
namespace Go.Proofs.Ytblijbpdnbldgaa.backBounds
open Go.ChangeShapes Go.WideShapes Go.ChangeAt Go.RowKit
open Go.ChangeMaps (open_string shut_string)
set_option linter.unusedVariables false
theorem own : ownKnob Try.prog.godebug = none := by kernel_rfl
set_option maxRecDepth 100000 in
theorem lifted (os : Os) (started : os.Started) (H : Type) (enc : TypeId × Value → H) :
    ReturnsInHanded {} Try.checked os 4 .any (Rows.backBoundsSpec.pre6 enc Try.prog Try.f4 Rows.backBoundsRow.domain false) (Rows.backBoundsSpec.post enc Try.prog Try.f4 false true false false) := by
  refine returnsInHanded_of_change_sized (C := Try.checked) own started (by kernel_rfl) Try.func4
    (ChangeSpec.witness6 (enc := enc) (C := Try.checked) false ⟨#[], #[.int .u64 0, .int .u64 0, .int .i64 0, .int .u64 0], []⟩ 8 (by kernel_rfl) (by kernel_rfl) (by kernel_rfl) (by kernel_rfl)) ?_
  intro W base args ds gs before hval0 hW hcnd hsz0 _
  have hsz : (DataW.weightsEach Try.prog (Try.f4.params.toList ++ Rows.backBoundsSpec.plain.varTypes Try.prog) (ds ++ gs)).all (· ≤ reachBytes) = true := hsz0
  have hval : ∀ (j : Nat) t v, Try.f4.params[j]? = some t → args[j]? = some v → Value.okWide Try.prog W .any base t v := hval0
  have hW' := hW
  obtain ⟨p, q, hA0, hV, rfl, hfz, hnd⟩ := hW
  have hA : DataW.TrodAll enc Try.prog W 0 (fun _ => true) true Try.f4.params.toList args.toList ds p := hA0
  rw [Try.params4] at hA hval hsz
  obtain ⟨v0, vs0, d0, ds0, p0, q0, hargs, rfl, rfl, h0, r0⟩ := trodAll_cons hA
  obtain ⟨v1, vs1, d1, ds1, p1, q1, rfl, rfl, rfl, h1, r1⟩ := trodAll_cons r0
  obtain ⟨v2, vs2, d2, ds2, p2, q2, rfl, rfl, rfl, h2, r2⟩ := trodAll_cons r1
  obtain ⟨v3, vs3, d3, ds3, p3, q3, rfl, rfl, rfl, h3, r3⟩ := trodAll_cons r2
  obtain ⟨rfl, rfl, rfl⟩ := trodAll_nil r3
  obtain rfl : args = #[v0, v1, v2, v3] := by cases args; simp_all
  obtain ⟨rfl, rfl⟩ := trodVars_none hV
  obtain ⟨a0, rfl, rfl, rfl, w0⟩ := open_int Try.underlying22 (hval 0 22 v0 rfl rfl) h0
  obtain ⟨a1, rfl, rfl, rfl, w1⟩ := open_int Try.underlying22 (hval 1 22 v1 rfl rfl) h1
  obtain ⟨a2, rfl, rfl, rfl, w2⟩ := open_int Try.underlying3 (hval 2 3 v2 rfl rfl) h2
  obtain ⟨a3, rfl, rfl, rfl, w3⟩ := open_int Try.underlying22 (hval 3 22 v3 rfl rfl) h3
  clear hA0 hval0 hsz0 hsz
  refine (ownBackBounds.walk a0 a1 a2 a3 W w0 w1 w2 w3).mono fun e W' ⟨he, bel⟩ => ?_
  subst he
  exact ⟨_, rfl, _, _, _, [], _, [], hW', trodAll_mk1 (shut_bool Try.underlying4 _), (trodAll_cons_mk (shut_int Try.underlying22 w0) (trodAll_cons_mk (shut_int Try.underlying22 w1) (trodAll_cons_mk (shut_int Try.underlying3 w2) (trodAll_cons_mk (shut_int Try.underlying22 w3) trodAll_mk0)))), rfl, bel.frame _, fun h => by cases h⟩
theorem over : Rows.backBoundsRow.holds Try.pinned (OpenSpec.ofChange Rows.backBoundsSpec) :=
  OpenClaim.holds_of_wide 4 Try.f4 rfl rfl rfl rfl rfl rfl rfl ⟨rfl, rfl, rfl, rfl, rfl⟩ rfl rfl rfl rfl rfl (by kernel_rfl) Try.func4 (by kernel_rfl)
    (of_decide_eq_true (by kernel_rfl)) (by unfold Func.isWrapper; first | (rw [if_pos (by decide +kernel)]; kernel_rfl) | (rw [if_neg (by decide +kernel)]; exact ⟨rfl, rfl⟩))
    (fun os started H enc _ => lifted os started H enc)
theorem proved : Rows.BackBoundsSaid := over
#print axioms proved
end Go.Proofs.Ytblijbpdnbldgaa.backBounds
namespace Go.Proofs.Ytblijbpdnbldgaa
/-- The row, under a short name, for the claim. -/
theorem backBounds_holds : Rows.BackBoundsSaid := backBounds.proved
end Go.Proofs.Ytblijbpdnbldgaa
