/- What shown tells. -/
import Derived.Test.YtlkcekldddpjbaaDueM
import Derived.Deep.RegionHeld3
import Derived.Deep.RegionLaw
import Derived.Deep.AppendLies
import Derived.RegionTactic
import Derived.ChangeAlike
import Derived.BigRegion
import Derived.Outline
import Derived.Deep.DeepCutAuto
import Derived.Maps.Keyed
import Derived.WideKeyEntry
import Derived.Deep.LoopGhost
import Derived.StillTailTactics
namespace Go.Proofs.Ytlkcekldddpjbaa.Due
open Go.RowKit Go.Proofs.YtlkcekldddpjbaaW.PrintWords Go.Proofs.YtlkcekldddpjbaaW.PrintLast Go.Proofs.YtlkcekldddpjbaaW.PrintMore
open Go.MapKept (Stamped)
open Go.ChangeMaps (setBlock)
open Go.Maps (Keyed int_keyed keyOf_int_mk)
set_option linter.unusedVariables false
set_option linter.unusedSimpArgs false

theorem put_to {A : Nat → Prop} {D : Nat} {M : List Item} {W w : World} (h : DueTo A D M W w) (k t : Int) (hk : (Lit.int .i64 k).wf = true) (hlen : M.length < 900000) :
    Calls Try.prog 11 #[.pointer (some ⟨D, 0, none⟩), .int .i64 k, .int .u64 t] w fun e w' => e = .returned (.tuple #[]) ∧ DueTo A D (putM M k t) W w' :=
  (due_put w _ D M k t h.1 hk hlen).mono fun _ _ q => ⟨q.1, due_trans h q.2⟩
theorem drop_to {A : Nat → Prop} {D : Nat} {M : List Item} {W w : World} (h : DueTo A D M W w) (k : Int) (hk : (Lit.int .i64 k).wf = true) (hlen : M.length < 900000) :
    Calls Try.prog 13 #[.pointer (some ⟨D, 0, none⟩), .int .i64 k] w fun e w' => e = .returned (.bool (hasM M k)) ∧ DueTo A D (dropM M k) W w' :=
  (due_drop w _ D M k h.1 hk hlen).mono fun _ _ q => ⟨q.1, due_trans h q.2⟩
theorem take_to {A : Nat → Prop} {D : Nat} {M : List Item} {W w : World} (h : DueTo A D M W w) (now : Int) (hlen : M.length < 900000) :
    Calls Try.prog 15 #[.pointer (some ⟨D, 0, none⟩), .int .u64 now] w fun e w' => e = .returned (.tuple #[.int .i64 (takeM M now).1.1, .bool (takeM M now).1.2]) ∧ DueTo A D (takeM M now).2 W w' :=
  (due_take w _ D M now h.1 hlen).mono fun _ _ q => ⟨q.1, due_trans h q.2⟩
theorem len_to {A : Nat → Prop} {D : Nat} {M : List Item} {W w : World} (h : DueTo A D M W w) :
    Calls Try.prog 19 #[.pointer (some ⟨D, 0, none⟩)] w fun e w' => e = .returned (.int .i64 (M.length : Int)) ∧ DueTo A D M W w' :=
  (due_len w _ D M h.1).mono fun _ _ q => ⟨q.1, due_trans h (due_below h.1 q.2)⟩
theorem next_to {A : Nat → Prop} {D : Nat} {M : List Item} {W w : World} (h : DueTo A D M W w) :
    Calls Try.prog 17 #[.pointer (some ⟨D, 0, none⟩)] w fun e w' => e = .returned (match best M with | none => .tuple #[.int .i64 0, .int .u64 0, .bool false] | some p => .tuple #[.int .i64 p.1, .int .u64 p.2, .bool true]) ∧ DueTo A D M W w' :=
  (due_next w _ D M h.1).mono fun _ _ q => ⟨q.1, due_trans h (due_below h.1 q.2)⟩
theorem due_refl {A : Nat → Prop} {D : Nat} {M : List Item} {W : World} (h : DueAt W A D M) : DueTo A D M W W := due_below h (Below.refl _ _)
/-- All that a Due of the call's own turns lies above. -/
theorem to_below {A : Nat → Prop} {D B : Nat} {M : List Item} {W0 W w : World} (hB : Below B W0 W) (hA : ∀ k, A k → B ≤ k) (hs : B ≤ W.heap.size) (h : DueTo A D M W w) : Below B W0 w :=
  ⟨h.2.os.trans hB.os, h.2.tape.trans hB.tape, h.2.output.trans hB.output, Nat.le_trans hB.size h.2.size, fun k hk => (h.2.block k (by omega) (fun ha => by have := hA k ha; omega)).trans (hB.block k hk)⟩
set_option maxRecDepth 100000 in
set_option maxHeartbeats 3200000 in
theorem shown_true (W : World) : Calls Try.prog 8 #[] W fun e w' => e = .returned (.bool true) ∧ Below W.heap.size W w' := by
  have e1 : takeM (putM (putM (putM [] 1 9) 2 5) 1 3) 4 = ((1, true), [(2, 5)]) := by rfl
  have e2 : takeM [(2, 5)] 4 = ((0, false), [(2, 5)]) := by rfl
  have HN := Aside0.mk (due_new W)
  go_enter Try.func8, Try.ntmps8
  go_wp2_with (first
    | (go_at_call 9; refine HN.out.mono ?_; rintro e w1 ⟨D, rfl, hb, hd⟩; replace hd := due_refl hd)
    | (go_at_call 11; refine (put_to (M := []) (by assumption) _ _ (by decide) (by decide)).mono ?_; rintro e w2 ⟨rfl, hd2⟩)
    | (go_at_call 11; refine (put_to (M := putM [] 1 9) (by assumption) _ _ (by decide) (by decide)).mono ?_; rintro e w3 ⟨rfl, hd3⟩)
    | (go_at_call 11; refine (put_to (M := putM (putM [] 1 9) 2 5) (by assumption) _ _ (by decide) (by decide)).mono ?_; rintro e w4 ⟨rfl, hd4⟩)
    | (go_at_call 15; refine (take_to (M := putM (putM (putM [] 1 9) 2 5) 1 3) (by assumption) _ (by decide)).mono ?_; rintro e w5 ⟨rfl, hd5⟩; rw [e1] at hd5)
    | (go_at_call 15; refine (take_to (M := [(2, 5)]) (by assumption) _ (by decide)).mono ?_; rintro e w6 ⟨rfl, hd6⟩; rw [e2] at hd6)
    | (go_at_call 19; refine (len_to (M := [(2, 5)]) hd6).mono ?_; rintro e w7 ⟨rfl, hd7⟩))
  go_ret
  exact ⟨rfl, to_below hb (fun k h => h.1) hb.size hd7⟩

end Go.Proofs.Ytlkcekldddpjbaa.Due
