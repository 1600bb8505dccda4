/- One Due, and two of them. -/
import Derived.Test.YtlkcekldddpjbaaDueS
import Derived.Deep.RegionHeld3
import Derived.Deep.RegionLaw
import Derived.Deep.AppendLies
import Derived.RegionTactic
import Derived.ChangeAlike
import Derived.BigRegion
import Derived.Outline
import Derived.Deep.DeepCutAuto
import Derived.Maps.Keyed
import Derived.WideKeyEntry
import Derived.Deep.LoopGhost
import Derived.StillTailTactics
namespace Go.Proofs.Ytlkcekldddpjbaa.Due
open Go.RowKit Go.Proofs.YtlkcekldddpjbaaW.PrintWords Go.Proofs.YtlkcekldddpjbaaW.PrintLast Go.Proofs.YtlkcekldddpjbaaW.PrintMore
open Go.MapKept (Stamped)
open Go.ChangeMaps (setBlock)
open Go.Maps (Keyed int_keyed keyOf_int_mk)
set_option linter.unusedVariables false
set_option linter.unusedSimpArgs false

/-- What stands in blocks that have not turned. -/
theorem row_far {W W' : World} {ok : Nat → Prop} {R : Nat} {L : List Item} (h : RowAt W ok R L) (hb : ∀ k, k < W.heap.size → ok k → W'.heap[k]? = W.heap[k]?) : RowAt W' ok R L := by
  obtain ⟨iv, Mb, hR, hI, ⟨es, clock, hm, hr⟩, h1, h2, h3⟩ := h
  exact ⟨iv, Mb, (hb R (blk_lt hR) h1).trans hR, own_move hI (fun k hk => by
    obtain ⟨cells, hc⟩ := own_typed hI k hk
    exact hb k (blk_lt hc) (h3 k hk)), ⟨es, clock, (hb Mb (blk_lt hm) h2).trans hm, hr⟩, h1, h2, h3⟩
theorem due_far {W W' : World} {B : Nat → Prop} {D : Nat} {M : List Item} (h : DueAt W B D M) (hb : ∀ k, k < W.heap.size → B k → W'.heap[k]? = W.heap[k]?) : DueAt W' B D M := by
  obtain ⟨R, L, hD, hA, hR, hr⟩ := h
  exact ⟨R, L, (hb D (blk_lt hD) hA).trans hD, hA, row_far hR (fun k hk ho => hb k hk ho.1), hr⟩
/-- One Due of the call's own: all that has turned since W0 lies above its blocks' floor. -/
def Solo (D : Nat) (M : List Item) (W0 w : World) : Prop := ∃ A : Nat → Prop, DueAt w A D M ∧ (∀ k, A k → W0.heap.size ≤ k ∧ k < w.heap.size) ∧ Below W0.heap.size W0 w
/-- Two Dues of the call's own, with nothing in common. -/
def Duo (D : Nat) (M : List Item) (E : Nat) (N : List Item) (W0 w : World) : Prop := ∃ A B : Nat → Prop, DueAt w A D M ∧ DueAt w B E N ∧ (∀ k, A k → ¬ B k) ∧ (∀ k, A k → W0.heap.size ≤ k ∧ k < w.heap.size) ∧ (∀ k, B k → W0.heap.size ≤ k ∧ k < w.heap.size) ∧ Below W0.heap.size W0 w
theorem Solo.below {D : Nat} {M : List Item} {W0 w : World} (h : Solo D M W0 w) : Below W0.heap.size W0 w := by
  obtain ⟨_, _, _, h⟩ := h; exact h
theorem Duo.below {D E : Nat} {M N : List Item} {W0 w : World} (h : Duo D M E N W0 w) : Below W0.heap.size W0 w := by
  obtain ⟨_, _, _, _, _, _, _, h⟩ := h; exact h
theorem Duo.turn {D E : Nat} {M N : List Item} {W0 w : World} (h : Duo D M E N W0 w) : Duo E N D M W0 w := by
  obtain ⟨A, B, h1, h2, h3, h4, h5, h6⟩ := h
  exact ⟨B, A, h2, h1, fun k hb ha => h3 k ha hb, h5, h4, h6⟩
theorem solo_new {W0 W : World} (hW : Below W0.heap.size W0 W) : Calls Try.prog 9 #[] W fun e w' => ∃ D, e = .returned (.pointer (some ⟨D, 0, none⟩)) ∧ Solo D [] W0 w' :=
  (due_new W).mono fun e w' q => by
    obtain ⟨D, he, hb, hd⟩ := q
    exact ⟨D, he, _, hd, fun k hk => ⟨Nat.le_trans hW.size hk.1, hk.2⟩, hW.trans (hb.mono hW.size)⟩
theorem duo_new {D : Nat} {M : List Item} {W0 W : World} (h : Solo D M W0 W) : Calls Try.prog 9 #[] W fun e w' => ∃ E, e = .returned (.pointer (some ⟨E, 0, none⟩)) ∧ Duo D M E [] W0 w' :=
  (due_new W).mono fun e w' q => by
    obtain ⟨A, h1, h2, h3⟩ := h
    obtain ⟨E, he, hb, hd⟩ := q
    have hs := hb.size
    exact ⟨E, he, A, _, due_far h1 (fun k hk _ => hb.block k hk), hd, fun k ha hk => by have := (h2 k ha).2; omega, fun k ha => ⟨(h2 k ha).1, by have := (h2 k ha).2; omega⟩, fun k hk => ⟨Nat.le_trans h3.size hk.1, hk.2⟩, h3.trans (hb.mono h3.size)⟩
theorem solo_step {D : Nat} {M' : List Item} {W0 w w' : World} {A : Nat → Prop} (hA : ∀ k, A k → W0.heap.size ≤ k ∧ k < w.heap.size) (hb : Below W0.heap.size W0 w) (h : DueTo A D M' w w') : Solo D M' W0 w' := by
  refine ⟨_, h.1, fun k hk => ⟨?_, hk.1⟩, to_below hb (fun k hk => (hA k hk).1) hb.size h⟩
  rcases hk.2 with h | h
  · exact (hA k h).1
  · exact Nat.le_trans hb.size h
theorem duo_step {D E : Nat} {M' N : List Item} {W0 w w' : World} {A B : Nat → Prop} (hB : DueAt w B E N) (hAB : ∀ k, A k → ¬ B k) (hA : ∀ k, A k → W0.heap.size ≤ k ∧ k < w.heap.size) (hB' : ∀ k, B k → W0.heap.size ≤ k ∧ k < w.heap.size) (hb : Below W0.heap.size W0 w) (h : DueTo A D M' w w') : Duo D M' E N W0 w' := by
  have hs := h.2.size
  refine ⟨_, B, h.1, due_far hB (fun k hk hk2 => h.2.block k hk (fun ha => hAB k ha hk2)), fun k hk hk2 => ?_, fun k hk => ⟨?_, hk.1⟩, fun k hk => ⟨(hB' k hk).1, by have := (hB' k hk).2; omega⟩, to_below hb (fun k hk => (hA k hk).1) hb.size h⟩
  · rcases hk.2 with h | h
    · exact hAB k h hk2
    · have := (hB' k hk2).2; omega
  · rcases hk.2 with h | h
    · exact (hA k h).1
    · exact Nat.le_trans hb.size h
theorem solo_put {D : Nat} {M : List Item} {W0 w : World} (h : Solo D M W0 w) (k t : Int) (hk : (Lit.int .i64 k).wf = true) (hlen : M.length < 900000) :
    Calls Try.prog 11 #[.pointer (some ⟨D, 0, none⟩), .int .i64 k, .int .u64 t] w fun e w' => e = .returned (.tuple #[]) ∧ Solo D (putM M k t) W0 w' := by
  obtain ⟨A, h1, h2, h3⟩ := h
  exact (due_put w A D M k t h1 hk hlen).mono fun _ _ q => ⟨q.1, solo_step h2 h3 q.2⟩
theorem duo_put {D E : Nat} {M N : List Item} {W0 w : World} (h : Duo D M E N W0 w) (k t : Int) (hk : (Lit.int .i64 k).wf = true) (hlen : M.length < 900000) :
    Calls Try.prog 11 #[.pointer (some ⟨D, 0, none⟩), .int .i64 k, .int .u64 t] w fun e w' => e = .returned (.tuple #[]) ∧ Duo D (putM M k t) E N W0 w' := by
  obtain ⟨A, B, h1, h2, h3, h4, h5, h6⟩ := h
  exact (due_put w A D M k t h1 hk hlen).mono fun _ _ q => ⟨q.1, duo_step h2 h3 h4 h5 h6 q.2⟩
theorem solo_drop {D : Nat} {M : List Item} {W0 w : World} (h : Solo D M W0 w) (k : Int) (hk : (Lit.int .i64 k).wf = true) (hlen : M.length < 900000) :
    Calls Try.prog 13 #[.pointer (some ⟨D, 0, none⟩), .int .i64 k] w fun e w' => e = .returned (.bool (hasM M k)) ∧ Solo D (dropM M k) W0 w' := by
  obtain ⟨A, h1, h2, h3⟩ := h
  exact (due_drop w A D M k h1 hk hlen).mono fun _ _ q => ⟨q.1, solo_step h2 h3 q.2⟩
theorem duo_drop {D E : Nat} {M N : List Item} {W0 w : World} (h : Duo D M E N W0 w) (k : Int) (hk : (Lit.int .i64 k).wf = true) (hlen : M.length < 900000) :
    Calls Try.prog 13 #[.pointer (some ⟨D, 0, none⟩), .int .i64 k] w fun e w' => e = .returned (.bool (hasM M k)) ∧ Duo D (dropM M k) E N W0 w' := by
  obtain ⟨A, B, h1, h2, h3, h4, h5, h6⟩ := h
  exact (due_drop w A D M k h1 hk hlen).mono fun _ _ q => ⟨q.1, duo_step h2 h3 h4 h5 h6 q.2⟩
theorem solo_take {D : Nat} {M : List Item} {W0 w : World} (h : Solo D M W0 w) (now : Int) (hlen : M.length < 900000) :
    Calls Try.prog 15 #[.pointer (some ⟨D, 0, none⟩), .int .u64 now] w fun e w' => e = .returned (.tuple #[.int .i64 (takeM M now).1.1, .bool (takeM M now).1.2]) ∧ Solo D (takeM M now).2 W0 w' := by
  obtain ⟨A, h1, h2, h3⟩ := h
  exact (due_take w A D M now h1 hlen).mono fun _ _ q => ⟨q.1, solo_step h2 h3 q.2⟩
theorem duo_take {D E : Nat} {M N : List Item} {W0 w : World} (h : Duo D M E N W0 w) (now : Int) (hlen : M.length < 900000) :
    Calls Try.prog 15 #[.pointer (some ⟨D, 0, none⟩), .int .u64 now] w fun e w' => e = .returned (.tuple #[.int .i64 (takeM M now).1.1, .bool (takeM M now).1.2]) ∧ Duo D (takeM M now).2 E N W0 w' := by
  obtain ⟨A, B, h1, h2, h3, h4, h5, h6⟩ := h
  exact (due_take w A D M now h1 hlen).mono fun _ _ q => ⟨q.1, duo_step h2 h3 h4 h5 h6 q.2⟩
theorem solo_len {D : Nat} {M : List Item} {W0 w : World} (h : Solo D M W0 w) :
    Calls Try.prog 19 #[.pointer (some ⟨D, 0, none⟩)] w fun e w' => e = .returned (.int .i64 (M.length : Int)) ∧ Solo D M W0 w' := by
  obtain ⟨A, h1, h2, h3⟩ := h
  exact (due_len w A D M h1).mono fun _ _ q => ⟨q.1, solo_step h2 h3 (due_below h1 q.2)⟩
theorem duo_len {D E : Nat} {M N : List Item} {W0 w : World} (h : Duo D M E N W0 w) :
    Calls Try.prog 19 #[.pointer (some ⟨D, 0, none⟩)] w fun e w' => e = .returned (.int .i64 (M.length : Int)) ∧ Duo D M E N W0 w' := by
  obtain ⟨A, B, h1, h2, h3, h4, h5, h6⟩ := h
  exact (due_len w A D M h1).mono fun _ _ q => ⟨q.1, duo_step h2 h3 h4 h5 h6 (due_below h1 q.2)⟩
theorem solo_next {D : Nat} {M : List Item} {W0 w : World} (h : Solo D M W0 w) :
    Calls Try.prog 17 #[.pointer (some ⟨D, 0, none⟩)] w fun e w' => e = .returned (match best M with | none => .tuple #[.int .i64 0, .int .u64 0, .bool false] | some p => .tuple #[.int .i64 p.1, .int .u64 p.2, .bool true]) ∧ Solo D M W0 w' := by
  obtain ⟨A, h1, h2, h3⟩ := h
  exact (due_next w A D M h1).mono fun _ _ q => ⟨q.1, solo_step h2 h3 (due_below h1 q.2)⟩
/-- A call that only draws, or makes what it lets go. -/
theorem solo_below {D : Nat} {M : List Item} {W0 w w' : World} (h : Solo D M W0 w) (hb : Below w.heap.size w w') : Solo D M W0 w' := by
  obtain ⟨A, h1, h2, h3⟩ := h
  exact solo_step h2 h3 (due_below h1 hb)
theorem duo_below {D E : Nat} {M N : List Item} {W0 w w' : World} (h : Duo D M E N W0 w) (hb : Below w.heap.size w w') : Duo D M E N W0 w' := by
  obtain ⟨A, B, h1, h2, h3, h4, h5, h6⟩ := h
  exact duo_step h2 h3 h4 h5 h6 (due_below h1 hb)
theorem duo_drew {D E : Nat} {M N : List Item} {W0 w : World} (h : Duo D M E N W0 w) : Duo D M E N W0 w.drew := duo_below h (below_drew (Below.refl _ _))
theorem solo_drew {D : Nat} {M : List Item} {W0 w : World} (h : Solo D M W0 w) : Solo D M W0 w.drew := solo_below h (below_drew (Below.refl _ _))

end Go.Proofs.Ytlkcekldddpjbaa.Due
