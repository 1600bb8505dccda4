/- What the methods of Due do. -/
import Derived.Test.YtlkcekldddpjbaaDueF
import Derived.Deep.RegionHeld3
import Derived.Deep.RegionLaw
import Derived.Deep.AppendLies
import Derived.RegionTactic
import Derived.ChangeAlike
import Derived.BigRegion
import Derived.Outline
import Derived.Deep.DeepCutAuto
import Derived.Maps.Keyed
import Derived.WideKeyEntry
import Derived.Deep.LoopGhost
import Derived.StillTailTactics
namespace Go.Proofs.Ytlkcekldddpjbaa.Due
open Go.RowKit Go.Proofs.YtlkcekldddpjbaaW.PrintWords Go.Proofs.YtlkcekldddpjbaaW.PrintLast Go.Proofs.YtlkcekldddpjbaaW.PrintMore
open Go.MapKept (Stamped)
open Go.ChangeMaps (setBlock)
open Go.Maps (Keyed int_keyed keyOf_int_mk)
set_option linter.unusedVariables false
set_option linter.unusedSimpArgs false

/-! ### Items as a table -/
def dropM (M : List Item) (k : Int) : List Item := M.filter fun p => !(p.1 == k)
def putM (M : List Item) (k t : Int) : List Item := dropM M k ++ [(k, t)]
def hasM (M : List Item) (k : Int) : Bool := M.any fun p => p.1 == k
/-- The first of the items. -/
def best : List Item → Option Item
  | [] => none
  | x :: xs => match best xs with
    | none => some x
    | some y => if lessB y x then some y else some x
theorem less_anti {a b : Item} (h : lessB a b = false) (k : lessB b a = false) : a = b := by
  unfold lessB at *
  simp only [Bool.or_eq_false_iff, decide_eq_false_iff_not, Bool.and_eq_false_iff, beq_eq_false_iff_ne, ne_eq] at *
  have h1 : a.1 = b.1 := by omega
  have h2 : a.2 = b.2 := by omega
  exact Prod.ext h1 h2
theorem best_none {M : List Item} (h : best M = none) : M = [] := by
  cases M with
  | nil => rfl
  | cons x xs =>
    unfold best at h
    split at h
    · cases h
    · split at h <;> cases h
theorem best_spec : ∀ {M : List Item} {p : Item}, best M = some p → p ∈ M ∧ ∀ q ∈ M, lessB q p = false
  | [], p, h => by cases h
  | x :: xs, p, h => by
    unfold best at h
    split at h
    · rename_i hx
      rw [best_none hx]
      cases h
      refine ⟨List.mem_singleton.2 rfl, fun q hq => ?_⟩
      rw [List.mem_singleton.1 hq]
      exact less_self _
    · rename_i y hy
      obtain ⟨i1, i2⟩ := best_spec hy
      split at h
      · rename_i hl
        cases h
        refine ⟨List.mem_cons_of_mem _ i1, fun q hq => ?_⟩
        rcases List.mem_cons.1 hq with rfl | hq
        · exact less_not hl
        · exact i2 q hq
      · rename_i hl
        cases h
        refine ⟨List.mem_cons_self, fun q hq => ?_⟩
        rcases List.mem_cons.1 hq with rfl | hq
        · exact less_self _
        · exact less_trans (by simpa using hl) (i2 q hq)
theorem best_of {M : List Item} {p : Item} (h1 : p ∈ M) (h2 : ∀ q ∈ M, lessB q p = false) : best M = some p := by
  cases h : best M with
  | none => rw [best_none h] at h1; cases h1
  | some q =>
    obtain ⟨i1, i2⟩ := best_spec h
    rw [less_anti (h2 q i1) (i2 p h1)]
theorem best_same {L M : List Item} (h : ∀ x, x ∈ L ↔ x ∈ M) : best L = best M := by
  cases hM : best M with
  | none =>
    have := best_none hM
    cases hL : best L with
    | none => rfl
    | some p => have := (h p).1 (best_spec hL).1; simp_all
  | some p =>
    obtain ⟨i1, i2⟩ := best_spec hM
    exact best_of ((h p).2 i1) (fun q hq => i2 q ((h q).1 hq))
theorem heap_first {L : List Item} (h : HeapTo L L.length) (hl : 0 < L.length) : best L = some (it L 0) := by
  refine best_of (mem_it.2 ⟨0, hl, rfl⟩) (fun q hq => ?_)
  obtain ⟨k, hk, rfl⟩ := mem_it.1 hq
  induction k using Nat.strongRecOn with
  | _ k ih =>
    by_cases h0 : k = 0
    · subst h0; exact less_self _
    · have a := h k (by omega) hk
      have b := ih ((k - 1) / 2) (by omega) (by omega) (mem_it.2 ⟨_, by omega, rfl⟩)
      exact less_trans b a
/-- A row of items, whatever is ok. -/
theorem row_mono {W : World} {ok ok' : Nat → Prop} {R : Nat} {L : List Item} (h : RowAt W ok R L) (hk : ∀ k, k < W.heap.size → ok k → ok' k) : RowAt W ok' R L := by
  obtain ⟨iv, Mb, hR, hI, hP, h1, h2, h3⟩ := h
  have hP' := hP
  obtain ⟨es, clock, hm, _⟩ := hP'
  exact ⟨iv, Mb, hR, hI, hP, hk R (blk_lt hR) h1, hk Mb (blk_lt hm) h2, fun k e => by
    obtain ⟨cur, hc⟩ := own_typed hI k e
    exact hk k (blk_lt hc) (h3 k e)⟩
/-- A Due at D that holds the items of M; its blocks are A. -/
def DueAt (W : World) (A : Nat → Prop) (D : Nat) (M : List Item) : Prop := ∃ (R : Nat) (L : List Item), W.heap[D]? = some (.cells #[.pointer (some ⟨R, 0, none⟩)] 58 (0, 0)) ∧ A D ∧
  RowAt W (fun k => A k ∧ k ≠ D) R L ∧ HeapTo L L.length ∧ Same L M ∧ (M.map Prod.fst).Nodup
/-- What a Due owns behind a call. -/
def Owns (A : Nat → Prop) (W w' : World) (k : Nat) : Prop := k < w'.heap.size ∧ (A k ∨ W.heap.size ≤ k)
/-- From one to the next: only its own blocks have turned. -/
def DueTo (A : Nat → Prop) (D : Nat) (M : List Item) (W w' : World) : Prop := DueAt w' (Owns A W w') D M ∧ Moved A W w'
theorem due_to {A : Nat → Prop} {D R : Nat} {L M : List Item} {W w' : World} (hD : W.heap[D]? = some (.cells #[.pointer (some ⟨R, 0, none⟩)] 58 (0, 0))) (hA : A D)
    (hm : Moved (fun k => (A k ∧ k ≠ D) ∨ W.heap.size ≤ k) W w') (hr : RowAt w' (fun k => (A k ∧ k ≠ D) ∨ W.heap.size ≤ k) R L) (hh : HeapTo L L.length) (hs : Same L M) (hd : (M.map Prod.fst).Nodup) : DueTo A D M W w' := by
  have lD := blk_lt hD
  have hsz := hm.size
  refine ⟨⟨R, L, (hm.block D lD (by omega)).trans hD, ⟨by omega, .inl hA⟩, row_mono hr (fun k hk h => ?_), hh, hs, hd⟩, hm.os, hm.tape, hm.output, hsz, fun k hk hn => hm.block k hk (fun h => ?_)⟩
  · rcases h with h | h
    · exact ⟨⟨hk, .inl h.1⟩, h.2⟩
    · exact ⟨⟨hk, .inr h⟩, by omega⟩
  · rcases h with h | h
    · exact hn h.1
    · omega
set_option maxHeartbeats 1600000 in
theorem due_len (W : World) (A : Nat → Prop) (D : Nat) (M : List Item) (h : DueAt W A D M) :
    Calls Try.prog 19 #[.pointer (some ⟨D, 0, none⟩)] W fun e w' => e = .returned (.int .i64 (M.length : Int)) ∧ Below W.heap.size W w' := by
  obtain ⟨R, L, hD, hA, hR, hH, hS, hd⟩ := h
  have c0 : W.cell? ⟨D, 0, none⟩ = some (.pointer (some ⟨R, 0, none⟩)) := (blk_cell hD 0).trans rfl
  have HL := Aside0.mk (len_row W _ R L hR)
  rw [hS.1] at HL
  clear hD hA hR hH hS
  go_enter Try.func19, Try.ntmps19
  go_wp2_with (go_at_call 24; refine HL.out.mono ?_; rintro e w1 ⟨rfl, rfl⟩)
  go_ret
  exact ⟨rfl, Below.refl _ _⟩
set_option maxHeartbeats 1600000 in
theorem due_next (W : World) (A : Nat → Prop) (D : Nat) (M : List Item) (h : DueAt W A D M) :
    Calls Try.prog 17 #[.pointer (some ⟨D, 0, none⟩)] W fun e w' => e = .returned (match best M with | none => .tuple #[.int .i64 0, .int .u64 0, .bool false] | some p => .tuple #[.int .i64 p.1, .int .u64 p.2, .bool true]) ∧ Below W.heap.size W w' := by
  have HN := Aside0.mk (due_len W A D M h)
  obtain ⟨R, L, hD, hA, hR, hH, hS, hd⟩ := h
  have c0 : W.cell? ⟨D, 0, none⟩ = some (.pointer (some ⟨R, 0, none⟩)) := (blk_cell hD 0).trans rfl
  by_cases hl : M.length = 0
  · have e : M = [] := List.length_eq_zero_iff.1 hl
    rw [hl] at HN
    subst e
    clear hD hA hR hH hS
    go_enter Try.func17, Try.ntmps17
    go_wp2_with (go_at_call 19; refine HN.out.mono ?_; rintro e w1 ⟨rfl, hb⟩)
    go_ret3
    exact ⟨rfl, hb⟩
  · have hl' : ¬ (M.length : Int) = 0 := by omega
    rw [← best_same hS.2, heap_first hH (by rw [hS.1]; omega)]
    have hl2 : 0 < L.length := by rw [hS.1]; omega
    obtain ⟨iv, Mb, hRb, hI, _⟩ := hR
    obtain ⟨g, cap, rfl, hcap, hcm⟩ := hI.form (by omega)
    have hcells := hI.cells (g := g) rfl
    have hp := it_at hl2
    have cp0 := hcells (0 * 2) _ (flat_get _ _ _ hp).1
    have cp1 := hcells (0 * 2 + 1) _ (flat_get _ _ _ hp).2
    rw [add_plain] at cp0 cp1
    simp only [Nat.zero_mul, Nat.zero_add] at cp0 cp1
    obtain ⟨cur, hg⟩ := own_typed hI g rfl
    generalize it L 0 = q at cp0 cp1
    obtain ⟨k1, a1⟩ := q
    have HX := Aside0.mk (fun (w1 : World) (hb : Below W.heap.size W w1) => (And.intro ((hb.block D (blk_lt hD)).trans hD) (And.intro ((hb.block R (blk_lt hRb)).trans hRb) ((hb.block g (blk_lt hg)).trans hg))))
    have hc : ∀ w1, Below W.heap.size W w1 → w1.cell? ⟨D, 0, none⟩ = some (.pointer (some ⟨R, 0, none⟩)) ∧ w1.cell? ⟨R, 0, none⟩ = some (.slice (some ⟨g, 0, none⟩) L.length cap) ∧ w1.cell? ⟨g, 0, none⟩ = some (.int .i64 k1) ∧ w1.cell? ⟨g, 1, none⟩ = some (.int .u64 a1) := fun w1 hb => by
      have h1 := (hb.block D (blk_lt hD)).trans hD
      have h2 := (hb.block R (blk_lt hRb)).trans hRb
      have h3 : ∀ i, w1.cell? ⟨g, i, none⟩ = W.cell? ⟨g, i, none⟩ := fun i => hb.cell (p := ⟨g, i, none⟩) (blk_lt hg)
      exact ⟨(blk_cell h1 0).trans rfl, (blk_cell h2 0).trans rfl, (h3 0).trans cp0, (h3 1).trans cp1⟩
    have HC := Aside0.mk hc
    have lp : (0 : Int) < (L.length : Int) := by omega
    have lc : (L.length : Int) ≤ (cap : Int) := by have := own_cap hI; omega
    have lm : L.length = M.length := hS.1
    clear hD hA hRb hI hH hS HX hc cp0 cp1 hcells hp hg c0 lm
    go_enter Try.func17, Try.ntmps17
    go_wp2_with (go_at_call 19; refine HN.out.mono ?_; rintro e w1 ⟨rfl, hb⟩; obtain ⟨d0, d1, d2, d3⟩ := HC.out w1 hb)
    go_region
    all_goals go_wp2
    all_goals go_ret3
    all_goals exact ⟨rfl, below_drew (below_alloc hb _)⟩
set_option maxHeartbeats 1600000 in
theorem due_new (W : World) :
    Calls Try.prog 9 #[] W fun e w' => ∃ D, e = .returned (.pointer (some ⟨D, 0, none⟩)) ∧ Below W.heap.size W w' ∧ DueAt w' (fun k => W.heap.size ≤ k ∧ k < w'.heap.size) D [] := by
  have hmm := @run_makeMap Try.prog
  go_enter Try.func9, Try.ntmps9
  go_wp2
  go_ret
  have b0 : Below W.heap.size W (W.alloc (.map #[] 0)) := below_alloc (Below.refl _ _) _
  have d2 := blk_new ((W.alloc (.map #[] 0)).alloc (.cells #[.slice none 0 0, .map (some W.heap.size)] 54 (0, 0))) (.cells #[.pointer (some ⟨W.heap.size + 1, 0, none⟩)] 58 (0, 0))
  have d1 := blk_alloc (blk_new (W.alloc (.map #[] 0)) (.cells #[.slice none 0 0, .map (some W.heap.size)] 54 (0, 0))) (.cells #[.pointer (some ⟨W.heap.size + 1, 0, none⟩)] 58 (0, 0))
  have d0 := blk_alloc (blk_alloc (blk_new W (.map #[] 0)) (.cells #[.slice none 0 0, .map (some W.heap.size)] 54 (0, 0))) (.cells #[.pointer (some ⟨W.heap.size + 1, 0, none⟩)] 58 (0, 0))
  have z1 : (W.alloc (.map #[] 0)).heap.size = W.heap.size + 1 := by simp
  have z2 : ((W.alloc (.map #[] 0)).alloc (.cells #[.slice none 0 0, .map (some W.heap.size)] 54 (0, 0))).heap.size = W.heap.size + 1 + 1 := by simp
  rw [z2] at d2
  rw [z1] at d1
  have l2 := blk_lt d2
  have l1 := blk_lt d1
  have l0 := blk_lt d0
  refine ⟨_, rfl, below_alloc (below_alloc b0 _) _, W.heap.size + 1, [], d2, ⟨by omega, l2⟩, ?_, fun j h0 hj => by simp at hj, Same.refl [], by simp⟩
  refine ⟨.slice none 0 0, W.heap.size, d1, ⟨rfl, .inl ⟨rfl, rfl⟩⟩, ⟨#[], 0, d0, ⟨by simp, by simp, by simp⟩, fun e he => by simp at he, fun j p hp => by simp at hp⟩, ⟨⟨by omega, l1⟩, by omega⟩, ⟨⟨by omega, l0⟩, by omega⟩, fun k hk => by simp [Value.ownBlock] at hk⟩
/-- Where a key stands. -/
theorem place_find {W : World} {Mb : Nat} {L : List Item} (h : PlaceAt W Mb L) {i : Nat} (hi : i < L.length) :
    (Instr.lookup 51 (.map (some Mb)) (.int .i64 (it L i).1) true).run Try.prog W = .ok (.tuple #[.int .i64 (i : Int), .bool true]) W := by
  obtain ⟨es, clock, hm, hs, h1, h2⟩ := h
  obtain ⟨e, he, hek, hev⟩ := h2 i _ (it_at hi)
  obtain ⟨j, hj⟩ := List.mem_iff_getElem?.1 he
  obtain ⟨p, j', hpk, hpw, _⟩ := h1 e he
  have hwf : (Lit.int .i64 (it L i).1).wf = true := by
    rw [hek] at hpk
    injection hpk with _ hpk
    rw [hpk]; exact hpw
  have := look_there hm hs h1 hwf hj hek
  rw [hev] at this
  exact this
theorem place_none {W : World} {Mb : Nat} {L : List Item} (h : PlaceAt W Mb L) {k : Int} (hk : (Lit.int .i64 k).wf = true) (hn : ∀ p ∈ L, p.1 ≠ k) :
    (Instr.lookup 51 (.map (some Mb)) (.int .i64 k) true).run Try.prog W = .ok (.tuple #[.int .i64 0, .bool false]) W := by
  obtain ⟨es, clock, hm, hs, h1, h2⟩ := h
  refine look_not hm h1 hk (fun e he hek => ?_)
  obtain ⟨p, j', hpk, hpw, _, hj'⟩ := h1 e he
  rw [hek] at hpk
  injection hpk with _ hpk
  exact hn p (List.mem_of_getElem? hj') hpk.symm
theorem has_yes {M : List Item} {k : Int} (h : hasM M k = true) : ∃ p ∈ M, p.1 = k := by
  unfold hasM at h
  obtain ⟨p, hp, e⟩ := List.any_eq_true.1 h
  exact ⟨p, hp, by simpa using e⟩
theorem has_no {M : List Item} {k : Int} (h : hasM M k = false) : ∀ p ∈ M, p.1 ≠ k := fun p hp e => by
  unfold hasM at h
  have := List.any_eq_false.1 h p hp
  simp [e] at this
theorem drop_none {M : List Item} {k : Int} (h : ∀ p ∈ M, p.1 ≠ k) : dropM M k = M := by
  unfold dropM
  exact List.filter_eq_self.2 (fun p hp => by simpa using h p hp)
theorem mem_drop {M : List Item} {k : Int} {x : Item} : x ∈ dropM M k ↔ x ∈ M ∧ x.1 ≠ k := by unfold dropM; simp
theorem drop_nodup {M : List Item} (h : (M.map Prod.fst).Nodup) (k : Int) : ((dropM M k).map Prod.fst).Nodup := h.sublist (List.filter_sublist.map _)
theorem put_nodup {M : List Item} (h : (M.map Prod.fst).Nodup) (k t : Int) : ((putM M k t).map Prod.fst).Nodup := by
  unfold putM
  rw [List.map_append]
  refine List.nodup_append.2 ⟨drop_nodup h k, by simp, fun a ha b hb => ?_⟩
  obtain ⟨x, hx, rfl⟩ := List.mem_map.1 ha
  rw [List.map_cons, List.map_nil] at hb
  rw [List.mem_singleton.1 hb]
  exact (mem_drop.1 hx).2
theorem drop_one : ∀ {M : List Item} {k : Int}, (M.map Prod.fst).Nodup → (∃ p ∈ M, p.1 = k) → (dropM M k).length + 1 = M.length
  | [], k, _, h => by obtain ⟨p, hp, _⟩ := h; cases hp
  | x :: xs, k, hd, h => by
    rw [List.map_cons, List.nodup_cons] at hd
    by_cases hx : x.1 = k
    · have : dropM (x :: xs) k = dropM xs k := by unfold dropM; rw [List.filter_cons_of_neg (by simp [hx])]
      rw [this, drop_none (fun p hp e => hd.1 (List.mem_map.2 ⟨p, hp, e.trans hx.symm⟩))]
      rfl
    · have : dropM (x :: xs) k = x :: dropM xs k := by unfold dropM; rw [List.filter_cons_of_pos (by simp [hx])]
      rw [this, List.length_cons, List.length_cons, drop_one hd.2 (by
        obtain ⟨p, hp, e⟩ := h
        rcases List.mem_cons.1 hp with rfl | hp
        · exact absurd e hx
        · exact ⟨p, hp, e⟩)]
set_option maxHeartbeats 1600000 in
theorem due_drop (W : World) (A : Nat → Prop) (D : Nat) (M : List Item) (k : Int) (h : DueAt W A D M) (hk : (Lit.int .i64 k).wf = true) (hlen : M.length < 900000) :
    Calls Try.prog 13 #[.pointer (some ⟨D, 0, none⟩), .int .i64 k] W fun e w' => e = .returned (.bool (hasM M k)) ∧ DueTo A D (dropM M k) W w' := by
  obtain ⟨R, L, hD, hA, hR, hH, hS, hd⟩ := h
  have c0 : W.cell? ⟨D, 0, none⟩ = some (.pointer (some ⟨R, 0, none⟩)) := (blk_cell hD 0).trans rfl
  have hR' := hR
  obtain ⟨iv, Mb, hRb, hI, hP, _⟩ := hR'
  have c1 : W.cell? ⟨R, 1, none⟩ = some (.map (some Mb)) := (blk_cell hRb 1).trans rfl
  have hRo : RowAt W (fun k => (A k ∧ k ≠ D) ∨ W.heap.size ≤ k) R L := row_mono hR (fun k _ h => .inl h)
  cases hb : hasM M k with
  | false =>
    have hno := has_no hb
    have q := place_none hP hk (fun p hp => hno p ((hS.2 p).1 hp))
    have HF := Aside0.mk (due_to hD hA (Moved.refl _ W) hRo hH ⟨hS.1.trans (by rw [drop_none hno]), fun x => (hS.2 x).trans (by rw [drop_none hno])⟩ (drop_nodup hd k))
    clear hD hA hR hH hS hd hRb hI hP hRo hno hb
    go_enter Try.func13, Try.ntmps13
    go_wp2
    go_ret
    exact ⟨rfl, HF.out⟩
  | true =>
    obtain ⟨p, hp, hpk⟩ := has_yes hb
    obtain ⟨i, hi, hip⟩ := mem_it.1 ((hS.2 p).2 hp)
    have q := place_find hP hi
    rw [hip, hpk] at q
    obtain ⟨n, hn⟩ : ∃ n, L.length = n + 1 := ⟨L.length - 1, by omega⟩
    have hSl := hS.1
    have HR := Aside0.mk (remove_heap W _ R L n i hRo hH hn (by omega) (by omega))
    have HF := Aside0.mk (fun (w' : World) (hg : Gone (fun k => (A k ∧ k ≠ D) ∨ W.heap.size ≤ k) R L (it L i) W w') => (by
      obtain ⟨hm, L', hr, hh, hl', hx⟩ := hg
      have := drop_one hd ⟨p, hp, hpk⟩
      refine due_to hD hA hm hr hh ⟨by omega, fun x => ?_⟩ (drop_nodup hd k)
      rw [hx x, mem_drop, hS.2 x, hip, hpk] : DueTo A D (dropM M k) W w'))
    clear hD hA hR hH hS hd hRb hI hP hRo hb hip hp hpk
    go_enter Try.func13, Try.ntmps13
    go_wp2_with (go_at_call 23; refine HR.out.mono ?_; rintro e w1 ⟨⟨v, rfl⟩, hg⟩)
    go_ret
    exact ⟨rfl, HF.out _ hg⟩
theorem due_mono {W : World} {A A' : Nat → Prop} {D : Nat} {M : List Item} (h : DueAt W A D M) (hk : ∀ k, k < W.heap.size → A k → A' k) : DueAt W A' D M := by
  obtain ⟨R, L, hD, hA, hR, hr⟩ := h
  exact ⟨R, L, hD, hk D (blk_lt hD) hA, row_mono hR (fun k hl h => ⟨hk k hl h.1, h.2⟩), hr⟩
theorem due_trans {A : Nat → Prop} {D : Nat} {M1 M2 : List Item} {W w1 w2 : World} (h : DueTo A D M1 W w1) (k : DueTo (Owns A W w1) D M2 w1 w2) : DueTo A D M2 W w2 := by
  obtain ⟨h1, h2⟩ := h
  obtain ⟨k1, k2⟩ := k
  have s1 := h2.size
  have s2 := k2.size
  refine ⟨due_mono k1 (fun k hk ho => ?_), k2.os.trans h2.os, k2.tape.trans h2.tape, k2.output.trans h2.output, by omega, fun k hk hn => (k2.block k (by omega) (fun ho => ?_)).trans (h2.block k hk hn)⟩
  · obtain ⟨_, h | h⟩ := ho
    · exact ⟨hk, h.2⟩
    · exact ⟨hk, .inr (by omega)⟩
  · rcases ho.2 with h | h
    · exact hn h
    · omega
theorem due_below {A : Nat → Prop} {D : Nat} {M : List Item} {W w' : World} (h : DueAt W A D M) (hb : Below W.heap.size W w') : DueTo A D M W w' := by
  obtain ⟨R, L, hD, hA, hR, hH, hS, hd⟩ := h
  exact due_to hD hA (moved_below hb) (row_below (row_mono hR (fun k _ h => .inl h)) hb) hH hS hd
theorem due_wf {A : Nat → Prop} {D : Nat} {M : List Item} {W : World} (h : DueAt W A D M) {p : Item} (hp : p ∈ M) : (Lit.int .i64 p.1).wf = true := by
  obtain ⟨R, L, hD, hA, ⟨iv, Mb, hR, hI, ⟨es, clock, hm, hs, h1, h2⟩, _⟩, hH, hS, hd⟩ := h
  obtain ⟨i, hi, rfl⟩ := mem_it.1 ((hS.2 p).2 hp)
  obtain ⟨e, he, hek, hev⟩ := h2 i _ (it_at hi)
  obtain ⟨p, j', hpk, hpw, _⟩ := h1 e he
  rw [hek] at hpk
  injection hpk with _ hpk
  rw [hpk]; exact hpw
theorem due_push (W : World) (A : Nat → Prop) (D R : Nat) (M : List Item) (k t : Int) (h : DueAt W A D M) (hD : W.cell? ⟨D, 0, none⟩ = some (.pointer (some ⟨R, 0, none⟩))) (hk : (Lit.int .i64 k).wf = true) (hlen : M.length < 900000) (hn : ∀ p ∈ M, p.1 ≠ k) :
    Calls Try.prog 22 #[.iface 56 (.agg #[.pointer (some ⟨R, 0, none⟩)]), .iface 61 (.agg #[.int .i64 k, .int .u64 t])] W fun e w' => e = .returned (.tuple #[]) ∧ DueTo A D (M ++ [(k, t)]) W w' := by
  obtain ⟨R', L, hD', hA, hR, hH, hS, hd⟩ := h
  have : R' = R := by
    have := ((blk_cell hD' 0).trans rfl).symm.trans hD
    simpa using this
  subst this
  refine (push_heap W (fun k => (A k ∧ k ≠ D) ∨ W.heap.size ≤ k) R' L k t (row_mono hR (fun k _ h => .inl h)) hH (by rw [hS.1]; exact hlen) (fun k h => .inr h) hk (fun q hq => hn q ((hS.2 q).1 hq))).mono ?_
  rintro e w' ⟨rfl, hm, L', hr, hs, hh⟩
  refine ⟨rfl, due_to hD' hA hm hr hh ⟨by rw [hs.1]; simp [hS.1], fun x => by rw [hs.2 x]; simp [hS.2 x]⟩ ?_⟩
  rw [List.map_append]
  refine List.nodup_append.2 ⟨hd, by simp, fun a ha b hb => ?_⟩
  obtain ⟨x, hx, rfl⟩ := List.mem_map.1 ha
  rw [List.map_cons, List.map_nil] at hb
  rw [List.mem_singleton.1 hb]
  exact hn x hx
theorem drop_len (M : List Item) (k : Int) : (dropM M k).length ≤ M.length := List.length_filter_le _ _
set_option maxHeartbeats 1600000 in
theorem due_put (W : World) (A : Nat → Prop) (D : Nat) (M : List Item) (k t : Int) (h : DueAt W A D M) (hk : (Lit.int .i64 k).wf = true) (hlen : M.length < 900000) :
    Calls Try.prog 11 #[.pointer (some ⟨D, 0, none⟩), .int .i64 k, .int .u64 t] W fun e w' => e = .returned (.tuple #[]) ∧ DueTo A D (putM M k t) W w' := by
  have HD := Aside0.mk (due_drop W A D M k h hk hlen)
  have hdl := drop_len M k
  have HP := Aside0.mk (fun (w : World) (R : Nat) (hto : DueTo A D (dropM M k) W w) (hc : w.cell? ⟨D, 0, none⟩ = some (.pointer (some ⟨R, 0, none⟩))) => due_push w (Owns A W w) D R (dropM M k) k t hto.1 hc hk (by omega) (fun p hp => (mem_drop.1 hp).2))
  have HC := Aside0.mk (fun (w : World) (hto : DueTo A D (dropM M k) W w) => (by
    obtain ⟨R, L, hD, _⟩ := hto.1
    exact ⟨R, (blk_cell hD 0).trans rfl⟩ : ∃ R, w.cell? ⟨D, 0, none⟩ = some (.pointer (some ⟨R, 0, none⟩))))
  clear h hk
  go_enter Try.func11, Try.ntmps11
  go_wp2_with (first | (go_at_call 13; refine HD.out.mono ?_; rintro e w1 ⟨rfl, h1⟩; obtain ⟨R, hc⟩ := HC.out w1 h1) | (go_at_call 22; refine (HP.out _ _ (by assumption) (by assumption)).mono ?_; rintro e w2 ⟨rfl, h2⟩))
  go_end0
  exact ⟨rfl, due_trans h1 h2⟩
def takeM (M : List Item) (now : Int) : (Int × Bool) × List Item := match best M with
  | none => ((0, false), M)
  | some p => if now < p.2 then ((0, false), M) else ((p.1, true), dropM M p.1)
set_option maxHeartbeats 1600000 in
theorem due_take (W : World) (A : Nat → Prop) (D : Nat) (M : List Item) (now : Int) (h : DueAt W A D M) (hlen : M.length < 900000) :
    Calls Try.prog 15 #[.pointer (some ⟨D, 0, none⟩), .int .u64 now] W fun e w' => e = .returned (.tuple #[.int .i64 (takeM M now).1.1, .bool (takeM M now).1.2]) ∧ DueTo A D (takeM M now).2 W w' := by
  have HN := Aside0.mk (due_next W A D M h)
  cases hb : best M with
  | none =>
    rw [hb] at HN
    have e : takeM M now = ((0, false), M) := by unfold takeM; rw [hb]
    rw [e]
    have HE := Aside0.mk (fun (w' : World) (hb : Below W.heap.size W w') => due_below h hb)
    clear h hb e
    go_enter Try.func15, Try.ntmps15
    go_wp2_with (go_at_call 17; refine HN.out.mono ?_; rintro e w1 ⟨rfl, hb⟩)
    go_ret2
    exact ⟨rfl, HE.out _ hb⟩
  | some p =>
    obtain ⟨k1, a1⟩ := p
    rw [hb] at HN
    by_cases hl : now < a1
    · have e : takeM M now = ((0, false), M) := by unfold takeM; rw [hb]; simp [hl]
      rw [e]
      have HE := Aside0.mk (fun (w' : World) (hb : Below W.heap.size W w') => due_below h hb)
      clear h hb e
      go_enter Try.func15, Try.ntmps15
      go_wp2_with (go_at_call 17; refine HN.out.mono ?_; rintro e w1 ⟨rfl, hb⟩)
      go_ret2
      exact ⟨rfl, HE.out _ hb⟩
    · have e : takeM M now = ((k1, true), dropM M k1) := by unfold takeM; rw [hb]; simp [hl]
      rw [e]
      have hwf := due_wf h (best_spec hb).1
      have HE := Aside0.mk (fun (w' : World) (hb : Below W.heap.size W w') => due_below h hb)
      have HD := Aside0.mk (fun (w' : World) (hb : Below W.heap.size W w') => due_drop w' (Owns A W w') D M k1 (due_below h hb).1 hwf hlen)
      clear h hb e hwf
      go_enter Try.func15, Try.ntmps15
      go_wp2_with (first | (go_at_call 17; refine HN.out.mono ?_; rintro e w1 ⟨rfl, hb⟩) | (go_at_call 13; refine (HD.out _ (by assumption)).mono ?_; rintro e w2 ⟨rfl, h2⟩))
      go_ret2
      refine ⟨rfl, due_trans (HE.out _ hb) ?_⟩
      exact h2

end Go.Proofs.Ytlkcekldddpjbaa.Due
