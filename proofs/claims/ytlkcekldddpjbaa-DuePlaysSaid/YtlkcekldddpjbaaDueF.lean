/- What Push and Remove of the heap do. -/
import Derived.Test.YtlkcekldddpjbaaDueP
import Derived.Test.YtlkcekldddpjbaaDueE
import Derived.Deep.RegionHeld3
import Derived.Deep.RegionLaw
import Derived.Deep.AppendLies
import Derived.RegionTactic
import Derived.ChangeAlike
import Derived.BigRegion
import Derived.Outline
import Derived.Deep.DeepCutAuto
import Derived.Maps.Keyed
import Derived.WideKeyEntry
namespace Go.Proofs.Ytlkcekldddpjbaa.Due
open Go.RowKit Go.Proofs.YtlkcekldddpjbaaW.PrintWords Go.Proofs.YtlkcekldddpjbaaW.PrintLast Go.Proofs.YtlkcekldddpjbaaW.PrintMore
open Go.MapKept (Stamped)
open Go.ChangeMaps (setBlock)
open Go.Maps (Keyed int_keyed keyOf_int_mk)
set_option linter.unusedVariables false
set_option linter.unusedSimpArgs false

theorem method_len (R : Nat) (w : World) : (method 188 56 (.agg #[.pointer (some ⟨R, 0, none⟩)]) "Len").run Try.prog w = .ok (24, .pointer (some ⟨R, 0, none⟩)) w := by kernel_rfl
theorem method_push (R : Nat) (w : World) : (method 188 56 (.agg #[.pointer (some ⟨R, 0, none⟩)]) "Push").run Try.prog w = .ok (46, .agg #[.pointer (some ⟨R, 0, none⟩)]) w := by kernel_rfl
theorem method_pop (R : Nat) (w : World) : (method 188 56 (.agg #[.pointer (some ⟨R, 0, none⟩)]) "Pop").run Try.prog w = .ok (45, .agg #[.pointer (some ⟨R, 0, none⟩)]) w := by kernel_rfl
theorem it_left {L M : List Item} {k : Nat} (h : k < L.length) : it (L ++ M) k = it L k := by unfold it; rw [List.getElem?_append_left h]
theorem heap_more {L : List Item} (h : HeapTo L L.length) (p : Item) : UpI (L ++ [p]) (L.length + 1) L.length := by
  refine ⟨fun i h0 hi hne => ?_, fun i h0 hi hp h1 => by omega⟩
  rw [it_left (by omega), it_left (by omega)]
  exact h i h0 (by omega)
set_option maxRecDepth 100000 in
set_option maxHeartbeats 1600000 in
theorem push_heap (W : World) (ok : Nat → Prop) (R : Nat) (L : List Item) (k1 a1 : Int) (h : RowAt W ok R L) (hH : HeapTo L L.length) (hlen : L.length < 900000) (hfresh : ∀ k, W.heap.size ≤ k → ok k) (hk : (Lit.int .i64 k1).wf = true) (hn : ∀ q ∈ L, q.1 ≠ k1) :
    Calls Try.prog 22 #[.iface 56 (.agg #[.pointer (some ⟨R, 0, none⟩)]), .iface 61 (.agg #[.int .i64 k1, .int .u64 a1])] W fun e w' => e = .returned (.tuple #[]) ∧ Moved ok W w' ∧
      ∃ L', RowAt w' ok R L' ∧ Same L' (L ++ [(k1, a1)]) ∧ HeapTo L' L'.length := by
  have HP := Aside0.mk (push_row W ok R L k1 a1 h (by omega) hfresh hk hn)
  have HL := Aside0.mk (fun (w : World) (hr : RowAt w ok R (L ++ [(k1, a1)])) => (by have := len_row w ok R _ hr; rwa [List.length_append, List.length_singleton] at this : Calls Try.prog 24 #[.pointer (some ⟨R, 0, none⟩)] w fun e w' => e = .returned (.int .i64 ((L.length + 1 : Nat) : Int)) ∧ w = w'))
  have HU := Aside0.mk (fun (w : World) (hr : RowAt w ok R (L ++ [(k1, a1)])) => up_row w ok R _ (L.length + 1) L.length hr (heap_more hH (k1, a1)) (by simp) (by omega) (by simp; omega))
  have m1 := method_len R
  have m2 := method_push R
  clear h hH hfresh hk hn
  have hq : ((L.length + 1 : Nat) : Int) - 1 = (L.length : Int) := by omega
  go_enter Try.func22, Try.ntmps22
  go_wp2_with (first | (go_at_call 46; refine HP.out.mono ?_; rintro e w1 ⟨rfl, hr1, hm1⟩) | (go_at_call 24; refine (HL.out _ (by assumption)).mono ?_; rintro e w2 ⟨rfl, rfl⟩) | (go_at_call 25; refine (HU.out _ (by assumption)).mono ?_; rintro e w3 ⟨rfl, hm3, L', hr3, hs3, hh3, hk3⟩))
  go_end0
  have hl := hs3.1
  rw [List.length_append, List.length_singleton] at hl
  exact ⟨rfl, hm1.trans hm3, L', hr3, hs3, hl.symm ▸ hh3⟩
/-- The items but the last one. -/
theorem but_last {L : List Item} {n : Nat} (h : L.length = n + 1) : ∃ L0 : List Item, L = L0 ++ [it L n] ∧ L0.length = n := by
  refine ⟨L.take n, ?_, by simp; omega⟩
  have e : L[n]? = some (it L n) := it_at (by omega)
  have := List.take_append_drop n L
  rw [List.drop_eq_getElem_cons (by omega), List.drop_of_length_le (by omega)] at this
  rw [List.getElem?_eq_getElem (by omega)] at e
  rw [← Option.some.inj e]
  exact this.symm
theorem heap_less {L : List Item} {p : Item} {n : Nat} (h : HeapTo (L ++ [p]) n) (hn : L.length = n) : HeapTo L L.length := fun j h0 hj => by
  have := h j h0 (by omega)
  rw [it_left (by omega), it_left (by omega)] at this
  exact this
theorem heap_swap {L : List Item} {n i : Nat} (h : HeapTo L (n + 1)) (hl : L.length = n + 1) (hi : i < n) : DownI (sw L i n) n i i := by
  have q := it_sw (L := L) (i := i) (j := n) (by omega) (by omega)
  refine ⟨fun j h0 hj hp hne => ?_, fun j h0 hj hp hi0 => ?_⟩
  · rw [q j, q ((j - 1) / 2), if_neg (by omega), if_neg (fun e => hne e rfl), if_neg (by omega), if_neg hp]
    exact h j h0 (by omega)
  · rw [q j, q ((i - 1) / 2), if_neg (by omega), if_neg (by omega), if_neg (by omega), if_neg (by omega)]
    have a := h j h0 (by omega)
    have b := h i hi0 (by omega)
    rw [hp] at a
    exact less_trans b a
/-- Each key stands once. -/
theorem row_once {W : World} {ok : Nat → Prop} {R : Nat} {L : List Item} (h : RowAt W ok R L) {i j : Nat} (hi : i < L.length) (hj : j < L.length) (e : (it L i).1 = (it L j).1) : i = j := by
  obtain ⟨iv, Mb, hR, hI, hP, _⟩ := h
  exact place_one hP (it_at hi) (it_at hj) e
theorem mem_last {W : World} {ok : Nat → Prop} {R : Nat} {L0 : List Item} {p : Item} (h : RowAt W ok R (L0 ++ [p])) (x : Item) : x ∈ L0 ↔ x ∈ L0 ++ [p] ∧ x.1 ≠ p.1 := by
  constructor
  · intro hx
    refine ⟨List.mem_append_left _ hx, fun e => ?_⟩
    obtain ⟨k, hk, rfl⟩ := mem_it.1 hx
    have := row_once h (i := k) (j := L0.length) (by simp; omega) (by simp) (by rw [it_left hk, e]; unfold it; simp)
    omega
  · rintro ⟨hx, hne⟩
    rcases List.mem_append.1 hx with h1 | h1
    · exact h1
    · exact absurd (congrArg Prod.fst (List.mem_singleton.1 h1)) hne
/-- What Remove leaves. -/
def Gone (ok : Nat → Prop) (R : Nat) (L : List Item) (p : Item) (W w' : World) : Prop :=
  Moved ok W w' ∧ ∃ L', RowAt w' ok R L' ∧ HeapTo L' L'.length ∧ L'.length + 1 = L.length ∧ ∀ x, x ∈ L' ↔ x ∈ L ∧ x.1 ≠ p.1
theorem gone_of {ok : Nat → Prop} {R n : Nat} {L L3 : List Item} {p : Item} {W w w' : World} (hl : L.length = n + 1) (hM : Moved ok W w) (hR : RowAt w ok R L3) (hS : Same L3 L) (hH : HeapTo L3 n) (hp : it L3 n = p)
    {L0 : List Item} (e : L3 = L0 ++ [it L3 n]) (e0 : L0.length = n) (hr : RowAt w' ok R L0) (hm : Moved ok w w') : Gone ok R L p W w' := by
  refine ⟨hM.trans hm, L0, hr, ?_, by omega, fun x => ?_⟩
  · rw [e] at hH; exact heap_less hH e0
  · rw [hp] at e
    rw [e] at hR hS
    rw [mem_last hR x, hS.2 x]
theorem of_if {A B : Prop} {b : Bool} (h : if b = true then A else B) (hb : b = false) : B := by rw [if_neg (by simp [hb])] at h; exact h
theorem of_if_yes {A B : Prop} {b : Bool} (h : if b = true then A else B) (hb : b = true) : A := by rw [if_pos hb] at h; exact h
set_option maxRecDepth 100000 in
set_option maxHeartbeats 1600000 in
theorem remove_heap (W : World) (ok : Nat → Prop) (R : Nat) (L : List Item) (n i : Nat) (h : RowAt W ok R L) (hH : HeapTo L L.length) (hl : L.length = n + 1) (hlen : n < 900000) (hi : i ≤ n) :
    Calls Try.prog 23 #[.iface 56 (.agg #[.pointer (some ⟨R, 0, none⟩)]), .int .i64 (i : Int)] W fun e w' => (∃ v, e = .returned v) ∧ Gone ok R L (it L i) W w' := by
  generalize hQ : (fun e w' => (∃ v, e = Ending.returned v) ∧ Gone ok R L (it L i) W w') = Q
  have HQ := Aside0.mk hQ
  have HL := Aside0.mk (len_row W ok R L h)
  rw [hl] at HL
  have hH' : HeapTo L (n + 1) := hl ▸ hH
  have m1 := method_len R
  have m2 := method_pop R
  have m3 := method_swap R
  have hq : ((n + 1 : Nat) : Int) - 1 = (n : Int) := by omega
  by_cases hin : i = n
  · have hin' : (n : Int) = (i : Int) := by omega
    obtain ⟨L0, e, e0⟩ := but_last hl
    have HP := Aside0.mk (pop_row W ok R L0 (it L n) (e ▸ h) (by omega))
    have HE := Aside0.mk (And.intro h (And.intro hH' (And.intro e e0)))
    clear hQ h hH hH' e e0
    subst hin
    go_enter Try.func23, Try.ntmps23
    go_wp2_with (first | (go_at_call 24; refine HL.out.mono ?_; rintro e w1 ⟨rfl, rfl⟩) | (go_at_call 45; refine HP.out.mono ?_; rintro e w2 ⟨⟨v, rfl⟩, hr2, hm2⟩))
    obtain ⟨h, hH', e, e0⟩ := HE.out
    rw [← HQ.out]
    exact ⟨⟨_, rfl⟩, gone_of hl (Moved.refl _ _) h (Same.refl L) (fun j h0 hj => hH' j h0 (by omega)) rfl e e0 hr2 hm2⟩
  · have hin' : ¬ (n : Int) = (i : Int) := by omega
    have HS := Aside0.mk (swap_row W ok R L i n _ _ h (it_at (by omega)) (it_at (by omega)) (by omega))
    have HD := Aside0.mk (fun (w : World) (hr : RowAt w ok R (sw L i n)) => down_row w ok R (sw L i n) n i hr (heap_swap hH' hl (by omega)) (by rw [sw_len]; omega) (by omega) (by rw [sw_len]; omega))
    have HU := Aside0.mk (fun (w : World) (L2 : List Item) (b : Bool) (hr : RowAt w ok R L2) (hh : if b = true then HeapTo L2 n else UpI L2 n i) (hb : b = false) (hs : Same L2 (sw L i n)) =>
      up_row w ok R L2 n i hr (of_if hh hb) (by rw [hs.1, sw_len]; omega) (by omega) (by rw [hs.1, sw_len]; omega))
    have HP := Aside0.mk (fun (w : World) (L3 L0 : List Item) (p : Item) (hr : RowAt w ok R L3) (e : L3 = L0 ++ [p]) (e0 : L0.length = n) => pop_row w ok R L0 p (e ▸ hr) (by omega))
    clear hQ h hH hH'
    go_enter Try.func23, Try.ntmps23
    go_wp2_with (first | (go_at_call 24; refine HL.out.mono ?_; rintro e w1 ⟨rfl, rfl⟩) | (go_at_call 44; refine HS.out.mono ?_; rintro e w2 ⟨rfl, hr2, hm2⟩) | (go_at_call 26; refine (HD.out _ (by assumption)).mono ?_; rintro e w3 ⟨b, L3, rfl, hm3, hr3, hs3, hh3, hk3⟩; have H3 := Aside0.mk (And.intro hm3 (And.intro hr3 (And.intro hs3 (And.intro hh3 hk3)))); clear hm3 hr3 hs3 hh3 hk3))
    · have hb : (!b) = true := by assumption
      replace hb : b = false := by simpa using hb
      obtain ⟨hm3, hr3, hs3, hh3, hk3⟩ := H3.out
      have HU' := Aside0.mk (HU.out w3 L3 b hr3 hh3 hb hs3)
      clear hr3 hh3 hs3 hk3
      go_wp2_with (go_at_call 25; refine HU'.out.mono ?_; rintro e w4 ⟨rfl, hm4, L4, hr4, hs4, hh4, hk4⟩)
      obtain ⟨_, hr3, hs3, hh3, hk3⟩ := H3.out
      obtain ⟨L0, e, e0⟩ := but_last (L := L4) (n := n) (by rw [hs4.1, hs3.1, sw_len]; exact hl)
      refine (HP.out w4 L4 L0 _ hr4 e e0).mono ?_
      have HE := Aside0.mk (And.intro hm4 (And.intro hr4 (And.intro hs4 (And.intro hh4 (And.intro hk4 (And.intro e (And.intro e0 (And.intro hs3 hk3))))))))
      clear hm4 hr4 hs4 hh4 hk4 e e0 hs3 hk3 hr3 hh3
      rintro e w5 ⟨⟨v, rfl⟩, hr5, hm5⟩
      go_wp2
      obtain ⟨hm4, hr4, hs4, hh4, hk4, e, e0, hs3, hk3⟩ := HE.out
      rw [← HQ.out]
      refine ⟨⟨_, rfl⟩, gone_of hl ((hm2.trans hm3).trans hm4) hr4 ((hs4.trans hs3).trans (sw_same (by omega) (by omega))) hh4 ?_ e e0 hr5 hm5⟩
      rw [hk4 n (Nat.le_refl _), hk3 n (Nat.le_refl _), it_sw (by omega) (by omega), if_pos rfl]
    · have hb : (!b) = false := by assumption
      replace hb : b = true := by simpa using hb
      obtain ⟨hm3, hr3, hs3, hh3, hk3⟩ := H3.out
      obtain ⟨L0, e, e0⟩ := but_last (L := L3) (n := n) (by rw [hs3.1, sw_len]; exact hl)
      refine (HP.out w3 L3 L0 _ hr3 e e0).mono ?_
      have HE := Aside0.mk (And.intro (of_if_yes hh3 hb) (And.intro e e0))
      clear hm3 hr3 hs3 hh3 hk3 e e0
      rintro e w5 ⟨⟨v, rfl⟩, hr5, hm5⟩
      go_wp2
      obtain ⟨hm3, hr3, hs3, hh3, hk3⟩ := H3.out
      obtain ⟨hh, e, e0⟩ := HE.out
      rw [← HQ.out]
      refine ⟨⟨_, rfl⟩, gone_of hl (hm2.trans hm3) hr3 (hs3.trans (sw_same (by omega) (by omega))) hh ?_ e e0 hr5 hm5⟩
      rw [hk3 n (Nat.le_refl _), it_sw (by omega) (by omega), if_pos rfl]

end Go.Proofs.Ytlkcekldddpjbaa.Due
