/- The heap of chapter 15 in memory: how a row of items and their places lie, and what each small method does to them. -/
import Derived.Test.YtlkcekldddpjbaaProg
import Derived.Test.YtlkcekldddpjbaaWMore
import Derived.RegionTactic
import Derived.ChangeAlike
import Derived.BigRegion
import Derived.Outline
import Derived.Deep.DeepCutAuto
import Derived.Maps.Keyed
import Derived.WideKeyEntry
namespace Go.Proofs.Ytlkcekldddpjbaa.Due
open Go.RowKit Go.Proofs.YtlkcekldddpjbaaW.PrintWords Go.Proofs.YtlkcekldddpjbaaW.PrintLast Go.Proofs.YtlkcekldddpjbaaW.PrintMore
open Go.MapKept (Stamped)
open Go.ChangeMaps (setBlock)
open Go.Maps (Keyed int_keyed keyOf_int_mk)
set_option linter.unusedVariables false
set_option linter.unusedSimpArgs false

/-- An item: a key and its time. -/
abbrev Item := Int × Int
def flat (L : List Item) : List Value := L.flatMap fun p => [.int .i64 p.1, .int .u64 p.2]
theorem flat_length (L : List Item) : (flat L).length = L.length * 2 := by
  unfold flat; induction L with
  | nil => rfl
  | cons p L ih => simp only [List.flatMap_cons, List.length_append, List.length_cons, List.length_nil] at *; omega
theorem flat_append (L M : List Item) : flat (L ++ M) = flat L ++ flat M := by unfold flat; simp
theorem flat_get (L : List Item) (j : Nat) (p : Item) (h : L[j]? = some p) : (flat L)[j * 2]? = some (.int .i64 p.1) ∧ (flat L)[j * 2 + 1]? = some (.int .u64 p.2) := by
  induction L generalizing j with
  | nil => simp at h
  | cons q L ih =>
    have e : flat (q :: L) = Value.int .i64 q.1 :: Value.int .u64 q.2 :: flat L := by unfold flat; rfl
    rw [e]
    cases j with
    | zero => simp only [List.getElem?_cons_zero, Option.some.injEq] at h; subst h; exact ⟨rfl, rfl⟩
    | succ j =>
      simp only [List.getElem?_cons_succ] at h
      have := ih j h
      rw [show (j + 1) * 2 = j * 2 + 1 + 1 from by omega]
      exact this
/-- Nothing has turned but blocks that are ok. -/
structure Moved (ok : Nat → Prop) (w w' : World) : Prop where
  os : w'.os = w.os
  tape : w'.tape = w.tape
  output : w'.output = w.output
  size : w.heap.size ≤ w'.heap.size
  block : ∀ k, k < w.heap.size → ¬ ok k → w'.heap[k]? = w.heap[k]?
theorem Moved.refl (ok : Nat → Prop) (w : World) : Moved ok w w := ⟨rfl, rfl, rfl, Nat.le_refl _, fun _ _ _ => rfl⟩
theorem Moved.trans {ok : Nat → Prop} {a b c : World} (h : Moved ok a b) (k : Moved ok b c) : Moved ok a c :=
  ⟨k.os.trans h.os, k.tape.trans h.tape, k.output.trans h.output, Nat.le_trans h.size k.size, fun i hi hn => (k.block i (Nat.lt_of_lt_of_le hi h.size) hn).trans (h.block i hi hn)⟩
theorem Moved.of_below {ok : Nat → Prop} {a b : World} (h : Below a.heap.size a b) : Moved ok a b := ⟨h.os, h.tape, h.output, h.size, fun k hk _ => h.block k hk⟩
theorem Moved.below {ok : Nat → Prop} {a b : World} {B : Nat} (h : Moved ok a b) (hB : B ≤ a.heap.size) (hok : ∀ k, ok k → B ≤ k) : Below B a b :=
  ⟨h.os, h.tape, h.output, h.size, fun k hk => h.block k (by omega) (fun ho => by have := hok k ho; omega)⟩

/-- The map at Mb tells of each key of L where it stands. -/
def PlaceAt (W : World) (Mb : Nat) (L : List Item) : Prop := ∃ es clock, W.heap[Mb]? = some (.map es clock) ∧ Stamped es clock ∧
  (∀ e ∈ es.toList, ∃ (p : Item) (j : Nat), e.key = .int .i64 p.1 ∧ (Lit.int .i64 p.1).wf = true ∧ e.val = .int .i64 (j : Int) ∧ L[j]? = some p) ∧
  (∀ (j : Nat) (p : Item), L[j]? = some p → ∃ e ∈ es.toList, e.key = .int .i64 p.1 ∧ e.val = .int .i64 (j : Int))
/-- A row of items at R, and where each key stands; its blocks are ok. -/
def RowAt (W : World) (ok : Nat → Prop) (R : Nat) (L : List Item) : Prop := ∃ (iv : Value) (Mb : Nat), W.heap[R]? = some (.cells #[iv, .map (some Mb)] 54 (0, 0)) ∧ W.ownsRow 0 61 2 iv L.length (flat L) ∧ PlaceAt W Mb L ∧ ok R ∧ ok Mb ∧ ∀ k, iv.ownBlock = some k → ok k
/-- Does the one stand ahead of the other? -/
def lessB (a b : Item) : Bool := decide (a.2 < b.2) || (a.2 == b.2 && decide (a.1 < b.1))

theorem row_slice {W : World} {iv : Value} {n : Nat} {xs : List Value} (h : W.ownsRow 0 61 2 iv n xs) : ∃ A c, iv = .slice A n c := by
  rcases h.2 with ⟨rfl, rfl⟩ | ⟨g, cap, cur, rfl, _⟩
  · exact ⟨none, 0, rfl⟩
  · exact ⟨_, cap, rfl⟩
/-! ### the map of places -/
theorem keyed : Keyed Try.prog 3 := int_keyed Try.underlying3
theorem findIdx_at {es : Array MapEntry} {clock : Nat} (hs : Stamped es clock) {j : Nat} {e : MapEntry} (hj : es.toList[j]? = some e) : es.findIdx? (fun x => ((x.born : Nat) : Int) == ((e.born : Nat) : Int)) = some j := by
  rw [Go.WideElems.findIdx_arr]
  exact Go.WideElems.findIdx_born hs.2.1 hj
theorem setBlock_same {W : World} {b : Nat} {o : Obj} (h : W.heap[b]? = some o) : setBlock W b o = W := by
  unfold setBlock
  have : W.heap.setIfInBounds b o = W.heap := by
    apply Array.ext_getElem?
    intro i
    by_cases hi : i = b
    · subst hi
      have hlt := (Array.getElem?_eq_some_iff.1 h).1
      rw [Array.getElem?_setIfInBounds_self_of_lt hlt, h]
    · rw [Array.getElem?_setIfInBounds_ne (Ne.symm hi)]
  rw [this]
theorem entry_there {W : World} {Mb : Nat} {es : Array MapEntry} {clock : Nat} (hb : W.heap[Mb]? = some (.map es clock)) (hs : Stamped es clock) (hk : ∀ e ∈ es.toList, ∃ k, e.key = .int .i64 k ∧ (Lit.int .i64 k).wf = true)
    {j : Nat} {e : MapEntry} (hj : es.toList[j]? = some e) {k : Int} (he : e.key = .int .i64 k) :
    (Instr.mapEntry 51 (.map (some Mb)) (.int .i64 k)).run Try.prog W = .ok (.tuple #[e.val, .int .i64 (e.born : Int)]) W := by
  obtain ⟨hjl, hje⟩ := List.getElem?_eq_some_iff.1 hj
  have hmem : e ∈ es.toList := by rw [← hje]; exact List.getElem_mem hjl
  obtain ⟨k', hk1, hk2⟩ := hk e hmem
  rw [he] at hk1
  injection hk1 with _ hk1
  subst hk1
  have hkey := keyOf_int_mk Try.underlying3 hk2
  rcases keyed.find W hkey es.toList (fun x hx => by obtain ⟨k', h1, h2⟩ := hk x hx; exact ⟨_, by rw [h1]; exact keyOf_int_mk Try.underlying3 h2⟩) with ⟨h1, h2⟩ | ⟨j', e', h1, h2, h3⟩
  · exact absurd he (h2 e hmem)
  · have hjj : j' = j := by
      obtain ⟨hl', he'⟩ := List.getElem?_eq_some_iff.1 h2
      have hnd := List.nodup_iff_pairwise_ne.1 hs.2.2
      by_cases hlt : j' = j
      · exact hlt
      · exfalso
        rcases Nat.lt_or_gt_of_ne hlt with h | h
        · have := List.pairwise_iff_getElem.1 hnd j' j (by rw [List.length_map]; exact hl') (by rw [List.length_map]; exact hjl) h
          rw [List.getElem_map, List.getElem_map, he', hje, h3, he] at this
          exact this rfl
        · have := List.pairwise_iff_getElem.1 hnd j j' (by rw [List.length_map]; exact hjl) (by rw [List.length_map]; exact hl') h
          rw [List.getElem_map, List.getElem_map, he', hje, h3, he] at this
          exact this rfl
    subst hjj
    rw [hj] at h2
    injection h2 with h2
    subst h2
    have hj' : es[j']? = some e := by rw [← Array.getElem?_toList]; exact hj
    have hsame : es.modify j' (fun x => { x with key := .int .i64 k }) = es := by
      apply Array.ext_getElem?
      intro i
      rw [Array.getElem?_modify]
      by_cases hi : j' = i
      · subst hi
        rw [if_pos rfl, hj', Option.map_some, ← he]
      · rw [if_neg hi]
    have hset : setBlock W Mb (.map es clock) = W := setBlock_same hb
    simp [Instr.mapEntry, run_underlying Try.underlying51, MapKept.run_getObj_map hb, keyed.check W false hkey, h1, hj', he, keyed.stays W hkey, hsame, MapKept.run_setObj_map _ hb, Result.andThen, goInt]
    exact hset
theorem entry_store {W : World} {Mb : Nat} {es : Array MapEntry} {clock : Nat} (hb : W.heap[Mb]? = some (.map es clock)) (hs : Stamped es clock)
    {j : Nat} {e : MapEntry} (hj : es.toList[j]? = some e) (v : Value) :
    (Instr.entryStore 51 (.map (some Mb)) (.int .i64 (e.born : Int)) v).run Try.prog W = .ok () (setBlock W Mb (.map (es.modify j fun x => { x with val := v }) clock)) := by
  have hf := findIdx_at hs hj
  simp [Instr.entryStore, MapKept.run_getObj_map hb, asInt, asIntOf, hf, MapKept.run_setObj_map _ hb, Result.andThen, setBlock]
/-! ### Swap -/
def swapL (L : List Item) (i j : Nat) (p q : Item) : List Item := (L.set i q).set j p
theorem flat_set (L : List Item) (i : Nat) (p : Item) : flat (L.set i p) = ((flat L).set (i * 2) (.int .i64 p.1)).set (i * 2 + 1) (.int .u64 p.2) := by
  induction L generalizing i with
  | nil => rfl
  | cons q L ih =>
    have e : ∀ (q : Item) (L : List Item), flat (q :: L) = Value.int .i64 q.1 :: Value.int .u64 q.2 :: flat L := fun _ _ => rfl
    cases i with
    | zero => rw [List.set_cons_zero, e, e]; rfl
    | succ i =>
      rw [List.set_cons_succ, e, e, ih, show (i + 1) * 2 = i * 2 + 1 + 1 from by omega]
      rfl
/-- An item is written in its place. -/
theorem own_put {W : World} {g cap n : Nat} {L : List Item} (h : W.ownsRow 0 61 2 (.slice (some ⟨g, 0, none⟩) n cap) n (flat L)) (i : Nat) (p : Item) (hn : n = L.length) (hi : i < n) :
    ((W.setCell ⟨g, i * 2, none⟩ (.int .i64 p.1)).setCell ⟨g, i * 2 + 1, none⟩ (.int .u64 p.2)).ownsRow 0 61 2 (.slice (some ⟨g, 0, none⟩) n cap) n (flat (L.set i p)) := by
  obtain ⟨h1, h2⟩ := h
  refine ⟨by rw [flat_length, List.length_set]; omega, ?_⟩
  rcases h2 with ⟨hv, _⟩ | ⟨g', cap', cur, hv, hb, hh, hc1, hc2, hs, ht⟩
  · cases hv
  · injection hv with ha _ hc
    injection ha with ha
    injection ha with ha
    subst ha; subst hc
    have e1 := blk_set hh (i * 2) (.int .i64 p.1)
    have e2 := blk_set e1 (i * 2 + 1) (.int .u64 p.2)
    refine .inr ⟨g, cap, _, rfl, hb, e2, hc1, hc2, by rw [Array.size_setIfInBounds, Array.size_setIfInBounds]; exact hs, ?_⟩
    rw [Array.toList_setIfInBounds, Array.toList_setIfInBounds, List.take_set, List.take_set, ht, flat_set]
theorem drew_heap (w : World) : w.drew.heap = w.heap := rfl
theorem setBlock_get {Y : World} {b : Nat} {o : Obj} (h : b < Y.heap.size) : (setBlock Y b o).heap[b]? = some o := by
  unfold setBlock
  exact Array.getElem?_setIfInBounds_self_of_lt h
theorem setBlock_ne {Y : World} {b k : Nat} {o : Obj} (h : k ≠ b) : (setBlock Y b o).heap[k]? = Y.heap[k]? := by
  unfold setBlock
  exact Array.getElem?_setIfInBounds_ne (Ne.symm h)
theorem stamped_modify {es : Array MapEntry} {clock : Nat} (h : Stamped es clock) (j : Nat) (v : Value) : Stamped (es.modify j fun x => { x with val := v }) clock := by
  have e1 : (es.modify j fun x => { x with val := v }).toList.map (·.born) = es.toList.map (·.born) := by
    apply List.ext_getElem?
    intro i
    rw [List.getElem?_map, List.getElem?_map, Array.getElem?_toList, Array.getElem?_toList, Array.getElem?_modify]
    split
    · cases es[i]? <;> rfl
    · rfl
  have e2 : (es.modify j fun x => { x with val := v }).toList.map (·.key) = es.toList.map (·.key) := by
    apply List.ext_getElem?
    intro i
    rw [List.getElem?_map, List.getElem?_map, Array.getElem?_toList, Array.getElem?_toList, Array.getElem?_modify]
    split
    · cases es[i]? <;> rfl
    · rfl
  refine ⟨fun x hx => ?_, by rw [e1]; exact h.2.1, by rw [e2]; exact h.2.2⟩
  have : x.born ∈ es.toList.map (·.born) := by rw [← e1]; exact List.mem_map.2 ⟨x, hx, rfl⟩
  obtain ⟨y, hy, hb⟩ := List.mem_map.1 this
  rw [← hb]
  exact h.1 y hy
theorem modify_get (es : Array MapEntry) (j i : Nat) (v : Value) : (es.modify j fun x => { x with val := v }).toList[i]? = if j = i then (es.toList[i]?).map (fun x => { x with val := v }) else es.toList[i]? := by
  rw [Array.getElem?_toList, Array.getElem?_toList, Array.getElem?_modify]
theorem row_heap {W W' : World} {ok : Nat → Prop} {R : Nat} {L : List Item} (h : RowAt W ok R L) (he : W'.heap = W.heap) : RowAt W' ok R L := by
  obtain ⟨iv, Mb, hR, hI, ⟨es, clock, hm, hp⟩, hok⟩ := h
  refine ⟨iv, Mb, by rw [he]; exact hR, ?_, ⟨es, clock, by rw [he]; exact hm, hp⟩, hok⟩
  obtain ⟨h1, h2⟩ := hI
  refine ⟨h1, ?_⟩
  rcases h2 with h2 | ⟨g, cap, cur, rfl, hg, hh, r⟩
  · exact .inl h2
  · exact .inr ⟨g, cap, cur, rfl, hg, by rw [he]; exact hh, r⟩
theorem moved_drew {ok : Nat → Prop} {W W' : World} (h : Moved ok W W') : Moved ok W W'.drew := ⟨h.os, h.tape, h.output, h.size, h.block⟩
theorem moved_set {ok : Nat → Prop} {W W' : World} (h : Moved ok W W') {a : Addr} (ha : ok a.block) (v : Value) : Moved ok W (W'.setCell a v) :=
  ⟨h.os, h.tape, h.output, by simpa [World.setCell] using h.size, fun k hk hn => (Below.heap_setCell W' a v k (fun e => hn (by rw [e]; exact ha))).trans (h.block k hk hn)⟩
theorem moved_block {ok : Nat → Prop} {W W' : World} (h : Moved ok W W') {b : Nat} (hb : ok b) (o : Obj) : Moved ok W (setBlock W' b o) :=
  ⟨h.os, h.tape, h.output, by simpa [setBlock] using h.size, fun k hk hn => (setBlock_ne (fun e => hn (by rw [e]; exact hb))).trans (h.block k hk hn)⟩
theorem key_one {es : Array MapEntry} {clock : Nat} (hs : Stamped es clock) {i j : Nat} {x y : MapEntry} (hi : es.toList[i]? = some x) (hj : es.toList[j]? = some y) (h : x.key = y.key) : i = j := by
  obtain ⟨hil, hie⟩ := List.getElem?_eq_some_iff.1 hi
  obtain ⟨hjl, hje⟩ := List.getElem?_eq_some_iff.1 hj
  have hnd := List.nodup_iff_pairwise_ne.1 hs.2.2
  rcases Nat.lt_trichotomy i j with hlt | rfl | hlt
  · have := List.pairwise_iff_getElem.1 hnd i j (by rw [List.length_map]; exact hil) (by rw [List.length_map]; exact hjl) hlt
    rw [List.getElem_map, List.getElem_map, hie, hje] at this
    exact absurd h this
  · rfl
  · have := List.pairwise_iff_getElem.1 hnd j i (by rw [List.length_map]; exact hjl) (by rw [List.length_map]; exact hil) hlt
    rw [List.getElem_map, List.getElem_map, hie, hje] at this
    exact absurd h.symm this
/-- No two keys are the same. -/
theorem place_one {W : World} {Mb : Nat} {L : List Item} (h : PlaceAt W Mb L) {i j : Nat} {p q : Item} (hi : L[i]? = some p) (hj : L[j]? = some q) (e : p.1 = q.1) : i = j := by
  obtain ⟨es, clock, hb, hs, h1, h2⟩ := h
  obtain ⟨x, hx, hxk, hxv⟩ := h2 i p hi
  obtain ⟨y, hy, hyk, hyv⟩ := h2 j q hj
  obtain ⟨a, ha⟩ := List.mem_iff_getElem?.1 hx
  obtain ⟨b, hb'⟩ := List.mem_iff_getElem?.1 hy
  have := key_one hs ha hb' (by rw [hxk, hyk, e])
  subst this
  rw [ha] at hb'
  injection hb' with hb'
  subst hb'
  rw [hxv] at hyv
  injection hyv with _ hyv
  omega
/-- The places of two items change. -/
theorem place_swap {es : Array MapEntry} {clock : Nat} {L : List Item} {i j : Nat} {p q : Item} (hs : Stamped es clock)
    (h1 : ∀ e ∈ es.toList, ∃ (p : Item) (j : Nat), e.key = .int .i64 p.1 ∧ (Lit.int .i64 p.1).wf = true ∧ e.val = .int .i64 (j : Int) ∧ L[j]? = some p)
    (h2 : ∀ (j : Nat) (p : Item), L[j]? = some p → ∃ e ∈ es.toList, e.key = .int .i64 p.1 ∧ e.val = .int .i64 (j : Int))
    (hi : L[i]? = some p) (hj : L[j]? = some q) (hij : i ≠ j) (hne : p.1 ≠ q.1) :
    ∃ (m1 m2 : Nat) (e1 e2 : MapEntry), es.toList[m1]? = some e1 ∧ es.toList[m2]? = some e2 ∧ m1 ≠ m2 ∧ e1.key = .int .i64 p.1 ∧ e1.val = .int .i64 (i : Int) ∧ e2.key = .int .i64 q.1 ∧ e2.val = .int .i64 (j : Int) ∧
      (∀ e ∈ ((es.modify m2 fun x => { x with val := .int .i64 (i : Int) }).modify m1 fun x => { x with val := .int .i64 (j : Int) }).toList, ∃ (p' : Item) (j' : Nat), e.key = .int .i64 p'.1 ∧ (Lit.int .i64 p'.1).wf = true ∧ e.val = .int .i64 (j' : Int) ∧ (swapL L i j p q)[j']? = some p') ∧
      (∀ (j' : Nat) (p' : Item), (swapL L i j p q)[j']? = some p' → ∃ e ∈ ((es.modify m2 fun x => { x with val := .int .i64 (i : Int) }).modify m1 fun x => { x with val := .int .i64 (j : Int) }).toList, e.key = .int .i64 p'.1 ∧ e.val = .int .i64 (j' : Int)) := by
  obtain ⟨e1, he1, k1, v1⟩ := h2 i p hi
  obtain ⟨e2, he2, k2, v2⟩ := h2 j q hj
  obtain ⟨m1, hm1⟩ := List.mem_iff_getElem?.1 he1
  obtain ⟨m2, hm2⟩ := List.mem_iff_getElem?.1 he2
  have hil : i < L.length := (List.getElem?_eq_some_iff.1 hi).1
  have hjl : j < L.length := (List.getElem?_eq_some_iff.1 hj).1
  have hmm : m1 ≠ m2 := by
    rintro rfl
    rw [hm1] at hm2
    injection hm2 with hm2
    subst hm2
    rw [k1] at k2
    injection k2 with _ k2
    exact hne k2
  have hget : ∀ n, ((es.modify m2 fun x => { x with val := .int .i64 (i : Int) }).modify m1 fun x => { x with val := .int .i64 (j : Int) }).toList[n]? = if m1 = n then some { e1 with val := .int .i64 (j : Int) } else if m2 = n then some { e2 with val := .int .i64 (i : Int) } else es.toList[n]? := by
    intro n
    rw [modify_get, modify_get]
    by_cases a : m1 = n
    · subst a; rw [if_pos rfl, if_neg (Ne.symm hmm), if_pos rfl, hm1]; rfl
    · rw [if_neg a, if_neg a]
      by_cases b : m2 = n
      · subst b; rw [if_pos rfl, if_pos rfl, hm2]; rfl
      · rw [if_neg b, if_neg b]
  have hsw : ∀ n, (swapL L i j p q)[n]? = if j = n then some p else if i = n then some q else L[n]? := by
    intro n
    unfold swapL
    by_cases a : j = n
    · subst a; rw [if_pos rfl, List.getElem?_set_self (by rw [List.length_set]; exact hjl)]
    · rw [if_neg a, List.getElem?_set_ne a]
      by_cases b : i = n
      · subst b; rw [if_pos rfl, List.getElem?_set_self hil]
      · rw [if_neg b, List.getElem?_set_ne b]
  refine ⟨m1, m2, e1, e2, hm1, hm2, hmm, k1, v1, k2, v2, fun e he => ?_, fun j' p' hp' => ?_⟩
  · obtain ⟨n, hn⟩ := List.mem_iff_getElem?.1 he
    rw [hget n] at hn
    by_cases a : m1 = n
    · rw [if_pos a] at hn
      injection hn with hn
      subst hn
      obtain ⟨p0, j0, q1, q2, q3, q4⟩ := h1 e1 he1
      rw [k1] at q1
      injection q1 with _ q1
      exact ⟨p, j, k1, by rw [q1]; exact q2, rfl, by rw [hsw, if_pos rfl]⟩
    · rw [if_neg a] at hn
      by_cases b : m2 = n
      · rw [if_pos b] at hn
        injection hn with hn
        subst hn
        obtain ⟨p0, j0, q1, q2, q3, q4⟩ := h1 e2 he2
        rw [k2] at q1
        injection q1 with _ q1
        exact ⟨q, i, k2, by rw [q1]; exact q2, rfl, by rw [hsw, if_neg (Ne.symm hij), if_pos rfl]⟩
      · rw [if_neg b] at hn
        obtain ⟨p0, j0, q1, q2, q3, q4⟩ := h1 e (List.mem_of_getElem? hn)
        refine ⟨p0, j0, q1, q2, q3, ?_⟩
        have c1 : j ≠ j0 := by
          rintro rfl
          rw [hj] at q4
          injection q4 with q4
          subst q4
          exact b (key_one hs hm2 hn (by rw [k2, q1]))
        have c2 : i ≠ j0 := by
          rintro rfl
          rw [hi] at q4
          injection q4 with q4
          subst q4
          exact a (key_one hs hm1 hn (by rw [k1, q1]))
        rw [hsw, if_neg c1, if_neg c2]
        exact q4
  · rw [hsw] at hp'
    by_cases a : j = j'
    · rw [if_pos a] at hp'
      injection hp' with hp'
      subst hp'; subst a
      exact ⟨{ e1 with val := .int .i64 (j : Int) }, List.mem_of_getElem? (i := m1) (by rw [hget, if_pos rfl]), k1, rfl⟩
    · rw [if_neg a] at hp'
      by_cases b : i = j'
      · rw [if_pos b] at hp'
        injection hp' with hp'
        subst hp'; subst b
        exact ⟨{ e2 with val := .int .i64 (i : Int) }, List.mem_of_getElem? (i := m2) (by rw [hget, if_neg hmm, if_pos rfl]), k2, rfl⟩
      · rw [if_neg b] at hp'
        obtain ⟨e, he, q1, q2⟩ := h2 j' p' hp'
        obtain ⟨n, hn⟩ := List.mem_iff_getElem?.1 he
        have c1 : m1 ≠ n := by
          rintro rfl
          rw [hm1] at hn
          injection hn with hn
          subst hn
          rw [v1] at q2
          injection q2 with _ q2
          omega
        have c2 : m2 ≠ n := by
          rintro rfl
          rw [hm2] at hn
          injection hn with hn
          subst hn
          rw [v2] at q2
          injection q2 with _ q2
          omega
        exact ⟨e, List.mem_of_getElem? (i := n) (by rw [hget, if_neg c1, if_neg c2]; exact hn), q1, q2⟩
/-- What the second half of Swap finds, and what it leaves. -/
theorem swap_mid {W : World} {ok : Nat → Prop} {R Mb g cap : Nat} {L : List Item} {i j : Nat} {k1 a1 k2 a2 : Int} (hR : W.heap[R]? = some (.cells #[.slice (some ⟨g, 0, none⟩) L.length cap, .map (some Mb)] 54 (0, 0)))
    (hI : W.ownsRow 0 61 2 (.slice (some ⟨g, 0, none⟩) L.length cap) L.length (flat L)) (hP : PlaceAt W Mb L) (hokR : ok R) (hokM : ok Mb) (hokI : ok g)
    (hi : L[i]? = some (k1, a1)) (hj : L[j]? = some (k2, a2)) (hij : i ≠ j) {X : World}
    (hX : X = ((((W.setCell ⟨g, i * 2, none⟩ (.int .i64 k2)).setCell ⟨g, i * 2 + 1, none⟩ (.int .u64 a2)).setCell ⟨g, j * 2, none⟩ (.int .i64 k1)).setCell ⟨g, j * 2 + 1, none⟩ (.int .u64 a1)).drew) :
    ∃ (b1 b2 : Nat) (es1 es2 : Array MapEntry) (clock : Nat), X.cell? ⟨R, 0, none⟩ = some (.slice (some ⟨g, 0, none⟩) L.length cap) ∧ X.cell? ⟨R, 1, none⟩ = some (.map (some Mb)) ∧ X.cell? ⟨g, i * 2, none⟩ = some (.int .i64 k2) ∧ X.cell? ⟨g, j * 2, none⟩ = some (.int .i64 k1) ∧
      (Instr.mapEntry 51 (.map (some Mb)) (.int .i64 k2)).run Try.prog X.drew = .ok (.tuple #[.int .i64 (j : Int), .int .i64 (b2 : Int)]) X.drew ∧
      (Instr.entryStore 51 (.map (some Mb)) (.int .i64 (b2 : Int)) (.int .i64 (i : Int))).run Try.prog X.drew = .ok () (setBlock X.drew Mb (.map es1 clock)) ∧
      (Instr.mapEntry 51 (.map (some Mb)) (.int .i64 k1)).run Try.prog (setBlock X.drew Mb (.map es1 clock)) = .ok (.tuple #[.int .i64 (i : Int), .int .i64 (b1 : Int)]) (setBlock X.drew Mb (.map es1 clock)) ∧
      (Instr.entryStore 51 (.map (some Mb)) (.int .i64 (b1 : Int)) (.int .i64 (j : Int))).run Try.prog (setBlock X.drew Mb (.map es1 clock)) = .ok () (setBlock (setBlock X.drew Mb (.map es1 clock)) Mb (.map es2 clock)) ∧
      RowAt (setBlock (setBlock X.drew Mb (.map es1 clock)) Mb (.map es2 clock)) ok R (swapL L i j (k1, a1) (k2, a2)) ∧ Moved ok W (setBlock (setBlock X.drew Mb (.map es1 clock)) Mb (.map es2 clock)) := by
  have hil : i < L.length := (List.getElem?_eq_some_iff.1 hi).1
  have hjl : j < L.length := (List.getElem?_eq_some_iff.1 hj).1
  have hk : k1 ≠ k2 := fun e => hij (place_one hP hi hj e)
  obtain ⟨cur, hg⟩ := own_typed hI g rfl
  have hgR : g ≠ R := blk_ne hg hR (by decide)
  obtain ⟨es, clock, hm, hs, h1, h2⟩ := hP
  have hgM : g ≠ Mb := by rintro rfl; rw [hg] at hm; cases hm
  have hRM : R ≠ Mb := by rintro rfl; rw [hR] at hm; cases hm
  obtain ⟨m1, m2, e1, e2, hm1, hm2, hmm, q1, q2, q3, q4, q5, q6⟩ := place_swap hs h1 h2 hi hj hij hk
  have hkey : ∀ e ∈ es.toList, ∃ k, e.key = .int .i64 k ∧ (Lit.int .i64 k).wf = true := fun e he => by
    obtain ⟨p, _, a, b, _⟩ := h1 e he
    exact ⟨_, a, b⟩
  have hI1 := own_put hI i (k2, a2) rfl hil
  have hI2 := own_put (L := L.set i (k2, a2)) hI1 j (k1, a1) (by rw [List.length_set]) hjl
  have hother : ∀ k, k ≠ g → X.heap[k]? = W.heap[k]? := fun k hk => by
    rw [hX]
    show ((((W.setCell ⟨g, i * 2, none⟩ (.int .i64 k2)).setCell ⟨g, i * 2 + 1, none⟩ (.int .u64 a2)).setCell ⟨g, j * 2, none⟩ (.int .i64 k1)).setCell ⟨g, j * 2 + 1, none⟩ (.int .u64 a1)).heap[k]? = _
    rw [Below.heap_setCell _ _ _ k hk, Below.heap_setCell _ _ _ k hk, Below.heap_setCell _ _ _ k hk, Below.heap_setCell _ _ _ k hk]
  have hI3 : X.ownsRow 0 61 2 (.slice (some ⟨g, 0, none⟩) L.length cap) L.length (flat (swapL L i j (k1, a1) (k2, a2))) := by rw [hX]; exact hI2
  have hRX : X.heap[R]? = some (.cells #[.slice (some ⟨g, 0, none⟩) L.length cap, .map (some Mb)] 54 (0, 0)) := (hother R (Ne.symm hgR)).trans hR
  have hmX : X.drew.heap[Mb]? = some (.map es clock) := (hother Mb (Ne.symm hgM)).trans hm
  have hcells := hI3.cells (g := g) rfl
  have hsw1 : (swapL L i j (k1, a1) (k2, a2))[i]? = some (k2, a2) := by unfold swapL; rw [List.getElem?_set_ne (Ne.symm hij), List.getElem?_set_self hil]
  have hsw2 : (swapL L i j (k1, a1) (k2, a2))[j]? = some (k1, a1) := by unfold swapL; rw [List.getElem?_set_self (by rw [List.length_set]; exact hjl)]
  have ci := hcells (i * 2) _ (flat_get _ i _ hsw1).1
  have cj := hcells (j * 2) _ (flat_get _ j _ hsw2).1
  rw [add_plain] at ci cj
  have hs1 := stamped_modify hs m2 (.int .i64 (i : Int))
  have hm1' : (es.modify m2 fun x => { x with val := .int .i64 (i : Int) }).toList[m1]? = some e1 := by rw [modify_get, if_neg (Ne.symm hmm)]; exact hm1
  have hkey1 : ∀ e ∈ (es.modify m2 fun x => { x with val := .int .i64 (i : Int) }).toList, ∃ k, e.key = .int .i64 k ∧ (Lit.int .i64 k).wf = true := fun e he => by
    obtain ⟨n, hn⟩ := List.mem_iff_getElem?.1 he
    rw [modify_get] at hn
    by_cases a : m2 = n
    · rw [if_pos a, ← a, hm2] at hn
      injection hn with hn
      subst hn
      exact hkey e2 (List.mem_of_getElem? hm2)
    · rw [if_neg a] at hn
      exact hkey e (List.mem_of_getElem? hn)
  have hb1 : (setBlock X.drew Mb (.map (es.modify m2 fun x => { x with val := .int .i64 (i : Int) }) clock)).heap[Mb]? = some (.map (es.modify m2 fun x => { x with val := .int .i64 (i : Int) }) clock) := setBlock_get (blk_lt hmX)
  have r1 := entry_there hmX hs hkey hm2 q3
  have r2 := entry_store hmX hs hm2 (.int .i64 (i : Int))
  have r3 := entry_there hb1 hs1 hkey1 hm1' q1
  have r4 := entry_store hb1 hs1 hm1' (.int .i64 (j : Int))
  rw [q4] at r1
  rw [q2] at r3
  refine ⟨e1.born, e2.born, _, _, clock, (blk_cell hRX 0).trans rfl, (blk_cell hRX 1).trans rfl, ci, cj, r1, r2, r3, r4, ?_, ?_⟩
  · refine ⟨.slice (some ⟨g, 0, none⟩) L.length cap, Mb, ?_, ?_, ⟨_, clock, setBlock_get (blk_lt hb1), stamped_modify hs1 m1 _, q5, q6⟩, hokR, hokM, fun k hk => by
      have : g = k := by simpa [Value.ownBlock] using hk
      rw [← this]; exact hokI⟩
    · rw [setBlock_ne hRM, setBlock_ne hRM]; exact hRX
    · have hlen : (swapL L i j (k1, a1) (k2, a2)).length = L.length := by unfold swapL; rw [List.length_set, List.length_set]
      rw [hlen]
      exact own_move hI3 (fun k hk => by
        have : g = k := by simpa [Value.ownBlock] using hk
        subst this
        rw [setBlock_ne hgM, setBlock_ne hgM]; rfl)
  · refine moved_block (moved_block (moved_drew ?_) hokM _) hokM _
    rw [hX]
    exact moved_drew (moved_set (moved_set (moved_set (moved_set (Moved.refl ok W) hokI _) hokI _) hokI _) hokI _)
/-! ### the map of places: what is looked up, put, and taken away -/
def Sound (es : Array MapEntry) (L : List Item) : Prop := ∀ e ∈ es.toList, ∃ (p : Item) (j : Nat), e.key = .int .i64 p.1 ∧ (Lit.int .i64 p.1).wf = true ∧ e.val = .int .i64 (j : Int) ∧ L[j]? = some p
def Whole (es : Array MapEntry) (L : List Item) : Prop := ∀ (j : Nat) (p : Item), L[j]? = some p → ∃ e ∈ es.toList, e.key = .int .i64 p.1 ∧ e.val = .int .i64 (j : Int)
theorem sound_keys {es : Array MapEntry} {L : List Item} (h : Sound es L) : ∀ e ∈ es.toList, ∃ l, keyOf Try.prog 3 e.key = some l := fun e he => by
  obtain ⟨p, _, a, b, _⟩ := h e he
  exact ⟨_, by rw [a]; exact keyOf_int_mk Try.underlying3 b⟩
theorem find_there {W : World} {es : Array MapEntry} {clock : Nat} {L : List Item} (hs : Stamped es clock) (h : Sound es L) {k : Int} (hk : (Lit.int .i64 k).wf = true) {j : Nat} {e : MapEntry} (hj : es.toList[j]? = some e) (he : e.key = .int .i64 k) :
    (Instr.findKey 3 (.int .i64 k) es.toList).run Try.prog W = .ok (some (j, e.val)) W := by
  rcases keyed.find W (keyOf_int_mk Try.underlying3 hk) es.toList (sound_keys h) with ⟨_, h2⟩ | ⟨j', e', h1, h2, h3⟩
  · exact absurd he (h2 e (List.mem_of_getElem? hj))
  · have := key_one hs h2 hj (by rw [h3, he])
    subst this
    rw [hj] at h2
    injection h2 with h2
    subst h2
    exact h1
theorem find_not {W : World} {es : Array MapEntry} {L : List Item} (h : Sound es L) {k : Int} (hk : (Lit.int .i64 k).wf = true) (hn : ∀ e ∈ es.toList, e.key ≠ .int .i64 k) :
    (Instr.findKey 3 (.int .i64 k) es.toList).run Try.prog W = .ok none W := by
  rcases keyed.find W (keyOf_int_mk Try.underlying3 hk) es.toList (sound_keys h) with ⟨h1, _⟩ | ⟨j', e', _, h2, h3⟩
  · exact h1
  · exact absurd h3 (hn e' (List.mem_of_getElem? h2))
theorem look_there {W : World} {Mb : Nat} {es : Array MapEntry} {clock : Nat} {L : List Item} (hb : W.heap[Mb]? = some (.map es clock)) (hs : Stamped es clock) (h : Sound es L) {k : Int} (hk : (Lit.int .i64 k).wf = true) {j : Nat} {e : MapEntry} (hj : es.toList[j]? = some e) (he : e.key = .int .i64 k) :
    (Instr.lookup 51 (.map (some Mb)) (.int .i64 k) true).run Try.prog W = .ok (.tuple #[e.val, .bool true]) W := by
  have hz : (zeroValue 3).run Try.prog W = .ok (.int .i64 0) W := by kernel_rfl
  simp [Instr.lookup, run_underlying Try.underlying51, MapKept.run_getObj_map hb, keyed.check W _ (keyOf_int_mk Try.underlying3 hk), find_there hs h hk hj he, Result.andThen, hz]
theorem look_not {W : World} {Mb : Nat} {es : Array MapEntry} {clock : Nat} {L : List Item} (hb : W.heap[Mb]? = some (.map es clock)) (h : Sound es L) {k : Int} (hk : (Lit.int .i64 k).wf = true) (hn : ∀ e ∈ es.toList, e.key ≠ .int .i64 k) :
    (Instr.lookup 51 (.map (some Mb)) (.int .i64 k) true).run Try.prog W = .ok (.tuple #[.int .i64 0, .bool false]) W := by
  have hz : (zeroValue 3).run Try.prog W = .ok (.int .i64 0) W := by kernel_rfl
  simp [Instr.lookup, run_underlying Try.underlying51, MapKept.run_getObj_map hb, keyed.check W _ (keyOf_int_mk Try.underlying3 hk), find_not h hk hn, Result.andThen, hz]
theorem put_new {W : World} {Mb : Nat} {es : Array MapEntry} {clock : Nat} {L : List Item} (hb : W.heap[Mb]? = some (.map es clock)) (h : Sound es L) {k : Int} (hk : (Lit.int .i64 k).wf = true) (hn : ∀ e ∈ es.toList, e.key ≠ .int .i64 k) (v : Value) :
    (Instr.mapUpdate 51 (.map (some Mb)) (.int .i64 k) v).run Try.prog W = .ok () (setBlock W Mb (.map (es.push ⟨.int .i64 k, v, clock⟩) (clock + 1))) := by
  simp [Instr.mapUpdate, run_underlying Try.underlying51, MapKept.run_getObj_map hb, keyed.check W false (keyOf_int_mk Try.underlying3 hk), find_not h hk hn, MapKept.run_setObj_map _ hb, Result.andThen, setBlock]
theorem drop_there (ty : TypeId) {W : World} {Mb : Nat} {es : Array MapEntry} {clock : Nat} {L : List Item} (hb : W.heap[Mb]? = some (.map es clock)) (hs : Stamped es clock) (h : Sound es L) {k : Int} (hk : (Lit.int .i64 k).wf = true) {j : Nat} {e : MapEntry} (hj : es.toList[j]? = some e) (he : e.key = .int .i64 k) :
    (Builtin.delete_ #[51, 3] ty #[.map (some Mb), .int .i64 k]).run Try.prog W = .ok (.tuple #[]) (setBlock W Mb (.map (es.eraseIdxIfInBounds j) clock)) := by
  simp [Builtin.delete_, run_underlying Try.underlying51, MapKept.run_getObj_map hb, keyed.check W _ (keyOf_int_mk Try.underlying3 hk), find_there hs h hk hj he, MapKept.run_setObj_map _ hb, Result.andThen, setBlock]
theorem erase_list (es : Array MapEntry) (j : Nat) (h : j < es.toList.length) : (es.eraseIdxIfInBounds j).toList = es.toList.eraseIdx j := by
  have hjs : j < es.size := by simpa using h
  unfold Array.eraseIdxIfInBounds
  rw [dif_pos hjs]
  simp
/-- The last item goes. -/
theorem place_pop {es : Array MapEntry} {clock : Nat} {L : List Item} {p : Item} (hs : Stamped es clock) (h1 : Sound es (L ++ [p])) (h2 : Whole es (L ++ [p])) :
    ∃ (m : Nat) (e : MapEntry), es.toList[m]? = some e ∧ e.key = .int .i64 p.1 ∧ (Lit.int .i64 p.1).wf = true ∧ Stamped (es.eraseIdxIfInBounds m) clock ∧ Sound (es.eraseIdxIfInBounds m) L ∧ Whole (es.eraseIdxIfInBounds m) L := by
  obtain ⟨e, he, q1, q2⟩ := h2 L.length p (by rw [List.getElem?_append_right (Nat.le_refl _), Nat.sub_self]; rfl)
  obtain ⟨m, hm⟩ := List.mem_iff_getElem?.1 he
  have hml : m < es.toList.length := (List.getElem?_eq_some_iff.1 hm).1
  have hwf : (Lit.int .i64 p.1).wf = true := by
    obtain ⟨p0, _, a, b, _⟩ := h1 e he
    rw [q1] at a
    injection a with _ a
    rw [a]; exact b
  refine ⟨m, e, hm, q1, hwf, MapKept.stamped_erase hs m, fun x hx => ?_, fun j q hj => ?_⟩
  · rw [erase_list es m hml] at hx
    obtain ⟨n, hn⟩ := List.mem_iff_getElem?.1 hx
    rw [List.getElem?_eraseIdx] at hn
    have hx' : ∃ n', es.toList[n']? = some x ∧ n' ≠ m := by
      by_cases hlt : n < m
      · rw [if_pos hlt] at hn; exact ⟨n, hn, by omega⟩
      · rw [if_neg hlt] at hn; exact ⟨n + 1, hn, by omega⟩
    obtain ⟨n', hn', hne⟩ := hx'
    obtain ⟨p0, j0, a, b, c, d⟩ := h1 x (List.mem_of_getElem? hn')
    refine ⟨p0, j0, a, b, c, ?_⟩
    have hj0 : j0 < (L ++ [p]).length := (List.getElem?_eq_some_iff.1 d).1
    rw [List.length_append, List.length_singleton] at hj0
    by_cases hl : j0 < L.length
    · rw [List.getElem?_append_left hl] at d; exact d
    · exfalso
      have : j0 = L.length := by omega
      subst this
      rw [List.getElem?_append_right (Nat.le_refl _), Nat.sub_self] at d
      injection d with d
      subst d
      exact hne (key_one hs hn' hm (by rw [a, q1]))
  · have hjl : j < L.length := (List.getElem?_eq_some_iff.1 hj).1
    obtain ⟨x, hx, a, b⟩ := h2 j q (by rw [List.getElem?_append_left hjl]; exact hj)
    obtain ⟨n, hn⟩ := List.mem_iff_getElem?.1 hx
    have hne : n ≠ m := by
      rintro rfl
      rw [hm] at hn
      injection hn with hn
      subst hn
      rw [q2] at b
      injection b with _ b
      omega
    refine ⟨x, ?_, a, b⟩
    rw [erase_list es m hml]
    by_cases hlt : n < m
    · exact List.mem_of_getElem? (i := n) (by rw [List.getElem?_eraseIdx, if_pos hlt]; exact hn)
    · exact List.mem_of_getElem? (i := n - 1) (by rw [List.getElem?_eraseIdx, if_neg (by omega), show n - 1 + 1 = n from by omega]; exact hn)
/-- An item comes behind all others. -/
theorem place_push {es : Array MapEntry} {clock : Nat} {L : List Item} {p : Item} (hs : Stamped es clock) (h1 : Sound es L) (h2 : Whole es L) (hk : (Lit.int .i64 p.1).wf = true) (hn : ∀ q ∈ L, q.1 ≠ p.1) :
    (∀ e ∈ es.toList, e.key ≠ .int .i64 p.1) ∧ Stamped (es.push ⟨.int .i64 p.1, .int .i64 (L.length : Int), clock⟩) (clock + 1) ∧ Sound (es.push ⟨.int .i64 p.1, .int .i64 (L.length : Int), clock⟩) (L ++ [p]) ∧ Whole (es.push ⟨.int .i64 p.1, .int .i64 (L.length : Int), clock⟩) (L ++ [p]) := by
  have hno : ∀ e ∈ es.toList, e.key ≠ .int .i64 p.1 := fun e he h => by
    obtain ⟨p0, j0, a, _, _, d⟩ := h1 e he
    rw [a] at h
    injection h with _ h
    exact hn p0 (List.mem_of_getElem? d) h
  refine ⟨hno, MapKept.stamped_push hs hno, fun e he => ?_, fun j q hj => ?_⟩
  · rw [Array.toList_push, List.mem_append, List.mem_singleton] at he
    rcases he with he | rfl
    · obtain ⟨p0, j0, a, b, c, d⟩ := h1 e he
      exact ⟨p0, j0, a, b, c, by rw [List.getElem?_append_left (List.getElem?_eq_some_iff.1 d).1]; exact d⟩
    · exact ⟨p, L.length, rfl, hk, rfl, by rw [List.getElem?_append_right (Nat.le_refl _), Nat.sub_self]; rfl⟩
  · rw [Array.toList_push]
    have hjl : j < (L ++ [p]).length := (List.getElem?_eq_some_iff.1 hj).1
    rw [List.length_append, List.length_singleton] at hjl
    by_cases hl : j < L.length
    · rw [List.getElem?_append_left hl] at hj
      obtain ⟨e, he, a, b⟩ := h2 j q hj
      exact ⟨e, List.mem_append.2 (.inl he), a, b⟩
    · have : j = L.length := by omega
      subst this
      rw [List.getElem?_append_right (Nat.le_refl _), Nat.sub_self] at hj
      injection hj with hj
      subst hj
      exact ⟨_, List.mem_append.2 (.inr (List.mem_singleton.2 rfl)), rfl, rfl⟩

end Go.Proofs.Ytlkcekldddpjbaa.Due
