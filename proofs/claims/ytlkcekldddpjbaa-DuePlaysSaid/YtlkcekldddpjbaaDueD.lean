/- What Pop of the queue does: the last item goes. -/
import Derived.Test.YtlkcekldddpjbaaDueB
import Derived.Deep.RegionHeld3
import Derived.Deep.RegionLaw
import Derived.Deep.AppendLies
import Derived.RegionTactic
import Derived.ChangeAlike
import Derived.BigRegion
import Derived.Outline
import Derived.Deep.DeepCutAuto
import Derived.Maps.Keyed
import Derived.WideKeyEntry
namespace Go.Proofs.Ytlkcekldddpjbaa.Due
open Go.RowKit Go.Proofs.YtlkcekldddpjbaaW.PrintWords Go.Proofs.YtlkcekldddpjbaaW.PrintLast Go.Proofs.YtlkcekldddpjbaaW.PrintMore
open Go.MapKept (Stamped)
open Go.ChangeMaps (setBlock)
open Go.Maps (Keyed int_keyed keyOf_int_mk)
set_option linter.unusedVariables false
set_option linter.unusedSimpArgs false

theorem own_cap {W : World} {g n cap : Nat} {xs : List Value} (h : W.ownsRow 0 61 2 (.slice (some ⟨g, 0, none⟩) n cap) n xs) : n ≤ cap := by
  rcases h.2 with ⟨hv, _⟩ | ⟨g', cap', cur, hv, _, _, hc, _⟩
  · cases hv
  · injection hv with _ _ e
    rw [e]; exact hc
theorem row_alloc {W : World} {ok : Nat → Prop} {R : Nat} {L : List Item} (h : RowAt W ok R L) (o : Obj) : RowAt (W.alloc o) ok R L := by
  obtain ⟨iv, Mb, hR, hI, ⟨es, clock, hm, hp⟩, hok⟩ := h
  have hk : ∀ (k : Nat) (x : Obj), W.heap[k]? = some x → (W.alloc o).heap[k]? = some x := fun k x hx => blk_alloc hx o
  exact ⟨iv, Mb, hk _ _ hR, hI.alloc o, ⟨es, clock, hk _ _ hm, hp⟩, hok⟩
/-- What Pop finds on its way, and what it leaves. -/
theorem pop_mid {W : World} {ok : Nat → Prop} {R Mb g cap : Nat} {L : List Item} {k1 a1 : Int} (hR : W.heap[R]? = some (.cells #[.slice (some ⟨g, 0, none⟩) (L.length + 1) cap, .map (some Mb)] 54 (0, 0)))
    (hI : W.ownsRow 0 61 2 (.slice (some ⟨g, 0, none⟩) (L.length + 1) cap) (L.length + 1) (flat (L ++ [(k1, a1)]))) (hP : PlaceAt W Mb (L ++ [(k1, a1)])) (hokR : ok R) (hokM : ok Mb) (hokI : ok g) {X : World}
    (hX : X = (W.alloc (.cells #[.pointer (some ⟨R, 0, none⟩)] 56 (0, 0))).alloc (.cells #[.int .i64 k1, .int .u64 a1] 61 (0, 0))) :
    ∃ Y : World, X.cell? ⟨W.heap.size, 0, none⟩ = some (.pointer (some ⟨R, 0, none⟩)) ∧ X.cell? ⟨W.heap.size + 1, 0, none⟩ = some (.int .i64 k1) ∧ X.cell? ⟨R, 1, none⟩ = some (.map (some Mb)) ∧
      (∀ ty, (Builtin.delete_ #[51, 3] ty #[.map (some Mb), .int .i64 k1]).run Try.prog X.drew = .ok (.tuple #[]) Y) ∧
      Y.cell? ⟨W.heap.size, 0, none⟩ = some (.pointer (some ⟨R, 0, none⟩)) ∧ Y.cell? ⟨R, 0, none⟩ = some (.slice (some ⟨g, 0, none⟩) (L.length + 1) cap) ∧ Y.frozen? ⟨R, 0, none⟩ = false ∧
      ∀ Z : World, Z = Y.setCell ⟨R, 0, none⟩ (.slice (some ⟨g, 0, none⟩) L.length cap) → Z.cell? ⟨W.heap.size + 1, 0, none⟩ = some (.int .i64 k1) ∧ Z.cell? ⟨W.heap.size + 1, 1, none⟩ = some (.int .u64 a1) ∧ RowAt Z ok R L ∧ Moved ok W Z := by
  obtain ⟨es, clock, hm, hs, h1, h2⟩ := hP
  obtain ⟨m, e, hme, hek, hwf, hs', h1', h2'⟩ := place_pop hs h1 h2
  obtain ⟨cur, hg⟩ := own_typed hI g rfl
  have hgR : g ≠ R := blk_ne hg hR (by decide)
  have hgM : g ≠ Mb := by rintro rfl; rw [hg] at hm; cases hm
  have hRM : R ≠ Mb := by rintro rfl; rw [hR] at hm; cases hm
  have hup : ∀ (k : Nat) (x : Obj), W.heap[k]? = some x → X.heap[k]? = some x := fun k x hx => by rw [hX]; exact blk_alloc (blk_alloc hx _) _
  have hA : X.heap[W.heap.size]? = some (.cells #[.pointer (some ⟨R, 0, none⟩)] 56 (0, 0)) := by rw [hX]; exact blk_alloc (blk_new W _) _
  have hB : X.heap[W.heap.size + 1]? = some (.cells #[.int .i64 k1, .int .u64 a1] 61 (0, 0)) := by
    have := blk_new (W.alloc (.cells #[.pointer (some ⟨R, 0, none⟩)] 56 (0, 0))) (.cells #[.int .i64 k1, .int .u64 a1] 61 (0, 0))
    rw [hX]
    simpa using this
  have hmX : X.drew.heap[Mb]? = some (.map es clock) := hup Mb _ hm
  have hMl := blk_lt hm
  have hRX := hup R _ hR
  have hIX : X.ownsRow 0 61 2 (.slice (some ⟨g, 0, none⟩) (L.length + 1) cap) (L.length + 1) (flat (L ++ [(k1, a1)])) := by rw [hX]; exact (hI.alloc _).alloc _
  have d := fun ty => drop_there ty hmX hs h1 hwf hme hek
  have hMX : Moved ok W X := by rw [hX]; exact Moved.of_below (below_alloc (below_alloc (Below.refl _ _) _) _)
  have yk : ∀ k, k ≠ Mb → (setBlock X.drew Mb (.map (es.eraseIdxIfInBounds m) clock)).heap[k]? = X.heap[k]? := fun k hk => setBlock_ne hk
  have yR := (yk R hRM).trans hRX
  have yA := (yk W.heap.size (by omega)).trans hA
  have yB := (yk (W.heap.size + 1) (by omega)).trans hB
  refine ⟨_, (blk_cell hA 0).trans rfl, (blk_cell hB 0).trans rfl, (blk_cell hRX 1).trans rfl, d, (blk_cell yA 0).trans rfl, (blk_cell yR 0).trans rfl, blk_frozen yR 0, fun Z hZ => ?_⟩
  have zk : ∀ k, k ≠ R → k ≠ Mb → Z.heap[k]? = X.heap[k]? := fun k hk hk2 => by
    rw [hZ, Below.heap_setCell _ _ _ k hk]
    exact yk k hk2
  have zR : Z.heap[R]? = some (.cells #[.slice (some ⟨g, 0, none⟩) L.length cap, .map (some Mb)] 54 (0, 0)) := by
    rw [hZ]
    exact blk_put yR 0 _ rfl
  have zM : Z.heap[Mb]? = some (.map (es.eraseIdxIfInBounds m) clock) := by
    rw [hZ, Below.heap_setCell _ _ _ Mb (Ne.symm hRM)]
    exact setBlock_get (blk_lt hmX)
  have hRl := blk_lt hR
  have zB := (zk (W.heap.size + 1) (by omega) (by omega)).trans hB
  refine ⟨(blk_cell zB 0).trans rfl, (blk_cell zB 1).trans rfl, ⟨.slice (some ⟨g, 0, none⟩) L.length cap, Mb, zR, ?_, ⟨_, clock, zM, hs', h1', h2'⟩, hokR, hokM, fun k hk => by
    have : g = k := by simpa [Value.ownBlock] using hk
    rw [← this]; exact hokI⟩, ?_⟩
  · obtain ⟨_, hI2⟩ := hIX
    rcases hI2 with ⟨hv, _⟩ | ⟨g', cap', cur', hv, hb0, hh, hc1, hc2, hsz, ht⟩
    · cases hv
    · injection hv with ha _ hc
      injection ha with ha
      injection ha with ha
      subst ha; subst hc
      refine ⟨flat_length L, .inr ⟨g, cap, cur', rfl, hb0, (zk g hgR hgM).trans hh, by omega, hc2, hsz, ?_⟩⟩
      have ht2 := congrArg (List.take (L.length * 2)) ht
      have e1 : (cur'.toList.take ((L.length + 1) * 2)).take (L.length * 2) = cur'.toList.take (L.length * 2) := by rw [List.take_take, Nat.min_eq_left (by omega)]
      have e2 : (flat (L ++ [(k1, a1)])).take (L.length * 2) = flat L := by
        rw [flat_append, List.take_append_of_le_length (Nat.le_of_eq (flat_length L).symm)]
        exact List.take_of_length_le (Nat.le_of_eq (flat_length L))
      exact (e1.symm.trans ht2).trans e2
  · rw [hZ]
    exact moved_set (moved_block (moved_drew hMX) hokM _) hokR _
set_option maxHeartbeats 2000000 in
theorem pop_row (W : World) (ok : Nat → Prop) (R : Nat) (L : List Item) (p : Item) (h : RowAt W ok R (L ++ [p])) (hlen : L.length < 1000000) :
    Calls Try.prog 45 #[.agg #[.pointer (some ⟨R, 0, none⟩)]] W fun e w' => (∃ v, e = .returned v) ∧ RowAt w' ok R L ∧ Moved ok W w' := by
  have hlen' := len_row W ok R (L ++ [p]) h
  have h0 := h
  obtain ⟨iv, Mb, hR, hI, hP, hokR, hokM, hokI⟩ := h0
  obtain ⟨g, cap, rfl, hcap, hcm⟩ := hI.form (by simp)
  have hcells := hI.cells (g := g) rfl
  have hp : (L ++ [p])[L.length]? = some p := by rw [List.getElem?_append_right (Nat.le_refl _), Nat.sub_self]; rfl
  have c0 : W.cell? ⟨R, 0, none⟩ = some (.slice (some ⟨g, 0, none⟩) (L ++ [p]).length cap) := (blk_cell hR 0).trans rfl
  have c1 : W.cell? ⟨R, 1, none⟩ = some (.map (some Mb)) := (blk_cell hR 1).trans rfl
  have fR := blk_frozen hR 0
  have cp0 := hcells (L.length * 2) _ (flat_get _ _ p hp).1
  have cp1 := hcells (L.length * 2 + 1) _ (flat_get _ _ p hp).2
  rw [add_plain] at cp0 cp1
  have hRl : R < W.heap.size := blk_lt hR
  have H := Aside0.mk h
  rw [List.length_append, List.length_singleton] at c0
  obtain ⟨k1, a1⟩ := p
  simp only at cp0 cp1
  have HI := Aside0.mk hI
  have HP := Aside0.mk hP
  have HR := Aside0.mk hR
  have hl := len_row (W.alloc (.cells #[.pointer (some ⟨R, 0, none⟩)] 56 (0, 0))) ok R (L ++ [(k1, a1)]) (row_alloc h _)
  rw [List.length_append, List.length_singleton] at hl
  have HL := Aside0.mk hl
  have hle : (L.length : Int) ≤ 1000000 := by omega
  have hcl : L.length ≤ cap := by have := own_cap hI; rw [List.length_append, List.length_singleton] at this; omega
  have l0 : 0 ≤ (L.length : Int) := by omega
  clear hI hP hR hcells hp h hlen' hl
  go_enter Try.func45, Try.ntmps45
  go_wp2_with (go_at_call 24; refine HL.out.mono ?_; rintro e w' ⟨rfl, rfl⟩)
  generalize hX : World.alloc _ _ = X
  have hXe : X = (W.alloc (.cells #[.pointer (some ⟨R, 0, none⟩)] 56 (0, 0))).alloc (.cells #[.int .i64 k1, .int .u64 a1] 61 (0, 0)) := hX.symm
  have HRx := HR.out
  have HIx := HI.out
  rw [List.length_append, List.length_singleton] at HRx HIx
  obtain ⟨Y, cX0, cX1, cX2, dX, cY0, cY1, fY, hend⟩ := pop_mid HRx HIx HP.out hokR hokM (hokI g rfl) hXe
  have HEND := Aside0.mk hend
  clear hX hXe hend HRx HIx HR HI HP HL H c0 c1 fR cp0 cp1 hokI
  have CY := Aside0.mk (And.intro cY0 (And.intro cY1 fY))
  clear cY0 cY1 fY
  go_region
  obtain ⟨cY0, cY1, fY⟩ := CY.out
  have r1 : (L.length : Int) ≤ (L.length : Int) + 1 := by omega
  go_wp2
  go_region
  generalize hZ : World.setCell _ _ _ = Z
  obtain ⟨z0, z1, zr, zm⟩ := HEND.out Z hZ.symm
  have ZR := Aside0.mk zr
  have ZM := Aside0.mk zm
  clear hZ zr zm HEND CY cY0 cY1 fY
  go_wp2
  go_ret
  exact ⟨⟨_, rfl⟩, row_heap ZR.out rfl, moved_drew ZM.out⟩

end Go.Proofs.Ytlkcekldddpjbaa.Due
