/- What Push of the queue does: an item comes behind all others. -/
import Derived.Test.YtlkcekldddpjbaaDueD
import Derived.Deep.RegionHeld3
import Derived.Deep.RegionLaw
import Derived.Deep.AppendLies
import Derived.RegionTactic
import Derived.ChangeAlike
import Derived.BigRegion
import Derived.Outline
import Derived.Deep.DeepCutAuto
import Derived.Maps.Keyed
import Derived.WideKeyEntry
namespace Go.Proofs.Ytlkcekldddpjbaa.Due
open Go.RowKit Go.Proofs.YtlkcekldddpjbaaW.PrintWords Go.Proofs.YtlkcekldddpjbaaW.PrintLast Go.Proofs.YtlkcekldddpjbaaW.PrintMore
open Go.MapKept (Stamped)
open Go.ChangeMaps (setBlock)
open Go.Maps (Keyed int_keyed keyOf_int_mk)
set_option linter.unusedVariables false
set_option linter.unusedSimpArgs false

theorem info61 : (Try.prog.info? 61).map (fun i => (i.zero, i.size, i.bytes)) = some (some (.agg #[.int .i64 0, .int .u64 0]), 2, 16) := by kernel_rfl
/-- What Push finds on its way, and what its first half leaves. -/
theorem push_mid {W : World} {ok : Nat → Prop} {R : Nat} {L : List Item} {k1 a1 : Int} (h : RowAt W ok R L) (hfresh : ∀ k, W.heap.size ≤ k → ok k) (hk : (Lit.int .i64 k1).wf = true) (hn : ∀ q ∈ L, q.1 ≠ k1) {X : World}
    (hX : X = (W.alloc (.cells #[.pointer (some ⟨R, 0, none⟩)] 56 (0, 0))).alloc (.cells #[.int .i64 k1, .int .u64 a1] 61 (0, 0))) :
    ∃ (iv : Value) (Mb : Nat) (Y : World), X.cell? ⟨W.heap.size, 0, none⟩ = some (.pointer (some ⟨R, 0, none⟩)) ∧ X.cell? ⟨W.heap.size + 1, 0, none⟩ = some (.int .i64 k1) ∧ X.cell? ⟨R, 1, none⟩ = some (.map (some Mb)) ∧ RowAt X ok R L ∧
      (Instr.mapUpdate 51 (.map (some Mb)) (.int .i64 k1) (.int .i64 (L.length : Int))).run Try.prog X.drew = .ok () Y ∧
      Y.heap[W.heap.size]? = some (.cells #[.pointer (some ⟨R, 0, none⟩)] 56 (0, 0)) ∧ Y.heap[W.heap.size + 1]? = some (.cells #[.int .i64 k1, .int .u64 a1] 61 (0, 0)) ∧ Y.heap[R]? = some (.cells #[iv, .map (some Mb)] 54 (0, 0)) ∧
      Y.ownsRow 0 61 2 iv L.length (flat L) ∧ PlaceAt Y Mb (L ++ [(k1, a1)]) ∧ ok R ∧ ok Mb ∧ (∀ k, iv.ownBlock = some k → ok k) ∧ Moved ok W Y ∧ Y.heap.size = W.heap.size + 2 ∧ R ≠ Mb ∧ (∀ k, iv.ownBlock = some k → k ≠ W.heap.size + 1) ∧ X.cell? ⟨R, 0, none⟩ = some iv := by
  have h0 := h
  obtain ⟨iv, Mb, hR, hI, ⟨es, clock, hm, hs, h1, h2⟩, hokR, hokM, hokI⟩ := h
  obtain ⟨hno, hs', h1', h2'⟩ := place_push (p := (k1, a1)) hs h1 h2 hk hn
  have hRM : R ≠ Mb := by rintro rfl; rw [hR] at hm; cases hm
  have hup : ∀ (k : Nat) (x : Obj), W.heap[k]? = some x → X.heap[k]? = some x := fun k x hx => by rw [hX]; exact blk_alloc (blk_alloc hx _) _
  have hA : X.heap[W.heap.size]? = some (.cells #[.pointer (some ⟨R, 0, none⟩)] 56 (0, 0)) := by rw [hX]; exact blk_alloc (blk_new W _) _
  have hB : X.heap[W.heap.size + 1]? = some (.cells #[.int .i64 k1, .int .u64 a1] 61 (0, 0)) := by
    have := blk_new (W.alloc (.cells #[.pointer (some ⟨R, 0, none⟩)] 56 (0, 0))) (.cells #[.int .i64 k1, .int .u64 a1] 61 (0, 0))
    rw [hX]
    simpa using this
  have hmX : X.drew.heap[Mb]? = some (.map es clock) := hup Mb _ hm
  have hMl := blk_lt hm
  have hRX := hup R _ hR
  have hIX : X.ownsRow 0 61 2 iv L.length (flat L) := by rw [hX]; exact (hI.alloc _).alloc _
  have d := put_new hmX h1 hk hno (.int .i64 (L.length : Int))
  have hMX : Moved ok W X := by rw [hX]; exact Moved.of_below (below_alloc (below_alloc (Below.refl _ _) _) _)
  have yk : ∀ k, k ≠ Mb → (setBlock X.drew Mb (.map (es.push ⟨.int .i64 k1, .int .i64 (L.length : Int), clock⟩) (clock + 1))).heap[k]? = X.heap[k]? := fun k hk => setBlock_ne hk
  refine ⟨iv, Mb, _, (blk_cell hA 0).trans rfl, (blk_cell hB 0).trans rfl, (blk_cell hRX 1).trans rfl, by rw [hX]; exact row_alloc (row_alloc h0 _) _, d, (yk _ (by omega)).trans hA, (yk _ (by omega)).trans hB, (yk R hRM).trans hRX, ?_, ⟨_, _, setBlock_get (blk_lt hmX), hs', h1', h2'⟩, hokR, hokM, hokI, moved_block (moved_drew hMX) hokM _, ?_, hRM, fun k hk => ?_, (blk_cell hRX 0).trans rfl⟩
  · exact own_move hIX (fun k hk => yk k (by
      rintro rfl
      obtain ⟨cells, hc⟩ := own_typed hIX k hk
      have := hc.symm.trans hmX
      cases this))
  · rw [hX]; simp [setBlock]
  · obtain ⟨cells, hc⟩ := own_typed hI k hk
    have := blk_lt hc
    omega
/-- The row behind the append and the store. -/
theorem push_end {W Y w1 : World} {ok : Nat → Prop} {R Mb g cap c : Nat} {L : List Item} {k1 a1 : Int} {A : Option Addr} {o : Obj} (hfresh : ∀ k, W.heap.size ≤ k → ok k)
    (yR : Y.heap[R]? = some (.cells #[.slice A L.length c, .map (some Mb)] 54 (0, 0))) (yI : Y.ownsRow 0 61 2 (.slice A L.length c) L.length (flat L)) (yP : PlaceAt Y Mb (L ++ [(k1, a1)]))
    (hokR : ok R) (hokM : ok Mb) (hokI : ∀ k, (Value.slice A L.length c).ownBlock = some k → ok k) (yM : Moved ok W Y) (hRM : R ≠ Mb)
    (hg : (Y.alloc o).drew.grownBy w1 (Value.slice A L.length c).ownBlock)
    (hown : w1.ownsRow 0 61 2 (.slice (some ⟨g, 0, none⟩) (L.length + 1) cap) (L.length + 1) (flat L ++ [.int .i64 k1, .int .u64 a1]))
    (hat : (Value.slice A L.length c).ownBlock = some g ∨ g = Y.heap.size + 1) :
    RowAt (w1.setCell ⟨R, 0, none⟩ (.slice (some ⟨g, 0, none⟩) (L.length + 1) cap)) ok R (L ++ [(k1, a1)]) ∧ Moved ok W (w1.setCell ⟨R, 0, none⟩ (.slice (some ⟨g, 0, none⟩) (L.length + 1) cap)) := by
  obtain ⟨es, clock, hm, hs, h1, h2⟩ := yP
  have lR := blk_lt yR
  have lM := blk_lt hm
  have nR : some R ≠ (Value.slice A L.length c).ownBlock := fun e => by
    obtain ⟨cur, hc⟩ := own_typed yI R e.symm
    exact blk_ne hc yR (by decide) rfl
  have nM : some Mb ≠ (Value.slice A L.length c).ownBlock := fun e => by
    obtain ⟨cur, hc⟩ := own_typed yI Mb e.symm
    rw [hm] at hc; cases hc
  have gR : g ≠ R := by rintro rfl; exact hat.elim (fun h => nR h.symm) (fun h => by omega)
  have ysz := yM.size
  have okg : ok g := hat.elim (fun h => hokI g h) (fun h => hfresh g (by omega))
  have bk : ∀ k x, Y.heap[k]? = some x → some k ≠ (Value.slice A L.length c).ownBlock → w1.heap[k]? = some x := fun k x hx hn =>
    (hg.block k (by have := blk_lt hx; show k < (Y.alloc o).heap.size; simp; omega) hn).trans (blk_alloc (w := Y) hx o)
  have M1 : Moved ok W (Y.alloc o).drew := moved_drew (Moved.trans yM (Moved.of_below (below_alloc (Below.refl _ _) _)))
  have M2 : Moved ok W w1 := M1.trans ⟨hg.os, hg.tape, hg.output, hg.size, fun k hk hn => hg.block k hk (fun e => hn (hokI k e.symm))⟩
  refine ⟨⟨_, Mb, blk_put (bk R _ yR nR) 0 _ rfl, ?_, ⟨es, clock, ?_, hs, h1, h2⟩, hokR, hokM, fun k hk => ?_⟩, moved_set M2 hokR _⟩
  · rw [List.length_append, flat_append]
    refine own_move hown (fun k hk => ?_)
    have : g = k := by simpa [Value.ownBlock] using hk
    rw [Below.heap_setCell _ _ _ k (this ▸ gR)]
  · rw [Below.heap_setCell _ _ _ Mb (Ne.symm hRM)]
    exact bk Mb _ hm nM
  · have : g = k := by simpa [Value.ownBlock] using hk
    rw [← this]; exact okg
theorem frozen_alloc_drew (w : World) (c : Array Value) (t : TypeId) (a : Addr) : (w.alloc (.cells c t)).drew.frozen? a = w.frozen? a := frozen?_alloc_cells w c t a
set_option maxHeartbeats 1000000 in
theorem len_cell (W : World) (R n c : Nat) (A : Option Addr) (c0 : W.cell? ⟨R, 0, none⟩ = some (.slice A n c)) :
    Calls Try.prog 24 #[.pointer (some ⟨R, 0, none⟩)] W fun e w' => e = .returned (.int .i64 (n : Int)) ∧ W = w' := by
  go_enter Try.func24, Try.ntmps24
  go_wp2
  go_ret
  exact ⟨rfl, rfl⟩
set_option maxRecDepth 100000 in
set_option maxHeartbeats 3200000 in
theorem push_row (W : World) (ok : Nat → Prop) (R : Nat) (L : List Item) (k1 a1 : Int) (h : RowAt W ok R L) (hlen : L.length < 1000000) (hfresh : ∀ k, W.heap.size ≤ k → ok k) (hk : (Lit.int .i64 k1).wf = true) (hn : ∀ q ∈ L, q.1 ≠ k1) :
    Calls Try.prog 46 #[.agg #[.pointer (some ⟨R, 0, none⟩)], .iface 61 (.agg #[.int .i64 k1, .int .u64 a1])] W fun e w' => e = .returned (.tuple #[]) ∧ RowAt w' ok R (L ++ [(k1, a1)]) ∧ Moved ok W w' := by
  have hta : ∀ (v : Value) (Y : World), (Instr.typeAssert (.iface 61 v) 20 61 true).run Try.prog Y = .ok (.tuple #[v, .bool true]) Y := fun v Y => by rfl
  go_enter Try.func46, Try.ntmps46
  go_wp2
  generalize hX : World.alloc _ _ = X
  obtain ⟨iv, Mb, Y, cA, cB, cR1, hrow, q1, yA, yB, yR, yI, yP, hokR, hokM, hokI, yM, ysz, hRM, hnB, cR0⟩ := push_mid h hfresh hk hn hX.symm
  obtain ⟨A, c, rfl⟩ := row_slice yI
  have zA := (blk_cell yA 0).trans rfl
  have zB := (blk_cell yB 0).trans rfl
  have zR0 : Y.cell? ⟨R, 0, none⟩ = some (.slice A L.length c) := (blk_cell yR 0).trans rfl
  have zR1 := (blk_cell yR 1).trans rfl
  have zF : Y.frozen? ⟨R, 0, none⟩ = false := blk_frozen yR 0
  have zB1 : Y.cell? ⟨W.heap.size + 1, 1, none⟩ = some (.int .u64 a1) := (blk_cell yB 1).trans rfl
  have HE := Aside0.mk (fun (w1 : World) (g cap : Nat) => push_end (w1 := w1) (g := g) (cap := cap) (k1 := k1) (a1 := a1) (c := c) (A := A) (o := .cells #[.int .i64 k1, .int .u64 a1] 61 (0, 0)) hfresh yR yI yP hokR hokM hokI yM hRM)
  have nA : some W.heap.size ≠ (Value.slice A L.length c).ownBlock := fun e => by
    obtain ⟨cur, hc⟩ := own_typed yI _ e.symm
    exact blk_ne hc yA (by decide) rfl
  have nB : some (W.heap.size + 1) ≠ (Value.slice A L.length c).ownBlock := fun e => hnB _ e.symm rfl
  have nR : some R ≠ (Value.slice A L.length c).ownBlock := fun e => by
    obtain ⟨cur, hc⟩ := own_typed yI _ e.symm
    exact blk_ne hc yR (by decide) rfl
  have lR : R < W.heap.size + 2 := ysz ▸ blk_lt yR
  have nRA : W.heap.size ≠ R := blk_ne yA yR (by decide)
  have nRB : W.heap.size + 1 ≠ R := blk_ne yB yR (by decide)
  have HY := Aside0.mk (And.intro yI (And.intro zF (And.intro zB1 (And.intro nA (And.intro nB (And.intro nR (And.intro lR (And.intro ysz (And.intro nRA nRB)))))))))
  clear hX hrow yA yB yR yI yP hokI yM ysz hRM h hfresh hk hn hta hnB zF zB1 nA nB nR lR hokR hokM nRA nRB
  go_region_held3 (fun Z => Z.cell? ⟨W.heap.size, 0, none⟩ = some (.pointer (some ⟨R, 0, none⟩)) ∧ Z.cell? ⟨W.heap.size + 1, 0, none⟩ = some (.int .i64 k1) ∧ Z.cell? ⟨R, 0, none⟩ = some (.slice A L.length c) ∧ Z.cell? ⟨R, 1, none⟩ = some (.map (some Mb)))
    (first | go_keep | (refine ⟨?_, ?_, ?_, ?_⟩ <;> assumption))
    (first | (go_at_call 24; refine (len_cell _ _ _ _ _ (by assumption)).mono ?_; rintro e w' ⟨rfl, rfl⟩))
  obtain ⟨yI, zF, zB1, nA, nB, nR, lR, ysz, nRA, nRB⟩ := HY.out
  obtain ⟨i0, hi0, hz0, hz1, hz2⟩ := info_parts info61
  have hN : ∀ o : Obj, (Y.alloc o).drew.heap[W.heap.size + 2]? = some o := fun o => ysz ▸ blk_new Y o
  clear cA cB cR1 cR0 q1 HY
  go_wp2
  have zA' : Y.cell? ⟨W.heap.size, 0, none⟩ = some (.pointer (some ⟨R, 0, none⟩)) := zA
  have zB' : Y.cell? ⟨W.heap.size + 1, 0, none⟩ = some (.int .i64 k1) := zB
  have pA : ∀ o : Obj, (Y.alloc o).cell? ⟨W.heap.size, 0, none⟩ = some (.pointer (some ⟨R, 0, none⟩)) := fun o => (World.cell?_alloc_some Y _ _ (by rw [zA]; rfl)).trans zA'
  have pR : ∀ o : Obj, (Y.alloc o).cell? ⟨R, 0, none⟩ = some (.slice A L.length c) := fun o => (World.cell?_alloc_some Y _ _ (by rw [zR0]; rfl)).trans zR0
  have pF : ∀ (c : Array Value) (t : TypeId), (Y.alloc (.cells c t)).frozen? ⟨R, 0, none⟩ = false := fun c t => (frozen?_alloc_cells Y c t _).trans zF
  clear zA zB zR1
  go_region_law
    (((refine step_append_lies _ (by rfl) _ _ _ (by rfl) 0 61 i0 _ 2 16 Try.underlying52 hi0 hz0 hz1 hz2 rfl (by omega) _ _ _ (by rfl) ((yI.alloc _).drew) ⟨W.heap.size + 2, 0, none⟩ 1 1 [.int .i64 k1, .int .u64 a1] (by rfl) (by rfl) (World.news_of_block (cs := #[.int .i64 k1, .int .u64 a1]) (t := 61) (fr := (0, 0)) (hN _)) (by simp [Value.oneCell']) (by omega) (by simp [maxLen]; omega) (by omega) (by simp) (W.heap.size + 3) (by simp [ysz]) ?_); intro gg cap w1 hown1 hgrow hat hlt; have cR : w1.cell? ⟨R, 0, none⟩ = some (.slice A L.length c) := (hgrow.cell_far _ (by simp; omega) nR).trans (pR _); have cA1 : w1.cell? ⟨W.heap.size, 0, none⟩ = some (.pointer (some ⟨R, 0, none⟩)) := (hgrow.cell_far _ (by simp; omega) nA).trans (pA _); have cF : w1.frozen? ⟨R, 0, none⟩ = false := (hgrow.frozen_far _ (by simp; omega) nR).trans (pF _ _)))
  all_goals go_end0
  all_goals exact ⟨rfl, HE.out _ _ _ hgrow hown1 (hat.imp_right (fun h => by omega))⟩

end Go.Proofs.Ytlkcekldddpjbaa.Due
