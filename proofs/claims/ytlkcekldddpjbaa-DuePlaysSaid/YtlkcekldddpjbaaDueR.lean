/- What Drop of the reference does. -/
import Derived.Test.YtlkcekldddpjbaaDueY
import Derived.Deep.RegionHeld3
import Derived.Deep.RegionLaw
import Derived.Deep.AppendLies
import Derived.RegionTactic
import Derived.ChangeAlike
import Derived.BigRegion
import Derived.Outline
import Derived.Deep.DeepCutAuto
import Derived.Maps.Keyed
import Derived.WideKeyEntry
import Derived.Deep.LoopGhost
import Derived.StillTailTactics
namespace Go.Proofs.Ytlkcekldddpjbaa.Due
open Go.RowKit Go.Proofs.YtlkcekldddpjbaaW.PrintWords Go.Proofs.YtlkcekldddpjbaaW.PrintLast Go.Proofs.YtlkcekldddpjbaaW.PrintMore
open Go.MapKept (Stamped)
open Go.ChangeMaps (setBlock)
open Go.Maps (Keyed int_keyed keyOf_int_mk)
set_option linter.unusedVariables false
set_option linter.unusedSimpArgs false

open Go.Proofs.Ytlkcekldddpjbaa.PDuePlays
/-! ### The reference's Due: two rows of numbers -/
section
variable {ops : Array Oper} {o : Oper} {a : Act} {Kc : Act → World → Prop} {Q : Exit → Act → World → Prop}
theorem step_app {W : World} (hgd : o.guard = none) (s x : Operand) (t e : TypeId) (k : IntKind) (bytes : Nat)
    (ho : o.op = .call { callee := .builtin .append, args := #[s, x], argTypes := #[t, t] })
    (ht : Try.prog.underlying t = some (.slice e)) (hinfo : (Try.prog.info? e).map (fun i => (i.zero, i.size, i.bytes)) = some (some (.int k 0), 1, bytes)) (hb0 : 0 < bytes)
    (v : Value) (xs ys : List Int) (A : Option Addr) (m c : Nat) (hs : a.eval s = v) (hx : a.eval x = .slice A m c)
    (HO : W.ownsRow 0 e 1 v xs.length (nums k xs)) (HR : ReadsInt W k A m ys) (hl : (xs.length + m) * bytes ≤ 140737488355328)
    (h : ∀ v1 w1, w1.ownsRow 0 e 1 v1 (xs ++ ys).length (nums k (xs ++ ys)) → W.grownBy w1 v.ownBlock → (v1.ownBlock = v.ownBlock ∨ ∃ b, v1.ownBlock = some b ∧ W.heap.size ≤ b) → Kc (a.put o.dst v1) w1) :
    if Region.wanted o (yielded ops a.tmps) = true then Oper.wp Try.prog o a W Kc Q else Kc (a.put o.dst undef) W := by
  have hw : Region.wanted o (yielded ops a.tmps) = true := by simp [Region.wanted, hgd]
  refine Kd.R_append_rows_step (Kd.int k) (Rr := (Kd.int k).K W) (w0 := W) 0 hw s x t e (.int k 0) bytes ho ht hinfo rfl Nat.one_pos hb0 v xs ys A m c (fun _ => True) (fun _ => False) hs hx
    (Kd.R_of_own HO (fun _ _ => trivial)) (Kd.C_of_reads (d := (0 : Int)) HR) (fun _ _ h => h) (fun _ h => h.elim) (fun _ _ => trivial) (Below.refl _ _) (Nat.zero_le _) hl ?_
  intro v1 w1 hR _ hg hat
  exact h v1 w1 (Kd.own_of_R hR) hg hat
end
/-- The parts of the reference's Due. -/
def RefParts (W : World) (B : Nat → Prop) (R : Nat) (iv tv : Value) (ks ts : List Int) : Prop := W.heap[R]? = some (.cells #[iv, tv] 30 (0, 0)) ∧ B R ∧
  W.ownsRow 0 3 1 iv ks.length (nums .i64 ks) ∧ W.ownsRow 0 31 1 tv ts.length (nums .u64 ts) ∧ (∀ k, iv.ownBlock = some k → B k) ∧ (∀ k, tv.ownBlock = some k → B k)
/-- The reference's Due at R holds the items of M, in their order; its blocks are B. -/
def RefAt (W : World) (B : Nat → Prop) (R : Nat) (M : List Item) : Prop := ∃ iv tv, RefParts W B R iv tv (M.map Prod.fst) (M.map Prod.snd)
def RefTo (B : Nat → Prop) (R : Nat) (M : List Item) (W w' : World) : Prop := RefAt w' (Owns B W w') R M ∧ Moved B W w'
theorem parts_apart {W : World} {B : Nat → Prop} {R : Nat} {iv tv : Value} {ks ts : List Int} (h : RefParts W B R iv tv ks ts) : (∀ k, iv.ownBlock = some k → k ≠ R ∧ tv.ownBlock ≠ some k) ∧ (∀ k, tv.ownBlock = some k → k ≠ R ∧ iv.ownBlock ≠ some k) := by
  obtain ⟨hR, _, hI, hT, _, _⟩ := h
  refine ⟨fun k hk => ?_, fun k hk => ?_⟩
  · obtain ⟨c, hc⟩ := own_typed hI k hk
    exact ⟨blk_ne hc hR (by decide), fun ht => by obtain ⟨d, hd⟩ := own_typed hT k ht; exact blk_ne hc hd (by decide) rfl⟩
  · obtain ⟨c, hc⟩ := own_typed hT k hk
    exact ⟨blk_ne hc hR (by decide), fun ht => by obtain ⟨d, hd⟩ := own_typed hI k ht; exact blk_ne hc hd (by decide) rfl⟩
theorem own_lt {W : World} {e n : Nat} {v : Value} {xs : List Value} (h : W.ownsRow 0 e 1 v n xs) {k : Nat} (hk : v.ownBlock = some k) : k < W.heap.size := by
  obtain ⟨c, hc⟩ := own_typed h k hk
  exact blk_lt hc
/-- One of the two rows is another one. -/
theorem half0 {W w2 : World} {B B' : Nat → Prop} {R : Nat} {iv tv v1 : Value} {ks ks' ts : List Int} (h : RefParts W B R iv tv ks ts) (hm : Moved (fun k => iv.ownBlock = some k) W w2)
    (hat : ∀ k, v1.ownBlock = some k → iv.ownBlock = some k ∨ W.heap.size ≤ k) (ho : w2.ownsRow 0 3 1 v1 ks'.length (nums .i64 ks')) (hB : ∀ k, k < W.heap.size → B k → B' k) (hB2 : ∀ k, W.heap.size ≤ k → k < w2.heap.size → B' k) :
    RefParts (w2.setCell ⟨R, 0, none⟩ v1) B' R v1 tv ks' ts ∧ Moved B W (w2.setCell ⟨R, 0, none⟩ v1) := by
  have ha := parts_apart h
  obtain ⟨hR, hBR, hI, hT, okI, okT⟩ := h
  have lR := blk_lt hR
  have hR2 : w2.heap[R]? = some (.cells #[iv, tv] 30 (0, 0)) := (hm.block R lR (fun e => (ha.1 R e).1 rfl)).trans hR
  refine ⟨⟨blk_put hR2 0 _ rfl, hB R lR hBR, own_move ho (fun k hk => Below.heap_setCell _ _ _ k (fun e => ?_)), own_move hT (fun k hk => (Below.heap_setCell _ _ _ k (ha.2 k hk).1).trans (hm.block k (own_lt hT hk) (ha.2 k hk).2)), fun k hk => ?_, fun k hk => hB k (own_lt hT hk) (okT k hk)⟩, ?_⟩
  · rcases hat k hk with h | h
    · exact (ha.1 k h).1 e
    · rw [e] at h; exact absurd lR (by simpa using h)
  · rcases hat k hk with h | h
    · exact hB k (own_lt hI h) (okI k h)
    · exact hB2 k h (own_lt ho hk)
  · exact moved_set ⟨hm.os, hm.tape, hm.output, hm.size, fun k hk hn => hm.block k hk (fun e => hn (okI k e))⟩ hBR _
theorem half1 {W w2 : World} {B B' : Nat → Prop} {R : Nat} {iv tv v1 : Value} {ks ts ts' : List Int} (h : RefParts W B R iv tv ks ts) (hm : Moved (fun k => tv.ownBlock = some k) W w2)
    (hat : ∀ k, v1.ownBlock = some k → tv.ownBlock = some k ∨ W.heap.size ≤ k) (ho : w2.ownsRow 0 31 1 v1 ts'.length (nums .u64 ts')) (hB : ∀ k, k < W.heap.size → B k → B' k) (hB2 : ∀ k, W.heap.size ≤ k → k < w2.heap.size → B' k) :
    RefParts (w2.setCell ⟨R, 1, none⟩ v1) B' R iv v1 ks ts' ∧ Moved B W (w2.setCell ⟨R, 1, none⟩ v1) := by
  have ha := parts_apart h
  obtain ⟨hR, hBR, hI, hT, okI, okT⟩ := h
  have lR := blk_lt hR
  have hR2 : w2.heap[R]? = some (.cells #[iv, tv] 30 (0, 0)) := (hm.block R lR (fun e => (ha.2 R e).1 rfl)).trans hR
  refine ⟨⟨blk_put hR2 1 _ rfl, hB R lR hBR, own_move hI (fun k hk => (Below.heap_setCell _ _ _ k (ha.1 k hk).1).trans (hm.block k (own_lt hI hk) (ha.1 k hk).2)), own_move ho (fun k hk => Below.heap_setCell _ _ _ k (fun e => ?_)), fun k hk => hB k (own_lt hI hk) (okI k hk), fun k hk => ?_⟩, ?_⟩
  · rcases hat k hk with h | h
    · exact (ha.2 k h).1 e
    · rw [e] at h; exact absurd lR (by simpa using h)
  · rcases hat k hk with h | h
    · exact hB k (own_lt hT h) (okT k h)
    · exact hB2 k h (own_lt ho hk)
  · exact moved_set ⟨hm.os, hm.tape, hm.output, hm.size, fun k hk hn => hm.block k hk (fun e => hn (okT k e))⟩ hBR _
theorem moved_to {B : Nat → Prop} {W a b : World} (h : Moved B W a) (k : Moved (Owns B W a) a b) : Moved B W b :=
  ⟨k.os.trans h.os, k.tape.trans h.tape, k.output.trans h.output, Nat.le_trans h.size k.size, fun i hi hn => (k.block i (Nat.lt_of_lt_of_le hi h.size) (fun ho => by
    rcases ho.2 with h2 | h2
    · exact hn h2
    · omega)).trans (h.block i hi hn)⟩
theorem half_to0 {W w2 : World} {B : Nat → Prop} {R : Nat} {iv tv v1 : Value} {ks ks' ts : List Int} (h : RefParts W B R iv tv ks ts) (hm : Moved (fun k => iv.ownBlock = some k) W w2)
    (hat : ∀ k, v1.ownBlock = some k → iv.ownBlock = some k ∨ W.heap.size ≤ k) (ho : w2.ownsRow 0 3 1 v1 ks'.length (nums .i64 ks')) :
    RefParts (w2.setCell ⟨R, 0, none⟩ v1) (Owns B W (w2.setCell ⟨R, 0, none⟩ v1)) R v1 tv ks' ts ∧ Moved B W (w2.setCell ⟨R, 0, none⟩ v1) := by
  have hs : (w2.setCell ⟨R, 0, none⟩ v1).heap.size = w2.heap.size := by simp [World.setCell]
  have hms := hm.size
  exact half0 h hm hat ho (fun k hk hb => ⟨by rw [hs]; omega, .inl hb⟩) (fun k h1 h2 => ⟨by rw [hs]; exact h2, .inr h1⟩)
theorem half_to1 {W w2 : World} {B : Nat → Prop} {R : Nat} {iv tv v1 : Value} {ks ts ts' : List Int} (h : RefParts W B R iv tv ks ts) (hm : Moved (fun k => tv.ownBlock = some k) W w2)
    (hat : ∀ k, v1.ownBlock = some k → tv.ownBlock = some k ∨ W.heap.size ≤ k) (ho : w2.ownsRow 0 31 1 v1 ts'.length (nums .u64 ts')) :
    RefParts (w2.setCell ⟨R, 1, none⟩ v1) (Owns B W (w2.setCell ⟨R, 1, none⟩ v1)) R iv v1 ks ts' ∧ Moved B W (w2.setCell ⟨R, 1, none⟩ v1) := by
  have hs : (w2.setCell ⟨R, 1, none⟩ v1).heap.size = w2.heap.size := by simp [World.setCell]
  have hms := hm.size
  exact half1 h hm hat ho (fun k hk hb => ⟨by rw [hs]; omega, .inl hb⟩) (fun k h1 h2 => ⟨by rw [hs]; exact h2, .inr h1⟩)
theorem owns_owns {B : Nat → Prop} {W a b : World} (hs : W.heap.size ≤ a.heap.size) {k : Nat} (h : Owns (Owns B W a) a b k) : Owns B W b k := ⟨h.1, by
  rcases h.2 with h | h
  · exact h.2
  · exact .inr (Nat.le_trans hs h)⟩
theorem parts_mono {W : World} {B B' : Nat → Prop} {R : Nat} {iv tv : Value} {ks ts : List Int} (h : RefParts W B R iv tv ks ts) (hB : ∀ k, k < W.heap.size → B k → B' k) : RefParts W B' R iv tv ks ts := by
  obtain ⟨hR, hBR, hI, hT, okI, okT⟩ := h
  exact ⟨hR, hB R (blk_lt hR) hBR, hI, hT, fun k hk => hB k (own_lt hI hk) (okI k hk), fun k hk => hB k (own_lt hT hk) (okT k hk)⟩
theorem ref_trans {B : Nat → Prop} {R : Nat} {M1 M2 : List Item} {W a b : World} (h : RefTo B R M1 W a) (k : RefTo (Owns B W a) R M2 a b) : RefTo B R M2 W b := by
  obtain ⟨⟨iv, tv, hp⟩, hm⟩ := k
  exact ⟨⟨iv, tv, parts_mono hp (fun _ _ hk => owns_owns h.2.size hk)⟩, moved_to h.2 hm⟩
theorem drop_at {M : List Item} (hn : (M.map Prod.fst).Nodup) {i : Nat} {k : Int} (hi : i < M.length) (hk : rd (M.map Prod.fst) i = k) : dropM M k = M.take i ++ M.drop (i + 1) ∧ hasM M k = true := by
  have hki : M[i].1 = k := by rw [← hk]; unfold rd; simp [hi]
  have e : M = M.take i ++ M[i] :: M.drop (i + 1) := by rw [← List.drop_eq_getElem_cons hi, List.take_append_drop]
  refine ⟨?_, List.any_eq_true.2 ⟨M[i], List.getElem_mem hi, by simp [hki]⟩⟩
  have hn2 : ((M.take i).map Prod.fst ++ k :: (M.drop (i + 1)).map Prod.fst).Nodup := by
    have h := hn
    rw [e, List.map_append, List.map_cons, hki] at h
    exact h
  rw [List.nodup_append, List.nodup_cons] at hn2
  obtain ⟨_, ⟨h2, _⟩, h3⟩ := hn2
  have d1 : dropM (M.take i) k = M.take i := drop_none (fun p hp e => h3 p.1 (List.mem_map.2 ⟨p, hp, rfl⟩) k List.mem_cons_self e)
  have d2 : dropM (M.drop (i + 1)) k = M.drop (i + 1) := drop_none (fun p hp e => h2 (List.mem_map.2 ⟨p, hp, e⟩))
  have d3 : dropM (M.take i ++ M[i] :: M.drop (i + 1)) k = M.take i ++ M.drop (i + 1) := by
    rw [drop_append, d1]
    congr 1
    show dropM (M[i] :: M.drop (i + 1)) k = _
    unfold dropM
    rw [List.filter_cons_of_neg (by simp [hki])]
    exact d2
  rw [← e] at d3
  exact d3
theorem owns_to {B : Nat → Prop} {W a b : World} (ha : W.heap.size ≤ a.heap.size) (hb : a.heap.size ≤ b.heap.size) : (∀ k, Owns B W a k → Owns B W b k) ∧ (∀ k, a.heap.size ≤ k → k < b.heap.size → Owns B W b k) :=
  ⟨fun k h => ⟨Nat.lt_of_lt_of_le h.1 hb, h.2⟩, fun k h1 h2 => ⟨h2, .inr (Nat.le_trans ha h1)⟩⟩
theorem own_reads {W : World} {e : TypeId} {k : IntKind} {A : Option Addr} {n c : Nat} {l : List Int} (h : W.ownsRow 0 e 1 (.slice A n c) l.length (nums k l)) : n = l.length ∧ n ≤ c ∧ ReadsInt W k A n l := by
  rcases h.2 with ⟨h1, h2⟩ | ⟨g, cap, cur, h1, _, h3, h4, h5, h6, h7⟩
  · injection h1 with h1 h1' h1''
    subst h1; subst h1'; subst h1''
    exact ⟨h2.symm, Nat.le_refl _, h2, Nat.zero_le _, fun h => absurd h (Nat.lt_irrefl 0)⟩
  · injection h1 with h1 h1' h1''
    subst h1; subst h1'; subst h1''
    refine ⟨rfl, h4, rfl, by unfold maxLen at h5; omega, fun _ => ⟨_, rfl, fun j hj => ?_⟩⟩
    have hc : cur[j]? = some (.int k (l.getD j 0)) := by
      have h8 : (cur.toList.take (l.length * 1))[j]? = some (.int k (l.getD j 0)) := by
        rw [h7]
        unfold nums
        rw [List.getElem?_map, List.getD_eq_getElem?_getD, List.getElem?_eq_getElem hj]
        rfl
      rw [List.getElem?_take_of_lt (by omega)] at h8
      simpa using h8
    have := cell_of_row W g j cur e (0, 0) h3
    have hadd : (⟨g, 0, none⟩ : Addr).add j = ⟨g, j, none⟩ := by unfold Addr.add; split <;> simp_all
    rw [hadd, this]
    exact hc
theorem info3 : (Try.prog.info? 3).map (fun i => (i.zero, i.size, i.bytes)) = some (some (.int .i64 0), 1, 8) := by kernel_rfl
theorem info31 : (Try.prog.info? 31).map (fun i => (i.zero, i.size, i.bytes)) = some (some (.int .u64 0), 1, 8) := by kernel_rfl
theorem own_slice {W : World} {e : TypeId} {n : Nat} {v : Value} {xs : List Value} (h : W.ownsRow 0 e 1 v n xs) : ∃ A c, v = .slice A n c := by
  rcases h.2 with ⟨rfl, h'⟩ | ⟨g, cap, cur, rfl, _⟩
  · exact ⟨none, 0, by rw [h']⟩
  · exact ⟨_, cap, rfl⟩
theorem own_new0 (W : World) (e : TypeId) (k : IntKind) : (W.alloc (.cells #[] e (0, 0))).ownsRow 0 e 1 (.slice (some ⟨W.heap.size, 0, none⟩) 0 0) ([] : List Int).length (nums k []) :=
  ⟨rfl, .inr ⟨W.heap.size, 0, #[], rfl, Nat.zero_le _, blk_new W _, Nat.le_refl _, Nat.zero_le _, rfl, rfl⟩⟩
theorem own_drew {W : World} {b e n s : Nat} {v : Value} {xs : List Value} (h : W.ownsRow b e s v n xs) : W.drew.ownsRow b e s v n xs := h
theorem grown_below {W0 W w1 : World} {row : Option Nat} (hb : Below W0.heap.size W0 W) (hg : W.grownBy w1 row) (hrow : ∀ k, row = some k → W0.heap.size ≤ k) : Below W0.heap.size W0 w1 :=
  hb.trans ⟨hg.os, hg.tape, hg.output, hg.size, fun k hk => hg.block k (Nat.lt_of_lt_of_le hk hb.size) (fun e => by have := hrow k e.symm; omega)⟩
theorem hat_up {W0 W : World} {v v1 : Value} (hb : Below W0.heap.size W0 W) (hv : ∀ k, v.ownBlock = some k → W0.heap.size ≤ k) (h : v1.ownBlock = v.ownBlock ∨ ∃ b, v1.ownBlock = some b ∧ W.heap.size ≤ b) : ∀ k, v1.ownBlock = some k → W0.heap.size ≤ k := fun k hk => by
  rcases h with h | ⟨b, h, hb2⟩
  · exact hv k (h ▸ hk)
  · rw [h] at hk
    cases hk
    exact Nat.le_trans hb.size hb2
theorem new_up {n a b : Nat} : ∀ k, (Value.slice (some ⟨n, 0, none⟩) a b).ownBlock = some k → n ≤ k := fun k hk => by
  cases hk
  exact Nat.le_refl _
theorem cell_lasts {w wx : World} {a : Addr} {v : Value} (hb : Below w.heap.size w wx) (h : w.cell? a = some v) : wx.cell? a = some v := by
  rw [World.cell?_of_block (hb.block a.block (World.block_lt_of_cell? w a h)), h]
/-- What the first append leaves. -/
theorem mid_app {W0 w1 : World} {e : TypeId} {v1 : Value} {a : Addr} {u : Value} (hg : ((W0.alloc (.cells #[] e (0, 0))).drew).grownBy w1 (Value.slice (some ⟨W0.heap.size, 0, none⟩) 0 0).ownBlock)
    (hat : v1.ownBlock = (Value.slice (some ⟨W0.heap.size, 0, none⟩) 0 0).ownBlock ∨ ∃ b, v1.ownBlock = some b ∧ ((W0.alloc (.cells #[] e (0, 0))).drew).heap.size ≤ b) (hu : W0.cell? a = some u) :
    Below W0.heap.size W0 w1 ∧ (∀ k, v1.ownBlock = some k → W0.heap.size ≤ k) ∧ w1.cell? a = some u := by
  have hb := grown_below (W0 := W0) (below_drew (below_alloc (Below.refl _ _) _)) hg new_up
  exact ⟨hb, hat_up (W0 := W0) (below_drew (below_alloc (Below.refl _ _) _)) new_up hat, cell_lasts hb hu⟩
/-- What the second append leaves. -/
theorem end_app {W0 w1 w2 : World} {v1 v2 : Value} {a : Addr} {u : Value} {n : Nat} {e : TypeId} {xs : List Value} (hb1 : Below W0.heap.size W0 w1) (hv1 : ∀ k, v1.ownBlock = some k → W0.heap.size ≤ k) (hg : w1.grownBy w2 v1.ownBlock)
    (hat : v2.ownBlock = v1.ownBlock ∨ ∃ b, v2.ownBlock = some b ∧ w1.heap.size ≤ b) (hu : W0.cell? a = some u) (hf : W0.frozen? a = false) (ho : w2.ownsRow 0 e 1 v2 n xs) :
    ∃ A c n', v2 = .slice A n' c ∧ n' = n ∧ w2.cell? a = some u ∧ w2.frozen? a = false ∧ Below W0.heap.size W0 w2 ∧ (∀ k, v2.ownBlock = some k → W0.heap.size ≤ k) ∧ w2.ownsRow 0 e 1 v2 n xs := by
  have hb := grown_below hb1 hg hv1
  obtain ⟨A, c, h⟩ := own_slice ho
  exact ⟨A, c, n, h, rfl, cell_lasts hb hu, (World.frozen?_of_block (hb.block a.block (World.block_lt_of_cell? W0 a hu))).trans hf, hb, hat_up hb1 hv1 hat, ho⟩
theorem reads_set {w : World} {k : IntKind} {A : Option Addr} {n : Nat} {l : List Int} {a : Addr} (v : Value) (h : ReadsInt w k A n l) (hne : ∀ x, A = some x → 0 < n → x.block ≠ a.block) : ReadsInt (w.setCell a v) k A n l := by
  refine ⟨h.1, h.2.1, fun hn => ?_⟩
  obtain ⟨ad, ha, hc⟩ := h.2.2 hn
  refine ⟨ad, ha, fun j hj => ?_⟩
  rw [World.cell?_of_block (Below.heap_setCell _ _ _ (ad.add j).block (fun e => hne ad ha hn (by rw [← e]; unfold Addr.add; split <;> rfl)))]
  exact hc j hj
/-- Behind the first store. -/
theorem set_app {W0 w2 : World} {R n : Nat} {v2 u1 : Value} {k : IntKind} {A1 : Option Addr} {l : List Int} (hb : Below W0.heap.size W0 w2) (h1 : W0.cell? ⟨R, 1, none⟩ = some u1) (hf : W0.frozen? ⟨R, 1, none⟩ = false)
    (hr : ReadsInt W0 k A1 n l) (hne : ∀ x, A1 = some x → 0 < n → x.block ≠ R) :
    ∃ W3, W3 = w2.setCell ⟨R, 0, none⟩ v2 ∧ W3.cell? ⟨R, 1, none⟩ = some u1 ∧ W3.frozen? ⟨R, 1, none⟩ = false ∧ ReadsInt W3 k A1 n l := by
  refine ⟨_, rfl, ?_, ?_, reads_set _ (hr.below hb) hne⟩
  · rw [World.cell?_setCell_other _ _ _ _ (by simp)]
    exact cell_lasts hb h1
  · rw [World.frozen?_setCell]
    exact (World.frozen?_of_block (hb.block R (World.block_lt_of_cell? W0 _ h1))).trans hf
theorem reads_take {W : World} {k : IntKind} {A : Option Addr} {n m : Nat} {l : List Int} (h : ReadsInt W k A n l) (hm : m ≤ n) : ReadsInt W k A m (l.take m) := by
  obtain ⟨h1, h2, h3⟩ := h
  refine ⟨by rw [List.length_take]; omega, by omega, fun h0 => ?_⟩
  obtain ⟨ad, ha, hc⟩ := h3 (by omega)
  refine ⟨ad, ha, fun j hj => ?_⟩
  rw [hc j (by omega)]
  congr 2
  simp [List.getD_eq_getElem?_getD, List.getElem?_take_of_lt hj]
theorem reads_drop {W : World} {k : IntKind} {x : Addr} {n m c : Nat} {l : List Int} (h : ReadsInt W k (some x) n l) (hm : m ≤ n) (hc : n ≤ c) : ReadsInt W k (if c = m then some x else some (x.add m)) (n - m) (l.drop m) := by
  obtain ⟨h1, h2, h3⟩ := h
  refine ⟨by rw [List.length_drop]; omega, by omega, fun h0 => ?_⟩
  obtain ⟨ad, ha, hx⟩ := h3 (by omega)
  cases ha
  rw [if_neg (by omega)]
  refine ⟨_, rfl, fun j hj => ?_⟩
  have := hx (m + j) (by omega)
  rw [Addr.add_add]
  rw [this]
  congr 2
  simp [List.getD_eq_getElem?_getD]
set_option maxRecDepth 100000 in
set_option maxHeartbeats 3200000 in
theorem ref_drop_walk (W : World) (R n : Nat) (ks ts : List Int) (A0 A1 : Option Addr) (c0 c1 : Nat) (k : Int) (z0 : W.cell? ⟨R, 0, none⟩ = some (.slice A0 n c0)) (z1 : W.cell? ⟨R, 1, none⟩ = some (.slice A1 n c1))
    (zf0 : W.frozen? ⟨R, 0, none⟩ = false) (zf1 : W.frozen? ⟨R, 1, none⟩ = false) (hRl : R < W.heap.size) (hl0 : ks.length = n) (hl1 : ts.length = n)
    (hr0 : ReadsInt W .i64 A0 n ks) (hr1 : ReadsInt W .u64 A1 n ts) (hx1 : ∀ x, A1 = some x → 0 < n → x.block ≠ R) (hc0 : n ≤ c0) (hc1 : n ≤ c1) (hn : n < 900000) (Q : Ending → World → Prop)
    (hno : (∀ j : Nat, j < n → rd ks j ≠ k) → Q (.returned (.bool false)) W)
    (hyes : ∀ i : Nat, i < n → rd ks i = k → (∀ j : Nat, j < i → rd ks j ≠ k) → ∀ iv tv w1 W3 w2,
      w1.ownsRow 0 3 1 iv (ks.take i ++ ks.drop (i + 1)).length (nums .i64 (ks.take i ++ ks.drop (i + 1))) → Below W.heap.size W w1 → (∀ b, iv.ownBlock = some b → W.heap.size ≤ b) →
      W3 = w1.setCell ⟨R, 0, none⟩ iv → w2.ownsRow 0 31 1 tv (ts.take i ++ ts.drop (i + 1)).length (nums .u64 (ts.take i ++ ts.drop (i + 1))) → Below W3.heap.size W3 w2 → (∀ b, tv.ownBlock = some b → W3.heap.size ≤ b) →
      Q (.returned (.bool true)) (w2.setCell ⟨R, 1, none⟩ tv)) :
    Calls Try.prog 14 #[.pointer (some ⟨R, 0, none⟩), .int .i64 k] W Q := by
  have hn' : (n : Int) < 900000 := by omega
  have HN := Aside0.mk hno
  have HY := Aside0.mk hyes
  have HR0 := Aside0.mk hr0
  have HR1 := Aside0.mk hr1
  have HC := Aside0.mk (And.intro hc0 hc1)
  have HL := Aside0.mk (And.intro hl0 hl1)
  have HX1 := Aside0.mk hx1
  have Z1 := Aside0.mk (And.intro z1 zf1)
  clear hno hyes hr0 hr1 hc0 hc1 hl0 hl1 hx1 z1 zf1
  go_enter Try.func14, Try.ntmps14
  go_wp2
  go_loopg [4, 5] (n + 1) (fun q b v wr => ∃ i : Nat, b = .bool false ∧ v = .int .i64 (i : Int) ∧ n - i < q ∧ i ≤ n ∧ (∀ j : Nat, j < i → rd ks j ≠ k) ∧ wr = W)
  case atStart => exact ⟨0, rfl, rfl, by omega, by omega, fun j hj => by omega, rfl⟩
  case round =>
    obtain ⟨i, rfl, rfl, hiq, hi, hno, hw⟩ := hrel
    subst hw
    by_cases hil : i < n
    · have hil' : (i : Int) < (n : Int) := by omega
      have hi0 : (0 : Int) ≤ (i : Int) := by omega
      obtain ⟨x0, rfl, hx0⟩ := HR0.out.at_ (i : Int) hi0 hil'
      rw [Int.toNat_natCast] at hx0
      obtain ⟨kk, hkk⟩ : ∃ x, x = rd ks i := ⟨_, rfl⟩
      rw [← hkk] at hx0
      have hcase : (kk == k) = true ∨ (kk == k) = false := by cases (kk == k) <;> simp
      rcases hcase with hb | hb
      · obtain rfl : kk = k := by simpa using hb
        have HK := Aside0.mk (And.intro hkk (And.intro hil hno))
        have hcc := HC.out
        have hic : (i : Int) ≤ (c0 : Int) := by omega
        have hic1 : (i : Int) ≤ (c1 : Int) := by omega
        have hin : (i : Int) + 1 ≤ (n : Int) := by omega
        have hnc : (n : Int) ≤ (c0 : Int) := by omega
        have hnc1 : (n : Int) ≤ (c1 : Int) := by omega
        clear hcc
        clear hkk hil hno hi hiq hb
        go_upto_region 5 with fail
        have HRD := Aside0.mk (fun (w : World) (hb : Below wr.heap.size wr w) => reads_take (m := i) (HR0.out.below hb) (by have := HK.out.2.1; omega))
        have HRE := Aside0.mk (fun (w : World) (hb : Below wr.heap.size wr w) => reads_drop (m := i + 1) (HR0.out.below hb) (by have := HK.out.2.1; omega) HC.out.1)
        have hRw := hRl
        have Z0 := Aside0.mk (And.intro z0 zf0)
        have hic' : (i : Int) + 1 ≤ (c0 : Int) := by omega
        have hi1 : (0 : Int) ≤ (i : Int) + 1 := by omega
        have hwr : IntKind.i64.wrap ((i : Int) + 1) = (i : Int) + 1 := by rw [i64_w]; unfold wrap64; omega
        have htn : ((i : Int) + 1).toNat = i + 1 := by omega
        go_cut [] (fun w => ∃ (iv : Value) (w1 : World), w = w1.setCell ⟨R, 0, none⟩ iv ∧ Below wr.heap.size wr w1 ∧ w1.ownsRow 0 3 1 iv (ks.take i ++ ks.drop (i + 1)).length (nums .i64 (ks.take i ++ ks.drop (i + 1))) ∧ (∀ b, iv.ownBlock = some b → wr.heap.size ≤ b))
        case first =>
          go_region_law (first
            | (refine step_app (by rfl) (.tmp 25) (.tmp 31) 27 3 .i64 8 (by rfl) Try.underlying27 info3 (by decide) _ [] (ks.take i) _ i c0 (by rfl) (by rfl) ?hO ?hR (by simp; omega) ?_; (case hO => exact own_drew (own_new0 _ 3 .i64)); (case hR => exact HRD.out _ (below_drew (below_alloc (Below.refl _ _) _))); intro v1 w1 ho1 hg1 hat1; obtain ⟨hb1, hv1, y0⟩ := mid_app hg1 hat1 Z0.out.1; have HO1 := Aside0.mk ho1; clear ho1 hg1 hat1)
            | (refine step_app (by rfl) (.tmp 32) (.tmp 39) 27 3 .i64 8 (by rfl) Try.underlying27 info3 (by decide) _ ([] ++ ks.take i) (ks.drop (i + 1)) _ (n - (i + 1)) (c0 - (i + 1)) (by rfl) (by rfl) ?hO ?hR (by simp; omega) ?_; (case hO => exact HO1.out); (case hR => exact HRE.out _ hb1); intro v2 w2 ho2 hg2 hat2; obtain ⟨A2, d2, n2, hE2, hn2, y2, f2, HB2⟩ := end_app hb1 hv1 hg2 hat2 Z0.out.1 Z0.out.2 ho2; have HO2 := Aside0.mk HB2; have HN2 := Aside0.mk hn2; clear hn2 HB2 ho2 hg2 hat2; rw [hE2]; rw [hE2] at HO2))
          all_goals (clear hE2 hwr htn y2 f2 y0 z0 zf0 hx0 hic' hi1 hic hic1 hin hnc hnc1 hi0)
          all_goals (go_step; go_step)
          all_goals go_meet
          all_goals (have hh := HO2.out; have hn2 := HN2.out; subst hn2; exact ⟨_, _, rfl, hh.1, hh.2.2, hh.2.1⟩)
        case rest =>
          obtain ⟨iv, w1, hwc, hb1, ho1, hv1⟩ := hcut
          obtain ⟨W3, hW3, y3, f3, hr3⟩ := set_app (v2 := iv) hb1 Z1.out.1 Z1.out.2 HR1.out HX1.out
          rw [← hW3] at hwc
          obtain rfl : W3 = wc := hwc.symm
          have Z3 := Aside0.mk (And.intro y3 f3)
          have hRl3 : R < W3.heap.size := World.block_lt_of_cell? W3 _ y3
          have HW3 := Aside0.mk (And.intro hW3 (And.intro hb1 (And.intro ho1 hv1)))
          obtain ⟨x1, hx1⟩ : ∃ x, A1 = some x := by
            obtain ⟨x, hx, _⟩ := hr3.2.2 (by have := HK.out.2.1; omega)
            exact ⟨x, hx⟩
          subst hx1
          have HRD3 := Aside0.mk (fun (w : World) (hb : Below W3.heap.size W3 w) => reads_take (m := i) (hr3.below hb) (by have := HK.out.2.1; omega))
          have HRE3 := Aside0.mk (fun (w : World) (hb : Below W3.heap.size W3 w) => reads_drop (m := i + 1) (hr3.below hb) (by have := HK.out.2.1; omega) HC.out.2)
          have hic' : (i : Int) + 1 ≤ (c1 : Int) := by omega
          have hi1 : (0 : Int) ≤ (i : Int) + 1 := by omega
          have hwr : IntKind.i64.wrap ((i : Int) + 1) = (i : Int) + 1 := by rw [i64_w]; unfold wrap64; omega
          have htn : ((i : Int) + 1).toNat = i + 1 := by omega
          clear hb1 ho1 hv1 hW3 hr3 z0 zf0 hx0
          go_upto_region 6 with fail
          go_cut [] (fun w => ∃ (iv : Value) (w1 : World), w = w1.setCell ⟨R, 1, none⟩ iv ∧ Below W3.heap.size W3 w1 ∧ w1.ownsRow 0 31 1 iv (ts.take i ++ ts.drop (i + 1)).length (nums .u64 (ts.take i ++ ts.drop (i + 1))) ∧ (∀ b, iv.ownBlock = some b → W3.heap.size ≤ b))
          case first =>
            go_region_law (first
              | (refine step_app (by rfl) (.tmp 44) (.tmp 50) 28 31 .u64 8 (by rfl) Try.underlying28 info31 (by decide) _ [] (ts.take i) _ i c1 (by rfl) (by rfl) ?hO ?hR (by simp; omega) ?_; (case hO => exact own_drew (own_new0 _ 31 .u64)); (case hR => exact HRD3.out _ (below_drew (below_alloc (Below.refl _ _) _))); intro v3 w3 ho1 hg1 hat1; obtain ⟨hb1, hv1, y0⟩ := mid_app (W0 := W3) hg1 hat1 Z3.out.1; have HO1 := Aside0.mk ho1; clear ho1 hg1 hat1)
              | (refine step_app (by rfl) (.tmp 51) (.tmp 58) 28 31 .u64 8 (by rfl) Try.underlying28 info31 (by decide) _ ([] ++ ts.take i) (ts.drop (i + 1)) _ (n - (i + 1)) (c1 - (i + 1)) (by rfl) (by rfl) ?hO ?hR (by simp; omega) ?_; (case hO => exact HO1.out); (case hR => exact HRE3.out _ hb1); intro v4 w4 ho2 hg2 hat2; obtain ⟨A2, d2, n2, hE2, hn2, y2, f2, HB2⟩ := end_app hb1 hv1 hg2 hat2 Z3.out.1 Z3.out.2 ho2; have HO2 := Aside0.mk HB2; have HN2 := Aside0.mk hn2; clear hn2 HB2 ho2 hg2 hat2; rw [hE2]; rw [hE2] at HO2))
            all_goals (clear hE2 hwr htn y2 f2 y0 hic' hi1 hic hic1 hin hnc hnc1 hi0)
            all_goals (go_step; go_step)
            all_goals go_meet
            all_goals (have hh := HO2.out; have hn2 := HN2.out; subst hn2; exact ⟨_, _, rfl, hh.1, hh.2.2, hh.2.1⟩)
          case rest =>
            obtain ⟨tv, w2, hwc, hb2, ho2, hv2⟩ := hcut
            have HW4 := Aside0.mk (And.intro hwc (And.intro hb2 (And.intro ho2 hv2)))
            clear hwc hb2 ho2 hv2 hwr htn hic' hi1 hic hic1 hin hnc hnc1 hi0
            go_wp2
            obtain ⟨a1, a2, a3, a4⟩ := HW3.out
            obtain ⟨b1, b2, b3, b4⟩ := HW4.out
            rw [b1]
            exact HY.out i HK.out.2.1 HK.out.1.symm HK.out.2.2 iv tv w1 W3 w2 a3 a2 a4 a1 b3 b2 b4
      · have HK := Aside0.mk (And.intro hkk (And.intro hil (And.intro hno (And.intro hi hiq))))
        clear hkk hil hno hi hiq
        go_wp2
        go_roundg (n - i)
        case measure => have := HK.out; omega
        case rel =>
          obtain ⟨h1, h2, h3, h4, h5⟩ := HK.out
          refine ⟨i + 1, rfl, by go_num, by omega, by omega, fun j hj => ?_, rfl⟩
          rcases Nat.lt_succ_iff_lt_or_eq.1 hj with h | rfl
          · exact h3 j h
          · rw [← h1]; simpa using hb
    · have hil' : ¬ (i : Int) < (n : Int) := by omega
      have HK := Aside0.mk (And.intro hi (And.intro hil hno))
      clear hil hno hi hiq
      go_wp2
      exact HN.out (fun j hj => HK.out.2.2 j (by have := HK.out; omega))

end Go.Proofs.Ytlkcekldddpjbaa.Due
