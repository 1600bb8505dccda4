/- What Put, Next and Take of the reference do; a Due beside the reference. -/
import Derived.Test.YtlkcekldddpjbaaDueR
import Derived.Deep.RegionHeld3
import Derived.Deep.RegionLaw
import Derived.Deep.AppendLies
import Derived.RegionTactic
import Derived.ChangeAlike
import Derived.BigRegion
import Derived.Outline
import Derived.Deep.DeepCutAuto
import Derived.Maps.Keyed
import Derived.WideKeyEntry
import Derived.BigQuiet
import Derived.Deep.LoopGhost
import Derived.StillTailTactics
import Derived.BigQuiet
namespace Go.Proofs.Ytlkcekldddpjbaa.Due
open Go.RowKit Go.Proofs.YtlkcekldddpjbaaW.PrintWords Go.Proofs.YtlkcekldddpjbaaW.PrintLast Go.Proofs.YtlkcekldddpjbaaW.PrintMore
open Go.MapKept (Stamped)
open Go.ChangeMaps (setBlock)
open Go.Maps (Keyed int_keyed keyOf_int_mk)
set_option linter.unusedVariables false
set_option linter.unusedSimpArgs false

open Go.Proofs.Ytlkcekldddpjbaa.PDuePlays
open Go.Proofs.Ytlkcekldddpjbaa.PDuePlays

theorem ref_drop (W : World) (B : Nat → Prop) (R : Nat) (M : List Item) (k : Int) (h : RefAt W B R M) (hn : (M.map Prod.fst).Nodup) (hlen : M.length < 900000) :
    Calls Try.prog 14 #[.pointer (some ⟨R, 0, none⟩), .int .i64 k] W fun e w' => e = .returned (.bool (hasM M k)) ∧ RefTo B R (dropM M k) W w' := by
  obtain ⟨iv, tv, hp⟩ := h
  have ha := parts_apart hp
  have hp0 := hp
  obtain ⟨hR, hBR, hI, hT, okI, okT⟩ := hp
  obtain ⟨A0, c0, rfl⟩ := own_slice hI
  obtain ⟨A1, c1, rfl⟩ := own_slice hT
  obtain ⟨_, hc0, hr0⟩ := own_reads hI
  obtain ⟨_, hc1, hr1⟩ := own_reads hT
  have hl0 : (M.map Prod.fst).length = M.length := List.length_map _
  have hl1 : (M.map Prod.snd).length = M.length := List.length_map _
  rw [hl0] at hr0 hc0 hR
  rw [hl1] at hr1 hc1 hR
  refine ref_drop_walk W R M.length (M.map Prod.fst) (M.map Prod.snd) A0 A1 c0 c1 k ((blk_cell hR 0).trans rfl) ((blk_cell hR 1).trans rfl) (blk_frozen hR 0) (blk_frozen hR 1) (blk_lt hR) hl0 hl1 hr0 hr1
    (fun x hx _ => (ha.2 x.block (by rw [hx]; rfl)).1) hc0 hc1 hlen _ (fun hno => ?_) (fun i hi hk hno iv tv w1 W3 w2 ho1 hb1 hv1 hW3 ho2 hb2 hv2 => ?_)
  · have hno' : ∀ p ∈ M, p.1 ≠ k := fun p hp => by
      obtain ⟨j, hj⟩ := List.mem_iff_getElem?.1 hp
      have hjl := (List.getElem?_eq_some_iff.1 hj).1
      have := hno j hjl
      unfold rd at this
      simpa [hj] using this
    rw [drop_none hno', show hasM M k = false from List.any_eq_false.2 (fun p hp => by simpa using hno' p hp)]
    exact ⟨rfl, ⟨_, _, parts_mono hp0 (fun k hk hb => ⟨hk, .inl hb⟩)⟩, Moved.refl _ _⟩
  · obtain ⟨hd, hh⟩ := drop_at hn hi hk
    rw [hd, hh]
    refine ⟨rfl, ?_⟩
    obtain ⟨p1, m1⟩ := half_to0 hp0 ((Moved.of_below hb1 : Moved (fun k => _ = some k) W w1)) (fun k hk => .inr (hv1 k hk)) ho1
    rw [← hW3] at p1 m1
    obtain ⟨p2, m2⟩ := half_to1 p1 ((Moved.of_below hb2 : Moved (fun k => _ = some k) W3 w2)) (fun k hk => .inr (hv2 k hk)) ho2
    refine ⟨⟨iv, tv, ?_⟩, moved_to m1 m2⟩
    rw [List.map_append, List.map_take, List.map_drop, List.map_append, List.map_take, List.map_drop]
    exact parts_mono p2 (fun _ _ hk => owns_owns m1.size hk)
theorem ref_open {W : World} {B : Nat → Prop} {R : Nat} {M : List Item} (h : RefAt W B R M) : ∃ A0 c0 A1 c1 n, Aside0 (M.length = n ∧ RefParts W B R (.slice A0 n c0) (.slice A1 n c1) (M.map Prod.fst) (M.map Prod.snd)) ∧
    W.cell? ⟨R, 0, none⟩ = some (.slice A0 n c0) ∧ W.cell? ⟨R, 1, none⟩ = some (.slice A1 n c1) ∧ R < W.heap.size := by
  obtain ⟨iv, tv, hp⟩ := h
  have hp0 := hp
  obtain ⟨hR, hBR, hI, hT, okI, okT⟩ := hp
  obtain ⟨A0, c0, rfl⟩ := own_slice hI
  obtain ⟨A1, c1, rfl⟩ := own_slice hT
  have hl0 : (M.map Prod.fst).length = M.length := List.length_map _
  have hl1 : (M.map Prod.snd).length = M.length := List.length_map _
  rw [hl0, hl1] at hp0
  rw [hl0, hl1] at hR
  exact ⟨A0, c0, A1, c1, M.length, ⟨rfl, hp0⟩, (blk_cell hR 0).trans rfl, (blk_cell hR 1).trans rfl, blk_lt hR⟩
theorem put_mid0 {W w2 : World} {B : Nat → Prop} {R : Nat} {iv tv v1 : Value} {ks ks' ts : List Int} (h : RefParts W B R iv tv ks ts) (hg : W.grownBy w2 iv.ownBlock)
    (hat : v1.ownBlock = iv.ownBlock ∨ ∃ b, v1.ownBlock = some b ∧ W.heap.size ≤ b) (ho : w2.ownsRow 0 3 1 v1 ks'.length (nums .i64 ks')) :
    ∃ A c n', v1 = .slice A n' c ∧ w2.cell? ⟨R, 0, none⟩ = some iv ∧ w2.frozen? ⟨R, 0, none⟩ = false ∧ w2.cell? ⟨R, 1, none⟩ = some tv ∧ w2.frozen? ⟨R, 1, none⟩ = false ∧ R < w2.heap.size ∧
      Aside0 (RefParts (w2.setCell ⟨R, 0, none⟩ v1) (Owns B W (w2.setCell ⟨R, 0, none⟩ v1)) R v1 tv ks' ts ∧ Moved B W (w2.setCell ⟨R, 0, none⟩ v1)) := by
  obtain ⟨A, c, hv⟩ := own_slice ho
  have hm : Moved (fun k => iv.ownBlock = some k) W w2 := ⟨hg.os, hg.tape, hg.output, hg.size, fun k hk hn => hg.block k hk (fun e => hn e.symm)⟩
  have hR2 : w2.heap[R]? = some (.cells #[iv, tv] 30 (0, 0)) := (hm.block R (blk_lt h.1) (fun e => ((parts_apart h).1 R e).1 rfl)).trans h.1
  exact ⟨A, c, _, hv, (blk_cell hR2 0).trans rfl, blk_frozen hR2 0, (blk_cell hR2 1).trans rfl, blk_frozen hR2 1, blk_lt hR2, ⟨half_to0 h hm (fun k hk => by
    rcases hat with e | ⟨b, e, hb⟩
    · exact .inl (e ▸ hk)
    · rw [e] at hk; cases hk; exact .inr hb) ho⟩⟩
theorem put_mid1 {W w2 : World} {B : Nat → Prop} {R : Nat} {iv tv v1 : Value} {ks ts ts' : List Int} (h : RefParts W B R iv tv ks ts) (hg : W.grownBy w2 tv.ownBlock)
    (hat : v1.ownBlock = tv.ownBlock ∨ ∃ b, v1.ownBlock = some b ∧ W.heap.size ≤ b) (ho : w2.ownsRow 0 31 1 v1 ts'.length (nums .u64 ts')) :
    ∃ A c n', v1 = .slice A n' c ∧ w2.cell? ⟨R, 1, none⟩ = some tv ∧ w2.frozen? ⟨R, 1, none⟩ = false ∧ R < w2.heap.size ∧
      Aside0 (RefParts (w2.setCell ⟨R, 1, none⟩ v1) (Owns B W (w2.setCell ⟨R, 1, none⟩ v1)) R iv v1 ks ts' ∧ Moved B W (w2.setCell ⟨R, 1, none⟩ v1)) := by
  obtain ⟨A, c, hv⟩ := own_slice ho
  have hm : Moved (fun k => tv.ownBlock = some k) W w2 := ⟨hg.os, hg.tape, hg.output, hg.size, fun k hk hn => hg.block k hk (fun e => hn e.symm)⟩
  have hR2 : w2.heap[R]? = some (.cells #[iv, tv] 30 (0, 0)) := (hm.block R (blk_lt h.1) (fun e => ((parts_apart h).2 R e).1 rfl)).trans h.1
  exact ⟨A, c, _, hv, (blk_cell hR2 1).trans rfl, blk_frozen hR2 1, blk_lt hR2, ⟨half_to1 h hm (fun k hk => by
    rcases hat with e | ⟨b, e, hb⟩
    · exact .inl (e ▸ hk)
    · rw [e] at hk; cases hk; exact .inr hb) ho⟩⟩
set_option maxRecDepth 100000 in
set_option maxHeartbeats 3200000 in
theorem ref_put (W : World) (B : Nat → Prop) (R : Nat) (M : List Item) (k t : Int) (h : RefAt W B R M) (hn : (M.map Prod.fst).Nodup) (hlen : M.length < 900000) :
    Calls Try.prog 12 #[.pointer (some ⟨R, 0, none⟩), .int .i64 k, .int .u64 t] W fun e w' => e = .returned (.tuple #[]) ∧ RefTo B R (putM M k t) W w' := by
  have HD := Aside0.mk (ref_drop W B R M k h hn hlen)
  have HP : Aside0 (putM M k t = dropM M k ++ [(k, t)]) := ⟨rfl⟩
  have HL := Aside0.mk (Nat.lt_of_le_of_lt (drop_len M k) hlen)
  generalize dropM M k = M1 at HD HP HL
  clear h hn hlen
  go_enter Try.func12, Try.ntmps12
  go_wp2_with (first
    | (go_at_call 14; refine HD.out.mono ?_; rintro e w1 ⟨rfl, h1⟩; obtain ⟨A0, c0, A1, c1, n, HX, z0, z1, hRl⟩ := ref_open h1.1; have H1 := Aside0.mk h1; clear h1)
    | ((with_reducible refine gate_builtin (b := .append) (xs := #[.tmp 13, .tmp 15]) rfl ?_); at_builtin; refine print_append_num (w0 := w1) 0 rfl (.tmp 13) (.tmp 15) 27 3 .i64 8 rfl Try.underlying27 info3 (by decide) (.slice A0 n c0) (M1.map Prod.fst) k rfl rfl ?aO ?aB (Nat.zero_le _) ?aL ?_; (case aO => exact HX.out.2.2.2.1); (case aB => exact Below.refl _ _); (case aL => (have := HL.out; rw [List.length_map]; omega)); intro v1 w2 ho _ hg hat; obtain ⟨B0, d0, n0, hv, y0, f0, y1, f1, hRl2, HX2⟩ := put_mid0 HX.out.2 hg hat ho; rw [hv]; rw [hv] at HX2; clear hg hat ho hv)
    | ((with_reducible refine gate_builtin (b := .append) (xs := #[.tmp 23, .tmp 25]) rfl ?_); at_builtin; refine print_append_num (w0 := w1) 0 rfl (.tmp 23) (.tmp 25) 28 31 .u64 8 rfl Try.underlying28 info31 (by decide) (.slice A1 n c1) (M1.map Prod.snd) t rfl ?aX ?aO ?aB (Nat.zero_le _) ?aL ?_; (case aX => first | rfl | (rw [World.size_setCell]; rfl) | (simp [Act.eval, World.setCell]; done)); (case aO => exact HX2.out.1.2.2.2.1); (case aB => exact ⟨HX2.out.2.os, HX2.out.2.tape, HX2.out.2.output, HX2.out.2.size, fun _ h => absurd h (Nat.not_lt_zero _)⟩); (case aL => (have := HL.out; rw [List.length_map]; omega)); intro v3 w4 ho2 _ hg2 hat2; obtain ⟨B1, d1, n1, hv2, q1, g1, hRl3, HX3⟩ := put_mid1 HX2.out.1 hg2 hat2 ho2; rw [hv2]; rw [hv2] at HX3; clear hg2 hat2 ho2 hv2))
  go_end0
  refine ⟨rfl, ?_⟩
  rw [HP.out]
  refine ref_trans H1.out ⟨⟨.slice B0 n0 d0, .slice B1 n1 d1, ?_⟩, moved_to HX2.out.2 HX3.out.2⟩
  rw [List.map_append, List.map_append]
  exact parts_mono HX3.out.1 (fun _ _ hk => owns_owns HX2.out.2.size hk)
theorem drewN_below {a w : World} {B : Nat} (h : Below B a w) (n : Nat) : Below B a (w.drewN n) := h.trans ⟨rfl, rfl, rfl, Nat.le_refl _, fun _ _ => rfl⟩
set_option maxRecDepth 100000 in
set_option maxHeartbeats 6400000 in
theorem ref_next_walk (W : World) (R n : Nat) (ks ts : List Int) (A0 A1 : Option Addr) (c0 c1 : Nat) (z0 : W.cell? ⟨R, 0, none⟩ = some (.slice A0 n c0)) (z1 : W.cell? ⟨R, 1, none⟩ = some (.slice A1 n c1))
    (hr0 : ReadsInt W .i64 A0 n ks) (hr1 : ReadsInt W .u64 A1 n ts) (hn : n < 900000) (Q : Ending → World → Prop)
    (hnone : n = 0 → ∀ w, Below W.heap.size W w → Q (.returned (.tuple #[.int .i64 0, .int .u64 0, .bool false])) w)
    (hsome : ∀ m : Nat, m < n → (∀ j : Nat, j < n → lessB (rd ks j, rd ts j) (rd ks m, rd ts m) = false) → ∀ w, Below W.heap.size W w → Q (.returned (.tuple #[.int .i64 (rd ks m), .int .u64 (rd ts m), .bool true])) w) :
    Calls Try.prog 18 #[.pointer (some ⟨R, 0, none⟩)] W Q := by
  have hn' : (n : Int) < 900000 := by omega
  have HN := Aside0.mk hnone
  have HY := Aside0.mk hsome
  have HR0 := Aside0.mk hr0
  have HR1 := Aside0.mk hr1
  have Z0 := Aside0.mk z0
  have Z1 := Aside0.mk z1
  clear hnone hsome hr0 hr1 z0 z1
  go_enter Try.func18, Try.ntmps18
  go_wp2
  go_loopg [5, 6] (n + 1) (fun q a v wr => ∃ (i : Nat) (K : Int), a = .int .i64 K ∧ v = .int .i64 (i : Int) ∧ n - i < q ∧ i ≤ n ∧ Below W.heap.size W wr ∧
    ((i = 0 ∧ K = -1) ∨ ∃ m : Nat, K = (m : Int) ∧ m < i ∧ ∀ j : Nat, j < i → lessB (rd ks j, rd ts j) (rd ks m, rd ts m) = false))
  case atStart => exact ⟨0, -1, rfl, rfl, by omega, by omega, Below.refl _ _, .inl ⟨rfl, rfl⟩⟩
  case round =>
    obtain ⟨i, K, rfl, rfl, hiq, hi, hb, hK⟩ := hrel
    have y0 := cell_lasts hb Z0.out
    have y1 := cell_lasts hb Z1.out
    by_cases hil : i < n
    · have hil' : (i : Int) < (n : Int) := by omega
      have hi0 : (0 : Int) ≤ (i : Int) := by omega
      obtain ⟨x0, rfl, hx0⟩ := (HR0.out.below hb).at_ (i : Int) hi0 hil'
      obtain ⟨x1, rfl, hx1⟩ := (HR1.out.below hb).at_ (i : Int) hi0 hil'
      rw [Int.toNat_natCast] at hx0 hx1
      obtain ⟨ki, hki⟩ : ∃ x, x = rd ks i := ⟨_, rfl⟩
      obtain ⟨ti, hti⟩ : ∃ x, x = rd ts i := ⟨_, rfl⟩
      rw [← hki] at hx0
      rw [← hti] at hx1
      have HKI := Aside0.mk (And.intro hki (And.intro hti (And.intro hil (And.intro hiq hb))))
      clear hki hti hil hiq hi
      rcases hK with ⟨hz, rfl⟩ | ⟨m, rfl, hm, hbest⟩
      · have HM := Aside0.mk hz
        clear hz hb
        go_wp2
        go_quiet (fail)
        clear y0 y1 hx0 hx1
        go_wp2
        go_roundg (n - i)
        case measure => have := HKI.out; omega
        case rel =>
          obtain ⟨h1, h2, h3, h4, h5⟩ := HKI.out
          have hz := HM.out
          refine ⟨i + 1, (i : Int), by first | rfl | simp, by go_num, by omega, by omega, drewN_below h5 _, .inr ⟨i, rfl, by omega, fun j hj => ?_⟩⟩
          obtain rfl : j = i := by omega
          exact less_self _
      · have hm0 : (0 : Int) ≤ (m : Int) := by omega
        have hmn : (m : Int) < (n : Int) := by have := HKI.out.2.2.1; omega
        have hm1 : decide ((m : Int) < 0) = false := decide_eq_false (by omega)
        obtain ⟨x0', e0, hy0⟩ := (HR0.out.below hb).at_ (m : Int) hm0 hmn
        obtain ⟨x1', e1, hy1⟩ := (HR1.out.below hb).at_ (m : Int) hm0 hmn
        cases e0
        cases e1
        rw [Int.toNat_natCast] at hy0 hy1
        obtain ⟨km, hkm⟩ : ∃ x, x = rd ks m := ⟨_, rfl⟩
        obtain ⟨tm, htm⟩ : ∃ x, x = rd ts m := ⟨_, rfl⟩
        rw [← hkm] at hy0
        rw [← htm] at hy1
        rw [← hkm, ← htm] at hbest
        have HM := Aside0.mk (And.intro hkm (And.intro htm (And.intro hm hbest)))
        clear hkm htm hm hbest hb
        have hcase : ti < tm ∨ (¬ ti < tm ∧ (ti == tm) = true ∧ ki < km) ∨ (¬ ti < tm ∧ (ti == tm) = true ∧ ¬ ki < km) ∨ (¬ ti < tm ∧ (ti == tm) = false) := by
          by_cases h1 : ti < tm
          · exact .inl h1
          · by_cases h2 : ti = tm
            · by_cases h3 : ki < km
              · exact .inr (.inl ⟨h1, by simpa using h2, h3⟩)
              · exact .inr (.inr (.inl ⟨h1, by simpa using h2, h3⟩))
            · exact .inr (.inr (.inr ⟨h1, by simpa using h2⟩))
        rcases hcase with h1 | ⟨h1, h2, h3⟩ | ⟨h1, h2, h3⟩ | ⟨h1, h2⟩
        · have hless : lessB (ki, ti) (km, tm) = true := by simp [lessB, h1]
          have HLS := Aside0.mk hless
          clear hless
          go_wp2
          go_quiet (fail)
          clear y0 y1 hx0 hx1 hy0 hy1
          go_wp2
          go_roundg (n - i)
          case measure => have := HKI.out; omega
          case rel =>
            obtain ⟨g1, g2, g3, g4, g5⟩ := HKI.out
            obtain ⟨f1, f2, f3, f4⟩ := HM.out
            refine ⟨i + 1, (i : Int), by first | rfl | simp, by go_num, by omega, by omega, drewN_below g5 _, .inr ⟨i, rfl, by omega, fun j hj => ?_⟩⟩
            rw [← g1, ← g2]
            rcases Nat.lt_succ_iff_lt_or_eq.1 hj with h | rfl
            · exact less_trans (less_not HLS.out) (f4 j h)
            · rw [← g1, ← g2]; exact less_self _
        · have hless : lessB (ki, ti) (km, tm) = true := by simp [lessB, h1, h2, h3]
          have HLS := Aside0.mk hless
          clear hless
          replace h1 := decide_eq_false h1
          go_wp2
          go_quiet (fail)
          clear y0 y1 hx0 hx1 hy0 hy1
          go_wp2
          go_roundg (n - i)
          case measure => have := HKI.out; omega
          case rel =>
            obtain ⟨g1, g2, g3, g4, g5⟩ := HKI.out
            obtain ⟨f1, f2, f3, f4⟩ := HM.out
            refine ⟨i + 1, (i : Int), by first | rfl | simp, by go_num, by omega, by omega, drewN_below g5 _, .inr ⟨i, rfl, by omega, fun j hj => ?_⟩⟩
            rw [← g1, ← g2]
            rcases Nat.lt_succ_iff_lt_or_eq.1 hj with h | rfl
            · exact less_trans (less_not HLS.out) (f4 j h)
            · rw [← g1, ← g2]; exact less_self _
        · have hless : lessB (ki, ti) (km, tm) = false := by simp [lessB, h1, h2, h3]
          have HLS := Aside0.mk hless
          clear hless
          replace h1 := decide_eq_false h1
          replace h3 := decide_eq_false h3
          go_wp2
          go_quiet (fail)
          clear y0 y1 hx0 hx1 hy0 hy1
          go_wp2
          go_roundg (n - i)
          case measure => have := HKI.out; omega
          case rel =>
            obtain ⟨g1, g2, g3, g4, g5⟩ := HKI.out
            obtain ⟨f1, f2, f3, f4⟩ := HM.out
            refine ⟨i + 1, (m : Int), by first | rfl | simp, by go_num, by omega, by omega, drewN_below g5 _, .inr ⟨m, rfl, by omega, fun j hj => ?_⟩⟩
            rw [← f1, ← f2]
            rcases Nat.lt_succ_iff_lt_or_eq.1 hj with h | rfl
            · exact f4 j h
            · rw [← g1, ← g2]; exact HLS.out
        · have hless : lessB (ki, ti) (km, tm) = false := by simp [lessB, h1, h2]
          have HLS := Aside0.mk hless
          clear hless
          replace h1 := decide_eq_false h1
          go_wp2
          go_quiet (fail)
          clear y0 y1 hx0 hx1 hy0 hy1
          go_wp2
          go_roundg (n - i)
          case measure => have := HKI.out; omega
          case rel =>
            obtain ⟨g1, g2, g3, g4, g5⟩ := HKI.out
            obtain ⟨f1, f2, f3, f4⟩ := HM.out
            refine ⟨i + 1, (m : Int), by first | rfl | simp, by go_num, by omega, by omega, drewN_below g5 _, .inr ⟨m, rfl, by omega, fun j hj => ?_⟩⟩
            rw [← f1, ← f2]
            rcases Nat.lt_succ_iff_lt_or_eq.1 hj with h | rfl
            · exact f4 j h
            · rw [← g1, ← g2]; exact HLS.out
    · have hil' : ¬ (i : Int) < (n : Int) := by omega
      have HB := Aside0.mk (And.intro hi (And.intro hil hb))
      clear hi hil hiq
      rcases hK with ⟨hz, rfl⟩ | ⟨m, rfl, hm, hbest⟩
      · have HM := Aside0.mk hz
        clear hz hb
        go_wp2
        go_ret3
        exact HN.out (by have h1 := HM.out; have h2 := HB.out; omega) _ HB.out.2.2
      · have hm0 : (0 : Int) ≤ (m : Int) := by omega
        have hmn : (m : Int) < (n : Int) := by have := HB.out; omega
        have hm1 : decide ((m : Int) < 0) = false := decide_eq_false (by omega)
        obtain ⟨x0, rfl, hx0⟩ := (HR0.out.below hb).at_ (m : Int) hm0 hmn
        obtain ⟨x1, rfl, hx1⟩ := (HR1.out.below hb).at_ (m : Int) hm0 hmn
        rw [Int.toNat_natCast] at hx0 hx1
        obtain ⟨km, hkm⟩ : ∃ x, x = rd ks m := ⟨_, rfl⟩
        obtain ⟨tm, htm⟩ : ∃ x, x = rd ts m := ⟨_, rfl⟩
        rw [← hkm] at hx0
        rw [← htm] at hx1
        have HM := Aside0.mk (And.intro hkm (And.intro htm (And.intro hm hbest)))
        clear hkm htm hm hbest hb
        go_wp2
        go_quiet (fail)
        clear y0 y1 hx0 hx1
        go_wp2
        go_ret3
        obtain ⟨f1, f2, f3, f4⟩ := HM.out
        obtain ⟨g1, g2, g3⟩ := HB.out
        rw [f1, f2]
        exact HY.out m (by omega) (fun j hj => f4 j (by omega)) _ (drewN_below g3 _)
theorem ref_below {W w : World} {B : Nat → Prop} {R : Nat} {M : List Item} (h : RefAt W B R M) (hb : Below W.heap.size W w) : RefTo B R M W w := by
  obtain ⟨iv, tv, hR, hBR, hI, hT, okI, okT⟩ := h
  have hs := hb.size
  refine ⟨⟨iv, tv, (hb.block R (blk_lt hR)).trans hR, ⟨by have := blk_lt hR; omega, .inl hBR⟩, own_move hI (fun k hk => hb.block k (own_lt hI hk)), own_move hT (fun k hk => hb.block k (own_lt hT hk)), fun k hk => ⟨by have := own_lt hI hk; omega, .inl (okI k hk)⟩, fun k hk => ⟨by have := own_lt hT hk; omega, .inl (okT k hk)⟩⟩, Moved.of_below hb⟩
theorem items_rd {M : List Item} {j : Nat} (hj : j < M.length) : (rd (M.map Prod.fst) j, rd (M.map Prod.snd) j) = M[j] := by
  unfold rd
  simp [hj]
theorem ref_next (W : World) (B : Nat → Prop) (R : Nat) (M : List Item) (h : RefAt W B R M) (hlen : M.length < 900000) :
    Calls Try.prog 18 #[.pointer (some ⟨R, 0, none⟩)] W fun e w' => e = .returned (match best M with | none => .tuple #[.int .i64 0, .int .u64 0, .bool false] | some p => .tuple #[.int .i64 p.1, .int .u64 p.2, .bool true]) ∧ RefTo B R M W w' := by
  have h0 := h
  obtain ⟨iv, tv, hp⟩ := h
  obtain ⟨hR, hBR, hI, hT, okI, okT⟩ := hp
  obtain ⟨A0, c0, rfl⟩ := own_slice hI
  obtain ⟨A1, c1, rfl⟩ := own_slice hT
  obtain ⟨_, _, hr0⟩ := own_reads hI
  obtain ⟨_, _, hr1⟩ := own_reads hT
  have hl0 : (M.map Prod.fst).length = M.length := List.length_map _
  have hl1 : (M.map Prod.snd).length = M.length := List.length_map _
  rw [hl0] at hr0 hR
  rw [hl1] at hr1 hR
  refine ref_next_walk W R M.length (M.map Prod.fst) (M.map Prod.snd) A0 A1 c0 c1 ((blk_cell hR 0).trans rfl) ((blk_cell hR 1).trans rfl) hr0 hr1 hlen _ (fun hn w hb => ?_) (fun m hm hbest w hb => ?_)
  · obtain rfl : M = [] := List.eq_nil_of_length_eq_zero hn
    exact ⟨rfl, ref_below h0 hb⟩
  · have hbm : best M = some M[m] := best_of (List.getElem_mem hm) (fun q hq => by
      obtain ⟨j, hj⟩ := List.mem_iff_getElem?.1 hq
      have hjl := (List.getElem?_eq_some_iff.1 hj).1
      have h2 := hbest j hjl
      rw [items_rd hjl, items_rd hm] at h2
      rw [← (List.getElem?_eq_some_iff.1 hj).2]
      exact h2)
    rw [hbm]
    have h3 := items_rd hm
    exact ⟨by rw [← h3], ref_below h0 hb⟩
set_option maxHeartbeats 1600000 in
theorem ref_take (W : World) (B : Nat → Prop) (R : Nat) (M : List Item) (now : Int) (h : RefAt W B R M) (hn : (M.map Prod.fst).Nodup) (hlen : M.length < 900000) :
    Calls Try.prog 16 #[.pointer (some ⟨R, 0, none⟩), .int .u64 now] W fun e w' => e = .returned (.tuple #[.int .i64 (takeM M now).1.1, .bool (takeM M now).1.2]) ∧ RefTo B R (takeM M now).2 W w' := by
  have HN := Aside0.mk (ref_next W B R M h hlen)
  cases hb : best M with
  | none =>
    rw [hb] at HN
    have e : takeM M now = ((0, false), M) := by unfold takeM; rw [hb]
    rw [e]
    clear h hb e hn
    go_enter Try.func16, Try.ntmps16
    go_wp2_with (go_at_call 18; refine HN.out.mono ?_; rintro e w1 ⟨rfl, hb⟩)
    go_ret2
    exact ⟨rfl, hb⟩
  | some p =>
    obtain ⟨k1, a1⟩ := p
    rw [hb] at HN
    by_cases hl : now < a1
    · have e : takeM M now = ((0, false), M) := by unfold takeM; rw [hb]; simp [hl]
      rw [e]
      clear h hb e hn
      go_enter Try.func16, Try.ntmps16
      go_wp2_with (go_at_call 18; refine HN.out.mono ?_; rintro e w1 ⟨rfl, hb⟩)
      go_ret2
      exact ⟨rfl, hb⟩
    · have e : takeM M now = ((k1, true), dropM M k1) := by unfold takeM; rw [hb]; simp [hl]
      rw [e]
      have HD := Aside0.mk (fun (w' : World) (hb : RefTo B R M W w') => ref_drop w' (Owns B W w') R M k1 hb.1 hn hlen)
      clear h hb e hn
      go_enter Try.func16, Try.ntmps16
      go_wp2_with (first | (go_at_call 18; refine HN.out.mono ?_; rintro e w1 ⟨rfl, hb⟩) | (go_at_call 14; refine (HD.out _ (by assumption)).mono ?_; rintro e w2 ⟨rfl, h2⟩))
      go_ret2
      exact ⟨rfl, ref_trans hb h2⟩
/-- A Due and the reference's, both of the call's own, that hold the same items. -/
def Pair (D R : Nat) (M N : List Item) (W0 w : World) : Prop := ∃ A B : Nat → Prop, DueAt w A D M ∧ RefAt w B R N ∧ (∀ k, A k → ¬ B k) ∧ (∀ k, A k → W0.heap.size ≤ k ∧ k < w.heap.size) ∧ (∀ k, B k → W0.heap.size ≤ k ∧ k < w.heap.size) ∧ Below W0.heap.size W0 w
/-- The same beside a block that stands. -/
def PairAt (D R : Nat) (M N : List Item) (W0 w : World) (g : Nat) (o : Obj) : Prop := ∃ A B : Nat → Prop, DueAt w A D M ∧ RefAt w B R N ∧ (∀ k, A k → ¬ B k) ∧ (∀ k, A k → W0.heap.size ≤ k ∧ k < w.heap.size) ∧ (∀ k, B k → W0.heap.size ≤ k ∧ k < w.heap.size) ∧ Below W0.heap.size W0 w ∧
  w.heap[g]? = some o ∧ ¬ A g ∧ ¬ B g
theorem PairAt.pair {D R g : Nat} {M N : List Item} {W0 w : World} {o : Obj} (h : PairAt D R M N W0 w g o) : Pair D R M N W0 w := by
  obtain ⟨A, B, h1, h2, h3, h4, h5, h6, _⟩ := h
  exact ⟨A, B, h1, h2, h3, h4, h5, h6⟩
theorem Pair.below {D R : Nat} {M N : List Item} {W0 w : World} (h : Pair D R M N W0 w) : Below W0.heap.size W0 w := by
  obtain ⟨A, B, h1, h2, h3, h4, h5, h6⟩ := h
  exact h6
theorem PairAt.block {D R g : Nat} {M N : List Item} {W0 w : World} {o : Obj} (h : PairAt D R M N W0 w g o) : w.heap[g]? = some o := by
  obtain ⟨A, B, _, _, _, _, _, _, h7, _⟩ := h
  exact h7
/-- A new block beside the pair. -/
theorem Pair.beside {D R : Nat} {M N : List Item} {W0 w : World} (h : Pair D R M N W0 w) {w' : World} (hb : Below w.heap.size w w') {g : Nat} (hg : w.heap.size ≤ g) {o : Obj} (ho : w'.heap[g]? = some o) : PairAt D R M N W0 w' g o := by
  obtain ⟨A, B, h1, h2, h3, h4, h5, h6⟩ := h
  have hs := hb.size
  have e1 := due_far h1 (fun k hk _ => hb.block k hk)
  have e2 : RefAt w' B R N := by
    obtain ⟨iv, tv, hR, hBR, hI, hT, okI, okT⟩ := h2
    exact ⟨iv, tv, (hb.block R (blk_lt hR)).trans hR, hBR, own_move hI (fun k hk => hb.block k (own_lt hI hk)), own_move hT (fun k hk => hb.block k (own_lt hT hk)), okI, okT⟩
  exact ⟨A, B, e1, e2, h3, fun k hk => ⟨(h4 k hk).1, by have := (h4 k hk).2; omega⟩, fun k hk => ⟨(h5 k hk).1, by have := (h5 k hk).2; omega⟩, h6.trans (hb.mono h6.size), ho, fun ha => by have := (h4 g ha).2; omega, fun ha => by have := (h5 g ha).2; omega⟩
theorem ref_far {W W' : World} {B : Nat → Prop} {R : Nat} {M : List Item} (h : RefAt W B R M) (hb : ∀ k, k < W.heap.size → B k → W'.heap[k]? = W.heap[k]?) : RefAt W' B R M := by
  obtain ⟨iv, tv, hR, hBR, hI, hT, okI, okT⟩ := h
  exact ⟨iv, tv, (hb R (blk_lt hR) hBR).trans hR, hBR, own_move hI (fun k hk => hb k (own_lt hI hk) (okI k hk)), own_move hT (fun k hk => hb k (own_lt hT hk) (okT k hk)), okI, okT⟩
theorem refto_below {B : Nat → Prop} {R b : Nat} {M : List Item} {W0 W w : World} (hB : Below b W0 W) (hA : ∀ k, B k → b ≤ k) (hs : b ≤ W.heap.size) (h : RefTo B R M W w) : Below b W0 w :=
  ⟨h.2.os.trans hB.os, h.2.tape.trans hB.tape, h.2.output.trans hB.output, Nat.le_trans hB.size h.2.size, fun k hk => (h.2.block k (by omega) (fun ha => by have := hA k ha; omega)).trans (hB.block k hk)⟩
/-- The Due's own step, the other one and the block beside it stand. -/
theorem pair_due {D R g : Nat} {M M' N : List Item} {W0 w w' : World} {o : Obj} {A B : Nat → Prop} (h2 : RefAt w B R N) (h3 : ∀ k, A k → ¬ B k) (h4 : ∀ k, A k → W0.heap.size ≤ k ∧ k < w.heap.size) (h5 : ∀ k, B k → W0.heap.size ≤ k ∧ k < w.heap.size) (h6 : Below W0.heap.size W0 w)
    (h7 : w.heap[g]? = some o) (h8 : ¬ A g) (h9 : ¬ B g) (h : DueTo A D M' w w') : PairAt D R M' N W0 w' g o := by
  have hs := h.2.size
  refine ⟨_, B, h.1, ref_far h2 (fun k hk hk2 => h.2.block k hk (fun ha => h3 k ha hk2)), fun k hk hk2 => ?_, fun k hk => ⟨?_, hk.1⟩, fun k hk => ⟨(h5 k hk).1, by have := (h5 k hk).2; omega⟩, to_below h6 (fun k hk => (h4 k hk).1) h6.size h, (h.2.block g (blk_lt h7) h8).trans h7, fun hk => ?_, h9⟩
  · rcases hk.2 with h | h
    · exact h3 k h hk2
    · have := (h5 k hk2).2; omega
  · rcases hk.2 with h | h
    · exact (h4 k h).1
    · exact Nat.le_trans h6.size h
  · rcases hk.2 with h | h
    · exact h8 h
    · have := blk_lt h7; omega
theorem pair_ref {D R g : Nat} {M N N' : List Item} {W0 w w' : World} {o : Obj} {A B : Nat → Prop} (h1 : DueAt w A D M) (h3 : ∀ k, A k → ¬ B k) (h4 : ∀ k, A k → W0.heap.size ≤ k ∧ k < w.heap.size) (h5 : ∀ k, B k → W0.heap.size ≤ k ∧ k < w.heap.size) (h6 : Below W0.heap.size W0 w)
    (h7 : w.heap[g]? = some o) (h8 : ¬ A g) (h9 : ¬ B g) (h : RefTo B R N' w w') : PairAt D R M N' W0 w' g o := by
  have hs := h.2.size
  refine ⟨A, _, due_far h1 (fun k hk hk2 => h.2.block k hk (fun ha => h3 k hk2 ha)), h.1, fun k hk hk2 => ?_, fun k hk => ⟨(h4 k hk).1, by have := (h4 k hk).2; omega⟩, fun k hk => ⟨?_, hk.1⟩, refto_below h6 (fun k hk => (h5 k hk).1) h6.size h, (h.2.block g (blk_lt h7) h9).trans h7, h8, fun hk => ?_⟩
  · rcases hk2.2 with h | h
    · exact h3 k hk h
    · have := (h4 k hk).2; omega
  · rcases hk.2 with h | h
    · exact (h5 k h).1
    · exact Nat.le_trans h6.size h
  · rcases hk.2 with h | h
    · exact h9 h
    · have := blk_lt h7; omega
theorem p_put {D R g : Nat} {M N : List Item} {W0 w : World} {o : Obj} (h : PairAt D R M N W0 w g o) (k t : Int) (hk : (Lit.int .i64 k).wf = true) (hlen : M.length < 900000) :
    Calls Try.prog 11 #[.pointer (some ⟨D, 0, none⟩), .int .i64 k, .int .u64 t] w fun e w' => e = .returned (.tuple #[]) ∧ PairAt D R (putM M k t) N W0 w' g o := by
  obtain ⟨A, B, h1, h2, h3, h4, h5, h6, h7, h8, h9⟩ := h
  exact (due_put w A D M k t h1 hk hlen).mono fun _ _ q => ⟨q.1, pair_due (M := M) h2 h3 h4 h5 h6 h7 h8 h9 q.2⟩
theorem p_drop {D R g : Nat} {M N : List Item} {W0 w : World} {o : Obj} (h : PairAt D R M N W0 w g o) (k : Int) (hk : (Lit.int .i64 k).wf = true) (hlen : M.length < 900000) :
    Calls Try.prog 13 #[.pointer (some ⟨D, 0, none⟩), .int .i64 k] w fun e w' => e = .returned (.bool (hasM M k)) ∧ PairAt D R (dropM M k) N W0 w' g o := by
  obtain ⟨A, B, h1, h2, h3, h4, h5, h6, h7, h8, h9⟩ := h
  exact (due_drop w A D M k h1 hk hlen).mono fun _ _ q => ⟨q.1, pair_due (M := M) h2 h3 h4 h5 h6 h7 h8 h9 q.2⟩
theorem p_take {D R g : Nat} {M N : List Item} {W0 w : World} {o : Obj} (h : PairAt D R M N W0 w g o) (now : Int) (hlen : M.length < 900000) :
    Calls Try.prog 15 #[.pointer (some ⟨D, 0, none⟩), .int .u64 now] w fun e w' => e = .returned (.tuple #[.int .i64 (takeM M now).1.1, .bool (takeM M now).1.2]) ∧ PairAt D R (takeM M now).2 N W0 w' g o := by
  obtain ⟨A, B, h1, h2, h3, h4, h5, h6, h7, h8, h9⟩ := h
  exact (due_take w A D M now h1 hlen).mono fun _ _ q => ⟨q.1, pair_due (M := M) h2 h3 h4 h5 h6 h7 h8 h9 q.2⟩
theorem p_len {D R g : Nat} {M N : List Item} {W0 w : World} {o : Obj} (h : PairAt D R M N W0 w g o) :
    Calls Try.prog 19 #[.pointer (some ⟨D, 0, none⟩)] w fun e w' => e = .returned (.int .i64 (M.length : Int)) ∧ PairAt D R M N W0 w' g o := by
  obtain ⟨A, B, h1, h2, h3, h4, h5, h6, h7, h8, h9⟩ := h
  exact (due_len w A D M h1).mono fun _ _ q => ⟨q.1, pair_due (M := M) h2 h3 h4 h5 h6 h7 h8 h9 (due_below h1 q.2)⟩
def nextM (M : List Item) : Int × Int × Bool := match best M with | none => (0, 0, false) | some p => (p.1, p.2, true)
theorem p_next {D R g : Nat} {M N : List Item} {W0 w : World} {o : Obj} (h : PairAt D R M N W0 w g o) :
    Calls Try.prog 17 #[.pointer (some ⟨D, 0, none⟩)] w fun e w' => e = .returned (.tuple #[.int .i64 (nextM M).1, .int .u64 (nextM M).2.1, .bool (nextM M).2.2]) ∧ PairAt D R M N W0 w' g o := by
  obtain ⟨A, B, h1, h2, h3, h4, h5, h6, h7, h8, h9⟩ := h
  refine (due_next w A D M h1).mono fun _ _ q => ⟨?_, pair_due (M := M) h2 h3 h4 h5 h6 h7 h8 h9 (due_below h1 q.2)⟩
  rw [q.1]
  unfold nextM
  cases best M <;> rfl
theorem q_put {D R g : Nat} {M N : List Item} {W0 w : World} {o : Obj} (h : PairAt D R M N W0 w g o) (k t : Int) (hn : (N.map Prod.fst).Nodup) (hlen : N.length < 900000) :
    Calls Try.prog 12 #[.pointer (some ⟨R, 0, none⟩), .int .i64 k, .int .u64 t] w fun e w' => e = .returned (.tuple #[]) ∧ PairAt D R M (putM N k t) W0 w' g o := by
  obtain ⟨A, B, h1, h2, h3, h4, h5, h6, h7, h8, h9⟩ := h
  exact (ref_put w B R N k t h2 hn hlen).mono fun _ _ q => ⟨q.1, pair_ref (N := N) h1 h3 h4 h5 h6 h7 h8 h9 q.2⟩
theorem q_drop {D R g : Nat} {M N : List Item} {W0 w : World} {o : Obj} (h : PairAt D R M N W0 w g o) (k : Int) (hn : (N.map Prod.fst).Nodup) (hlen : N.length < 900000) :
    Calls Try.prog 14 #[.pointer (some ⟨R, 0, none⟩), .int .i64 k] w fun e w' => e = .returned (.bool (hasM N k)) ∧ PairAt D R M (dropM N k) W0 w' g o := by
  obtain ⟨A, B, h1, h2, h3, h4, h5, h6, h7, h8, h9⟩ := h
  exact (ref_drop w B R N k h2 hn hlen).mono fun _ _ q => ⟨q.1, pair_ref (N := N) h1 h3 h4 h5 h6 h7 h8 h9 q.2⟩
theorem q_take {D R g : Nat} {M N : List Item} {W0 w : World} {o : Obj} (h : PairAt D R M N W0 w g o) (now : Int) (hn : (N.map Prod.fst).Nodup) (hlen : N.length < 900000) :
    Calls Try.prog 16 #[.pointer (some ⟨R, 0, none⟩), .int .u64 now] w fun e w' => e = .returned (.tuple #[.int .i64 (takeM N now).1.1, .bool (takeM N now).1.2]) ∧ PairAt D R M (takeM N now).2 W0 w' g o := by
  obtain ⟨A, B, h1, h2, h3, h4, h5, h6, h7, h8, h9⟩ := h
  exact (ref_take w B R N now h2 hn hlen).mono fun _ _ q => ⟨q.1, pair_ref (N := N) h1 h3 h4 h5 h6 h7 h8 h9 q.2⟩
theorem q_next {D R g : Nat} {M N : List Item} {W0 w : World} {o : Obj} (h : PairAt D R M N W0 w g o) (hlen : N.length < 900000) :
    Calls Try.prog 18 #[.pointer (some ⟨R, 0, none⟩)] w fun e w' => e = .returned (.tuple #[.int .i64 (nextM N).1, .int .u64 (nextM N).2.1, .bool (nextM N).2.2]) ∧ PairAt D R M N W0 w' g o := by
  obtain ⟨A, B, h1, h2, h3, h4, h5, h6, h7, h8, h9⟩ := h
  refine (ref_next w B R N h2 hlen).mono fun _ _ q => ⟨?_, pair_ref (N := N) h1 h3 h4 h5 h6 h7 h8 h9 q.2⟩
  rw [q.1]
  unfold nextM
  cases best N <;> rfl
/-- A call that only makes what it lets go, or draws. -/
theorem pair_still {D R g : Nat} {M N : List Item} {W0 w w' : World} {o : Obj} (h : PairAt D R M N W0 w g o) (hb : Below w.heap.size w w') : PairAt D R M N W0 w' g o := by
  obtain ⟨A, B, h1, h2, h3, h4, h5, h6, h7, h8, h9⟩ := h
  exact pair_due (M := M) h2 h3 h4 h5 h6 h7 h8 h9 (due_below h1 hb)
theorem pairAt_nodup {D R g : Nat} {M N : List Item} {W0 w : World} {o : Obj} (h : PairAt D R M N W0 w g o) : (M.map Prod.fst).Nodup := by
  obtain ⟨A, B, ⟨R, L, _, _, _, _, _, h⟩, _⟩ := h
  exact h
/-- The length of the reference's row. -/
theorem pair_row {D R g : Nat} {M N : List Item} {W0 w : World} {o : Obj} (h : PairAt D R M N W0 w g o) : ∃ A c, w.cell? ⟨R, 0, none⟩ = some (.slice A N.length c) := by
  obtain ⟨A, B, h1, ⟨iv, tv, hR, hBR, hI, hT, _⟩, _⟩ := h
  obtain ⟨A0, c0, rfl⟩ := own_slice hI
  rw [List.length_map] at hR
  exact ⟨A0, c0, (blk_cell hR 0).trans rfl⟩

end Go.Proofs.Ytlkcekldddpjbaa.Due
