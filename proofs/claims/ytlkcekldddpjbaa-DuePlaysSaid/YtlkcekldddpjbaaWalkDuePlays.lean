/- The walk of DuePlays. -/
import Derived.Test.YtlkcekldddpjbaaDueY
import Derived.Test.YtlkcekldddpjbaaDueQ
import Derived.Deep.RegionHeld3
import Derived.Deep.RegionLaw
import Derived.Deep.AppendLies
import Derived.RegionTactic
import Derived.ChangeAlike
import Derived.BigRegion
import Derived.Outline
import Derived.Deep.DeepCutAuto
import Derived.Maps.Keyed
import Derived.WideKeyEntry
import Derived.BigQuiet
import Derived.Deep.LoopGhost
import Derived.StillTailTactics
import Derived.BigQuiet
namespace Go.Proofs.Ytlkcekldddpjbaa.Due
open Go.RowKit Go.Proofs.YtlkcekldddpjbaaW.PrintWords Go.Proofs.YtlkcekldddpjbaaW.PrintLast Go.Proofs.YtlkcekldddpjbaaW.PrintMore
open Go.MapKept (Stamped)
open Go.ChangeMaps (setBlock)
open Go.Maps (Keyed int_keyed keyOf_int_mk)
set_option linter.unusedVariables false
set_option linter.unusedSimpArgs false

open Go.Proofs.Ytlkcekldddpjbaa.PDuePlays
open Go.Proofs.Ytlkcekldddpjbaa.PDuePlays
open Go.Proofs.Ytlkcekldddpjbaa.PDuePlays
theorem pair_new {D : Nat} {M : List Item} {W0 w : World} (h : Solo D M W0 w) : Pair D w.heap.size M [] W0 (w.alloc (.cells #[.slice none 0 0, .slice none 0 0] 30 (0, 0))) := by
  obtain ⟨A, h1, h2, h3⟩ := h
  have hb : Below w.heap.size w (w.alloc (.cells #[.slice none 0 0, .slice none 0 0] 30 (0, 0))) := below_alloc (Below.refl _ _) _
  have hs : (w.alloc (.cells #[.slice none 0 0, .slice none 0 0] 30 (0, 0))).heap.size = w.heap.size + 1 := by simp
  have hr : RefAt (w.alloc (.cells #[.slice none 0 0, .slice none 0 0] 30 (0, 0))) (fun k => k = w.heap.size) w.heap.size [] := by
    refine ⟨.slice none 0 0, .slice none 0 0, blk_new w _, rfl, ⟨rfl, .inl ⟨rfl, rfl⟩⟩, ⟨rfl, .inl ⟨rfl, rfl⟩⟩, ?_, ?_⟩
    · intro k hk; cases hk
    · intro k hk; cases hk
  exact ⟨A, _, due_far h1 (fun k hk _ => hb.block k hk), hr, fun k ha hk => by have := (h2 k ha).2; omega, fun k hk => ⟨(h2 k hk).1, by have := (h2 k hk).2; omega⟩, fun k hk => ⟨by have := h3.size; omega, by omega⟩, h3.trans (hb.mono h3.size)⟩
theorem cell3 {w : World} {g : Nat} {a b c : Value} (h : w.heap[g]? = some (.cells #[a, b, c] 33 (0, 0))) : w.cell? ⟨g, 0, none⟩ = some a ∧ w.cell? ⟨g, 1, none⟩ = some b ∧ w.cell? ⟨g, 2, none⟩ = some c :=
  ⟨(blk_cell h 0).trans rfl, (blk_cell h 1).trans rfl, (blk_cell h 2).trans rfl⟩
theorem Pair.nodup {D R : Nat} {M N : List Item} {W0 w : World} (h : Pair D R M N W0 w) : (M.map Prod.fst).Nodup := by
  obtain ⟨A, B, ⟨R, L, _, _, _, _, _, h⟩, _⟩ := h
  exact h
theorem p_lenS {D R g : Nat} {M N : List Item} {W0 w : World} {o : Obj} {v : Value} (h : PairAt D R M N W0 w g o) (hc : w.cell? ⟨R, 0, none⟩ = some v) :
    Calls Try.prog 19 #[.pointer (some ⟨D, 0, none⟩)] w fun e w' => e = .returned (.int .i64 (M.length : Int)) ∧ PairAt D R M N W0 w' g o ∧ w'.cell? ⟨R, 0, none⟩ = some v := by
  obtain ⟨A, B, h1, h2, h3, h4, h5, h6, h7, h8, h9⟩ := h
  exact (due_len w A D M h1).mono fun _ _ q => ⟨q.1, pair_due (M := M) h2 h3 h4 h5 h6 h7 h8 h9 (due_below h1 q.2), cell_lasts q.2 hc⟩
set_option maxRecDepth 100000 in
set_option maxHeartbeats 6400000 in
theorem walk_plays (W : World) (xb xo : Nat) (c0 n : Nat) (op ky tm : Nat → Int) (hn : n ≤ 200)
    (HA : ∀ i : Nat, i < n → W.cell? ⟨xb, xo + i * 3, none⟩ = some (.int .i64 (op i)) ∧ W.cell? ⟨xb, xo + i * 3 + 1, none⟩ = some (.int .i64 (ky i)) ∧ W.cell? ⟨xb, xo + i * 3 + 2, none⟩ = some (.int .u64 (tm i)))
    (HW : ∀ i : Nat, i < n → (Lit.int .i64 (op i)).wf = true ∧ (Lit.int .i64 (ky i)).wf = true) :
    Calls Try.prog 3 #[.slice (some ⟨xb, xo, none⟩) n c0] W fun e w' => e = .returned (.bool true) ∧ Below W.heap.size W w' := by
  have HS := Aside0.mk (shown_true W)
  have hn1 : (n : Int) ≤ 200 := by omega
  have HC := Aside0.mk HA
  have HWF := Aside0.mk HW
  clear HA HW
  go_enter Try.func3, Try.ntmps3
  go_wp2_with (first
    | (go_at_call 8; refine HS.out.mono ?_; rintro e w1 ⟨rfl, hb1⟩)
    | (go_at_call 9; refine (solo_new (by assumption)).mono ?_; rintro e w2 ⟨D, rfl, hd2⟩))
  obtain ⟨R, hR⟩ : ∃ R, R = w2.heap.size := ⟨_, rfl⟩
  have hpr := pair_new hd2
  rw [← hR] at hpr
  rw [← hR]
  have H4 := Aside0.mk hpr
  clear hpr hR hd2
  go_loopg [6] (n + 1) (fun k v wr => ∃ (i : Nat) (M : List Item), v = .int .i64 (i : Int) ∧ n - i < k ∧ i ≤ n ∧ M.length ≤ i ∧ Pair D R M M W wr)
  case atStart => exact ⟨0, [], rfl, by omega, by omega, by simp, H4.out⟩
  case round =>
    obtain ⟨i, M, rfl, hik, hi, hM, hd⟩ := hrel
    by_cases hil : i < n
    · have hil' : (i : Int) < (n : Int) := by omega
      have hi0 : (0 : Int) ≤ (i : Int) := by omega
      obtain ⟨a0, a1, a2⟩ := HC.out i hil
      have b0 := cell_lasts hd.below a0
      have b1 := cell_lasts hd.below a1
      have b2 := cell_lasts hd.below a2
      obtain ⟨u0, hu0⟩ : ∃ x, x = op i := ⟨_, rfl⟩
      obtain ⟨u1, hu1⟩ : ∃ x, x = ky i := ⟨_, rfl⟩
      obtain ⟨u2, hu2⟩ : ∃ x, x = tm i := ⟨_, rfl⟩
      rw [← hu0] at b0
      rw [← hu1] at b1
      rw [← hu2] at b2
      have hwf := HWF.out i hil
      rw [← hu0, ← hu1] at hwf
      obtain ⟨r, hr, hp⟩ := pick_some u0 7 hwf.1 (by omega)
      have HP := Aside0.mk (fun (w : World) => postroomlaw15_pick.calls u0 7 (r : Int) w hp)
      have HB0 := Aside0.mk (Pair.beside (g := wr.heap.size) hd (below_alloc (Below.refl _ _) (.cells #[.int .i64 u0, .int .i64 u1, .int .u64 u2] 33 (0, 0))) (Nat.le_refl _) (blk_new wr _))
      have hnd := hd.nodup
      have hM9 : M.length < 900000 := by omega
      have HI := Aside0.mk (And.intro hik (And.intro hil hM))
      clear a0 a1 a2 hu0 hu1 hu2 hp hik hil hi H4 HS
      have hg : wr.heap.size < (wr.alloc (.cells #[.int .i64 u0, .int .i64 u1, .int .u64 u2] 33 (0, 0))).heap.size := by simp
      have hM100 : M.length ≤ 200 := by omega
      have hcase : ((r : Int) < 4) ∨ (¬ (r : Int) < 4 ∧ ((r : Int) == 4) = true) ∨ (¬ (r : Int) < 4 ∧ ((r : Int) == 4) = false) := by
        by_cases h1 : (r : Int) < 4
        · exact .inl h1
        · by_cases h2 : (r : Int) = 4
          · exact .inr (.inl ⟨h1, by simpa using h2⟩)
          · exact .inr (.inr ⟨h1, by simpa using h2⟩)
      obtain ⟨g, o, hgo, ho⟩ : ∃ g o, g = wr.heap.size ∧ o = (.cells #[.int .i64 u0, .int .i64 u1, .int .u64 u2] 33 (0, 0) : Obj) := ⟨_, _, rfl, rfl⟩
      have HB1 : Aside0 (PairAt D R M M W (wr.alloc (.cells #[.int .i64 u0, .int .i64 u1, .int .u64 u2] 33 (0, 0))) wr.heap.size o) := by rw [ho]; exact HB0
      have HO := Aside0.mk ho
      rcases hcase with hc | ⟨hc, hc4⟩ | ⟨hc, hc4⟩
      · have hlen := put_len M u1 u2
        have H1 := Aside0.mk (fun (w : World) (h : PairAt D R M M W w wr.heap.size o) => p_put h u1 u2 hwf.2 hM9)
        have H2 := Aside0.mk (fun (w : World) (h : PairAt D R (putM M u1 u2) M W w wr.heap.size o) => q_put h u1 u2 hnd hM9)
        generalize putM M u1 u2 = M' at hlen H1 H2
        have hM9' : M'.length < 900000 := by omega
        have H3 := Aside0.mk (fun (w : World) (h : PairAt D R M' M' W w wr.heap.size o) => p_next h)
        have H5 := Aside0.mk (fun (w : World) (h : PairAt D R M' M' W w wr.heap.size o) => q_next h hM9')
        obtain ⟨x, t, b, hx⟩ : ∃ x t b, nextM M' = (x, t, b) := ⟨_, _, _, rfl⟩
        rw [hx] at H3 H5
        have HLN := Aside0.mk (by omega : M'.length ≤ i + 1)
        clear hd hx hlen hM9 hM9' hnd HB0 ho hgo hwf
        go_wp2_with (first
          | (go_at_call 10; refine (HP.out _).mono ?_; rintro e w3 ⟨rfl, hd3⟩; have hp3 := pair_still HB1.out hd3.below; obtain ⟨q0, q1, q2⟩ := cell3 (by have h := hp3.block; rw [HO.out] at h; exact h); clear hd3)
          | (go_at_call 11; refine (H1.out _ (by assumption)).mono ?_; rintro e w4 ⟨rfl, hp4⟩; obtain ⟨s0, s1, s2⟩ := cell3 (by have h := hp4.block; rw [HO.out] at h; exact h); clear hp3 q0 q1 q2)
          | (go_at_call 12; refine (H2.out _ (by assumption)).mono ?_; rintro e w5 ⟨rfl, hp5⟩; clear hp4 s0 s1 s2)
          | (go_at_call 17; refine (H3.out _ (by assumption)).mono ?_; rintro e w6 ⟨rfl, hp6⟩; clear hp5)
          | (go_at_call 18; refine (H5.out _ (by assumption)).mono ?_; rintro e w7 ⟨rfl, hp7⟩; clear hp6))
        obtain ⟨Ar, cr, hrow⟩ := pair_row hp7
        have hM9'' : (M'.length : Int) < 900000 := by have h1 := HLN.out; have h2 := HI.out; omega
        have HLS := Aside0.mk (fun (Z : World) (h : PairAt D R M' M' W Z wr.heap.size o) (hc : Z.cell? ⟨R, 0, none⟩ = some (.slice Ar M'.length cr)) => p_lenS h hc)
        have HML := Aside0.mk (And.intro HLN.out HI.out)
        clear HLN HI
        generalize hml : M'.length = ml at HLS hrow hM9''
        have hp9 := pair_still hp7 (below_drew (Below.refl _ _))
        have hrow9 : w7.drew.cell? ⟨R, 0, none⟩ = some (.slice Ar ml cr) := hrow
        have HMLE := Aside0.mk hml
        clear hml hp7 HB1 HP H1 H2 H3 H5
        try clear b0
        try clear b1
        try clear b2
        go_region_held3 (fun Z => PairAt D R M' M' W Z wr.heap.size o ∧ Z.cell? ⟨R, 0, none⟩ = some (.slice Ar ml cr))
          (first | (exact ⟨hp9, hrow9⟩) | (refine ⟨?_, ?_⟩ <;> assumption) | go_keep)
          (first | (go_at_call 19; refine (HLS.out _ (by assumption) (by assumption)).mono ?_; rintro e w' ⟨rfl, hz1, hz2⟩))
        go_step
        go_wp2
        go_roundg (n - i)
        case measure => have := HML.out; omega
        case rel =>
          have h1 := HML.out
          have h2 := HMLE.out
          exact ⟨i + 1, M', by go_num, by omega, by omega, by omega, hz1.pair⟩
      · have hlen := drop_len M u1
        have H1 := Aside0.mk (fun (w : World) (h : PairAt D R M M W w wr.heap.size o) => p_drop h u1 hwf.2 hM9)
        have H2 := Aside0.mk (fun (w : World) (h : PairAt D R (dropM M u1) M W w wr.heap.size o) => q_drop h u1 hnd hM9)
        generalize dropM M u1 = M' at hlen H1 H2
        generalize hasM M u1 = bb at H1 H2
        have hM9' : M'.length < 900000 := by omega
        have H3 := Aside0.mk (fun (w : World) (h : PairAt D R M' M' W w wr.heap.size o) => p_next h)
        have H5 := Aside0.mk (fun (w : World) (h : PairAt D R M' M' W w wr.heap.size o) => q_next h hM9')
        obtain ⟨x, t, b, hx⟩ : ∃ x t b, nextM M' = (x, t, b) := ⟨_, _, _, rfl⟩
        rw [hx] at H3 H5
        have HLN := Aside0.mk (by omega : M'.length ≤ i + 1)
        clear hd hx hlen hM9 hM9' hnd HB0 ho hgo hwf
        go_wp2_with (go_at_call 10; refine (HP.out _).mono ?_; rintro e w3 ⟨rfl, hd3⟩; have hp3 := pair_still HB1.out hd3.below; obtain ⟨q0, q1, q2⟩ := cell3 (by have h := hp3.block; rw [HO.out] at h; exact h); clear hd3)
        have hp3' := pair_still hp3 (below_drew (Below.refl _ _))
        have q1' : w3.drew.cell? ⟨wr.heap.size, 1, none⟩ = some (.int .i64 u1) := q1
        clear q0 q2
        try clear b0
        try clear b1
        try clear b2
        go_region_held3 (fun Z => Z.cell? ⟨wr.heap.size, 1, none⟩ = some (.int .i64 u1))
          (first | exact q1' | assumption | go_keep)
          (first | (go_at_call 13; refine (H1.out _ hp3').mono ?_; rintro e w4 ⟨rfl, hp4⟩; have s1 := (cell3 (by have h := hp4.block; rw [HO.out] at h; exact h)).2.1) | (go_at_call 14; refine (H2.out _ hp4).mono ?_; rintro e w5 ⟨rfl, hp5⟩; have s2 := (cell3 (by have h := hp5.block; rw [HO.out] at h; exact h)).2.1))
        go_step
        clear hp4 hp3 hp3' q1 q1' s1 s2
        go_wp2_with (first
          | (go_at_call 17; refine (H3.out _ (by assumption)).mono ?_; rintro e w6 ⟨rfl, hp6⟩; clear hp5)
          | (go_at_call 18; refine (H5.out _ (by assumption)).mono ?_; rintro e w7 ⟨rfl, hp7⟩; clear hp6))
        obtain ⟨Ar, cr, hrow⟩ := pair_row hp7
        have hM9'' : (M'.length : Int) < 900000 := by have h1 := HLN.out; have h2 := HI.out; omega
        have HLS := Aside0.mk (fun (Z : World) (h : PairAt D R M' M' W Z wr.heap.size o) (hc : Z.cell? ⟨R, 0, none⟩ = some (.slice Ar M'.length cr)) => p_lenS h hc)
        have HML := Aside0.mk (And.intro HLN.out HI.out)
        clear HLN HI
        generalize hml : M'.length = ml at HLS hrow hM9''
        have hp9 := pair_still hp7 (below_drew (Below.refl _ _))
        have hrow9 : w7.drew.cell? ⟨R, 0, none⟩ = some (.slice Ar ml cr) := hrow
        have HMLE := Aside0.mk hml
        clear hml hp7 HB1 HP H1 H2 H3 H5
        try clear b0
        try clear b1
        try clear b2
        go_region_held3 (fun Z => PairAt D R M' M' W Z wr.heap.size o ∧ Z.cell? ⟨R, 0, none⟩ = some (.slice Ar ml cr))
          (first | (exact ⟨hp9, hrow9⟩) | (refine ⟨?_, ?_⟩ <;> assumption) | go_keep)
          (first | (go_at_call 19; refine (HLS.out _ (by assumption) (by assumption)).mono ?_; rintro e w' ⟨rfl, hz1, hz2⟩))
        go_step
        go_wp2
        go_roundg (n - i)
        case measure => have := HML.out; omega
        case rel =>
          have h1 := HML.out
          have h2 := HMLE.out
          exact ⟨i + 1, M', by go_num, by omega, by omega, by omega, hz1.pair⟩
      · have hlen := take_len M u2
        have H1 := Aside0.mk (fun (w : World) (h : PairAt D R M M W w wr.heap.size o) => p_take h u2 hM9)
        have H2 := Aside0.mk (fun (w : World) (h : PairAt D R (takeM M u2).2 M W w wr.heap.size o) => q_take h u2 hnd hM9)
        generalize (takeM M u2).2 = M' at hlen H1 H2
        generalize (takeM M u2).1.1 = kx at H1 H2
        generalize (takeM M u2).1.2 = bx at H1 H2
        have hM9' : M'.length < 900000 := by omega
        have H3 := Aside0.mk (fun (w : World) (h : PairAt D R M' M' W w wr.heap.size o) => p_next h)
        have H5 := Aside0.mk (fun (w : World) (h : PairAt D R M' M' W w wr.heap.size o) => q_next h hM9')
        obtain ⟨x, t, b, hx⟩ : ∃ x t b, nextM M' = (x, t, b) := ⟨_, _, _, rfl⟩
        rw [hx] at H3 H5
        have HLN := Aside0.mk (by omega : M'.length ≤ i + 1)
        clear hd hx hlen hM9 hM9' hnd HB0 ho hgo hwf
        go_wp2_with (first
          | (go_at_call 10; refine (HP.out _).mono ?_; rintro e w3 ⟨rfl, hd3⟩; have hp3 := pair_still HB1.out hd3.below; obtain ⟨q0, q1, q2⟩ := cell3 (by have h := hp3.block; rw [HO.out] at h; exact h); clear hd3)
          | (go_at_call 15; refine (H1.out _ (by assumption)).mono ?_; rintro e w4 ⟨rfl, hp4⟩; obtain ⟨s0, s1, s2⟩ := cell3 (by have h := hp4.block; rw [HO.out] at h; exact h); clear hp3 q0 q1 q2)
          | (go_at_call 16; refine (H2.out _ (by assumption)).mono ?_; rintro e w5 ⟨rfl, hp5⟩; clear hp4 s0 s1 s2)
          | (go_at_call 17; refine (H3.out _ (by assumption)).mono ?_; rintro e w6 ⟨rfl, hp6⟩; clear hp5)
          | (go_at_call 18; refine (H5.out _ (by assumption)).mono ?_; rintro e w7 ⟨rfl, hp7⟩; clear hp6))
        obtain ⟨Ar, cr, hrow⟩ := pair_row hp7
        have hM9'' : (M'.length : Int) < 900000 := by have h1 := HLN.out; have h2 := HI.out; omega
        have HLS := Aside0.mk (fun (Z : World) (h : PairAt D R M' M' W Z wr.heap.size o) (hc : Z.cell? ⟨R, 0, none⟩ = some (.slice Ar M'.length cr)) => p_lenS h hc)
        have HML := Aside0.mk (And.intro HLN.out HI.out)
        clear HLN HI
        generalize hml : M'.length = ml at HLS hrow hM9''
        have hp9 := pair_still hp7 (below_drew (Below.refl _ _))
        have hrow9 : w7.drew.cell? ⟨R, 0, none⟩ = some (.slice Ar ml cr) := hrow
        have HMLE := Aside0.mk hml
        clear hml hp7 HB1 HP H1 H2 H3 H5
        try clear b0
        try clear b1
        try clear b2
        go_region_held3 (fun Z => PairAt D R M' M' W Z wr.heap.size o ∧ Z.cell? ⟨R, 0, none⟩ = some (.slice Ar ml cr))
          (first | (exact ⟨hp9, hrow9⟩) | (refine ⟨?_, ?_⟩ <;> assumption) | go_keep)
          (first | (go_at_call 19; refine (HLS.out _ (by assumption) (by assumption)).mono ?_; rintro e w' ⟨rfl, hz1, hz2⟩))
        go_step
        go_wp2
        go_roundg (n - i)
        case measure => have := HML.out; omega
        case rel =>
          have h1 := HML.out
          have h2 := HMLE.out
          exact ⟨i + 1, M', by go_num, by omega, by omega, by omega, hz1.pair⟩
    · have hil' : ¬ (i : Int) < (n : Int) := by omega
      have H5 := Aside0.mk hd
      clear hd hM hik hi hil H4
      go_wp2
      go_ret
      exact ⟨rfl, H5.out.below⟩
set_option maxRecDepth 100000 in
set_option maxHeartbeats 3200000 in
theorem walk_plays9 (W : World) (A0 : Option Addr) (c0 : Nat) (n0 : Nat) (hs : 200 < n0) :
    Calls Try.prog 3 #[.slice A0 n0 c0] W fun e w' => e = .returned (.bool true) ∧ Below W.heap.size W w' := by
  have HS := Aside0.mk (shown_true W)
  have hs' : (200 : Int) < (n0 : Int) := by omega
  clear hs
  go_enter Try.func3, Try.ntmps3
  go_wp2_with (first
    | (go_at_call 8; refine HS.out.mono ?_; rintro e w1 ⟨rfl, hb1⟩)
    | (go_at_call 9; refine (solo_new (by assumption)).mono ?_; rintro e w2 ⟨D, rfl, hd2⟩))
  go_ret
  exact ⟨rfl, below_alloc hd2.below _⟩
set_option maxRecDepth 100000 in
set_option maxHeartbeats 3200000 in
theorem walk_plays0 (W : World) (A0 : Option Addr) (c0 : Nat) :
    Calls Try.prog 3 #[.slice A0 0 c0] W fun e w' => e = .returned (.bool true) ∧ Below W.heap.size W w' := by
  have HS := Aside0.mk (shown_true W)
  go_enter Try.func3, Try.ntmps3
  go_wp2_with (first
    | (go_at_call 8; refine HS.out.mono ?_; rintro e w1 ⟨rfl, hb1⟩)
    | (go_at_call 9; refine (solo_new (by assumption)).mono ?_; rintro e w2 ⟨D, rfl, hd2⟩))
  have H4 := Aside0.mk (below_alloc hd2.below (.cells #[.slice none 0 0, .slice none 0 0] 30 (0, 0)))
  clear hd2
  go_loopg [6] 1 (fun k v wr => 0 < k ∧ v = .int .i64 0 ∧ Below W.heap.size W wr)
  case atStart => exact ⟨by omega, rfl, H4.out⟩
  case round =>
    obtain ⟨_, rfl, hd⟩ := hrel
    have H5 := Aside0.mk hd
    clear hd H4
    go_wp2
    go_ret
    exact ⟨rfl, H5.out⟩
/-- A row of acts that came in. -/
def ActsAt (W : World) (a : Option Addr) (len cap : Nat) : Prop :=
  (a = none ∧ len = 0 ∧ cap = 0) ∨ ∃ (x0 : Addr) (op ky tm : Nat → Int), a = some x0 ∧ len ≤ cap ∧ cap ≤ maxLen ∧
      (∀ i : Nat, i < len → W.cell? (x0.add (i * 3)) = some (.int .i64 (op i)) ∧ W.cell? (x0.add (i * 3 + 1)) = some (.int .i64 (ky i)) ∧ W.cell? (x0.add (i * 3 + 2)) = some (.int .u64 (tm i))) ∧
      ∀ i : Nat, i < len → (Lit.int .i64 (op i)).wf = true ∧ (Lit.int .i64 (ky i)).wf = true
/-- DuePlays, walked whole. -/
theorem DuePlaysW (W : World) (A0 : Option Addr) (c0 n : Nat) (h : ActsAt W A0 n c0) :
    Calls Try.prog 3 #[.slice A0 n c0] W fun e w' => e = .returned (.bool true) ∧ Below W.heap.size W w' := by
  rcases h with ⟨rfl, rfl, _⟩ | ⟨x0, op, ky, tm, rfl, _, _, hc, hw⟩
  · exact walk_plays0 W none c0
  · by_cases h9 : 200 < n
    · exact walk_plays9 W _ c0 n h9
    · by_cases h0 : n = 0
      · subst h0
        exact walk_plays0 W _ c0
      · have hz := World.cell?_spot (hc 0 (by omega)).1
        have hx : x0.add (0 * 3) = x0 := by simp [Addr.add]
        rw [hx] at hz
        obtain ⟨xb, xo, sp⟩ := x0
        simp only at hz
        subst hz
        refine walk_plays W xb xo c0 n op ky tm (by omega) (fun i hi => ?_) hw
        obtain ⟨q0, q1, q2⟩ := hc i hi
        rw [Addr.add_lit] at q0 q1 q2
        exact ⟨q0, q1, q2⟩

end Go.Proofs.Ytlkcekldddpjbaa.Due
