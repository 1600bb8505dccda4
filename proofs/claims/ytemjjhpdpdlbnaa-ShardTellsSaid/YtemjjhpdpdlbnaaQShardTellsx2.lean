-- Printed by a program of this session (wip/tools/myprint.sh) in the form of print.sh: Clone's contract is proved by hand
import Derived.Test.YtemjjhpdpdlbnaaQShardTellsx0
import Derived.Test.YtemjjhpdpdlbnaaQShardTellsx1
namespace Go.Proofs.Ytemjjhpdpdlbnaa.QShardTells
open Go.RowKit Go.Proofs.YtemjjhpdpdlbnaaW.PrintWords Go.Proofs.YtemjjhpdpdlbnaaW.PrintLast Go.Proofs.YtemjjhpdpdlbnaaW.PrintMore
attribute [local go_sem] max2_int min2_int max_two min_two max_three min_three max_four min_four   -- for this text's walks alone
set_option linter.unusedVariables false
set_option linter.unusedSimpArgs false

/-! ### postroomlaw13_ShardTells: function 3 -/
mutual
def postroomlaw13_ShardTells.j0 : Nat → ByteArray → List ByteArray → Int → Bool → Bool → Option (Bool)
  | 0, _, _, _, _, _ => none
  | k + 1, x0, x1, x2, x7, x24 => if x24 = true then (some x7) else ((shard_Hash.f k x0).bind fun t130 => ((postroomref13_Hash.f k x0).bind fun t131 => (if t130 = t131 then ((shard_Of.f k x0 x2).bind fun t132 => ((postroomref13_Of.f k x0 x2).bind fun t133 => (postroomlaw13_ShardTells.j1 k x1 x2 (t132 != t133)))) else (postroomlaw13_ShardTells.j1 k x1 x2 true))))
def postroomlaw13_ShardTells.j1 : Nat → List ByteArray → Int → Bool → Option (Bool)
  | 0, _, _, _ => none
  | k + 1, x1, x2, x39 => if x39 = true then (some false) else ((shard_Split.f x1 x2).bind fun t134 => (if x2 < 1 then (postroomlaw13_ShardTells.j2 k x1 x2 t134 true) else (postroomlaw13_ShardTells.j2 k x1 x2 t134 (decide (x2 > 8)))))
def postroomlaw13_ShardTells.j2 : Nat → List ByteArray → Int → List (List Int) → Bool → Option (Bool)
  | 0, _, _, _, _ => none
  | k + 1, x1, x2, x9, x48 => if x48 = true then (some ((x9.length : Int) == 0)) else (if (x9.length : Int) = x2 then (postroomlaw13_ShardTells.l0 k x1 x2 x9 0) else (some false))
def postroomlaw13_ShardTells.l0 : Nat → List ByteArray → Int → List (List Int) → Int → Option (Bool)
  | 0, _, _, _, _ => none
  | k + 1, x1, x2, x9, x10 => if x10 < x2 then (if 0 ≤ x10 then (if x10 < (x9.length : Int) then ((postroomref13_Split.f k x1 x2 x10).bind fun t138 => ((postroomref13_Same.f k (rd_L1 x9 x10) t138).bind fun t141 => (if t141 = true then (postroomlaw13_ShardTells.l0 k x1 x2 x9 (wrap64 (x10 + 1))) else (some false)))) else (none)) else (none)) else (some true)
end
def postroomlaw13_ShardTells.f (k : Nat) (a0 : ByteArray) (l1 : List ByteArray) (a2 : Int) : Option (Bool) := (postroomlaw13_shown.f k).bind fun t128 => ((postroomlaw13_few.f k l1).bind fun t129 => (if t128 = true then (if t129 = true then (postroomlaw13_ShardTells.j0 k a0 l1 a2 t128 (decide ((a0.size : Int) > 2000))) else (postroomlaw13_ShardTells.j0 k a0 l1 a2 t128 true)) else (postroomlaw13_ShardTells.j0 k a0 l1 a2 t128 true)))
theorem postroomlaw13_ShardTells.mono_l : ∀ k, (∀ y0 y1 y2 y3 y4, LeO (postroomlaw13_ShardTells.j0 k y0 y1 y2 y3 y4) (postroomlaw13_ShardTells.j0 (k + 1) y0 y1 y2 y3 y4)) ∧ (∀ y0 y1 y2, LeO (postroomlaw13_ShardTells.j1 k y0 y1 y2) (postroomlaw13_ShardTells.j1 (k + 1) y0 y1 y2)) ∧ (∀ y0 y1 y2 y3, LeO (postroomlaw13_ShardTells.j2 k y0 y1 y2 y3) (postroomlaw13_ShardTells.j2 (k + 1) y0 y1 y2 y3)) ∧ (∀ y0 y1 y2 y3, LeO (postroomlaw13_ShardTells.l0 k y0 y1 y2 y3) (postroomlaw13_ShardTells.l0 (k + 1) y0 y1 y2 y3))
  | 0 => ⟨fun _ _ _ _ _ r h => by simp [postroomlaw13_ShardTells.j0] at h, fun _ _ _ r h => by simp [postroomlaw13_ShardTells.j1] at h, fun _ _ _ _ r h => by simp [postroomlaw13_ShardTells.j2] at h, fun _ _ _ _ r h => by simp [postroomlaw13_ShardTells.l0] at h⟩
  | k + 1 => by
    obtain ⟨ih0, ih1, ih2, ih3⟩ := postroomlaw13_ShardTells.mono_l k
    refine ⟨?_, ?_, ?_, ?_⟩
    · intro y0 y1 y2 y3 y4
      unfold postroomlaw13_ShardTells.j0
      repeat' first
      | (with_reducible exact ih0 _ _ _ _ _)
      | (with_reducible exact ih1 _ _ _)
      | (with_reducible exact ih2 _ _ _ _)
      | (with_reducible exact ih3 _ _ _ _)
      | (with_reducible exact postroomlaw13_few.mono _ _)
      | (with_reducible exact postroomlaw13_shown.mono _)
      | (with_reducible exact postroomref13_Hash.mono _ _)
      | (with_reducible exact postroomref13_Of.mono _ _ _)
      | (with_reducible exact postroomref13_Same.mono _ _ _)
      | (with_reducible exact postroomref13_Split.mono _ _ _ _)
      | (with_reducible exact shard_Hash.mono _ _)
      | (with_reducible exact shard_Of.mono _ _ _)
      | (with_reducible exact LeO.refl _)
      | (with_reducible exact LeO.none _)
      | (with_reducible refine LeO.ite ?_ ?_)
      | (with_reducible refine LeO.bind ?_ (fun _ => ?_))
      | exact ih0 _ _ _ _ _
      | exact ih1 _ _ _
      | exact ih2 _ _ _ _
      | exact ih3 _ _ _ _
      | exact postroomlaw13_few.mono _ _
      | exact postroomlaw13_shown.mono _
      | exact postroomref13_Hash.mono _ _
      | exact postroomref13_Of.mono _ _ _
      | exact postroomref13_Same.mono _ _ _
      | exact postroomref13_Split.mono _ _ _ _
      | exact shard_Hash.mono _ _
      | exact shard_Of.mono _ _ _
      | exact LeO.none _
      | refine LeO.ite ?_ ?_
      | refine LeO.bind ?_ (fun _ => ?_)
    · intro y0 y1 y2
      unfold postroomlaw13_ShardTells.j1
      repeat' first
      | (with_reducible exact ih0 _ _ _ _ _)
      | (with_reducible exact ih1 _ _ _)
      | (with_reducible exact ih2 _ _ _ _)
      | (with_reducible exact ih3 _ _ _ _)
      | (with_reducible exact postroomlaw13_few.mono _ _)
      | (with_reducible exact postroomlaw13_shown.mono _)
      | (with_reducible exact postroomref13_Hash.mono _ _)
      | (with_reducible exact postroomref13_Of.mono _ _ _)
      | (with_reducible exact postroomref13_Same.mono _ _ _)
      | (with_reducible exact postroomref13_Split.mono _ _ _ _)
      | (with_reducible exact shard_Hash.mono _ _)
      | (with_reducible exact shard_Of.mono _ _ _)
      | (with_reducible exact LeO.refl _)
      | (with_reducible exact LeO.none _)
      | (with_reducible refine LeO.ite ?_ ?_)
      | (with_reducible refine LeO.bind ?_ (fun _ => ?_))
      | exact ih0 _ _ _ _ _
      | exact ih1 _ _ _
      | exact ih2 _ _ _ _
      | exact ih3 _ _ _ _
      | exact postroomlaw13_few.mono _ _
      | exact postroomlaw13_shown.mono _
      | exact postroomref13_Hash.mono _ _
      | exact postroomref13_Of.mono _ _ _
      | exact postroomref13_Same.mono _ _ _
      | exact postroomref13_Split.mono _ _ _ _
      | exact shard_Hash.mono _ _
      | exact shard_Of.mono _ _ _
      | exact LeO.none _
      | refine LeO.ite ?_ ?_
      | refine LeO.bind ?_ (fun _ => ?_)
    · intro y0 y1 y2 y3
      unfold postroomlaw13_ShardTells.j2
      repeat' first
      | (with_reducible exact ih0 _ _ _ _ _)
      | (with_reducible exact ih1 _ _ _)
      | (with_reducible exact ih2 _ _ _ _)
      | (with_reducible exact ih3 _ _ _ _)
      | (with_reducible exact postroomlaw13_few.mono _ _)
      | (with_reducible exact postroomlaw13_shown.mono _)
      | (with_reducible exact postroomref13_Hash.mono _ _)
      | (with_reducible exact postroomref13_Of.mono _ _ _)
      | (with_reducible exact postroomref13_Same.mono _ _ _)
      | (with_reducible exact postroomref13_Split.mono _ _ _ _)
      | (with_reducible exact shard_Hash.mono _ _)
      | (with_reducible exact shard_Of.mono _ _ _)
      | (with_reducible exact LeO.refl _)
      | (with_reducible exact LeO.none _)
      | (with_reducible refine LeO.ite ?_ ?_)
      | (with_reducible refine LeO.bind ?_ (fun _ => ?_))
      | exact ih0 _ _ _ _ _
      | exact ih1 _ _ _
      | exact ih2 _ _ _ _
      | exact ih3 _ _ _ _
      | exact postroomlaw13_few.mono _ _
      | exact postroomlaw13_shown.mono _
      | exact postroomref13_Hash.mono _ _
      | exact postroomref13_Of.mono _ _ _
      | exact postroomref13_Same.mono _ _ _
      | exact postroomref13_Split.mono _ _ _ _
      | exact shard_Hash.mono _ _
      | exact shard_Of.mono _ _ _
      | exact LeO.none _
      | refine LeO.ite ?_ ?_
      | refine LeO.bind ?_ (fun _ => ?_)
    · intro y0 y1 y2 y3
      unfold postroomlaw13_ShardTells.l0
      repeat' first
      | (with_reducible exact ih0 _ _ _ _ _)
      | (with_reducible exact ih1 _ _ _)
      | (with_reducible exact ih2 _ _ _ _)
      | (with_reducible exact ih3 _ _ _ _)
      | (with_reducible exact postroomlaw13_few.mono _ _)
      | (with_reducible exact postroomlaw13_shown.mono _)
      | (with_reducible exact postroomref13_Hash.mono _ _)
      | (with_reducible exact postroomref13_Of.mono _ _ _)
      | (with_reducible exact postroomref13_Same.mono _ _ _)
      | (with_reducible exact postroomref13_Split.mono _ _ _ _)
      | (with_reducible exact shard_Hash.mono _ _)
      | (with_reducible exact shard_Of.mono _ _ _)
      | (with_reducible exact LeO.refl _)
      | (with_reducible exact LeO.none _)
      | (with_reducible refine LeO.ite ?_ ?_)
      | (with_reducible refine LeO.bind ?_ (fun _ => ?_))
      | exact ih0 _ _ _ _ _
      | exact ih1 _ _ _
      | exact ih2 _ _ _ _
      | exact ih3 _ _ _ _
      | exact postroomlaw13_few.mono _ _
      | exact postroomlaw13_shown.mono _
      | exact postroomref13_Hash.mono _ _
      | exact postroomref13_Of.mono _ _ _
      | exact postroomref13_Same.mono _ _ _
      | exact postroomref13_Split.mono _ _ _ _
      | exact shard_Hash.mono _ _
      | exact shard_Of.mono _ _ _
      | exact LeO.none _
      | refine LeO.ite ?_ ?_
      | refine LeO.bind ?_ (fun _ => ?_)
theorem postroomlaw13_ShardTells.mono : ∀ a0 a1 a2 k, LeO (postroomlaw13_ShardTells.f k a0 a1 a2) (postroomlaw13_ShardTells.f (k + 1) a0 a1 a2) := by
  intro a0 a1 a2 k
  obtain ⟨ih0, ih1, ih2, ih3⟩ := postroomlaw13_ShardTells.mono_l k
  unfold postroomlaw13_ShardTells.f
  repeat' first
      | (with_reducible exact ih0 _ _ _ _ _)
      | (with_reducible exact ih1 _ _ _)
      | (with_reducible exact ih2 _ _ _ _)
      | (with_reducible exact ih3 _ _ _ _)
      | (with_reducible exact postroomlaw13_few.mono _ _)
      | (with_reducible exact postroomlaw13_shown.mono _)
      | (with_reducible exact postroomref13_Hash.mono _ _)
      | (with_reducible exact postroomref13_Of.mono _ _ _)
      | (with_reducible exact postroomref13_Same.mono _ _ _)
      | (with_reducible exact postroomref13_Split.mono _ _ _ _)
      | (with_reducible exact shard_Hash.mono _ _)
      | (with_reducible exact shard_Of.mono _ _ _)
      | (with_reducible exact LeO.refl _)
      | (with_reducible exact LeO.none _)
      | (with_reducible refine LeO.ite ?_ ?_)
      | (with_reducible refine LeO.bind ?_ (fun _ => ?_))
      | exact ih0 _ _ _ _ _
      | exact ih1 _ _ _
      | exact ih2 _ _ _ _
      | exact ih3 _ _ _ _
      | exact postroomlaw13_few.mono _ _
      | exact postroomlaw13_shown.mono _
      | exact postroomref13_Hash.mono _ _
      | exact postroomref13_Of.mono _ _ _
      | exact postroomref13_Same.mono _ _ _
      | exact postroomref13_Split.mono _ _ _ _
      | exact shard_Hash.mono _ _
      | exact shard_Of.mono _ _ _
      | exact LeO.none _
      | refine LeO.ite ?_ ?_
      | refine LeO.bind ?_ (fun _ => ?_)
def postroomlaw13_ShardTells.T15 : Bool × List (List Nat × List Nat) := (true, [([], []), ([], []), ([0, 1], [0, 1]), ([2], [2]), ([], []), ([], []), ([], []), ([4, 5, 6], [4, 5, 6]), ([3, 7, 7], [3, 7]), ([8], [8])])
def postroomlaw13_ShardTells.B15 : List Nat := [0, 0, 3, 7, 0, 0, 0, 112, 255, 511]
theorem postroomlaw13_ShardTells.tab15 : rtab .any (opsOf Try.f3 15) = postroomlaw13_ShardTells.T15 := by kernel_rfl
theorem postroomlaw13_ShardTells.bits15 : waitsOk postroomlaw13_ShardTells.T15.2 postroomlaw13_ShardTells.B15 = true := by kernel_rfl
set_option maxHeartbeats 8000000 in
set_option maxRecDepth 100000 in
theorem postroomlaw13_ShardTells.calls (k : Nat) (a0 : ByteArray) (A1 : Option Addr) (c1 : Nat) (l1 : List ByteArray) (a2 : Int) (r : Bool) (w : World) (hr1 : Kd.C Kd.string w A1 l1.length l1) (hc1 : l1.length ≤ c1) (h : postroomlaw13_ShardTells.f k a0 l1 a2 = some r) (hrt : r = true) :
    Calls Try.prog 3 #[.string a0, .slice A1 l1.length c1, .int .i64 a2] w fun e w' => e = .returned (.bool r) ∧ Below w.heap.size w w' := by
  have HRT := Aside0.mk hrt
  clear hrt
  have HR1 := Aside0.mk hr1
  have HC1 := Aside0.mk hc1
  clear hr1 hc1
  have HB := Aside0.mk (Below.refl w.heap.size w)
  have H : ((postroomlaw13_shown.f k).bind fun t128 => ((postroomlaw13_few.f k l1).bind fun t129 => (if t128 = true then (if t129 = true then (postroomlaw13_ShardTells.j0 k a0 l1 a2 t128 (decide ((a0.size : Int) > 2000))) else (postroomlaw13_ShardTells.j0 k a0 l1 a2 t128 true)) else (postroomlaw13_ShardTells.j0 k a0 l1 a2 t128 true)))) = some r := h
  clear h
  replace H := Option.bind_eq_some_iff.mp H
  obtain ⟨t128, A40, H⟩ := H
  replace H : ((postroomlaw13_few.f k l1).bind fun t129 => (if t128 = true then (if t129 = true then (postroomlaw13_ShardTells.j0 k a0 l1 a2 t128 (decide ((a0.size : Int) > 2000))) else (postroomlaw13_ShardTells.j0 k a0 l1 a2 t128 true)) else (postroomlaw13_ShardTells.j0 k a0 l1 a2 t128 true))) = some r := H
  have A4 := Aside0.mk A40
  clear A40
  replace H := Option.bind_eq_some_iff.mp H
  obtain ⟨t129, A50, H⟩ := H
  replace H : (if t128 = true then (if t129 = true then (postroomlaw13_ShardTells.j0 k a0 l1 a2 t128 (decide ((a0.size : Int) > 2000))) else (postroomlaw13_ShardTells.j0 k a0 l1 a2 t128 true)) else (postroomlaw13_ShardTells.j0 k a0 l1 a2 t128 true)) = some r := H
  have A5 := Aside0.mk A50
  clear A50
  have HC6 := Aside0.mk H
  clear H
  go_enter Try.func3, Try.ntmps3
  go_upto_region 3 with (first | ((with_reducible refine gate_callee (f := 8) rfl ?_); refine goesL_ (some 11) rfl rfl Try.func8 (by kernel_rfl) rfl #[] rfl (by (try simp only [List.map_toArray, List.map_cons, List.map_nil]); first | done | rfl | (simp only [List.length_drop, List.length_take]; rfl)) ?_; (with_reducible refine (postroomlaw13_shown.calls k  t128 _ A4.out).mono ?_); rintro e w7 ⟨rfl, hb⟩; refine ⟨_, rfl, ?_⟩; have n0_ := Aside0.mk (below_step (by repeat (first | (with_reducible first | exact HB.out | apply below_alloc | apply pw_below_drewN | apply below_drew1) | exact HB.out)) hb); clear HB; have HB := n0_; clear n0_; (try clear hb); (try clear hb2); (try clear hk); (try clear hi)) | ((with_reducible refine gate_callee (f := 9) rfl ?_); refine goesL_ (some 13) rfl rfl Try.func9 (by kernel_rfl) rfl #[.slice A1 l1.length c1] rfl (by (try simp only [List.map_toArray, List.map_cons, List.map_nil]); first | done | rfl | (simp only [List.length_drop, List.length_take]; rfl)) ?_; (with_reducible refine (postroomlaw13_few.calls k _ _ l1 t129 _ ?side1 ?side2 A5.out).mono ?_); (case side1 => repeat (first | exact (Kd.C_below HR1.out HB.out) | (with_reducible refine Kd.C_alloc ?_ _) | (with_reducible refine Kd.C_drewN ?_ _) | (with_reducible refine Kd.C_drew ?_))); (case side2 => exact HC1.out); rintro e w' ⟨rfl, ⟨nd, rfl⟩⟩; refine ⟨_, rfl, ?_⟩))
  (try simp only [Act.put, List.setIfInBounds_toArray, List.set_cons_zero, List.set_cons_succ])
  go_cut [24] (fun v24 wc => ∃ (kq : Nat) (x24_5 : Bool), v24 = .bool x24_5 ∧ Aside0 (postroomlaw13_ShardTells.j0 kq a0 l1 a2 t128 x24_5 = some r) ∧ Aside0 (kq ≤ k) ∧ Aside0 (Below w.heap.size w wc))
  case first =>
    have H := HC6.out
    clear HC6
    by_cases c8 : t128 = true
    · subst c8
      have H1 : (if t129 = true then (postroomlaw13_ShardTells.j0 k a0 l1 a2 true (decide ((a0.size : Int) > 2000))) else (postroomlaw13_ShardTells.j0 k a0 l1 a2 true true)) = some r := by rw [if_pos rfl] at H; exact H
      clear H
      have H := H1
      clear H1
      by_cases c9 : t129 = true
      · subst c9
        have H1 : (postroomlaw13_ShardTells.j0 k a0 l1 a2 true (decide ((a0.size : Int) > 2000))) = some r := by rw [if_pos rfl] at H; exact H
        clear H
        have H := H1
        clear H1
        have H' := Aside0.mk H
        clear H
        go_wp2
        go_meet
        case rel => exact ⟨_, (decide ((a0.size : Int) > 2000)), (by first | rfl | (simp; done) | (simp [*]; done)), H', ⟨by first | omega | exact Nat.le_refl _⟩, ⟨by repeat (first | (with_reducible first | exact HB.out | apply below_alloc | apply pw_below_drewN | apply below_drew1) | exact HB.out)⟩⟩
      · replace c9 := Bool.eq_false_iff.mpr c9
        subst c9
        have H1 : (postroomlaw13_ShardTells.j0 k a0 l1 a2 true true) = some r := by rw [if_neg (show ¬ (false = true) by decide)] at H; exact H
        clear H
        have H := H1
        clear H1
        have H' := Aside0.mk H
        clear H
        go_wp2
        go_meet
        case rel => exact ⟨_, (true), (by first | rfl | (simp; done) | (simp [*]; done)), H', ⟨by first | omega | exact Nat.le_refl _⟩, ⟨by repeat (first | (with_reducible first | exact HB.out | apply below_alloc | apply pw_below_drewN | apply below_drew1) | exact HB.out)⟩⟩
    · replace c8 := Bool.eq_false_iff.mpr c8
      subst c8
      have H1 : (postroomlaw13_ShardTells.j0 k a0 l1 a2 false true) = some r := by rw [if_neg (show ¬ (false = true) by decide)] at H; exact H
      clear H
      have H := H1
      clear H1
      have H' := Aside0.mk H
      clear H
      go_wp2
      go_meet
      case rel => exact ⟨_, (true), (by first | rfl | (simp; done) | (simp [*]; done)), H', ⟨by first | omega | exact Nat.le_refl _⟩, ⟨by repeat (first | (with_reducible first | exact HB.out | apply below_alloc | apply pw_below_drewN | apply below_drew1) | exact HB.out)⟩⟩
  case rest =>
    clear HC6
    try clear c1
    try clear p2
    try clear c3
    try clear c8
    try clear c9
    obtain ⟨kq, x24_5, rfl, HA, HJ5, HB⟩ := hcut
    cases kq with
    | zero => exact absurd HA.out (by simp [postroomlaw13_ShardTells.j0])
    | succ kj5 =>
      have H := HA.out
      clear HA
      simp only [postroomlaw13_ShardTells.j0] at H
      by_cases c10 : x24_5 = true
      · subst c10
        have H1 : (some t128) = some r := by rw [if_pos rfl] at H; exact H
        clear H
        have H := H1
        clear H1
        obtain rfl := Option.some.inj H
        go_wp2
        go_ret
        exact ⟨by first | rfl | (simp [errW_none, errW_some] <;> rfl) | (simp [*, errW_none, errW_some] <;> rfl), by repeat (first | (with_reducible first | exact HB.out | apply below_alloc | apply pw_below_drewN | apply below_drew1) | exact HB.out)⟩
      · replace c10 := Bool.eq_false_iff.mpr c10
        subst c10
        have H1 : ((shard_Hash.f kj5 a0).bind fun t130 => ((postroomref13_Hash.f kj5 a0).bind fun t131 => (if t130 = t131 then ((shard_Of.f kj5 a0 a2).bind fun t132 => ((postroomref13_Of.f kj5 a0 a2).bind fun t133 => (postroomlaw13_ShardTells.j1 kj5 l1 a2 (t132 != t133)))) else (postroomlaw13_ShardTells.j1 kj5 l1 a2 true)))) = some r := by rw [if_neg (show ¬ (false = true) by decide)] at H; exact H
        clear H
        have H := H1
        clear H1
        have HC11 := Aside0.mk H
        clear H
        go_upto_region 5 with (fail)
        go_cut [39] (fun v39 wc => ∃ (kq : Nat) (x39_10 : Bool), v39 = .bool x39_10 ∧ Aside0 (postroomlaw13_ShardTells.j1 kq l1 a2 x39_10 = some r) ∧ Aside0 (kq ≤ kj5) ∧ Aside0 (Below w.heap.size w wc))
        case first =>
          have H := HC11.out
          clear HC11
          replace H := Option.bind_eq_some_iff.mp H
          obtain ⟨t130, A120, H⟩ := H
          replace H : ((postroomref13_Hash.f kj5 a0).bind fun t131 => (if t130 = t131 then ((shard_Of.f kj5 a0 a2).bind fun t132 => ((postroomref13_Of.f kj5 a0 a2).bind fun t133 => (postroomlaw13_ShardTells.j1 kj5 l1 a2 (t132 != t133)))) else (postroomlaw13_ShardTells.j1 kj5 l1 a2 true))) = some r := H
          have A12 := Aside0.mk A120
          clear A120
          replace H := Option.bind_eq_some_iff.mp H
          obtain ⟨t131, A130, H⟩ := H
          replace H : (if t130 = t131 then ((shard_Of.f kj5 a0 a2).bind fun t132 => ((postroomref13_Of.f kj5 a0 a2).bind fun t133 => (postroomlaw13_ShardTells.j1 kj5 l1 a2 (t132 != t133)))) else (postroomlaw13_ShardTells.j1 kj5 l1 a2 true)) = some r := H
          have A13 := Aside0.mk A130
          clear A130
          by_cases c14 : t130 = t131
          · rw [if_pos c14] at H
            have c14b0 : (t130 == t131) = true := beq_iff_eq.mpr c14
            have c14b1 : (t130 != t131) = false := bne_eq_false_iff_eq.mpr c14
            clear c14
            (first | rw [c14b0] | (simp only [i64_w, i32_w]; rw [c14b0]) | skip)
            replace H := Option.bind_eq_some_iff.mp H
            obtain ⟨t132, A150, H⟩ := H
            replace H : ((postroomref13_Of.f kj5 a0 a2).bind fun t133 => (postroomlaw13_ShardTells.j1 kj5 l1 a2 (t132 != t133))) = some r := H
            have A15 := Aside0.mk A150
            clear A150
            replace H := Option.bind_eq_some_iff.mp H
            obtain ⟨t133, A160, H⟩ := H
            replace H : (postroomlaw13_ShardTells.j1 kj5 l1 a2 (t132 != t133)) = some r := H
            have A16 := Aside0.mk A160
            clear A160
            have H' := Aside0.mk H
            clear H
            go_wp2_with (first | ((with_reducible refine gate_callee (f := 10) rfl ?_); refine goesL_ (some 27) rfl rfl Try.func10 (by kernel_rfl) rfl #[.string a0] rfl (by (try simp only [List.map_toArray, List.map_cons, List.map_nil]); first | done | rfl | (simp only [List.length_drop, List.length_take]; rfl)) ?_; (with_reducible refine (shard_Hash.calls kj5 a0 t130 _ A12.out).mono ?_); rintro e w' ⟨rfl, ⟨nd, rfl⟩⟩; refine ⟨_, rfl, ?_⟩) | ((with_reducible refine gate_callee (f := 11) rfl ?_); refine goesL_ (some 29) rfl rfl Try.func11 (by kernel_rfl) rfl #[.string a0] rfl (by (try simp only [List.map_toArray, List.map_cons, List.map_nil]); first | done | rfl | (simp only [List.length_drop, List.length_take]; rfl)) ?_; (with_reducible refine (postroomref13_Hash.calls kj5 a0 t131 _ A13.out).mono ?_); rintro e w' ⟨rfl, ⟨nd, rfl⟩⟩; refine ⟨_, rfl, ?_⟩) | (go_at_call 12; (with_reducible refine (shard_Of.calls kj5 a0 a2 t132 _ A15.out).mono ?_); rintro e w' ⟨rfl, ⟨nd, rfl⟩⟩) | (go_at_call 13; (with_reducible refine (postroomref13_Of.calls kj5 a0 a2 t133 _ A16.out).mono ?_); rintro e w' ⟨rfl, ⟨nd, rfl⟩⟩))
            go_meet
            case rel => exact ⟨_, ((t132 != t133)), (by first | rfl | (simp; done) | (simp [*]; done)), H', ⟨by have := HJ5.out; first | omega | exact Nat.le_refl _⟩, ⟨by repeat (first | (with_reducible first | exact HB.out | apply below_alloc | apply pw_below_drewN | apply below_drew1) | exact HB.out)⟩⟩
          · rw [if_neg c14] at H
            have c14b0 : (t130 == t131) = false := beq_eq_false_iff_ne.mpr c14
            have c14b1 : (t130 != t131) = true := bne_iff_ne.mpr c14
            (first | rw [c14b0] | (simp only [i64_w, i32_w]; rw [c14b0]) | skip)
            have H' := Aside0.mk H
            clear H
            go_wp2_with (first | ((with_reducible refine gate_callee (f := 10) rfl ?_); refine goesL_ (some 27) rfl rfl Try.func10 (by kernel_rfl) rfl #[.string a0] rfl (by (try simp only [List.map_toArray, List.map_cons, List.map_nil]); first | done | rfl | (simp only [List.length_drop, List.length_take]; rfl)) ?_; (with_reducible refine (shard_Hash.calls kj5 a0 t130 _ A12.out).mono ?_); rintro e w' ⟨rfl, ⟨nd, rfl⟩⟩; refine ⟨_, rfl, ?_⟩) | ((with_reducible refine gate_callee (f := 11) rfl ?_); refine goesL_ (some 29) rfl rfl Try.func11 (by kernel_rfl) rfl #[.string a0] rfl (by (try simp only [List.map_toArray, List.map_cons, List.map_nil]); first | done | rfl | (simp only [List.length_drop, List.length_take]; rfl)) ?_; (with_reducible refine (postroomref13_Hash.calls kj5 a0 t131 _ A13.out).mono ?_); rintro e w' ⟨rfl, ⟨nd, rfl⟩⟩; refine ⟨_, rfl, ?_⟩))
            go_meet
            case rel => exact ⟨_, (true), (by first | rfl | (simp; done) | (simp [*]; done)), H', ⟨by have := HJ5.out; first | omega | exact Nat.le_refl _⟩, ⟨by repeat (first | (with_reducible first | exact HB.out | apply below_alloc | apply pw_below_drewN | apply below_drew1) | exact HB.out)⟩⟩
        case rest =>
          clear HC11
          try clear c1
          try clear p2
          try clear c3
          try clear c8
          try clear c9
          try clear c10
          try clear c11
          try clear c14
          try clear c14b0
          try clear c14b1
          try clear p2
          obtain ⟨kq, x39_10, rfl, HA, HJ10, HB⟩ := hcut
          cases kq with
          | zero => exact absurd HA.out (by simp [postroomlaw13_ShardTells.j1])
          | succ kj10 =>
            have H := HA.out
            clear HA
            simp only [postroomlaw13_ShardTells.j1] at H
            by_cases c17 : x39_10 = true
            · subst c17
              have H1 : (some false) = some r := by rw [if_pos rfl] at H; exact H
              clear H
              have H := H1
              clear H1
              exact absurd (H.trans (congrArg some HRT.out)) (by simp)
            · replace c17 := Bool.eq_false_iff.mpr c17
              subst c17
              have H1 : ((shard_Split.f l1 a2).bind fun t134 => (if a2 < 1 then (postroomlaw13_ShardTells.j2 kj10 l1 a2 t134 true) else (postroomlaw13_ShardTells.j2 kj10 l1 a2 t134 (decide (a2 > 8))))) = some r := by rw [if_neg (show ¬ (false = true) by decide)] at H; exact H
              clear H
              have H := H1
              clear H1
              replace H := Option.bind_eq_some_iff.mp H
              obtain ⟨t134, A180, H⟩ := H
              replace H : (if a2 < 1 then (postroomlaw13_ShardTells.j2 kj10 l1 a2 t134 true) else (postroomlaw13_ShardTells.j2 kj10 l1 a2 t134 (decide (a2 > 8)))) = some r := H
              have A18 := Aside0.mk A180
              clear A180
              have HC19 := Aside0.mk H
              clear H
              go_upto_region 8 with (first | ((with_reducible refine gate_callee (f := 14) rfl ?_); refine goesL_ (some 42) rfl rfl Try.func14 (by kernel_rfl) rfl #[.slice A1 l1.length c1, .int .i64 a2] rfl (by (try simp only [List.map_toArray, List.map_cons, List.map_nil]); first | done | rfl | (simp only [List.length_drop, List.length_take]; rfl)) ?_; (with_reducible refine (shard_Split.calls _ _ l1 a2 t134 _ ?side1 ?side2 A18.out).mono ?_); (case side1 => repeat (first | exact (Kd.C_below HR1.out HB.out) | (with_reducible refine Kd.C_alloc ?_ _) | (with_reducible refine Kd.C_drewN ?_ _) | (with_reducible refine Kd.C_drew ?_))); (case side2 => exact HC1.out); rintro e w20 ⟨v135, rfl, ho0, hb⟩; refine ⟨_, rfl, ?_⟩; have n0_ := Aside0.mk (Kd.N_lower (Kd.N_mono (ok' := fun k_ => True) ho0 (fun k_ hk_ => trivial)) (below_size (by repeat (first | (with_reducible first | exact HB.out | apply below_alloc | apply pw_below_drewN | apply below_drew1) | exact HB.out)))); have n1_ := Aside0.mk (below_step (by repeat (first | (with_reducible first | exact HB.out | apply below_alloc | apply pw_below_drewN | apply below_drew1) | exact HB.out)) hb); clear HB; have HO136 := n0_; have HB := n1_; clear n0_ n1_; (try clear hb); (try clear hb2); (try clear hk); (try clear hi); (try clear ho0)))
              (try simp only [Act.put, List.setIfInBounds_toArray, List.set_cons_zero, List.set_cons_succ])
              go_cut [48] (fun v48 wc => ∃ (kq : Nat) (x48_18 : Bool), v48 = .bool x48_18 ∧ Aside0 (postroomlaw13_ShardTells.j2 kq l1 a2 t134 x48_18 = some r) ∧ Aside0 (kq ≤ kj10) ∧ Aside0 (Kd.N (Kd.slice 3 (Kd.int .i64)) 31 wc w.heap.size (fun _ => True) v135 t134) ∧ Aside0 (Below w.heap.size w wc))
              case first =>
                have H := HC19.out
                clear HC19
                by_cases c21 : a2 < 1
                · rw [if_pos c21] at H
                  have c21b0 : decide (a2 < 1) = true := decide_eq_true c21
                  clear c21
                  (first | rw [c21b0] | (simp only [i64_w, i32_w]; rw [c21b0]) | skip)
                  have H' := Aside0.mk H
                  clear H
                  go_wp2
                  go_meet
                  case rel => exact ⟨_, (true), (by first | rfl | (simp; done) | (simp [*]; done)), H', ⟨by have := HJ5.out; have := HJ10.out; first | omega | exact Nat.le_refl _⟩, ⟨by (with_reducible repeat (first | apply Kd.N_alloc | apply Kd.N_drewN | apply Kd.N_drew)); exact HO136.out⟩, ⟨by repeat (first | (with_reducible first | exact HB.out | apply below_alloc | apply pw_below_drewN | apply below_drew1) | exact HB.out)⟩⟩
                · rw [if_neg c21] at H
                  have c21b0 : decide (a2 < 1) = false := decide_eq_false c21
                  clear c21
                  (first | rw [c21b0] | (simp only [i64_w, i32_w]; rw [c21b0]) | skip)
                  have H' := Aside0.mk H
                  clear H
                  go_wp2
                  go_meet
                  case rel => exact ⟨_, (decide (a2 > 8)), (by first | rfl | (simp; done) | (simp [*]; done)), H', ⟨by have := HJ5.out; have := HJ10.out; first | omega | exact Nat.le_refl _⟩, ⟨by (with_reducible repeat (first | apply Kd.N_alloc | apply Kd.N_drewN | apply Kd.N_drew)); exact HO136.out⟩, ⟨by repeat (first | (with_reducible first | exact HB.out | apply below_alloc | apply pw_below_drewN | apply below_drew1) | exact HB.out)⟩⟩
              case rest =>
                clear HC19
                try clear c1
                try clear c2
                try clear p2
                try clear c3
                try clear c8
                try clear c9
                try clear c10
                try clear c11
                try clear c14
                try clear c14b0
                try clear c14b1
                try clear c17
                try clear c21
                try clear c21b0
                try clear p2
                obtain ⟨kq, x48_18, rfl, HA, HJ18, HO_9, HB⟩ := hcut
                cases kq with
                | zero => exact absurd HA.out (by simp [postroomlaw13_ShardTells.j2])
                | succ kj18 =>
                  have H := HA.out
                  clear HA
                  simp only [postroomlaw13_ShardTells.j2] at H
                  by_cases c22 : x48_18 = true
                  · subst c22
                    have H1 : (some ((t134.length : Int) == 0)) = some r := by rw [if_pos rfl] at H; exact H
                    clear H
                    have H := H1
                    clear H1
                    obtain rfl := Option.some.inj H
                    obtain ⟨Ao23, co23, eo23⟩ := Kd.N_slice HO_9.out
                    subst eo23
                    go_wp2
                    go_ret
                    exact ⟨by first | rfl | (simp [errW_none, errW_some] <;> rfl) | (simp [*, errW_none, errW_some] <;> rfl), by repeat (first | (with_reducible first | exact HB.out | apply below_alloc | apply pw_below_drewN | apply below_drew1) | exact HB.out)⟩
                  · replace c22 := Bool.eq_false_iff.mpr c22
                    subst c22
                    have H1 : (if (t134.length : Int) = a2 then (postroomlaw13_ShardTells.l0 kj18 l1 a2 t134 0) else (some false)) = some r := by rw [if_neg (show ¬ (false = true) by decide)] at H; exact H
                    clear H
                    have H := H1
                    clear H1
                    by_cases c24 : (t134.length : Int) = a2
                    · rw [if_pos c24] at H
                      have c24b0 : ((t134.length : Int) == a2) = true := beq_iff_eq.mpr c24
                      have c24b1 : ((t134.length : Int) != a2) = false := bne_eq_false_iff_eq.mpr c24
                      clear c24
                      have H' := Aside0.mk H
                      clear H
                      obtain ⟨Ao25, co25, eo25⟩ := Kd.N_slice HO_9.out
                      subst eo25
                      go_wp2
                      go_loopg [10] kj18 (fun kq v10 w' => ∃ (x10_4 : Int), v10 = .int .i64 x10_4 ∧ Aside0 (postroomlaw13_ShardTells.l0 kq l1 a2 t134 x10_4 = some r) ∧ Aside0 (kq ≤ kj18) ∧ Aside0 (Kd.N (Kd.slice 3 (Kd.int .i64)) 31 w' w.heap.size (fun _ => True) (.slice Ao25 t134.length co25) t134) ∧ Aside0 (Below w.heap.size w w'))
                      case atStart => exact ⟨(0), (by first | rfl | (simp; done) | (simp [*]; done)), H', ⟨Nat.le_refl _⟩, ⟨by (with_reducible repeat (first | apply Kd.N_alloc | apply Kd.N_drewN | apply Kd.N_drew)); exact HO_9.out⟩, ⟨by repeat (first | (with_reducible first | exact HB.out | apply below_alloc | apply pw_below_drewN | apply below_drew1) | exact HB.out)⟩⟩
                      case round =>
                        clear H'
                        try clear c1
                        try clear c2
                        try clear p2
                        try clear c3
                        try clear c8
                        try clear c9
                        try clear c10
                        try clear c11
                        try clear c14
                        try clear c14b0
                        try clear c14b1
                        try clear c17
                        try clear c21
                        try clear c21b0
                        try clear c22
                        try clear c24
                        try clear c24b0
                        try clear c24b1
                        try clear p2
                        obtain ⟨x10_4, rfl, HA, HK4, HO_9, HB⟩ := hrel
                        cases gk with
                        | zero => exact absurd HA.out (by simp [postroomlaw13_ShardTells.l0])
                        | succ k4 =>
                          have H := HA.out
                          clear HA
                          simp only [postroomlaw13_ShardTells.l0] at H
                          by_cases c26 : x10_4 < a2
                          · rw [if_pos c26] at H
                            have c26b0 : decide (x10_4 < a2) = true := decide_eq_true c26
                            clear c26
                            by_cases c27 : 0 ≤ x10_4
                            · rw [if_pos c27] at H
                              have c27b0 : decide (0 ≤ x10_4) = true := decide_eq_true c27
                              clear c27
                              by_cases c28 : x10_4 < (t134.length : Int)
                              · rw [if_pos c28] at H
                                have c28b0 : decide (x10_4 < (t134.length : Int)) = true := decide_eq_true c28
                                clear c28
                                replace H := Option.bind_eq_some_iff.mp H
                                obtain ⟨t138, A290, H⟩ := H
                                replace H : ((postroomref13_Same.f k4 (rd_L1 t134 x10_4) t138).bind fun t141 => (if t141 = true then (postroomlaw13_ShardTells.l0 k4 l1 a2 t134 (wrap64 (x10_4 + 1))) else (some false))) = some r := H
                                have A29 := Aside0.mk A290
                                clear A290
                                replace H := Option.bind_eq_some_iff.mp H
                                obtain ⟨t141, A300, H⟩ := H
                                replace H : (if t141 = true then (postroomlaw13_ShardTells.l0 k4 l1 a2 t134 (wrap64 (x10_4 + 1))) else (some false)) = some r := H
                                have A30 := Aside0.mk A300
                                clear A300
                                by_cases c31 : t141 = true
                                · subst c31
                                  have H1 : (postroomlaw13_ShardTells.l0 k4 l1 a2 t134 (wrap64 (x10_4 + 1))) = some r := by rw [if_pos rfl] at H; exact H
                                  clear H
                                  have H := H1
                                  clear H1
                                  have H' := Aside0.mk H
                                  clear H
                                  try go_wp2
                                  have n0_ := Aside0.mk (Kd.N_drew HO_9.out)
                                  have n1_ := Aside0.mk (below_drew1 HB.out)
                                  clear HO_9
                                  clear HB
                                  have HO_9 := n0_
                                  have HB := n1_
                                  clear n0_ n1_
                                  have p137 : 0 ≤ (x10_4 : Int) := of_decide_eq_true (by first | (with_reducible assumption) | assumption)
                                  have q137 : x10_4 < (t134.length : Int) := of_decide_eq_true (by first | (with_reducible assumption) | assumption)
                                  obtain ⟨ad137, A137_0, c137_0, e137, hx137_0, hl137_0, hi137_0⟩ := at_L1 (Kd.N_reads' HO_9.out).2.2 x10_4 p137 q137
                                  cases e137
                                  obtain ⟨ce137, hce137, hMe137, hcc137⟩ := Kd.N_get HO_9.out [] x10_4 p137 (by first | exact q137 | exact of_decide_eq_true (by first | (with_reducible assumption) | assumption) | (have e_ := (Kd.N_reads' HO_9.out).1; omega))
                                  obtain ⟨ua137_0, uc137_0, rfl, ul137_0, ge137_0⟩ := Kd.FK_slice_open hMe137
                                  have hv137_0 := hcc137 0 _ rfl
                                  rw [Nat.add_zero, show ((Kd.slice 3 (Kd.int .i64))).sz = 1 from rfl, Nat.mul_one] at hv137_0
                                  replace hv137_0 := Option.some.inj (hv137_0.symm.trans hx137_0)
                                  injection hv137_0 with hva_ hvn_ hvc_
                                  rw [hva_] at ge137_0
                                  rw [hvc_] at ul137_0
                                  have HL137_0 := Aside0.mk (show Kd.V (Kd.int .i64) 3 _ w.heap.size _ _ (rd_L1 t134 x10_4) from Kd.V_mk ul137_0 ge137_0)
                                  clear hva_ hvn_ hvc_ ge137_0 ul137_0
                                  clear hcc137 hce137
                                  have HR137_0 := Aside0.mk hi137_0
                                  have HC137_0 := Aside0.mk hl137_0
                                  clear hi137_0 hl137_0
                                  replace p137 := eq_true p137
                                  replace q137 := eq_true q137
                                  refine start_ (n := 10) (S := fun w' => w'.cell? (ad137.add (x10_4).toNat) = some (.slice A137_0 (rd_L1 t134 x10_4).length c137_0)) (ds := []) #[false, false, false, false, false, false, false, false, false, false] (by kernel_rfl) rfl rfl (hx137_0) (fun hHeld => ?_); refine with_tabW postroomlaw13_ShardTells.tab15 postroomlaw13_ShardTells.bits15 (fun HT_ HW_ => ?_)
                                  generalize wr.drew = w32 at HO_9 HB HL137_0 HR137_0 hx137_0 hHeld ⊢
                                  refine pure_ (i := 0) (N := some 61) (v := ?_) (a' := ?_) #[true, false, false, false, false, false, false, false, false, false] rfl rfl (any_of HT_.out (by kernel_rfl)) (fun _ _ _ h => h) (Or.inl ⟨by rfl, ?_⟩) ?_ ?_
                                  rotate_left
                                  · intro w'
                                    go_simp
                                    with_reducible rfl
                                  rotate_left
                                  · simp only [Act.put, List.setIfInBounds_toArray, List.set_cons_zero, List.set_cons_succ, i64_w, i32_w]
                                    rfl
                                  refine pure_ (i := 1) (N := some 62) (v := ?_) (a' := ?_) #[true, true, false, false, false, false, false, false, false, false] rfl rfl (any_of HT_.out (by kernel_rfl)) (fun _ _ _ h => h) (Or.inl ⟨by rfl, ?_⟩) ?_ ?_
                                  rotate_left
                                  · intro w'
                                    go_simp
                                    with_reducible rfl
                                  rotate_left
                                  · simp only [Act.put, List.setIfInBounds_toArray, List.set_cons_zero, List.set_cons_succ, i64_w, i32_w]
                                    rfl
                                  refine pure_ (i := 2) (N := some 63) (v := ?_) (a' := ?_) #[true, true, true, false, false, false, false, false, false, false] rfl rfl (any_of HT_.out (by kernel_rfl)) (fun _ _ _ h => h) (Or.inl ⟨by rfl, ?_⟩) ?_ ?_
                                  rotate_left
                                  · intro w'
                                    go_simp
                                    with_reducible rfl
                                  rotate_left
                                  · simp only [Act.put, List.setIfInBounds_toArray, List.set_cons_zero, List.set_cons_succ, i64_w, i32_w]
                                    rfl
                                  refine pure_ (i := 4) (N := some 65) (v := ?_) (a' := ?_) #[true, true, true, false, true, false, false, false, false, false] rfl rfl (any_of HT_.out (by kernel_rfl)) (fun _ _ _ h => h) (Or.inl ⟨by rfl, ?_⟩) ?_ ?_
                                  rotate_left
                                  · intro w'
                                    go_simp
                                    with_reducible rfl
                                  rotate_left
                                  · simp only [Act.put, List.setIfInBounds_toArray, List.set_cons_zero, List.set_cons_succ, i64_w, i32_w]
                                    rfl
                                  refine pure_ (i := 5) (N := some 66) (v := ?_) (a' := ?_) #[true, true, true, false, true, true, false, false, false, false] rfl rfl (any_of HT_.out (by kernel_rfl)) (fun _ _ _ h => h) (Or.inl ⟨by rfl, ?_⟩) ?_ ?_
                                  rotate_left
                                  · intro w'
                                    go_simp
                                    with_reducible rfl
                                  rotate_left
                                  · simp only [Act.put, List.setIfInBounds_toArray, List.set_cons_zero, List.set_cons_succ, i64_w, i32_w]
                                    rfl
                                  refine pure_ (i := 6) (N := some 67) (v := ?_) (a' := ?_) #[true, true, true, false, true, true, true, false, false, false] rfl rfl (any_of HT_.out (by kernel_rfl)) (fun _ _ _ h => h) (Or.inl ⟨by rfl, ?_⟩) ?_ ?_
                                  rotate_left
                                  · intro w'
                                    go_simp
                                    with_reducible rfl
                                  rotate_left
                                  · simp only [Act.put, List.setIfInBounds_toArray, List.set_cons_zero, List.set_cons_succ, i64_w, i32_w]
                                    rfl
                                  refine take_ (i := 3) (N := some 64) (v := ?_) (a' := ?_) #[true, true, true, true, true, true, true, false, false, false] rfl rfl (take_ofW HT_.out HW_.out (by kernel_rfl)) (fun _ _ _ h => h) (Or.inl ⟨by rfl, ?_⟩) hHeld ?_ ?_
                                  rotate_left
                                  · intro w' s0
                                    go_simp
                                    with_reducible rfl
                                  rotate_left
                                  · simp only [Act.put, List.setIfInBounds_toArray, List.set_cons_zero, List.set_cons_succ, i64_w, i32_w]
                                    rfl
                                  refine one_ (i := 7) (N := some 68) #[true, true, true, true, true, true, true, true, false, false] rfl rfl (one_of HT_.out (by kernel_rfl)) (by decide) (fun K hK => ?_)
                                  refine goes_ Try.func16 (by kernel_rfl) rfl #[.slice A1 l1.length c1, .int .i64 a2, .int .i64 x10_4] (by rfl) rfl rfl (by (try simp only [List.map_toArray, List.map_cons, List.map_nil]); first | done | rfl | (simp only [List.length_drop, List.length_take]; rfl)) ?_
                                  with_reducible refine (postroomref13_Split.calls k4 _ _ l1 a2 x10_4 t138 _ ?side1 ?side2 A29.out).mono ?_
                                  (case side1 => repeat (first | exact (Kd.C_below HR1.out HB.out) | (with_reducible refine Kd.C_alloc ?_ _) | (with_reducible refine Kd.C_drewN ?_ _) | (with_reducible refine Kd.C_drew ?_)))
                                  (case side2 => exact HC1.out)
                                  rintro e w33 ⟨v139, rfl, ho0, hb⟩
                                  have HS0_ := (hb.cell (World.block_lt_of_cell? _ _ (hHeld))).trans (hHeld)
                                  refine ⟨_, rfl, ?_⟩
                                  have n0_ := Aside0.mk (Kd.N_elder' (by (with_reducible repeat (first | apply Kd.N_alloc | apply Kd.N_drewN | apply Kd.N_drew)); exact HO_9.out) (Kd.R_base ho0) hb)
                                  have n1_ := Aside0.mk (Kd.V_elder' (by (with_reducible repeat (first | apply Kd.V_alloc | apply Kd.V_drewN | apply Kd.V_drew)); exact HL137_0.out) (Kd.R_base ho0) hb)
                                  have n2_ := Aside0.mk (Kd.R_lower ho0 (below_size (by repeat (first | (with_reducible first | exact HB.out | apply below_alloc | apply pw_below_drewN | apply below_drew1) | exact HB.out))))
                                  have n3_ := Aside0.mk (Kd.C_below (by repeat (first | (with_reducible exact HR137_0.out) | (with_reducible refine Kd.C_alloc ?_ _) | (with_reducible refine Kd.C_drewN ?_ _) | (with_reducible refine Kd.C_drew ?_) | exact HR137_0.out)) hb)
                                  have n4_ := Aside0.mk (below_step (by repeat (first | (with_reducible first | exact HB.out | apply below_alloc | apply pw_below_drewN | apply below_drew1) | exact HB.out)) hb)
                                  clear HO_9
                                  clear HL137_0
                                  clear HR137_0
                                  clear HB
                                  have HO_9 := n0_
                                  have HL137_0 := n1_
                                  have HO140 := n2_
                                  have HR137_0 := n3_
                                  have HB := n4_
                                  clear n0_ n1_ n2_ n3_ n4_
                                  (try clear hb)
                                  (try clear hb2)
                                  (try clear hk)
                                  (try clear hi)
                                  (try clear ho0)
                                  obtain ⟨Ao34, co34, eo34⟩ := Kd.R_slice HO140.out
                                  (first | subst eo34 | (injection eo34 with f1_ f2_ f3_; have f4_ := f1_.symm; have f5_ := f3_.symm; clear f1_ f2_ f3_; subst f4_; subst f5_))
                                  refine hK.out _ _ (HS0_) (fun hHeld => ?_)
                                  clear hK K
                                  refine norm_ (a' := ?_) ?_ ?_
                                  rotate_left
                                  · show Act.put _ (some 68) _ = _
                                    simp only [Act.put, List.setIfInBounds_toArray, List.set_cons_zero, List.set_cons_succ, i64_w, i32_w]
                                    rfl
                                  refine one_ (i := 8) (N := some 69) #[true, true, true, true, true, true, true, true, true, false] rfl rfl (one_of HT_.out (by kernel_rfl)) (by decide) (fun K hK => ?_)
                                  refine goes_ Try.func15 (by kernel_rfl) rfl #[.slice A137_0 (rd_L1 t134 x10_4).length c137_0, .slice Ao34 t138.length co34] (by rfl) rfl rfl (by (try simp only [List.map_toArray, List.map_cons, List.map_nil]); first | done | rfl | (simp only [List.length_drop, List.length_take]; rfl)) ?_
                                  with_reducible refine (postroomref13_Same.calls k4 _ _ (rd_L1 t134 x10_4) _ _ t138 true _ ?side1 ?side2 ?side3 ?side4 A30.out).mono ?_
                                  (case side1 => repeat (first | exact (by repeat (first | (with_reducible exact HR137_0.out) | (with_reducible refine Kd.C_alloc ?_ _) | (with_reducible refine Kd.C_drewN ?_ _) | (with_reducible refine Kd.C_drew ?_) | exact HR137_0.out)) | (with_reducible refine Kd.C_alloc ?_ _) | (with_reducible refine Kd.C_drewN ?_ _) | (with_reducible refine Kd.C_drew ?_)))
                                  (case side2 => exact HC137_0.out)
                                  (case side3 => repeat (first | exact (Kd.R_reads' HO140.out).2.2 | (with_reducible refine Kd.C_alloc ?_ _) | (with_reducible refine Kd.C_drewN ?_ _) | (with_reducible refine Kd.C_drew ?_)))
                                  (case side4 => exact (Kd.R_reads' HO140.out).2.1)
                                  rintro e w' ⟨rfl, ⟨nd, rfl⟩⟩
                                  refine ⟨_, rfl, ?_⟩
                                  refine hK.out _ _ (hHeld) (fun hHeld => ?_)
                                  clear hK K
                                  refine norm_ (a' := ?_) ?_ ?_
                                  rotate_left
                                  · show Act.put _ (some 69) _ = _
                                    simp only [Act.put, List.setIfInBounds_toArray, List.set_cons_zero, List.set_cons_succ, i64_w, i32_w]
                                    rfl
                                  refine pure_ (i := 9) (N := some 70) (v := ?_) (a' := ?_) #[true, true, true, true, true, true, true, true, true, true] rfl rfl (any_of HT_.out (by kernel_rfl)) (fun _ _ _ h => h) (Or.inl ⟨by rfl, ?_⟩) ?_ ?_
                                  rotate_left
                                  · intro w'
                                    go_simp
                                    with_reducible rfl
                                  rotate_left
                                  · simp only [Act.put, List.setIfInBounds_toArray, List.set_cons_zero, List.set_cons_succ, i64_w, i32_w]
                                    rfl
                                  refine done_ (done_of HT_.out (by kernel_rfl)) ?_
                                  try go_wp2
                                  go_roundg k4
                                  case measure => have := HJ5.out; have := HJ10.out; have := HJ18.out; have := HK4.out; omega
                                  case rel => exact ⟨(wrap64 (x10_4 + 1)), (by first | rfl | (simp; done) | (simp [*]; done)), H', ⟨by have := HJ5.out; have := HJ10.out; have := HJ18.out; have := HK4.out; omega⟩, ⟨by (with_reducible repeat (first | apply Kd.N_alloc | apply Kd.N_drewN | apply Kd.N_drew)); exact Kd.N_mono HO_9.out (fun _ hk => trivial)⟩, ⟨by repeat (first | (with_reducible first | exact HB.out | apply below_alloc | apply pw_below_drewN | apply below_drew1) | exact HB.out)⟩⟩
                                · replace c31 := Bool.eq_false_iff.mpr c31
                                  subst c31
                                  have H1 : (some false) = some r := by rw [if_neg (show ¬ (false = true) by decide)] at H; exact H
                                  clear H
                                  have H := H1
                                  clear H1
                                  exact absurd (H.trans (congrArg some HRT.out)) (by simp)
                              · rw [if_neg c28] at H
                                exact absurd H (by simp)
                            · rw [if_neg c27] at H
                              exact absurd H (by simp)
                          · rw [if_neg c26] at H
                            have c26b0 : decide (x10_4 < a2) = false := decide_eq_false c26
                            clear c26
                            obtain rfl := Option.some.inj H
                            go_wp2
                            go_ret
                            exact ⟨by first | rfl | (simp [errW_none, errW_some] <;> rfl) | (simp [*, errW_none, errW_some] <;> rfl), by repeat (first | (with_reducible first | exact HB.out | apply below_alloc | apply pw_below_drewN | apply below_drew1) | exact HB.out)⟩
                    · rw [if_neg c24] at H
                      have c24b0 : ((t134.length : Int) == a2) = false := beq_eq_false_iff_ne.mpr c24
                      have c24b1 : ((t134.length : Int) != a2) = true := bne_iff_ne.mpr c24
                      exact absurd (H.trans (congrArg some HRT.out)) (by simp)

end Go.Proofs.Ytemjjhpdpdlbnaa.QShardTells
