-- Printed by a program of this session (wip/tools/myprint.sh) in the form of print.sh: Clone's contract is proved by hand
import Derived.Test.YtemjjhpdpdlbnaaQShardJoinsx0
import Derived.Test.YtemjjhpdpdlbnaaQShardJoinsx1
namespace Go.Proofs.Ytemjjhpdpdlbnaa.QShardJoins
open Go.RowKit Go.Proofs.YtemjjhpdpdlbnaaW.PrintWords Go.Proofs.YtemjjhpdpdlbnaaW.PrintLast Go.Proofs.YtemjjhpdpdlbnaaW.PrintMore
attribute [local go_sem] max2_int min2_int max_two min_two max_three min_three max_four min_four   -- for this text's walks alone
set_option linter.unusedVariables false
set_option linter.unusedSimpArgs false

/-! ### postroomlaw13_ShardJoins: function 7 -/
mutual
def postroomlaw13_ShardJoins.j0 : Nat → List ByteArray → List ByteArray → Int → Bool → Bool → Option (Bool)
  | 0, _, _, _, _, _ => none
  | k + 1, x0, x1, x2, x7, x31 => if x31 = true then (some x7) else ((postroomlaw13_pick.f x2 8).bind fun t125 => ((shard_Split.f x0 (wrap64 (1 + t125))).bind fun t126 => ((shard_Split.f x1 (wrap64 (1 + t125))).bind fun t129 => ((some (([] : List ByteArray) : List ByteArray)).bind fun y132 => (if y132.length + x0.length < 8796093022208 then ((some (y132 ++ x0 : List ByteArray)).bind fun y135 => (if y135.length + x1.length < 8796093022208 then ((shard_Split.f (y135 ++ x1) (wrap64 (1 + t125))).bind fun t141 => (if (t126.length : Int) = (wrap64 (1 + t125)) then (if (t129.length : Int) = (wrap64 (1 + t125)) then (postroomlaw13_ShardJoins.j1 k x0 (wrap64 (1 + t125)) t126 t129 t141 ((t141.length : Int) != (wrap64 (1 + t125)))) else (postroomlaw13_ShardJoins.j1 k x0 (wrap64 (1 + t125)) t126 t129 t141 true)) else (postroomlaw13_ShardJoins.j1 k x0 (wrap64 (1 + t125)) t126 t129 t141 true))) else (none))) else (none))))))
def postroomlaw13_ShardJoins.j1 : Nat → List ByteArray → Int → List (List Int) → List (List Int) → List (List Int) → Bool → Option (Bool)
  | 0, _, _, _, _, _, _ => none
  | k + 1, x0, x10, x11, x12, x13, x64 => if x64 = true then (some false) else (postroomlaw13_ShardJoins.l0 k x0 x10 x11 x12 x13 0)
def postroomlaw13_ShardJoins.l0 : Nat → List ByteArray → Int → List (List Int) → List (List Int) → List (List Int) → Int → Option (Bool)
  | 0, _, _, _, _, _, _ => none
  | k + 1, x0, x10, x11, x12, x13, x14 => if x14 < x10 then ((some (([] : List Int) : List Int)).bind fun y144 => (if 0 ≤ x14 then (if x14 < (x11.length : Int) then (if y144.length + (rd_L1 x11 x14).length < 17592186044416 then (postroomlaw13_ShardJoins.l1 k x0 x10 x11 x12 x13 x14 (y144 ++ (rd_L1 x11 x14)) 0) else (none)) else (none)) else (none))) else (some true)
def postroomlaw13_ShardJoins.l1 : Nat → List ByteArray → Int → List (List Int) → List (List Int) → List (List Int) → Int → List Int → Int → Option (Bool)
  | 0, _, _, _, _, _, _, _, _ => none
  | k + 1, x0, x10, x11, x12, x13, x14, x15, x16 => if 0 ≤ x14 then (if x14 < (x12.length : Int) then (if x16 < ((rd_L1 x12 x14).length : Int) then (if 0 ≤ x16 then (if x15.length < 17592186044416 then (postroomlaw13_ShardJoins.l1 k x0 x10 x11 x12 x13 x14 (x15 ++ [wrap64 ((x0.length : Int) + (rd (rd_L1 x12 x14) x16))]) (wrap64 (x16 + 1))) else (none)) else (none)) else (if x14 < (x13.length : Int) then ((postroomref13_Same.f k (rd_L1 x13 x14) x15).bind fun t158 => (if t158 = true then (postroomlaw13_ShardJoins.l0 k x0 x10 x11 x12 x13 (wrap64 (x14 + 1))) else (some false))) else (none))) else (none)) else (none)
end
def postroomlaw13_ShardJoins.f (k : Nat) (l0 : List ByteArray) (l1 : List ByteArray) (a2 : Int) : Option (Bool) := (postroomlaw13_shown.f k).bind fun t122 => ((postroomlaw13_few.f k l0).bind fun t123 => ((postroomlaw13_few.f k l1).bind fun t124 => (if t122 = true then (if t123 = true then (postroomlaw13_ShardJoins.j0 k l0 l1 a2 t122 (!t124)) else (postroomlaw13_ShardJoins.j0 k l0 l1 a2 t122 true)) else (postroomlaw13_ShardJoins.j0 k l0 l1 a2 t122 true))))
theorem postroomlaw13_ShardJoins.mono_l : ∀ k, (∀ y0 y1 y2 y3 y4, LeO (postroomlaw13_ShardJoins.j0 k y0 y1 y2 y3 y4) (postroomlaw13_ShardJoins.j0 (k + 1) y0 y1 y2 y3 y4)) ∧ (∀ y0 y1 y2 y3 y4 y5, LeO (postroomlaw13_ShardJoins.j1 k y0 y1 y2 y3 y4 y5) (postroomlaw13_ShardJoins.j1 (k + 1) y0 y1 y2 y3 y4 y5)) ∧ (∀ y0 y1 y2 y3 y4 y5, LeO (postroomlaw13_ShardJoins.l0 k y0 y1 y2 y3 y4 y5) (postroomlaw13_ShardJoins.l0 (k + 1) y0 y1 y2 y3 y4 y5)) ∧ (∀ y0 y1 y2 y3 y4 y5 y6 y7, LeO (postroomlaw13_ShardJoins.l1 k y0 y1 y2 y3 y4 y5 y6 y7) (postroomlaw13_ShardJoins.l1 (k + 1) y0 y1 y2 y3 y4 y5 y6 y7))
  | 0 => ⟨fun _ _ _ _ _ r h => by simp [postroomlaw13_ShardJoins.j0] at h, fun _ _ _ _ _ _ r h => by simp [postroomlaw13_ShardJoins.j1] at h, fun _ _ _ _ _ _ r h => by simp [postroomlaw13_ShardJoins.l0] at h, fun _ _ _ _ _ _ _ _ r h => by simp [postroomlaw13_ShardJoins.l1] at h⟩
  | k + 1 => by
    obtain ⟨ih0, ih1, ih2, ih3⟩ := postroomlaw13_ShardJoins.mono_l k
    refine ⟨?_, ?_, ?_, ?_⟩
    · intro y0 y1 y2 y3 y4
      unfold postroomlaw13_ShardJoins.j0
      repeat' first
      | (with_reducible exact ih0 _ _ _ _ _)
      | (with_reducible exact ih1 _ _ _ _ _ _)
      | (with_reducible exact ih2 _ _ _ _ _ _)
      | (with_reducible exact ih3 _ _ _ _ _ _ _ _)
      | (with_reducible exact postroomlaw13_few.mono _ _)
      | (with_reducible exact postroomlaw13_shown.mono _)
      | (with_reducible exact postroomref13_Same.mono _ _ _)
      | (with_reducible exact LeO.refl _)
      | (with_reducible exact LeO.none _)
      | (with_reducible refine LeO.ite ?_ ?_)
      | (with_reducible refine LeO.bind ?_ (fun _ => ?_))
      | exact ih0 _ _ _ _ _
      | exact ih1 _ _ _ _ _ _
      | exact ih2 _ _ _ _ _ _
      | exact ih3 _ _ _ _ _ _ _ _
      | exact postroomlaw13_few.mono _ _
      | exact postroomlaw13_shown.mono _
      | exact postroomref13_Same.mono _ _ _
      | exact LeO.none _
      | refine LeO.ite ?_ ?_
      | refine LeO.bind ?_ (fun _ => ?_)
    · intro y0 y1 y2 y3 y4 y5
      unfold postroomlaw13_ShardJoins.j1
      repeat' first
      | (with_reducible exact ih0 _ _ _ _ _)
      | (with_reducible exact ih1 _ _ _ _ _ _)
      | (with_reducible exact ih2 _ _ _ _ _ _)
      | (with_reducible exact ih3 _ _ _ _ _ _ _ _)
      | (with_reducible exact postroomlaw13_few.mono _ _)
      | (with_reducible exact postroomlaw13_shown.mono _)
      | (with_reducible exact postroomref13_Same.mono _ _ _)
      | (with_reducible exact LeO.refl _)
      | (with_reducible exact LeO.none _)
      | (with_reducible refine LeO.ite ?_ ?_)
      | (with_reducible refine LeO.bind ?_ (fun _ => ?_))
      | exact ih0 _ _ _ _ _
      | exact ih1 _ _ _ _ _ _
      | exact ih2 _ _ _ _ _ _
      | exact ih3 _ _ _ _ _ _ _ _
      | exact postroomlaw13_few.mono _ _
      | exact postroomlaw13_shown.mono _
      | exact postroomref13_Same.mono _ _ _
      | exact LeO.none _
      | refine LeO.ite ?_ ?_
      | refine LeO.bind ?_ (fun _ => ?_)
    · intro y0 y1 y2 y3 y4 y5
      unfold postroomlaw13_ShardJoins.l0
      repeat' first
      | (with_reducible exact ih0 _ _ _ _ _)
      | (with_reducible exact ih1 _ _ _ _ _ _)
      | (with_reducible exact ih2 _ _ _ _ _ _)
      | (with_reducible exact ih3 _ _ _ _ _ _ _ _)
      | (with_reducible exact postroomlaw13_few.mono _ _)
      | (with_reducible exact postroomlaw13_shown.mono _)
      | (with_reducible exact postroomref13_Same.mono _ _ _)
      | (with_reducible exact LeO.refl _)
      | (with_reducible exact LeO.none _)
      | (with_reducible refine LeO.ite ?_ ?_)
      | (with_reducible refine LeO.bind ?_ (fun _ => ?_))
      | exact ih0 _ _ _ _ _
      | exact ih1 _ _ _ _ _ _
      | exact ih2 _ _ _ _ _ _
      | exact ih3 _ _ _ _ _ _ _ _
      | exact postroomlaw13_few.mono _ _
      | exact postroomlaw13_shown.mono _
      | exact postroomref13_Same.mono _ _ _
      | exact LeO.none _
      | refine LeO.ite ?_ ?_
      | refine LeO.bind ?_ (fun _ => ?_)
    · intro y0 y1 y2 y3 y4 y5 y6 y7
      unfold postroomlaw13_ShardJoins.l1
      repeat' first
      | (with_reducible exact ih0 _ _ _ _ _)
      | (with_reducible exact ih1 _ _ _ _ _ _)
      | (with_reducible exact ih2 _ _ _ _ _ _)
      | (with_reducible exact ih3 _ _ _ _ _ _ _ _)
      | (with_reducible exact postroomlaw13_few.mono _ _)
      | (with_reducible exact postroomlaw13_shown.mono _)
      | (with_reducible exact postroomref13_Same.mono _ _ _)
      | (with_reducible exact LeO.refl _)
      | (with_reducible exact LeO.none _)
      | (with_reducible refine LeO.ite ?_ ?_)
      | (with_reducible refine LeO.bind ?_ (fun _ => ?_))
      | exact ih0 _ _ _ _ _
      | exact ih1 _ _ _ _ _ _
      | exact ih2 _ _ _ _ _ _
      | exact ih3 _ _ _ _ _ _ _ _
      | exact postroomlaw13_few.mono _ _
      | exact postroomlaw13_shown.mono _
      | exact postroomref13_Same.mono _ _ _
      | exact LeO.none _
      | refine LeO.ite ?_ ?_
      | refine LeO.bind ?_ (fun _ => ?_)
theorem postroomlaw13_ShardJoins.mono : ∀ a0 a1 a2 k, LeO (postroomlaw13_ShardJoins.f k a0 a1 a2) (postroomlaw13_ShardJoins.f (k + 1) a0 a1 a2) := by
  intro a0 a1 a2 k
  obtain ⟨ih0, ih1, ih2, ih3⟩ := postroomlaw13_ShardJoins.mono_l k
  unfold postroomlaw13_ShardJoins.f
  repeat' first
      | (with_reducible exact ih0 _ _ _ _ _)
      | (with_reducible exact ih1 _ _ _ _ _ _)
      | (with_reducible exact ih2 _ _ _ _ _ _)
      | (with_reducible exact ih3 _ _ _ _ _ _ _ _)
      | (with_reducible exact postroomlaw13_few.mono _ _)
      | (with_reducible exact postroomlaw13_shown.mono _)
      | (with_reducible exact postroomref13_Same.mono _ _ _)
      | (with_reducible exact LeO.refl _)
      | (with_reducible exact LeO.none _)
      | (with_reducible refine LeO.ite ?_ ?_)
      | (with_reducible refine LeO.bind ?_ (fun _ => ?_))
      | exact ih0 _ _ _ _ _
      | exact ih1 _ _ _ _ _ _
      | exact ih2 _ _ _ _ _ _
      | exact ih3 _ _ _ _ _ _ _ _
      | exact postroomlaw13_few.mono _ _
      | exact postroomlaw13_shown.mono _
      | exact postroomref13_Same.mono _ _ _
      | exact LeO.none _
      | refine LeO.ite ?_ ?_
      | refine LeO.bind ?_ (fun _ => ?_)
set_option maxHeartbeats 8000000 in
set_option maxRecDepth 100000 in
theorem postroomlaw13_ShardJoins.calls (k : Nat) (A0 : Option Addr) (c0 : Nat) (l0 : List ByteArray) (A1 : Option Addr) (c1 : Nat) (l1 : List ByteArray) (a2 : Int) (r : Bool) (w : World) (hr0 : Kd.C Kd.string w A0 l0.length l0) (hc0 : l0.length ≤ c0) (hr1 : Kd.C Kd.string w A1 l1.length l1) (hc1 : l1.length ≤ c1) (h : postroomlaw13_ShardJoins.f k l0 l1 a2 = some r) (hrt : r = true) :
    Calls Try.prog 7 #[.slice A0 l0.length c0, .slice A1 l1.length c1, .int .i64 a2] w fun e w' => e = .returned (.bool r) ∧ Below w.heap.size w w' := by
  have HRT := Aside0.mk hrt
  clear hrt
  have HR0 := Aside0.mk hr0
  have HC0 := Aside0.mk hc0
  clear hr0 hc0
  have HR1 := Aside0.mk hr1
  have HC1 := Aside0.mk hc1
  clear hr1 hc1
  have HB := Aside0.mk (Below.refl w.heap.size w)
  have H : ((postroomlaw13_shown.f k).bind fun t122 => ((postroomlaw13_few.f k l0).bind fun t123 => ((postroomlaw13_few.f k l1).bind fun t124 => (if t122 = true then (if t123 = true then (postroomlaw13_ShardJoins.j0 k l0 l1 a2 t122 (!t124)) else (postroomlaw13_ShardJoins.j0 k l0 l1 a2 t122 true)) else (postroomlaw13_ShardJoins.j0 k l0 l1 a2 t122 true))))) = some r := h
  clear h
  replace H := Option.bind_eq_some_iff.mp H
  obtain ⟨t122, A40, H⟩ := H
  replace H : ((postroomlaw13_few.f k l0).bind fun t123 => ((postroomlaw13_few.f k l1).bind fun t124 => (if t122 = true then (if t123 = true then (postroomlaw13_ShardJoins.j0 k l0 l1 a2 t122 (!t124)) else (postroomlaw13_ShardJoins.j0 k l0 l1 a2 t122 true)) else (postroomlaw13_ShardJoins.j0 k l0 l1 a2 t122 true)))) = some r := H
  have A4 := Aside0.mk A40
  clear A40
  replace H := Option.bind_eq_some_iff.mp H
  obtain ⟨t123, A50, H⟩ := H
  replace H : ((postroomlaw13_few.f k l1).bind fun t124 => (if t122 = true then (if t123 = true then (postroomlaw13_ShardJoins.j0 k l0 l1 a2 t122 (!t124)) else (postroomlaw13_ShardJoins.j0 k l0 l1 a2 t122 true)) else (postroomlaw13_ShardJoins.j0 k l0 l1 a2 t122 true))) = some r := H
  have A5 := Aside0.mk A50
  clear A50
  replace H := Option.bind_eq_some_iff.mp H
  obtain ⟨t124, A60, H⟩ := H
  replace H : (if t122 = true then (if t123 = true then (postroomlaw13_ShardJoins.j0 k l0 l1 a2 t122 (!t124)) else (postroomlaw13_ShardJoins.j0 k l0 l1 a2 t122 true)) else (postroomlaw13_ShardJoins.j0 k l0 l1 a2 t122 true)) = some r := H
  have A6 := Aside0.mk A60
  clear A60
  have HC7 := Aside0.mk H
  clear H
  go_enter Try.func7, Try.ntmps7
  go_upto_region 4 with (first | ((with_reducible refine gate_callee (f := 8) rfl ?_); refine goesL_ (some 17) rfl rfl Try.func8 (by kernel_rfl) rfl #[] rfl (by (try simp only [List.map_toArray, List.map_cons, List.map_nil]); first | done | rfl | (simp only [List.length_drop, List.length_take]; rfl)) ?_; (with_reducible refine (postroomlaw13_shown.calls k  t122 _ A4.out).mono ?_); rintro e w8 ⟨rfl, hb⟩; refine ⟨_, rfl, ?_⟩; have n0_ := Aside0.mk (below_step (by repeat (first | (with_reducible first | exact HB.out | apply below_alloc | apply pw_below_drewN | apply below_drew1) | exact HB.out)) hb); clear HB; have HB := n0_; clear n0_; (try clear hb); (try clear hb2); (try clear hk); (try clear hi)) | ((with_reducible refine gate_callee (f := 9) rfl ?_); refine goesL_ (some 19) rfl rfl Try.func9 (by kernel_rfl) rfl #[.slice A0 l0.length c0] rfl (by (try simp only [List.map_toArray, List.map_cons, List.map_nil]); first | done | rfl | (simp only [List.length_drop, List.length_take]; rfl)) ?_; (with_reducible refine (postroomlaw13_few.calls k _ _ l0 t123 _ ?side1 ?side2 A5.out).mono ?_); (case side1 => repeat (first | exact (Kd.C_below HR0.out HB.out) | (with_reducible refine Kd.C_alloc ?_ _) | (with_reducible refine Kd.C_drewN ?_ _) | (with_reducible refine Kd.C_drew ?_))); (case side2 => exact HC0.out); rintro e w' ⟨rfl, ⟨nd, rfl⟩⟩; refine ⟨_, rfl, ?_⟩) | ((with_reducible refine gate_callee (f := 9) rfl ?_); refine goesL_ (some 21) rfl rfl Try.func9 (by kernel_rfl) rfl #[.slice A1 l1.length c1] rfl (by (try simp only [List.map_toArray, List.map_cons, List.map_nil]); first | done | rfl | (simp only [List.length_drop, List.length_take]; rfl)) ?_; (with_reducible refine (postroomlaw13_few.calls k _ _ l1 t124 _ ?side1 ?side2 A6.out).mono ?_); (case side1 => repeat (first | exact (Kd.C_below HR1.out (by repeat (first | (with_reducible first | exact HB.out | apply below_alloc | apply pw_below_drewN | apply below_drew1) | exact HB.out))) | (with_reducible refine Kd.C_alloc ?_ _) | (with_reducible refine Kd.C_drewN ?_ _) | (with_reducible refine Kd.C_drew ?_))); (case side2 => exact HC1.out); rintro e w' ⟨rfl, ⟨nd, rfl⟩⟩; refine ⟨_, rfl, ?_⟩))
  (try simp only [Act.put, List.setIfInBounds_toArray, List.set_cons_zero, List.set_cons_succ])
  go_cut [31] (fun v31 wc => ∃ (kq : Nat) (x31_6 : Bool), v31 = .bool x31_6 ∧ Aside0 (postroomlaw13_ShardJoins.j0 kq l0 l1 a2 t122 x31_6 = some r) ∧ Aside0 (kq ≤ k) ∧ Aside0 (Below w.heap.size w wc))
  case first =>
    have H := HC7.out
    clear HC7
    by_cases c9 : t122 = true
    · subst c9
      have H1 : (if t123 = true then (postroomlaw13_ShardJoins.j0 k l0 l1 a2 true (!t124)) else (postroomlaw13_ShardJoins.j0 k l0 l1 a2 true true)) = some r := by rw [if_pos rfl] at H; exact H
      clear H
      have H := H1
      clear H1
      by_cases c10 : t123 = true
      · subst c10
        have H1 : (postroomlaw13_ShardJoins.j0 k l0 l1 a2 true (!t124)) = some r := by rw [if_pos rfl] at H; exact H
        clear H
        have H := H1
        clear H1
        have H' := Aside0.mk H
        clear H
        go_wp2
        go_meet
        case rel => exact ⟨_, (!t124), (by first | rfl | (simp; done) | (simp [*]; done)), H', ⟨by first | omega | exact Nat.le_refl _⟩, ⟨by repeat (first | (with_reducible first | exact HB.out | apply below_alloc | apply pw_below_drewN | apply below_drew1) | exact HB.out)⟩⟩
      · replace c10 := Bool.eq_false_iff.mpr c10
        subst c10
        have H1 : (postroomlaw13_ShardJoins.j0 k l0 l1 a2 true true) = some r := by rw [if_neg (show ¬ (false = true) by decide)] at H; exact H
        clear H
        have H := H1
        clear H1
        have H' := Aside0.mk H
        clear H
        go_wp2
        go_meet
        case rel => exact ⟨_, (true), (by first | rfl | (simp; done) | (simp [*]; done)), H', ⟨by first | omega | exact Nat.le_refl _⟩, ⟨by repeat (first | (with_reducible first | exact HB.out | apply below_alloc | apply pw_below_drewN | apply below_drew1) | exact HB.out)⟩⟩
    · replace c9 := Bool.eq_false_iff.mpr c9
      subst c9
      have H1 : (postroomlaw13_ShardJoins.j0 k l0 l1 a2 false true) = some r := by rw [if_neg (show ¬ (false = true) by decide)] at H; exact H
      clear H
      have H := H1
      clear H1
      have H' := Aside0.mk H
      clear H
      go_wp2
      go_meet
      case rel => exact ⟨_, (true), (by first | rfl | (simp; done) | (simp [*]; done)), H', ⟨by first | omega | exact Nat.le_refl _⟩, ⟨by repeat (first | (with_reducible first | exact HB.out | apply below_alloc | apply pw_below_drewN | apply below_drew1) | exact HB.out)⟩⟩
  case rest =>
    clear HC7
    try clear c1
    try clear p2
    try clear c7
    try clear c8
    try clear c9
    try clear c10
    obtain ⟨kq, x31_6, rfl, HA, HJ6, HB⟩ := hcut
    cases kq with
    | zero => exact absurd HA.out (by simp [postroomlaw13_ShardJoins.j0])
    | succ kj6 =>
      have H := HA.out
      clear HA
      simp only [postroomlaw13_ShardJoins.j0] at H
      by_cases c11 : x31_6 = true
      · subst c11
        have H1 : (some t122) = some r := by rw [if_pos rfl] at H; exact H
        clear H
        have H := H1
        clear H1
        obtain rfl := Option.some.inj H
        go_wp2
        go_ret
        exact ⟨by first | rfl | (simp [errW_none, errW_some] <;> rfl) | (simp [*, errW_none, errW_some] <;> rfl), by repeat (first | (with_reducible first | exact HB.out | apply below_alloc | apply pw_below_drewN | apply below_drew1) | exact HB.out)⟩
      · replace c11 := Bool.eq_false_iff.mpr c11
        subst c11
        have H1 : ((postroomlaw13_pick.f a2 8).bind fun t125 => ((shard_Split.f l0 (wrap64 (1 + t125))).bind fun t126 => ((shard_Split.f l1 (wrap64 (1 + t125))).bind fun t129 => ((some (([] : List ByteArray) : List ByteArray)).bind fun y132 => (if y132.length + l0.length < 8796093022208 then ((some (y132 ++ l0 : List ByteArray)).bind fun y135 => (if y135.length + l1.length < 8796093022208 then ((shard_Split.f (y135 ++ l1) (wrap64 (1 + t125))).bind fun t141 => (if (t126.length : Int) = (wrap64 (1 + t125)) then (if (t129.length : Int) = (wrap64 (1 + t125)) then (postroomlaw13_ShardJoins.j1 kj6 l0 (wrap64 (1 + t125)) t126 t129 t141 ((t141.length : Int) != (wrap64 (1 + t125)))) else (postroomlaw13_ShardJoins.j1 kj6 l0 (wrap64 (1 + t125)) t126 t129 t141 true)) else (postroomlaw13_ShardJoins.j1 kj6 l0 (wrap64 (1 + t125)) t126 t129 t141 true))) else (none))) else (none)))))) = some r := by rw [if_neg (show ¬ (false = true) by decide)] at H; exact H
        clear H
        have H := H1
        clear H1
        replace H := Option.bind_eq_some_iff.mp H
        obtain ⟨t125, A120, H⟩ := H
        replace H : ((shard_Split.f l0 (wrap64 (1 + t125))).bind fun t126 => ((shard_Split.f l1 (wrap64 (1 + t125))).bind fun t129 => ((some (([] : List ByteArray) : List ByteArray)).bind fun y132 => (if y132.length + l0.length < 8796093022208 then ((some (y132 ++ l0 : List ByteArray)).bind fun y135 => (if y135.length + l1.length < 8796093022208 then ((shard_Split.f (y135 ++ l1) (wrap64 (1 + t125))).bind fun t141 => (if (t126.length : Int) = (wrap64 (1 + t125)) then (if (t129.length : Int) = (wrap64 (1 + t125)) then (postroomlaw13_ShardJoins.j1 kj6 l0 (wrap64 (1 + t125)) t126 t129 t141 ((t141.length : Int) != (wrap64 (1 + t125)))) else (postroomlaw13_ShardJoins.j1 kj6 l0 (wrap64 (1 + t125)) t126 t129 t141 true)) else (postroomlaw13_ShardJoins.j1 kj6 l0 (wrap64 (1 + t125)) t126 t129 t141 true))) else (none))) else (none))))) = some r := H
        have A12 := Aside0.mk A120
        clear A120
        replace H := Option.bind_eq_some_iff.mp H
        obtain ⟨t126, A130, H⟩ := H
        replace H : ((shard_Split.f l1 (wrap64 (1 + t125))).bind fun t129 => ((some (([] : List ByteArray) : List ByteArray)).bind fun y132 => (if y132.length + l0.length < 8796093022208 then ((some (y132 ++ l0 : List ByteArray)).bind fun y135 => (if y135.length + l1.length < 8796093022208 then ((shard_Split.f (y135 ++ l1) (wrap64 (1 + t125))).bind fun t141 => (if (t126.length : Int) = (wrap64 (1 + t125)) then (if (t129.length : Int) = (wrap64 (1 + t125)) then (postroomlaw13_ShardJoins.j1 kj6 l0 (wrap64 (1 + t125)) t126 t129 t141 ((t141.length : Int) != (wrap64 (1 + t125)))) else (postroomlaw13_ShardJoins.j1 kj6 l0 (wrap64 (1 + t125)) t126 t129 t141 true)) else (postroomlaw13_ShardJoins.j1 kj6 l0 (wrap64 (1 + t125)) t126 t129 t141 true))) else (none))) else (none)))) = some r := H
        have A13 := Aside0.mk A130
        clear A130
        replace H := Option.bind_eq_some_iff.mp H
        obtain ⟨t129, A140, H⟩ := H
        replace H : ((some (([] : List ByteArray) : List ByteArray)).bind fun y132 => (if y132.length + l0.length < 8796093022208 then ((some (y132 ++ l0 : List ByteArray)).bind fun y135 => (if y135.length + l1.length < 8796093022208 then ((shard_Split.f (y135 ++ l1) (wrap64 (1 + t125))).bind fun t141 => (if (t126.length : Int) = (wrap64 (1 + t125)) then (if (t129.length : Int) = (wrap64 (1 + t125)) then (postroomlaw13_ShardJoins.j1 kj6 l0 (wrap64 (1 + t125)) t126 t129 t141 ((t141.length : Int) != (wrap64 (1 + t125)))) else (postroomlaw13_ShardJoins.j1 kj6 l0 (wrap64 (1 + t125)) t126 t129 t141 true)) else (postroomlaw13_ShardJoins.j1 kj6 l0 (wrap64 (1 + t125)) t126 t129 t141 true))) else (none))) else (none))) = some r := H
        have A14 := Aside0.mk A140
        clear A140
        obtain ⟨y132, hy132⟩ : ∃ y_ : List ByteArray, y_ = (([] : List ByteArray)) := ⟨_, rfl⟩
        replace H : (if y132.length + l0.length < 8796093022208 then ((some (y132 ++ l0 : List ByteArray)).bind fun y135 => (if y135.length + l1.length < 8796093022208 then ((shard_Split.f (y135 ++ l1) (wrap64 (1 + t125))).bind fun t141 => (if (t126.length : Int) = (wrap64 (1 + t125)) then (if (t129.length : Int) = (wrap64 (1 + t125)) then (postroomlaw13_ShardJoins.j1 kj6 l0 (wrap64 (1 + t125)) t126 t129 t141 ((t141.length : Int) != (wrap64 (1 + t125)))) else (postroomlaw13_ShardJoins.j1 kj6 l0 (wrap64 (1 + t125)) t126 t129 t141 true)) else (postroomlaw13_ShardJoins.j1 kj6 l0 (wrap64 (1 + t125)) t126 t129 t141 true))) else (none))) else (none)) = some r := by first | (rw [hy132]; with_reducible exact H) | (have H2_ := (Option.bind_some _ _).symm.trans H; rw [hy132]; with_reducible exact H2_) | (have H2_ := (Option.bind_some _ _).symm.trans H; with_reducible exact H2_) | with_reducible exact H | (rw [hy132]; exact H) | exact H
        have Ny132 := Aside0.mk hy132
        clear hy132
        by_cases c15 : y132.length + l0.length < 8796093022208
        · rw [if_pos c15] at H
          have LMc15 := Aside0.mk c15
          clear c15
          obtain ⟨y135, hy135⟩ : ∃ y_ : List ByteArray, y_ = (y132 ++ l0) := ⟨_, rfl⟩
          replace H : (if y135.length + l1.length < 8796093022208 then ((shard_Split.f (y135 ++ l1) (wrap64 (1 + t125))).bind fun t141 => (if (t126.length : Int) = (wrap64 (1 + t125)) then (if (t129.length : Int) = (wrap64 (1 + t125)) then (postroomlaw13_ShardJoins.j1 kj6 l0 (wrap64 (1 + t125)) t126 t129 t141 ((t141.length : Int) != (wrap64 (1 + t125)))) else (postroomlaw13_ShardJoins.j1 kj6 l0 (wrap64 (1 + t125)) t126 t129 t141 true)) else (postroomlaw13_ShardJoins.j1 kj6 l0 (wrap64 (1 + t125)) t126 t129 t141 true))) else (none)) = some r := by first | (rw [hy135]; with_reducible exact H) | (have H2_ := (Option.bind_some _ _).symm.trans H; rw [hy135]; with_reducible exact H2_) | (have H2_ := (Option.bind_some _ _).symm.trans H; with_reducible exact H2_) | with_reducible exact H | (rw [hy135]; exact H) | exact H
          have Ny135 := Aside0.mk hy135
          clear hy135
          by_cases c16 : y135.length + l1.length < 8796093022208
          · rw [if_pos c16] at H
            have LMc16 := Aside0.mk c16
            clear c16
            obtain ⟨y138, hy138⟩ : ∃ y_ : List ByteArray, y_ = (y135 ++ l1) := ⟨_, rfl⟩
            replace H : ((shard_Split.f y138 (wrap64 (1 + t125))).bind fun t141 => (if (t126.length : Int) = (wrap64 (1 + t125)) then (if (t129.length : Int) = (wrap64 (1 + t125)) then (postroomlaw13_ShardJoins.j1 kj6 l0 (wrap64 (1 + t125)) t126 t129 t141 ((t141.length : Int) != (wrap64 (1 + t125)))) else (postroomlaw13_ShardJoins.j1 kj6 l0 (wrap64 (1 + t125)) t126 t129 t141 true)) else (postroomlaw13_ShardJoins.j1 kj6 l0 (wrap64 (1 + t125)) t126 t129 t141 true))) = some r := by first | (rw [hy138]; with_reducible exact H) | (have H2_ := (Option.bind_some _ _).symm.trans H; rw [hy138]; with_reducible exact H2_) | (have H2_ := (Option.bind_some _ _).symm.trans H; with_reducible exact H2_) | with_reducible exact H | (rw [hy138]; exact H) | exact H
            have Ny138 := Aside0.mk hy138
            clear hy138
            replace H := Option.bind_eq_some_iff.mp H
            obtain ⟨t141, A170, H⟩ := H
            replace H : (if (t126.length : Int) = (wrap64 (1 + t125)) then (if (t129.length : Int) = (wrap64 (1 + t125)) then (postroomlaw13_ShardJoins.j1 kj6 l0 (wrap64 (1 + t125)) t126 t129 t141 ((t141.length : Int) != (wrap64 (1 + t125)))) else (postroomlaw13_ShardJoins.j1 kj6 l0 (wrap64 (1 + t125)) t126 t129 t141 true)) else (postroomlaw13_ShardJoins.j1 kj6 l0 (wrap64 (1 + t125)) t126 t129 t141 true)) = some r := H
            have A17 := Aside0.mk A170
            clear A170
            have HC18 := Aside0.mk H
            clear H
            go_upto_region 10 with (first | ((with_reducible refine gate_callee (f := 17) rfl ?_); refine goesL_ (some 34) rfl rfl Try.func17 (by kernel_rfl) rfl #[.int .i64 a2, .int .i64 8] rfl (by (try simp only [List.map_toArray, List.map_cons, List.map_nil]); first | done | rfl | (simp only [List.length_drop, List.length_take]; rfl)) ?_; (with_reducible refine (postroomlaw13_pick.calls a2 8 t125 _ A12.out).mono ?_); rintro e w' ⟨rfl, ⟨nd, rfl⟩⟩; refine ⟨_, rfl, ?_⟩) | ((with_reducible refine gate_callee (f := 14) rfl ?_); refine goesL_ (some 38) rfl rfl Try.func14 (by kernel_rfl) rfl #[.slice A0 l0.length c0, .int .i64 (wrap64 (1 + t125))] rfl (by (try simp only [List.map_toArray, List.map_cons, List.map_nil]); first | done | rfl | (simp only [List.length_drop, List.length_take]; rfl)) ?_; (with_reducible refine (shard_Split.calls _ _ l0 (wrap64 (1 + t125)) t126 _ ?side1 ?side2 A13.out).mono ?_); (case side1 => repeat (first | exact (Kd.C_below HR0.out (by repeat (first | (with_reducible first | exact HB.out | apply below_alloc | apply pw_below_drewN | apply below_drew1) | exact HB.out))) | (with_reducible refine Kd.C_alloc ?_ _) | (with_reducible refine Kd.C_drewN ?_ _) | (with_reducible refine Kd.C_drew ?_))); (case side2 => exact HC0.out); rintro e w19 ⟨v127, rfl, ho0, hb⟩; refine ⟨_, rfl, ?_⟩; have n0_ := Aside0.mk (Kd.N_lower (Kd.N_mono (ok' := fun k_ => True) ho0 (fun k_ hk_ => trivial)) (below_size (by repeat (first | (with_reducible first | exact HB.out | apply below_alloc | apply pw_below_drewN | apply below_drew1) | exact HB.out)))); have n1_ := Aside0.mk (below_step (by repeat (first | (with_reducible first | exact HB.out | apply below_alloc | apply pw_below_drewN | apply below_drew1) | exact HB.out)) hb); clear HB; have HO128 := n0_; have HB := n1_; clear n0_ n1_; (try clear hb); (try clear hb2); (try clear hk); (try clear hi); (try clear ho0)) | ((with_reducible refine gate_callee (f := 14) rfl ?_); refine goesL_ (some 41) rfl rfl Try.func14 (by kernel_rfl) rfl #[.slice A1 l1.length c1, .int .i64 (wrap64 (1 + t125))] rfl (by (try simp only [List.map_toArray, List.map_cons, List.map_nil]); first | done | rfl | (simp only [List.length_drop, List.length_take]; rfl)) ?_; (with_reducible refine (shard_Split.calls _ _ l1 (wrap64 (1 + t125)) t129 _ ?side1 ?side2 A14.out).mono ?_); (case side1 => repeat (first | exact (Kd.C_below HR1.out HB.out) | (with_reducible refine Kd.C_alloc ?_ _) | (with_reducible refine Kd.C_drewN ?_ _) | (with_reducible refine Kd.C_drew ?_))); (case side2 => exact HC1.out); rintro e w20 ⟨v130, rfl, ho0, hb⟩; refine ⟨_, rfl, ?_⟩; have n0_ := Aside0.mk (Kd.N_elder' (by (with_reducible repeat (first | apply Kd.N_alloc | apply Kd.N_drewN | apply Kd.N_drew)); exact HO128.out) (Kd.N_base ho0) hb); have n1_ := Aside0.mk (Kd.N_lower (Kd.N_mono (ok' := fun k_ => some k_ ≠ (v127 : Value).ownBlock) ho0 (fun k_ hk_ => (Kd.fresh' (Kd.N_lt (by (with_reducible repeat (first | apply Kd.N_alloc | apply Kd.N_drewN | apply Kd.N_drew)); exact HO128.out)) k_ hk_))) (below_size (by repeat (first | (with_reducible first | exact HB.out | apply below_alloc | apply pw_below_drewN | apply below_drew1) | exact HB.out)))); have n2_ := Aside0.mk (below_step (by repeat (first | (with_reducible first | exact HB.out | apply below_alloc | apply pw_below_drewN | apply below_drew1) | exact HB.out)) hb); clear HO128; clear HB; have HO128 := n0_; have HO131 := n1_; have HB := n2_; clear n0_ n1_ n2_; (try clear hb); (try clear hb2); (try clear hk); (try clear hi); (try clear ho0)) | ((with_reducible refine gate_dst (N := 42) rfl ?_); (try (refine gate_guard (by rfl) ?_; dsimp only)); refine Kd.R_lit Kd.string _ 9 ?hg (N := 42) ?hd (xs := ([] : List ByteArray)) (inner := []) (ok := fun _ => True) (okp := fun _ => True) ?hr ?hp (fun _ hk => hk) trivial (Below.refl _ _) (Nat.le_refl _) (by simp) ?_; (case hd => rfl); (case hg => rfl); (case hr => first | (go_simp; done) | (go_simp; rfl)); (case hp => exact (Reps.none _ _)); intro v133 w21 ho22 hb hg_ hnew_; clear hg_ hnew_; (first | rw [← Ny132.out] at ho22 | (simp only [Int.reduceToNat] at ho22; rw [← Ny132.out] at ho22)); have n0_ := Aside0.mk (Kd.N_elder' (by (with_reducible repeat (first | apply Kd.N_alloc | apply Kd.N_drewN | apply Kd.N_drew)); exact HO128.out) (Kd.R_base ho22) hb); have n1_ := Aside0.mk (Kd.N_elder' (by (with_reducible repeat (first | apply Kd.N_alloc | apply Kd.N_drewN | apply Kd.N_drew)); exact HO131.out) (Kd.R_base ho22) hb); have n2_ := Aside0.mk (Kd.R_lower ho22 (below_size (by repeat (first | (with_reducible first | exact HB.out | apply below_alloc | apply pw_below_drewN | apply below_drew1) | exact HB.out)))); have n3_ := Aside0.mk (below_step (by repeat (first | (with_reducible first | exact HB.out | apply below_alloc | apply pw_below_drewN | apply below_drew1) | exact HB.out)) hb); clear HO128; clear HO131; clear HB; have HO128 := n0_; have HO131 := n1_; have HO134 := n2_; have HB := n3_; clear n0_ n1_ n2_ n3_; clear hb ho22) | ((with_reducible refine gate_builtin (b := .append) (xs := #[.tmp 42, .tmp 43]) rfl ?_); (try (refine gate_guard (by rfl) ?_; dsimp only)); at_builtin; refine Kd.R_append_rows Kd.string (w0 := w) w.heap.size rfl (.tmp 42) (.tmp 43) 22 9 (.string ⟨#[]⟩) 16 rfl Try.underlying22 info9 rfl (by decide) (by omega) v133 y132 l0 _ _ _ (fun _ => True) (fun _ => False) rfl rfl ?aO ?aR (fun _ _ h => h) (fun _ h => h.elim) ?aF ?aB ?aS ?aL ?_; (case aR => repeat (first | exact (Kd.C_below HR0.out HB.out) | (with_reducible refine Kd.C_alloc ?_ _) | (with_reducible refine Kd.C_drewN ?_ _) | (with_reducible refine Kd.C_drew ?_))); (case aB => exact (by repeat (first | (with_reducible first | exact HB.out | apply below_alloc | apply pw_below_drewN | apply below_drew1) | exact HB.out))); (case aF => exact (fun _ _ => trivial)); (case aO => exact (by (with_reducible repeat (first | apply Kd.R_alloc | apply Kd.R_drewN | apply Kd.R_drew)); exact HO134.out)); (case aS => exact (below_size (by repeat (first | (with_reducible first | exact HB.out | apply below_alloc | apply pw_below_drewN | apply below_drew1) | exact HB.out)))); (case aL => have := LMc15.out; omega); intro v136 w23 ho hb hg hat; rw [← Ny135.out] at ho; have n0_ := Aside0.mk (Kd.N_afterv (ok := (fun k_ => some k_ ≠ (v130 : Value).ownBlock)) (by (with_reducible repeat (first | apply Kd.N_alloc | apply Kd.N_drewN | apply Kd.N_drew)); exact Kd.N_mono HO128.out (fun _ hk => ⟨hk.1.2, hk.2⟩)) hg hat); have n1_ := Aside0.mk (Kd.N_afterv (ok := (fun k_ => some k_ ≠ (v127 : Value).ownBlock)) (by (with_reducible repeat (first | apply Kd.N_alloc | apply Kd.N_drewN | apply Kd.N_drew)); exact HO131.out) hg hat); have n2_ := Aside0.mk (hb); have n3_ := Aside0.mk (ho); clear HO128; clear HO131; clear HB; clear HO134; have HO128 := n0_; have HO131 := n1_; have HB := n2_; have HO137 := n3_; clear n0_ n1_ n2_ n3_; clear ho hb hg hat) | ((with_reducible refine gate_builtin (b := .append) (xs := #[.tmp 44, .tmp 45]) rfl ?_); (try (refine gate_guard (by rfl) ?_; dsimp only)); at_builtin; refine Kd.R_append_rows Kd.string (w0 := w) w.heap.size rfl (.tmp 44) (.tmp 45) 22 9 (.string ⟨#[]⟩) 16 rfl Try.underlying22 info9 rfl (by decide) (by omega) v136 y135 l1 _ _ _ (fun _ => True) (fun _ => False) rfl rfl ?aO ?aR (fun _ _ h => h) (fun _ h => h.elim) ?aF ?aB ?aS ?aL ?_; (case aR => repeat (first | exact (Kd.C_below HR1.out HB.out) | (with_reducible refine Kd.C_alloc ?_ _) | (with_reducible refine Kd.C_drewN ?_ _) | (with_reducible refine Kd.C_drew ?_))); (case aB => exact (by repeat (first | (with_reducible first | exact HB.out | apply below_alloc | apply pw_below_drewN | apply below_drew1) | exact HB.out))); (case aF => exact (fun _ _ => trivial)); (case aO => exact (by (with_reducible repeat (first | apply Kd.R_alloc | apply Kd.R_drewN | apply Kd.R_drew)); exact HO137.out)); (case aS => exact (below_size (by repeat (first | (with_reducible first | exact HB.out | apply below_alloc | apply pw_below_drewN | apply below_drew1) | exact HB.out)))); (case aL => have := LMc16.out; omega); intro v139 w24 ho hb hg hat; rw [← Ny138.out] at ho; have n0_ := Aside0.mk (Kd.N_afterv (ok := (fun k_ => some k_ ≠ (v130 : Value).ownBlock)) (by (with_reducible repeat (first | apply Kd.N_alloc | apply Kd.N_drewN | apply Kd.N_drew)); exact HO128.out) hg hat); have n1_ := Aside0.mk (Kd.N_afterv (ok := (fun k_ => some k_ ≠ (v127 : Value).ownBlock)) (by (with_reducible repeat (first | apply Kd.N_alloc | apply Kd.N_drewN | apply Kd.N_drew)); exact HO131.out) hg hat); have n2_ := Aside0.mk (hb); have n3_ := Aside0.mk (ho); clear HO128; clear HO131; clear HB; clear HO137; have HO128 := n0_; have HO131 := n1_; have HB := n2_; have HO140 := n3_; clear n0_ n1_ n2_ n3_; clear ho hb hg hat; obtain ⟨Ao25, co25, eo25⟩ := Kd.R_slice HO140.out; subst eo25) | ((with_reducible refine gate_callee (f := 14) rfl ?_); refine goesL_ (some 48) rfl rfl Try.func14 (by kernel_rfl) rfl #[.slice Ao25 y138.length co25, .int .i64 (wrap64 (1 + t125))] rfl (by (try simp only [List.map_toArray, List.map_cons, List.map_nil]); first | done | rfl | (simp only [List.length_drop, List.length_take]; rfl)) ?_; (with_reducible refine (shard_Split.calls _ _ y138 (wrap64 (1 + t125)) t141 _ ?side1 ?side2 A17.out).mono ?_); (case side1 => repeat (first | exact (Kd.R_reads' HO140.out).2.2 | (with_reducible refine Kd.C_alloc ?_ _) | (with_reducible refine Kd.C_drewN ?_ _) | (with_reducible refine Kd.C_drew ?_))); (case side2 => exact (Kd.R_reads' HO140.out).2.1); rintro e w26 ⟨v142, rfl, ho0, hb⟩; refine ⟨_, rfl, ?_⟩; have n0_ := Aside0.mk (Kd.N_elder' (by (with_reducible repeat (first | apply Kd.N_alloc | apply Kd.N_drewN | apply Kd.N_drew)); exact HO128.out) (Kd.N_base ho0) hb); have n1_ := Aside0.mk (Kd.N_elder' (by (with_reducible repeat (first | apply Kd.N_alloc | apply Kd.N_drewN | apply Kd.N_drew)); exact HO131.out) (Kd.N_base ho0) hb); have n2_ := Aside0.mk (Kd.R_below (by (with_reducible repeat (first | apply Kd.R_alloc | apply Kd.R_drewN | apply Kd.R_drew)); exact HO140.out) hb); have n3_ := Aside0.mk (Kd.N_lower (Kd.N_mono (ok' := fun k_ => some k_ ≠ (v127 : Value).ownBlock ∧ some k_ ≠ (v130 : Value).ownBlock ∧ some k_ ≠ (.slice Ao25 y138.length co25 : Value).ownBlock) ho0 (fun k_ hk_ => ⟨(Kd.fresh' (Kd.N_lt (by (with_reducible repeat (first | apply Kd.N_alloc | apply Kd.N_drewN | apply Kd.N_drew)); exact HO128.out)) k_ hk_), (Kd.fresh' (Kd.N_lt (by (with_reducible repeat (first | apply Kd.N_alloc | apply Kd.N_drewN | apply Kd.N_drew)); exact HO131.out)) k_ hk_), (Kd.fresh' (Kd.R_lt (by (with_reducible repeat (first | apply Kd.R_alloc | apply Kd.R_drewN | apply Kd.R_drew)); exact HO140.out)) k_ hk_)⟩)) (below_size (by repeat (first | (with_reducible first | exact HB.out | apply below_alloc | apply pw_below_drewN | apply below_drew1) | exact HB.out)))); have n4_ := Aside0.mk (below_step (by repeat (first | (with_reducible first | exact HB.out | apply below_alloc | apply pw_below_drewN | apply below_drew1) | exact HB.out)) hb); clear HO128; clear HO131; clear HO140; clear HB; have HO128 := n0_; have HO131 := n1_; have HO140 := n2_; have HO143 := n3_; have HB := n4_; clear n0_ n1_ n2_ n3_ n4_; (try clear hb); (try clear hb2); (try clear hk); (try clear hi); (try clear ho0)))
            (try simp only [Act.put, List.setIfInBounds_toArray, List.set_cons_zero, List.set_cons_succ])
            go_cut [64] (fun v64 wc => ∃ (kq : Nat) (x64_17 : Bool), v64 = .bool x64_17 ∧ Aside0 (postroomlaw13_ShardJoins.j1 kq l0 (wrap64 (1 + t125)) t126 t129 t141 x64_17 = some r) ∧ Aside0 (kq ≤ kj6) ∧ Aside0 (Kd.N (Kd.slice 3 (Kd.int .i64)) 31 wc w.heap.size (fun k_ => some k_ ≠ (v130 : Value).ownBlock ∧ some k_ ≠ (v142 : Value).ownBlock) v127 t126) ∧ Aside0 (Kd.N (Kd.slice 3 (Kd.int .i64)) 31 wc w.heap.size (fun k_ => some k_ ≠ (v127 : Value).ownBlock ∧ some k_ ≠ (v142 : Value).ownBlock) v130 t129) ∧ Aside0 (Kd.N (Kd.slice 3 (Kd.int .i64)) 31 wc w.heap.size (fun k_ => some k_ ≠ (v127 : Value).ownBlock ∧ some k_ ≠ (v130 : Value).ownBlock) v142 t141) ∧ Aside0 (Below w.heap.size w wc))
            case first =>
              have H := HC18.out
              clear HC18
              by_cases c27 : (t126.length : Int) = (wrap64 (1 + t125))
              · rw [if_pos c27] at H
                have c27b0 : ((t126.length : Int) == (wrap64 (1 + t125))) = true := beq_iff_eq.mpr c27
                have c27b1 : ((t126.length : Int) != (wrap64 (1 + t125))) = false := bne_eq_false_iff_eq.mpr c27
                clear c27
                (first | rw [c27b0] | (simp only [i64_w, i32_w]; rw [c27b0]) | skip)
                by_cases c28 : (t129.length : Int) = (wrap64 (1 + t125))
                · rw [if_pos c28] at H
                  have c28b0 : ((t129.length : Int) == (wrap64 (1 + t125))) = true := beq_iff_eq.mpr c28
                  have c28b1 : ((t129.length : Int) != (wrap64 (1 + t125))) = false := bne_eq_false_iff_eq.mpr c28
                  clear c28
                  have H' := Aside0.mk H
                  clear H
                  obtain ⟨Ao29, co29, eo29⟩ := Kd.N_slice HO128.out
                  subst eo29
                  obtain ⟨Ao30, co30, eo30⟩ := Kd.N_slice HO131.out
                  subst eo30
                  obtain ⟨Ao31, co31, eo31⟩ := Kd.N_slice HO143.out
                  subst eo31
                  go_wp2
                  go_meet
                  case rel => exact ⟨_, (((t141.length : Int) != (wrap64 (1 + t125)))), (by first | rfl | (simp; done) | (simp [*]; done)), H', ⟨by have := HJ6.out; first | omega | exact Nat.le_refl _⟩, ⟨by (with_reducible repeat (first | apply Kd.N_alloc | apply Kd.N_drewN | apply Kd.N_drew)); exact Kd.N_mono HO128.out (fun _ hk => ⟨hk.1.1, hk.2⟩)⟩, ⟨by (with_reducible repeat (first | apply Kd.N_alloc | apply Kd.N_drewN | apply Kd.N_drew)); exact Kd.N_mono HO131.out (fun _ hk => ⟨hk.1.1, hk.2⟩)⟩, ⟨by (with_reducible repeat (first | apply Kd.N_alloc | apply Kd.N_drewN | apply Kd.N_drew)); exact Kd.N_mono HO143.out (fun _ hk => ⟨hk.1, hk.2.1⟩)⟩, ⟨by repeat (first | (with_reducible first | exact HB.out | apply below_alloc | apply pw_below_drewN | apply below_drew1) | exact HB.out)⟩⟩
                · rw [if_neg c28] at H
                  have c28b0 : ((t129.length : Int) == (wrap64 (1 + t125))) = false := beq_eq_false_iff_ne.mpr c28
                  have c28b1 : ((t129.length : Int) != (wrap64 (1 + t125))) = true := bne_iff_ne.mpr c28
                  have H' := Aside0.mk H
                  clear H
                  obtain ⟨Ao32, co32, eo32⟩ := Kd.N_slice HO128.out
                  subst eo32
                  obtain ⟨Ao33, co33, eo33⟩ := Kd.N_slice HO131.out
                  subst eo33
                  go_wp2
                  go_meet
                  case rel => exact ⟨_, (true), (by first | rfl | (simp; done) | (simp [*]; done)), H', ⟨by have := HJ6.out; first | omega | exact Nat.le_refl _⟩, ⟨by (with_reducible repeat (first | apply Kd.N_alloc | apply Kd.N_drewN | apply Kd.N_drew)); exact Kd.N_mono HO128.out (fun _ hk => ⟨hk.1.1, hk.2⟩)⟩, ⟨by (with_reducible repeat (first | apply Kd.N_alloc | apply Kd.N_drewN | apply Kd.N_drew)); exact Kd.N_mono HO131.out (fun _ hk => ⟨hk.1.1, hk.2⟩)⟩, ⟨by (with_reducible repeat (first | apply Kd.N_alloc | apply Kd.N_drewN | apply Kd.N_drew)); exact Kd.N_mono HO143.out (fun _ hk => ⟨hk.1, hk.2.1⟩)⟩, ⟨by repeat (first | (with_reducible first | exact HB.out | apply below_alloc | apply pw_below_drewN | apply below_drew1) | exact HB.out)⟩⟩
              · rw [if_neg c27] at H
                have c27b0 : ((t126.length : Int) == (wrap64 (1 + t125))) = false := beq_eq_false_iff_ne.mpr c27
                have c27b1 : ((t126.length : Int) != (wrap64 (1 + t125))) = true := bne_iff_ne.mpr c27
                (first | rw [c27b0] | (simp only [i64_w, i32_w]; rw [c27b0]) | skip)
                have H' := Aside0.mk H
                clear H
                obtain ⟨Ao34, co34, eo34⟩ := Kd.N_slice HO128.out
                subst eo34
                go_wp2
                go_meet
                case rel => exact ⟨_, (true), (by first | rfl | (simp; done) | (simp [*]; done)), H', ⟨by have := HJ6.out; first | omega | exact Nat.le_refl _⟩, ⟨by (with_reducible repeat (first | apply Kd.N_alloc | apply Kd.N_drewN | apply Kd.N_drew)); exact Kd.N_mono HO128.out (fun _ hk => ⟨hk.1.1, hk.2⟩)⟩, ⟨by (with_reducible repeat (first | apply Kd.N_alloc | apply Kd.N_drewN | apply Kd.N_drew)); exact Kd.N_mono HO131.out (fun _ hk => ⟨hk.1.1, hk.2⟩)⟩, ⟨by (with_reducible repeat (first | apply Kd.N_alloc | apply Kd.N_drewN | apply Kd.N_drew)); exact Kd.N_mono HO143.out (fun _ hk => ⟨hk.1, hk.2.1⟩)⟩, ⟨by repeat (first | (with_reducible first | exact HB.out | apply below_alloc | apply pw_below_drewN | apply below_drew1) | exact HB.out)⟩⟩
            case rest =>
              clear HC18
              try clear c1
              try clear c2
              try clear p2
              try clear p6
              try clear c7
              try clear c8
              try clear c9
              try clear c10
              try clear c11
              try clear c14
              try clear c15
              try clear c16
              try clear c17
              try clear c27
              try clear c27b0
              try clear c27b1
              try clear c28
              try clear c28b0
              try clear c28b1
              try clear p2
              obtain ⟨kq, x64_17, rfl, HA, HJ17, HO_11, HO_12, HO_13, HB⟩ := hcut
              cases kq with
              | zero => exact absurd HA.out (by simp [postroomlaw13_ShardJoins.j1])
              | succ kj17 =>
                have H := HA.out
                clear HA
                simp only [postroomlaw13_ShardJoins.j1] at H
                by_cases c35 : x64_17 = true
                · subst c35
                  have H1 : (some false) = some r := by rw [if_pos rfl] at H; exact H
                  clear H
                  have H := H1
                  clear H1
                  exact absurd (H.trans (congrArg some HRT.out)) (by simp)
                · replace c35 := Bool.eq_false_iff.mpr c35
                  subst c35
                  have H1 : (postroomlaw13_ShardJoins.l0 kj17 l0 (wrap64 (1 + t125)) t126 t129 t141 0) = some r := by rw [if_neg (show ¬ (false = true) by decide)] at H; exact H
                  clear H
                  have H := H1
                  clear H1
                  have H' := Aside0.mk H
                  clear H
                  go_wp2
                  go_loopg [14] kj17 (fun kq v14 w' => ∃ (x14_3 : Int), v14 = .int .i64 x14_3 ∧ Aside0 (postroomlaw13_ShardJoins.l0 kq l0 (wrap64 (1 + t125)) t126 t129 t141 x14_3 = some r) ∧ Aside0 (kq ≤ kj17) ∧ Aside0 (Kd.N (Kd.slice 3 (Kd.int .i64)) 31 w' w.heap.size (fun k_ => some k_ ≠ (v130 : Value).ownBlock ∧ some k_ ≠ (v142 : Value).ownBlock) v127 t126) ∧ Aside0 (Kd.N (Kd.slice 3 (Kd.int .i64)) 31 w' w.heap.size (fun k_ => some k_ ≠ (v127 : Value).ownBlock ∧ some k_ ≠ (v142 : Value).ownBlock) v130 t129) ∧ Aside0 (Kd.N (Kd.slice 3 (Kd.int .i64)) 31 w' w.heap.size (fun k_ => some k_ ≠ (v127 : Value).ownBlock ∧ some k_ ≠ (v130 : Value).ownBlock) v142 t141) ∧ Aside0 (Below w.heap.size w w'))
                  case atStart => exact ⟨(0), (by first | rfl | (simp; done) | (simp [*]; done)), H', ⟨Nat.le_refl _⟩, ⟨by (with_reducible repeat (first | apply Kd.N_alloc | apply Kd.N_drewN | apply Kd.N_drew)); exact HO_11.out⟩, ⟨by (with_reducible repeat (first | apply Kd.N_alloc | apply Kd.N_drewN | apply Kd.N_drew)); exact HO_12.out⟩, ⟨by (with_reducible repeat (first | apply Kd.N_alloc | apply Kd.N_drewN | apply Kd.N_drew)); exact HO_13.out⟩, ⟨by repeat (first | (with_reducible first | exact HB.out | apply below_alloc | apply pw_below_drewN | apply below_drew1) | exact HB.out)⟩⟩
                  case round =>
                    clear H'
                    try clear c1
                    try clear c2
                    try clear p2
                    try clear c3
                    try clear p6
                    try clear c7
                    try clear c8
                    try clear c9
                    try clear c10
                    try clear c11
                    try clear c14
                    try clear c15
                    try clear c16
                    try clear c17
                    try clear c27
                    try clear c27b0
                    try clear c27b1
                    try clear c28
                    try clear c28b0
                    try clear c28b1
                    try clear c35
                    try clear p2
                    try clear p6
                    obtain ⟨x14_3, rfl, HA, HK3, HO_11, HO_12, HO_13, HB⟩ := hrel
                    cases gk with
                    | zero => exact absurd HA.out (by simp [postroomlaw13_ShardJoins.l0])
                    | succ k3 =>
                      have H := HA.out
                      clear HA
                      simp only [postroomlaw13_ShardJoins.l0] at H
                      by_cases c36 : x14_3 < (wrap64 (1 + t125))
                      · rw [if_pos c36] at H
                        have c36b0 : decide (x14_3 < (wrap64 (1 + t125))) = true := decide_eq_true c36
                        clear c36
                        obtain ⟨y144, hy144⟩ : ∃ y_ : List Int, y_ = (([] : List Int)) := ⟨_, rfl⟩
                        replace H : (if 0 ≤ x14_3 then (if x14_3 < (t126.length : Int) then (if y144.length + (rd_L1 t126 x14_3).length < 17592186044416 then (postroomlaw13_ShardJoins.l1 k3 l0 (wrap64 (1 + t125)) t126 t129 t141 x14_3 (y144 ++ (rd_L1 t126 x14_3)) 0) else (none)) else (none)) else (none)) = some r := by first | (rw [hy144]; with_reducible exact H) | (have H2_ := (Option.bind_some _ _).symm.trans H; rw [hy144]; with_reducible exact H2_) | (have H2_ := (Option.bind_some _ _).symm.trans H; with_reducible exact H2_) | with_reducible exact H | (rw [hy144]; exact H) | exact H
                        have Ny144 := Aside0.mk hy144
                        clear hy144
                        by_cases c37 : 0 ≤ x14_3
                        · rw [if_pos c37] at H
                          have c37b0 : decide (0 ≤ x14_3) = true := decide_eq_true c37
                          clear c37
                          by_cases c38 : x14_3 < (t126.length : Int)
                          · rw [if_pos c38] at H
                            have c38b0 : decide (x14_3 < (t126.length : Int)) = true := decide_eq_true c38
                            clear c38
                            by_cases c39 : y144.length + (rd_L1 t126 x14_3).length < 17592186044416
                            · rw [if_pos c39] at H
                              have LMc39 := Aside0.mk c39
                              clear c39
                              obtain ⟨y148, hy148⟩ : ∃ y_ : List Int, y_ = (y144 ++ (rd_L1 t126 x14_3)) := ⟨_, rfl⟩
                              replace H : (postroomlaw13_ShardJoins.l1 k3 l0 (wrap64 (1 + t125)) t126 t129 t141 x14_3 y148 0) = some r := by first | (rw [hy148]; with_reducible exact H) | (have H2_ := (Option.bind_some _ _).symm.trans H; rw [hy148]; with_reducible exact H2_) | (have H2_ := (Option.bind_some _ _).symm.trans H; with_reducible exact H2_) | with_reducible exact H | (rw [hy148]; exact H) | exact H
                              have Ny148 := Aside0.mk hy148
                              clear hy148
                              have H' := Aside0.mk H
                              clear H
                              go_wp2_with (first | ((with_reducible refine gate_dst (N := 70) rfl ?_); (try (refine gate_guard (by rfl) ?_; dsimp only)); refine Kd.R_lit (Kd.int .i64) _ 3 ?hg (N := 70) ?hd (xs := ([] : List Int)) (inner := []) (ok := fun _ => True) (okp := fun _ => True) ?hr ?hp (fun _ hk => hk) trivial (Below.refl _ _) (Nat.le_refl _) (by simp) ?_; (case hd => rfl); (case hg => rfl); (case hr => first | (go_simp; done) | (go_simp; rfl)); (case hp => exact (Reps.none _ _)); intro v145 w40 ho41 hb hg_ hnew_; clear hg_ hnew_; (first | rw [← Ny144.out] at ho41 | (simp only [Int.reduceToNat] at ho41; rw [← Ny144.out] at ho41)); have n0_ := Aside0.mk (Kd.N_elder' (by (with_reducible repeat (first | apply Kd.N_alloc | apply Kd.N_drewN | apply Kd.N_drew)); exact HO_11.out) (Kd.R_base ho41) hb); have n1_ := Aside0.mk (Kd.N_elder' (by (with_reducible repeat (first | apply Kd.N_alloc | apply Kd.N_drewN | apply Kd.N_drew)); exact HO_12.out) (Kd.R_base ho41) hb); have n2_ := Aside0.mk (Kd.N_elder' (by (with_reducible repeat (first | apply Kd.N_alloc | apply Kd.N_drewN | apply Kd.N_drew)); exact HO_13.out) (Kd.R_base ho41) hb); have n3_ := Aside0.mk (Kd.R_lower ho41 (below_size (by repeat (first | (with_reducible first | exact HB.out | apply below_alloc | apply pw_below_drewN | apply below_drew1) | exact HB.out)))); have n4_ := Aside0.mk (below_step (by repeat (first | (with_reducible first | exact HB.out | apply below_alloc | apply pw_below_drewN | apply below_drew1) | exact HB.out)) hb); clear HO_11; clear HO_12; clear HO_13; clear HB; have HO_11 := n0_; have HO_12 := n1_; have HO_13 := n2_; have HO146 := n3_; have HB := n4_; clear n0_ n1_ n2_ n3_ n4_; clear hb ho41; obtain ⟨Ao42, co42, eo42⟩ := Kd.N_slice HO_11.out; subst eo42; have p147 : 0 ≤ (x14_3 : Int) := of_decide_eq_true (by first | (with_reducible assumption) | assumption); have q147 : x14_3 < (t126.length : Int) := of_decide_eq_true (by first | (with_reducible assumption) | assumption); obtain ⟨ad147, A147_0, c147_0, e147, hx147_0, hl147_0, hi147_0⟩ := at_L1 (Kd.N_reads' HO_11.out).2.2 x14_3 p147 q147; cases e147; obtain ⟨ce147, hce147, hMe147, hcc147⟩ := Kd.N_get HO_11.out [] x14_3 p147 (by first | exact q147 | exact of_decide_eq_true (by first | (with_reducible assumption) | assumption) | (have e_ := (Kd.N_reads' HO_11.out).1; omega)); obtain ⟨ua147_0, uc147_0, rfl, ul147_0, ge147_0⟩ := Kd.FK_slice_open hMe147; have hv147_0 := hcc147 0 _ rfl; rw [Nat.add_zero, show ((Kd.slice 3 (Kd.int .i64))).sz = 1 from rfl, Nat.mul_one] at hv147_0; replace hv147_0 := Option.some.inj (hv147_0.symm.trans hx147_0); injection hv147_0 with hva_ hvn_ hvc_; rw [hva_] at ge147_0; rw [hvc_] at ul147_0; have HL147_0 := Aside0.mk (show Kd.V (Kd.int .i64) 3 _ w.heap.size _ _ (rd_L1 t126 x14_3) from Kd.V_mk ul147_0 ge147_0); clear hva_ hvn_ hvc_ ge147_0 ul147_0; clear hcc147 hce147; have HR147_0 := Aside0.mk hi147_0; have HC147_0 := Aside0.mk hl147_0; clear hi147_0 hl147_0; replace p147 := eq_true p147; replace q147 := eq_true q147) | ((with_reducible refine gate_builtin (b := .append) (xs := #[.tmp 70, .tmp 74]) rfl ?_); (try (refine gate_guard (by rfl) ?_; dsimp only)); at_builtin; refine Kd.R_append_rows (Kd.int .i64) (w0 := w) w.heap.size rfl (.tmp 70) (.tmp 74) 31 3 (.int .i64 0) 8 rfl Try.underlying31 info3 rfl (by decide) (by omega) v145 y144 (rd_L1 t126 x14_3) _ _ _ (fun _ => True) (fun _ => False) rfl rfl ?aO ?aR (fun _ _ h => h) (fun _ h => h.elim) ?aF ?aB ?aS ?aL ?_; (case aR => repeat (first | exact (by repeat (first | (with_reducible exact HR147_0.out) | (with_reducible refine Kd.C_alloc ?_ _) | (with_reducible refine Kd.C_drewN ?_ _) | (with_reducible refine Kd.C_drew ?_) | exact HR147_0.out)) | (with_reducible refine Kd.C_alloc ?_ _) | (with_reducible refine Kd.C_drewN ?_ _) | (with_reducible refine Kd.C_drew ?_))); (case aB => exact (by repeat (first | (with_reducible first | exact HB.out | apply below_alloc | apply pw_below_drewN | apply below_drew1) | exact HB.out))); (case aF => exact (fun _ _ => trivial)); (case aO => exact (by (with_reducible repeat (first | apply Kd.R_alloc | apply Kd.R_drewN | apply Kd.R_drew)); exact HO146.out)); (case aS => exact (below_size (by repeat (first | (with_reducible first | exact HB.out | apply below_alloc | apply pw_below_drewN | apply below_drew1) | exact HB.out)))); (case aL => have := LMc39.out; omega); intro v149 w43 ho hb hg hat; rw [← Ny148.out] at ho; have n0_ := Aside0.mk (Kd.N_afterv (ok := (fun k_ => some k_ ≠ (v130 : Value).ownBlock ∧ some k_ ≠ (v142 : Value).ownBlock)) (by (with_reducible repeat (first | apply Kd.N_alloc | apply Kd.N_drewN | apply Kd.N_drew)); exact HO_11.out) hg hat); have n1_ := Aside0.mk (Kd.N_afterv (ok := (fun k_ => some k_ ≠ (.slice (some ad147) t126.length co42 : Value).ownBlock ∧ some k_ ≠ (v142 : Value).ownBlock)) (by (with_reducible repeat (first | apply Kd.N_alloc | apply Kd.N_drewN | apply Kd.N_drew)); exact HO_12.out) hg hat); have n2_ := Aside0.mk (Kd.N_afterv (ok := (fun k_ => some k_ ≠ (.slice (some ad147) t126.length co42 : Value).ownBlock ∧ some k_ ≠ (v130 : Value).ownBlock)) (by (with_reducible repeat (first | apply Kd.N_alloc | apply Kd.N_drewN | apply Kd.N_drew)); exact HO_13.out) hg hat); have n3_ := Aside0.mk (Kd.V_afterv (ok := (fun k_ => some k_ ≠ (.slice (some ad147) t126.length co42 : Value).ownBlock ∧ some k_ ≠ (v130 : Value).ownBlock ∧ some k_ ≠ (v142 : Value).ownBlock)) (by (with_reducible repeat (first | apply Kd.V_alloc | apply Kd.V_drewN | apply Kd.V_drew)); exact Kd.V_mono HL147_0.out (fun _ hk => ⟨⟨hk.2, ⟨hk.1.1.1, hk.1.1.2⟩⟩, hk.1.2⟩)) hg hat); have n4_ := Aside0.mk (hb); have n5_ := Aside0.mk (ho); clear HO_11; clear HO_12; clear HO_13; clear HL147_0; clear HB; clear HO146; have HO_11 := n0_; have HO_12 := n1_; have HO_13 := n2_; have HL147_0 := n3_; have HB := n4_; have HO150 := n5_; clear n0_ n1_ n2_ n3_ n4_ n5_; clear ho hb hg hat))
                              go_loopg [15, 16] k3 (fun kq v15 v16 w' => ∃ (x15_4 : List Int) (x16_4 : Int), v16 = .int .i64 x16_4 ∧ Aside0 (postroomlaw13_ShardJoins.l1 kq l0 (wrap64 (1 + t125)) t126 t129 t141 x14_3 x15_4 x16_4 = some r) ∧ Aside0 (kq ≤ k3) ∧ Aside0 (Kd.N (Kd.slice 3 (Kd.int .i64)) 31 w' w.heap.size (fun k_ => some k_ ≠ (v130 : Value).ownBlock ∧ some k_ ≠ (v142 : Value).ownBlock ∧ some k_ ≠ (v15 : Value).ownBlock) (.slice (some ad147) t126.length co42) t126) ∧ Aside0 (Kd.N (Kd.slice 3 (Kd.int .i64)) 31 w' w.heap.size (fun k_ => some k_ ≠ ((.slice (some ad147) t126.length co42) : Value).ownBlock ∧ some k_ ≠ (v142 : Value).ownBlock ∧ some k_ ≠ (v15 : Value).ownBlock) v130 t129) ∧ Aside0 (Kd.N (Kd.slice 3 (Kd.int .i64)) 31 w' w.heap.size (fun k_ => some k_ ≠ ((.slice (some ad147) t126.length co42) : Value).ownBlock ∧ some k_ ≠ (v130 : Value).ownBlock ∧ some k_ ≠ (v15 : Value).ownBlock) v142 t141) ∧ Aside0 (Kd.R (Kd.int .i64) 3 w' w.heap.size (fun _ => True) v15 x15_4) ∧ Aside0 (Below w.heap.size w w'))
                              case atStart => exact ⟨(y148), (0), (by first | rfl | (simp; done) | (simp [*]; done)), H', ⟨Nat.le_refl _⟩, ⟨by (with_reducible repeat (first | apply Kd.N_alloc | apply Kd.N_drewN | apply Kd.N_drew)); exact Kd.N_mono HO_11.out (fun _ hk => ⟨hk.1.1, ⟨hk.1.2, hk.2⟩⟩)⟩, ⟨by (with_reducible repeat (first | apply Kd.N_alloc | apply Kd.N_drewN | apply Kd.N_drew)); exact Kd.N_mono HO_12.out (fun _ hk => ⟨hk.1.1, ⟨hk.1.2, hk.2⟩⟩)⟩, ⟨by (with_reducible repeat (first | apply Kd.N_alloc | apply Kd.N_drewN | apply Kd.N_drew)); exact Kd.N_mono HO_13.out (fun _ hk => ⟨hk.1.1, ⟨hk.1.2, hk.2⟩⟩)⟩, ⟨by (with_reducible repeat (first | apply Kd.R_alloc | apply Kd.R_drewN | apply Kd.R_drew)); exact HO150.out⟩, ⟨by repeat (first | (with_reducible first | exact HB.out | apply below_alloc | apply pw_below_drewN | apply below_drew1) | exact HB.out)⟩⟩
                              case round =>
                                clear H'
                                try clear c1
                                try clear p1
                                try clear q1
                                try clear hx1
                                try clear c2
                                try clear p2
                                try clear c3
                                try clear p6
                                try clear c7
                                try clear c8
                                try clear c9
                                try clear c10
                                try clear c11
                                try clear c14
                                try clear p14
                                try clear q14
                                try clear hx14
                                try clear c15
                                try clear c16
                                try clear c17
                                try clear c27
                                try clear c27b0
                                try clear c27b1
                                try clear c28
                                try clear c28b0
                                try clear c28b1
                                try clear c35
                                try clear c36
                                try clear c36b0
                                try clear c37
                                try clear c37b0
                                try clear c38
                                try clear c38b0
                                try clear c39
                                try clear hx147_0
                                try clear p147
                                try clear p2
                                try clear p6
                                try clear q147
                                obtain ⟨x15_4, x16_4, rfl, HA, HK4, HO_11, HO_12, HO_13, HO_15, HB⟩ := hrel
                                cases gk with
                                | zero => exact absurd HA.out (by simp [postroomlaw13_ShardJoins.l1])
                                | succ k4 =>
                                  have H := HA.out
                                  clear HA
                                  simp only [postroomlaw13_ShardJoins.l1] at H
                                  by_cases c44 : 0 ≤ x14_3
                                  · rw [if_pos c44] at H
                                    have c44b0 : decide (0 ≤ x14_3) = true := decide_eq_true c44
                                    clear c44
                                    by_cases c45 : x14_3 < (t129.length : Int)
                                    · rw [if_pos c45] at H
                                      have c45b0 : decide (x14_3 < (t129.length : Int)) = true := decide_eq_true c45
                                      clear c45
                                      by_cases c46 : x16_4 < ((rd_L1 t129 x14_3).length : Int)
                                      · rw [if_pos c46] at H
                                        have c46b0 : decide (x16_4 < ((rd_L1 t129 x14_3).length : Int)) = true := decide_eq_true c46
                                        clear c46
                                        by_cases c47 : 0 ≤ x16_4
                                        · rw [if_pos c47] at H
                                          have c47b0 : decide (0 ≤ x16_4) = true := decide_eq_true c47
                                          clear c47
                                          by_cases c48 : x15_4.length < 17592186044416
                                          · rw [if_pos c48] at H
                                            have LMc48 := Aside0.mk c48
                                            clear c48
                                            obtain ⟨y154, hy154⟩ : ∃ y_ : List Int, y_ = (x15_4 ++ [wrap64 ((l0.length : Int) + (rd (rd_L1 t129 x14_3) x16_4))]) := ⟨_, rfl⟩
                                            replace H : (postroomlaw13_ShardJoins.l1 k4 l0 (wrap64 (1 + t125)) t126 t129 t141 x14_3 y154 (wrap64 (x16_4 + 1))) = some r := by first | (rw [hy154]; with_reducible exact H) | (have H2_ := (Option.bind_some _ _).symm.trans H; rw [hy154]; with_reducible exact H2_) | (have H2_ := (Option.bind_some _ _).symm.trans H; with_reducible exact H2_) | with_reducible exact H | (rw [hy154]; exact H) | exact H
                                            have Ny154 := Aside0.mk hy154
                                            clear hy154
                                            have H' := Aside0.mk H
                                            clear H
                                            obtain ⟨Ao49, co49, eo49⟩ := Kd.N_slice HO_12.out
                                            subst eo49
                                            have p151 : 0 ≤ (x14_3 : Int) := of_decide_eq_true (by first | (with_reducible assumption) | assumption)
                                            have q151 : x14_3 < (t129.length : Int) := of_decide_eq_true (by first | (with_reducible assumption) | assumption)
                                            obtain ⟨ad151, A151_0, c151_0, e151, hx151_0, hl151_0, hi151_0⟩ := at_L1 (Kd.N_reads' HO_12.out).2.2 x14_3 p151 q151
                                            cases e151
                                            obtain ⟨ce151, hce151, hMe151, hcc151⟩ := Kd.N_get HO_12.out [] x14_3 p151 (by first | exact q151 | exact of_decide_eq_true (by first | (with_reducible assumption) | assumption) | (have e_ := (Kd.N_reads' HO_12.out).1; omega))
                                            obtain ⟨ua151_0, uc151_0, rfl, ul151_0, ge151_0⟩ := Kd.FK_slice_open hMe151
                                            have hv151_0 := hcc151 0 _ rfl
                                            rw [Nat.add_zero, show ((Kd.slice 3 (Kd.int .i64))).sz = 1 from rfl, Nat.mul_one] at hv151_0
                                            replace hv151_0 := Option.some.inj (hv151_0.symm.trans hx151_0)
                                            injection hv151_0 with hva_ hvn_ hvc_
                                            rw [hva_] at ge151_0
                                            rw [hvc_] at ul151_0
                                            have HL151_0 := Aside0.mk (show Kd.V (Kd.int .i64) 3 _ w.heap.size _ _ (rd_L1 t129 x14_3) from Kd.V_mk ul151_0 ge151_0)
                                            clear hva_ hvn_ hvc_ ge151_0 ul151_0
                                            clear hcc151 hce151
                                            have HR151_0 := Aside0.mk hi151_0
                                            have HC151_0 := Aside0.mk hl151_0
                                            clear hi151_0 hl151_0
                                            replace p151 := eq_true p151
                                            replace q151 := eq_true q151
                                            have p152 : 0 ≤ (x14_3 : Int) := of_decide_eq_true (by first | (with_reducible assumption) | assumption)
                                            have q152 : x14_3 < (t129.length : Int) := of_decide_eq_true (by first | (with_reducible assumption) | assumption)
                                            obtain ⟨ad152, A152_0, c152_0, e152, hx152_0, hl152_0, hi152_0⟩ := at_L1 (Kd.N_reads' HO_12.out).2.2 x14_3 p152 q152
                                            obtain rfl : ad151 = ad152 := (by injection e152)
                                            obtain ⟨ce152, hce152, hMe152, hcc152⟩ := Kd.N_get HO_12.out [] x14_3 p152 (by first | exact q152 | exact of_decide_eq_true (by first | (with_reducible assumption) | assumption) | (have e_ := (Kd.N_reads' HO_12.out).1; omega))
                                            obtain ⟨ua152_0, uc152_0, rfl, ul152_0, ge152_0⟩ := Kd.FK_slice_open hMe152
                                            have hv152_0 := hcc152 0 _ rfl
                                            rw [Nat.add_zero, show ((Kd.slice 3 (Kd.int .i64))).sz = 1 from rfl, Nat.mul_one] at hv152_0
                                            replace hv152_0 := Option.some.inj (hv152_0.symm.trans hx152_0)
                                            injection hv152_0 with hva_ hvn_ hvc_
                                            rw [hva_] at ge152_0
                                            rw [hvc_] at ul152_0
                                            have HL152_0 := Aside0.mk (show Kd.V (Kd.int .i64) 3 _ w.heap.size _ _ (rd_L1 t129 x14_3) from Kd.V_mk ul152_0 ge152_0)
                                            clear hva_ hvn_ hvc_ ge152_0 ul152_0
                                            clear hcc152 hce152
                                            have HR152_0 := Aside0.mk hi152_0
                                            have HC152_0 := Aside0.mk hl152_0
                                            clear hi152_0 hl152_0
                                            replace p152 := eq_true p152
                                            replace q152 := eq_true q152
                                            have ea_ := Option.some.inj (hx151_0.symm.trans hx152_0)
                                            injection ea_ with ea_ en_ ec_
                                            subst ea_
                                            subst ec_
                                            clear en_
                                            have p153 : 0 ≤ (x16_4 : Int) := of_decide_eq_true (by first | (with_reducible assumption) | assumption)
                                            have q153 : x16_4 < ((rd_L1 t129 x14_3).length : Int) := of_decide_eq_true (by first | (with_reducible assumption) | assumption)
                                            obtain ⟨ad153, e153, hx153_0⟩ := Kd.at_int (by repeat (first | (with_reducible exact HR152_0.out) | (with_reducible refine Kd.C_alloc ?_ _) | (with_reducible refine Kd.C_drewN ?_ _) | (with_reducible refine Kd.C_drew ?_) | exact HR152_0.out)) x16_4 p153 q153
                                            cases e153
                                            replace p153 := eq_true p153
                                            replace q153 := eq_true q153
                                            go_wp2_with (first | ((with_reducible refine gate_builtin (b := .append) (xs := #[.tmp 85, .tmp 96]) rfl ?_); (try (refine gate_guard (by rfl) ?_; dsimp only)); at_builtin; refine Kd.R_append (Kd.int .i64) (w0 := w) w.heap.size rfl (.tmp 85) (.tmp 96) 31 3 (.int .i64 0) 8 rfl Try.underlying31 info3 rfl (by decide) (by omega) u15 x15_4 (wrap64 ((l0.length : Int) + (rd (rd_L1 t129 x14_3) x16_4))) [.int .i64 (wrap64 ((l0.length : Int) + (rd (rd_L1 t129 x14_3) x16_4)))] (fun _ => True) (fun _ => False) rfl rfl ?aP (fun _ hk => hk.elim) ?aF ?aO ?aB ?aS ?aL ?_; (case aP => exact rfl); (case aB => exact (by repeat (first | (with_reducible first | exact HB.out | apply below_alloc | apply pw_below_drewN | apply below_drew1) | exact HB.out))); (case aF => exact (fun _ _ => trivial)); (case aO => exact (by (with_reducible repeat (first | apply Kd.R_alloc | apply Kd.R_drewN | apply Kd.R_drew)); exact HO_15.out)); (case aS => exact (below_size (by repeat (first | (with_reducible first | exact HB.out | apply below_alloc | apply pw_below_drewN | apply below_drew1) | exact HB.out)))); (case aL => have := LMc48.out; omega); intro v155 w50 ho hb hg hat; rw [← Ny154.out] at ho; have n0_ := Aside0.mk (Kd.N_afterv (ok := (fun k_ => some k_ ≠ (.slice (some ad151) t129.length co49 : Value).ownBlock ∧ some k_ ≠ (v142 : Value).ownBlock)) (by (with_reducible repeat (first | apply Kd.N_alloc | apply Kd.N_drewN | apply Kd.N_drew)); exact Kd.N_mono HO_11.out (fun _ hk => ⟨⟨hk.1, hk.2.1⟩, hk.2.2⟩)) hg hat); have n1_ := Aside0.mk (Kd.N_afterv (ok := (fun k_ => some k_ ≠ (.slice (some ad147) t126.length co42 : Value).ownBlock ∧ some k_ ≠ (v142 : Value).ownBlock)) (by (with_reducible repeat (first | apply Kd.N_alloc | apply Kd.N_drewN | apply Kd.N_drew)); exact Kd.N_mono HO_12.out (fun _ hk => ⟨⟨hk.1, hk.2.1⟩, hk.2.2⟩)) hg hat); have n2_ := Aside0.mk (Kd.N_afterv (ok := (fun k_ => some k_ ≠ (.slice (some ad147) t126.length co42 : Value).ownBlock ∧ some k_ ≠ (.slice (some ad151) t129.length co49 : Value).ownBlock)) (by (with_reducible repeat (first | apply Kd.N_alloc | apply Kd.N_drewN | apply Kd.N_drew)); exact Kd.N_mono HO_13.out (fun _ hk => ⟨⟨hk.1, hk.2.1⟩, hk.2.2⟩)) hg hat); have n3_ := Aside0.mk (Kd.V_afterv (ok := (fun k_ => some k_ ≠ (.slice (some ad147) t126.length co42 : Value).ownBlock ∧ some k_ ≠ (.slice (some ad151) t129.length co49 : Value).ownBlock ∧ some k_ ≠ (v142 : Value).ownBlock)) (by (with_reducible repeat (first | apply Kd.V_alloc | apply Kd.V_drewN | apply Kd.V_drew)); exact Kd.V_mono HL151_0.out (fun _ hk => ⟨⟨hk.1.1, ⟨hk.2, hk.1.2.1⟩⟩, hk.1.2.2⟩)) hg hat); have n4_ := Aside0.mk (Kd.V_afterv (ok := (fun k_ => some k_ ≠ (.slice (some ad147) t126.length co42 : Value).ownBlock ∧ some k_ ≠ (.slice (some ad151) t129.length co49 : Value).ownBlock ∧ some k_ ≠ (v142 : Value).ownBlock)) (by (with_reducible repeat (first | apply Kd.V_alloc | apply Kd.V_drewN | apply Kd.V_drew)); exact Kd.V_mono HL152_0.out (fun _ hk => ⟨⟨hk.1.1, ⟨hk.2, hk.1.2.1⟩⟩, hk.1.2.2⟩)) hg hat); have n5_ := Aside0.mk (hb); have n6_ := Aside0.mk (ho); clear HO_11; clear HO_12; clear HO_13; clear HL151_0; clear HL152_0; clear HB; clear HO_15; have HO_11 := n0_; have HO_12 := n1_; have HO_13 := n2_; have HL151_0 := n3_; have HL152_0 := n4_; have HB := n5_; have HO156 := n6_; clear n0_ n1_ n2_ n3_ n4_ n5_ n6_; clear ho hb hg hat))
                                            go_roundg k4
                                            case measure => have := HJ6.out; have := HJ17.out; have := HK3.out; have := HK4.out; omega
                                            case rel => exact ⟨(y154), (wrap64 (x16_4 + 1)), (by first | rfl | (simp; done) | (simp [*]; done)), H', ⟨by have := HJ6.out; have := HJ17.out; have := HK3.out; have := HK4.out; omega⟩, ⟨by (with_reducible repeat (first | apply Kd.N_alloc | apply Kd.N_drewN | apply Kd.N_drew)); exact Kd.N_mono HO_11.out (fun _ hk => ⟨hk.1.1, ⟨hk.1.2, hk.2⟩⟩)⟩, ⟨by (with_reducible repeat (first | apply Kd.N_alloc | apply Kd.N_drewN | apply Kd.N_drew)); exact Kd.N_mono HO_12.out (fun _ hk => ⟨hk.1.1, ⟨hk.1.2, hk.2⟩⟩)⟩, ⟨by (with_reducible repeat (first | apply Kd.N_alloc | apply Kd.N_drewN | apply Kd.N_drew)); exact Kd.N_mono HO_13.out (fun _ hk => ⟨hk.1.1, ⟨hk.1.2, hk.2⟩⟩)⟩, ⟨by (with_reducible repeat (first | apply Kd.R_alloc | apply Kd.R_drewN | apply Kd.R_drew)); exact HO156.out⟩, ⟨by repeat (first | (with_reducible first | exact HB.out | apply below_alloc | apply pw_below_drewN | apply below_drew1) | exact HB.out)⟩⟩
                                          · rw [if_neg c48] at H
                                            exact absurd H (by simp)
                                        · rw [if_neg c47] at H
                                          exact absurd H (by simp)
                                      · rw [if_neg c46] at H
                                        have c46b0 : decide (x16_4 < ((rd_L1 t129 x14_3).length : Int)) = false := decide_eq_false c46
                                        clear c46
                                        by_cases c51 : x14_3 < (t141.length : Int)
                                        · rw [if_pos c51] at H
                                          have c51b0 : decide (x14_3 < (t141.length : Int)) = true := decide_eq_true c51
                                          clear c51
                                          replace H := Option.bind_eq_some_iff.mp H
                                          obtain ⟨t158, A520, H⟩ := H
                                          replace H : (if t158 = true then (postroomlaw13_ShardJoins.l0 k4 l0 (wrap64 (1 + t125)) t126 t129 t141 (wrap64 (x14_3 + 1))) else (some false)) = some r := H
                                          have A52 := Aside0.mk A520
                                          clear A520
                                          by_cases c53 : t158 = true
                                          · subst c53
                                            have H1 : (postroomlaw13_ShardJoins.l0 k4 l0 (wrap64 (1 + t125)) t126 t129 t141 (wrap64 (x14_3 + 1))) = some r := by rw [if_pos rfl] at H; exact H
                                            clear H
                                            have H := H1
                                            clear H1
                                            have H' := Aside0.mk H
                                            clear H
                                            obtain ⟨Ao54, co54, eo54⟩ := Kd.N_slice HO_12.out
                                            subst eo54
                                            have p151 : 0 ≤ (x14_3 : Int) := of_decide_eq_true (by first | (with_reducible assumption) | assumption)
                                            have q151 : x14_3 < (t129.length : Int) := of_decide_eq_true (by first | (with_reducible assumption) | assumption)
                                            obtain ⟨ad151, A151_0, c151_0, e151, hx151_0, hl151_0, hi151_0⟩ := at_L1 (Kd.N_reads' HO_12.out).2.2 x14_3 p151 q151
                                            cases e151
                                            obtain ⟨ce151, hce151, hMe151, hcc151⟩ := Kd.N_get HO_12.out [] x14_3 p151 (by first | exact q151 | exact of_decide_eq_true (by first | (with_reducible assumption) | assumption) | (have e_ := (Kd.N_reads' HO_12.out).1; omega))
                                            obtain ⟨ua151_0, uc151_0, rfl, ul151_0, ge151_0⟩ := Kd.FK_slice_open hMe151
                                            have hv151_0 := hcc151 0 _ rfl
                                            rw [Nat.add_zero, show ((Kd.slice 3 (Kd.int .i64))).sz = 1 from rfl, Nat.mul_one] at hv151_0
                                            replace hv151_0 := Option.some.inj (hv151_0.symm.trans hx151_0)
                                            injection hv151_0 with hva_ hvn_ hvc_
                                            rw [hva_] at ge151_0
                                            rw [hvc_] at ul151_0
                                            have HL151_0 := Aside0.mk (show Kd.V (Kd.int .i64) 3 _ w.heap.size _ _ (rd_L1 t129 x14_3) from Kd.V_mk ul151_0 ge151_0)
                                            clear hva_ hvn_ hvc_ ge151_0 ul151_0
                                            clear hcc151 hce151
                                            have HR151_0 := Aside0.mk hi151_0
                                            have HC151_0 := Aside0.mk hl151_0
                                            clear hi151_0 hl151_0
                                            replace p151 := eq_true p151
                                            replace q151 := eq_true q151
                                            obtain ⟨Ao55, co55, eo55⟩ := Kd.N_slice HO_13.out
                                            subst eo55
                                            have p157 : 0 ≤ (x14_3 : Int) := of_decide_eq_true (by first | (with_reducible assumption) | assumption)
                                            have q157 : x14_3 < (t141.length : Int) := of_decide_eq_true (by first | (with_reducible assumption) | assumption)
                                            obtain ⟨ad157, A157_0, c157_0, e157, hx157_0, hl157_0, hi157_0⟩ := at_L1 (Kd.N_reads' HO_13.out).2.2 x14_3 p157 q157
                                            cases e157
                                            obtain ⟨ce157, hce157, hMe157, hcc157⟩ := Kd.N_get HO_13.out [] x14_3 p157 (by first | exact q157 | exact of_decide_eq_true (by first | (with_reducible assumption) | assumption) | (have e_ := (Kd.N_reads' HO_13.out).1; omega))
                                            obtain ⟨ua157_0, uc157_0, rfl, ul157_0, ge157_0⟩ := Kd.FK_slice_open hMe157
                                            have hv157_0 := hcc157 0 _ rfl
                                            rw [Nat.add_zero, show ((Kd.slice 3 (Kd.int .i64))).sz = 1 from rfl, Nat.mul_one] at hv157_0
                                            replace hv157_0 := Option.some.inj (hv157_0.symm.trans hx157_0)
                                            injection hv157_0 with hva_ hvn_ hvc_
                                            rw [hva_] at ge157_0
                                            rw [hvc_] at ul157_0
                                            have HL157_0 := Aside0.mk (show Kd.V (Kd.int .i64) 3 _ w.heap.size _ _ (rd_L1 t141 x14_3) from Kd.V_mk ul157_0 ge157_0)
                                            clear hva_ hvn_ hvc_ ge157_0 ul157_0
                                            clear hcc157 hce157
                                            have HR157_0 := Aside0.mk hi157_0
                                            have HC157_0 := Aside0.mk hl157_0
                                            clear hi157_0 hl157_0
                                            replace p157 := eq_true p157
                                            replace q157 := eq_true q157
                                            obtain ⟨Ao56, co56, eo56⟩ := Kd.R_slice HO_15.out
                                            subst eo56
                                            go_wp2_with (first | ((with_reducible refine gate_callee (f := 15) rfl ?_); refine goesL_ (some 103) rfl rfl Try.func15 (by kernel_rfl) rfl #[.slice A157_0 (rd_L1 t141 x14_3).length c157_0, .slice Ao56 x15_4.length co56] rfl (by (try simp only [List.map_toArray, List.map_cons, List.map_nil]); first | done | rfl | (simp only [List.length_drop, List.length_take]; rfl)) ?_; (with_reducible refine (postroomref13_Same.calls k4 _ _ (rd_L1 t141 x14_3) _ _ x15_4 true _ ?side1 ?side2 ?side3 ?side4 A52.out).mono ?_); (case side1 => repeat (first | exact (by repeat (first | (with_reducible exact HR157_0.out) | (with_reducible refine Kd.C_alloc ?_ _) | (with_reducible refine Kd.C_drewN ?_ _) | (with_reducible refine Kd.C_drew ?_) | exact HR157_0.out)) | (with_reducible refine Kd.C_alloc ?_ _) | (with_reducible refine Kd.C_drewN ?_ _) | (with_reducible refine Kd.C_drew ?_))); (case side2 => exact HC157_0.out); (case side3 => repeat (first | exact (Kd.R_reads' HO_15.out).2.2 | (with_reducible refine Kd.C_alloc ?_ _) | (with_reducible refine Kd.C_drewN ?_ _) | (with_reducible refine Kd.C_drew ?_))); (case side4 => exact (Kd.R_reads' HO_15.out).2.1); rintro e w' ⟨rfl, ⟨nd, rfl⟩⟩; refine ⟨_, rfl, ?_⟩))
                                            go_roundg k4
                                            case measure => have := HJ6.out; have := HJ17.out; have := HK3.out; have := HK4.out; omega
                                            case rel => exact ⟨(wrap64 (x14_3 + 1)), (by first | rfl | (simp; done) | (simp [*]; done)), H', ⟨by have := HJ6.out; have := HJ17.out; have := HK3.out; have := HK4.out; omega⟩, ⟨by (with_reducible repeat (first | apply Kd.N_alloc | apply Kd.N_drewN | apply Kd.N_drew)); exact Kd.N_mono HO_11.out (fun _ hk => ⟨hk.1, hk.2.1⟩)⟩, ⟨by (with_reducible repeat (first | apply Kd.N_alloc | apply Kd.N_drewN | apply Kd.N_drew)); exact Kd.N_mono HO_12.out (fun _ hk => ⟨hk.1, hk.2.1⟩)⟩, ⟨by (with_reducible repeat (first | apply Kd.N_alloc | apply Kd.N_drewN | apply Kd.N_drew)); exact Kd.N_mono HO_13.out (fun _ hk => ⟨hk.1, hk.2.1⟩)⟩, ⟨by repeat (first | (with_reducible first | exact HB.out | apply below_alloc | apply pw_below_drewN | apply below_drew1) | exact HB.out)⟩⟩
                                          · replace c53 := Bool.eq_false_iff.mpr c53
                                            subst c53
                                            have H1 : (some false) = some r := by rw [if_neg (show ¬ (false = true) by decide)] at H; exact H
                                            clear H
                                            have H := H1
                                            clear H1
                                            exact absurd (H.trans (congrArg some HRT.out)) (by simp)
                                        · rw [if_neg c51] at H
                                          exact absurd H (by simp)
                                    · rw [if_neg c45] at H
                                      exact absurd H (by simp)
                                  · rw [if_neg c44] at H
                                    exact absurd H (by simp)
                            · rw [if_neg c39] at H
                              exact absurd H (by simp)
                          · rw [if_neg c38] at H
                            exact absurd H (by simp)
                        · rw [if_neg c37] at H
                          exact absurd H (by simp)
                      · rw [if_neg c36] at H
                        have c36b0 : decide (x14_3 < (wrap64 (1 + t125))) = false := decide_eq_false c36
                        clear c36
                        obtain rfl := Option.some.inj H
                        go_wp2
                        go_ret
                        exact ⟨by first | rfl | (simp [errW_none, errW_some] <;> rfl) | (simp [*, errW_none, errW_some] <;> rfl), by repeat (first | (with_reducible first | exact HB.out | apply below_alloc | apply pw_below_drewN | apply below_drew1) | exact HB.out)⟩
          · rw [if_neg c16] at H
            exact absurd H (by simp)
        · rw [if_neg c15] at H
          exact absurd H (by simp)

end Go.Proofs.Ytemjjhpdpdlbnaa.QShardJoins
