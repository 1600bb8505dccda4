-- PRINTED BY print.sh 35421559b90ae4d0a3588c463048766b98c2df88dd9212a6774a882060cdf62d: not written by this session
import Derived.Test.YtblijbpdnbldgaaPBackReachx0
namespace Go.Proofs.Ytblijbpdnbldgaa.PBackReach
open Go.RowKit Go.Proofs.YtblijbpdnbldgaaW.PrintWords Go.Proofs.YtblijbpdnbldgaaW.PrintLast Go.Proofs.YtblijbpdnbldgaaW.PrintMore
attribute [local go_sem] max2_int min2_int max_two min_two max_three min_three max_four min_four   -- for this text's walks alone
set_option linter.unusedVariables false
set_option linter.unusedSimpArgs false

/-! ### back_Span: function 9 -/
def back_Span.l0 : Nat → Int → Int → Int → Int → Option (Int)
  | 0, _, _, _, _ => none
  | k + 1, x1, x7, x12, x13 => if x13 < x12 then (if x7 > (IntKind.u64.wrap (Int.tdiv x1 2)) then (some x1) else (back_Span.l0 k x1 (IntKind.u64.wrap (x7 * 2)) x12 (wrap64 (x13 + 1)))) else (some (mn x7 x1))
def back_Span.f (k : Nat) (a0 : Int) (a1 : Int) (a2 : Int) : Option (Int) := if a0 = 0 then (some 0) else (back_Span.l0 k a1 a0 (mx a2 0) 0)
theorem back_Span.mono_l : ∀ k, (∀ y0 y1 y2 y3, LeO (back_Span.l0 k y0 y1 y2 y3) (back_Span.l0 (k + 1) y0 y1 y2 y3))
  | 0 => fun _ _ _ _ r h => by simp [back_Span.l0] at h
  | k + 1 => by
    have ih0 := back_Span.mono_l k
    · intro y0 y1 y2 y3
      unfold back_Span.l0
      repeat' first
      | (with_reducible exact ih0 _ _ _ _)
      | (with_reducible exact LeO.refl _)
      | (with_reducible exact LeO.none _)
      | (with_reducible refine LeO.ite ?_ ?_)
      | (with_reducible refine LeO.bind ?_ (fun _ => ?_))
      | exact ih0 _ _ _ _
      | exact LeO.none _
      | refine LeO.ite ?_ ?_
      | refine LeO.bind ?_ (fun _ => ?_)
theorem back_Span.mono : ∀ a0 a1 a2 k, LeO (back_Span.f k a0 a1 a2) (back_Span.f (k + 1) a0 a1 a2) := by
  intro a0 a1 a2 k
  have ih0 := back_Span.mono_l k
  unfold back_Span.f
  repeat' first
      | (with_reducible exact ih0 _ _ _ _)
      | (with_reducible exact LeO.refl _)
      | (with_reducible exact LeO.none _)
      | (with_reducible refine LeO.ite ?_ ?_)
      | (with_reducible refine LeO.bind ?_ (fun _ => ?_))
      | exact ih0 _ _ _ _
      | exact LeO.none _
      | refine LeO.ite ?_ ?_
      | refine LeO.bind ?_ (fun _ => ?_)
set_option maxHeartbeats 8000000 in
set_option maxRecDepth 100000 in
theorem back_Span.calls (k : Nat) (a0 : Int) (a1 : Int) (a2 : Int) (r : Int) (w : World) (h : back_Span.f k a0 a1 a2 = some r) :
    Calls Try.prog 9 #[.int .u64 a0, .int .u64 a1, .int .i64 a2] w fun e w' => e = .returned (.int .u64 r) ∧ Below w.heap.size w w' := by
  have HB := Aside0.mk (Below.refl w.heap.size w)
  have H : (if a0 = 0 then (some 0) else (back_Span.l0 k a1 a0 (mx a2 0) 0)) = some r := h
  clear h
  by_cases c4 : a0 = 0
  · rw [if_pos c4] at H
    have c4b0 : (a0 == 0) = true := beq_iff_eq.mpr c4
    have c4b1 : (a0 != 0) = false := bne_eq_false_iff_eq.mpr c4
    clear c4
    obtain rfl := Option.some.inj H
    go_enter Try.func9, Try.ntmps9
    go_wp2
    go_ret
    exact ⟨by first | rfl | (simp [errW_none, errW_some] <;> rfl) | (simp [*, errW_none, errW_some] <;> rfl), by repeat (first | (with_reducible first | exact HB.out | apply below_alloc | apply pw_below_drewN | apply below_drew1) | exact HB.out)⟩
  · rw [if_neg c4] at H
    have c4b0 : (a0 == 0) = false := beq_eq_false_iff_ne.mpr c4
    have c4b1 : (a0 != 0) = true := bne_iff_ne.mpr c4
    obtain ⟨ji5, hji5⟩ : ∃ j_ : Int, (mx a2 0) = j_ := ⟨_, rfl⟩
    replace H : (back_Span.l0 k a1 a0 ji5 0) = some r := by first | (rw [hji5] at H; exact H) | (simp only [hji5] at H ⊢; exact H)
    (try (have hji5l : 0 ≤ ji5 := by (rw [← hji5]; unfold mx; (repeat' split) <;> omega)))
    (try (have hji5m : 0 ≤ ji5 := by omega))
    have hji5_ : (if a2 < 0 then 0 else a2) = ji5 := hji5
    have H' := Aside0.mk H
    clear H
    go_enter Try.func9, Try.ntmps9
    go_wp2
    go_loopg [7, 13] k (fun kq v7 v13 w' => ∃ (x7_1 : Int) (x13_1 : Int), v7 = .int .u64 x7_1 ∧ v13 = .int .i64 x13_1 ∧ Aside0 (back_Span.l0 kq a1 x7_1 ji5 x13_1 = some r) ∧ Aside0 (kq ≤ k) ∧ Aside0 (Below w.heap.size w w'))
    case atStart => exact ⟨(a0), (0), (by first | rfl | (simp; done) | (simp [*]; done)), (by first | rfl | (simp; done) | (simp [*]; done)), H', ⟨Nat.le_refl _⟩, ⟨by repeat (first | (with_reducible first | exact HB.out | apply below_alloc | apply pw_below_drewN | apply below_drew1) | exact HB.out)⟩⟩
    case round =>
      clear H'
      try clear p2
      try clear c4
      try clear c4b0
      try clear c4b1
      obtain ⟨x7_1, x13_1, rfl, rfl, HA, HK1, HB⟩ := hrel
      cases gk with
      | zero => exact absurd HA.out (by simp [back_Span.l0])
      | succ k1 =>
        have H := HA.out
        clear HA
        simp only [back_Span.l0] at H
        by_cases c6 : x13_1 < ji5
        · rw [if_pos c6] at H
          have c6b0 : decide (x13_1 < ji5) = true := decide_eq_true c6
          clear c6
          by_cases c7 : x7_1 > (IntKind.u64.wrap (Int.tdiv a1 2))
          · rw [if_pos c7] at H
            have c7b0 : decide ((IntKind.u64.wrap (Int.tdiv a1 2)) < x7_1) = true := decide_eq_true c7
            clear c7
            obtain rfl := Option.some.inj H
            go_wp2
            go_ret
            exact ⟨by first | rfl | (simp [errW_none, errW_some] <;> rfl) | (simp only [← hji5]; first | rfl | (simp [errW_none, errW_some] <;> rfl)) | (simp [*, errW_none, errW_some] <;> rfl), by repeat (first | (with_reducible first | exact HB.out | apply below_alloc | apply pw_below_drewN | apply below_drew1) | exact HB.out)⟩
          · rw [if_neg c7] at H
            have c7b0 : decide ((IntKind.u64.wrap (Int.tdiv a1 2)) < x7_1) = false := decide_eq_false c7
            clear c7
            have H' := Aside0.mk H
            clear H
            go_wp2
            go_roundg k1
            case measure => have := HK1.out; omega
            case rel => exact ⟨(IntKind.u64.wrap (x7_1 * 2)), (wrap64 (x13_1 + 1)), (by first | rfl | (simp; done) | (simp [*]; done)), (by first | rfl | (simp; done) | (simp [*]; done)), H', ⟨by have := HK1.out; omega⟩, ⟨by repeat (first | (with_reducible first | exact HB.out | apply below_alloc | apply pw_below_drewN | apply below_drew1) | exact HB.out)⟩⟩
        · rw [if_neg c6] at H
          have c6b0 : decide (x13_1 < ji5) = false := decide_eq_false c6
          clear c6
          obtain ⟨ji8, hji8⟩ : ∃ j_ : Int, (mn x7_1 a1) = j_ := ⟨_, rfl⟩
          replace H : (some ji8) = some r := by first | (rw [hji8] at H; exact H) | (simp only [hji8] at H ⊢; exact H)
          have hji8_ : (if a1 < x7_1 then a1 else x7_1) = ji8 := hji8
          obtain rfl := Option.some.inj H
          go_wp2
          go_ret
          exact ⟨by first | rfl | (simp [errW_none, errW_some] <;> rfl) | (simp only [← hji5, ← hji8]; first | rfl | (simp [errW_none, errW_some] <;> rfl)) | (simp [*, errW_none, errW_some] <;> rfl), by repeat (first | (with_reducible first | exact HB.out | apply below_alloc | apply pw_below_drewN | apply below_drew1) | exact HB.out)⟩

/-! ### back_Delay: function 11 -/
def back_Delay.f (k : Nat) (a0 : Int) (a1 : Int) (a2 : Int) (a3 : Int) : Option (Int) := (back_Span.f k a0 a1 a2).bind fun t101 => (if (IntKind.u64.wrap ((IntKind.u64.wrap (t101 - (mn a0 a1))) + 1)) = 0 then (none) else (some (IntKind.u64.wrap ((mn a0 a1) + (Int.tmod a3 (IntKind.u64.wrap ((IntKind.u64.wrap (t101 - (mn a0 a1))) + 1)))))))
theorem back_Delay.mono : ∀ a0 a1 a2 a3 k, LeO (back_Delay.f k a0 a1 a2 a3) (back_Delay.f (k + 1) a0 a1 a2 a3) := by
  intro a0 a1 a2 a3 k
  unfold back_Delay.f
  repeat' first
      | (with_reducible exact back_Span.mono _ _ _ _)
      | (with_reducible exact LeO.refl _)
      | (with_reducible exact LeO.none _)
      | (with_reducible refine LeO.ite ?_ ?_)
      | (with_reducible refine LeO.bind ?_ (fun _ => ?_))
      | exact back_Span.mono _ _ _ _
      | exact LeO.none _
      | refine LeO.ite ?_ ?_
      | refine LeO.bind ?_ (fun _ => ?_)
set_option maxHeartbeats 8000000 in
set_option maxRecDepth 100000 in
theorem back_Delay.calls (k : Nat) (a0 : Int) (a1 : Int) (a2 : Int) (a3 : Int) (r : Int) (w : World) (h : back_Delay.f k a0 a1 a2 a3 = some r) :
    Calls Try.prog 11 #[.int .u64 a0, .int .u64 a1, .int .i64 a2, .int .u64 a3] w fun e w' => e = .returned (.int .u64 r) ∧ Below w.heap.size w w' := by
  have HB := Aside0.mk (Below.refl w.heap.size w)
  have H : ((back_Span.f k a0 a1 a2).bind fun t101 => (if (IntKind.u64.wrap ((IntKind.u64.wrap (t101 - (mn a0 a1))) + 1)) = 0 then (none) else (some (IntKind.u64.wrap ((mn a0 a1) + (Int.tmod a3 (IntKind.u64.wrap ((IntKind.u64.wrap (t101 - (mn a0 a1))) + 1)))))))) = some r := h
  clear h
  obtain ⟨ji5, hji5⟩ : ∃ j_ : Int, (mn a0 a1) = j_ := ⟨_, rfl⟩
  replace H : ((back_Span.f k a0 a1 a2).bind fun t101 => (if (IntKind.u64.wrap ((IntKind.u64.wrap (t101 - (ji5))) + 1)) = 0 then (none) else (some (IntKind.u64.wrap ((ji5) + (Int.tmod a3 (IntKind.u64.wrap ((IntKind.u64.wrap (t101 - (ji5))) + 1)))))))) = some r := by first | (rw [hji5] at H; exact H) | (simp only [hji5] at H ⊢; exact H)
  have hji5_ : (if a1 < a0 then a1 else a0) = ji5 := hji5
  replace H := Option.bind_eq_some_iff.mp H
  obtain ⟨t101, A60, H⟩ := H
  replace H : (if (IntKind.u64.wrap ((IntKind.u64.wrap (t101 - (ji5))) + 1)) = 0 then (none) else (some (IntKind.u64.wrap ((ji5) + (Int.tmod a3 (IntKind.u64.wrap ((IntKind.u64.wrap (t101 - (ji5))) + 1))))))) = some r := H
  have A6 := Aside0.mk A60
  clear A60
  by_cases c7 : (IntKind.u64.wrap ((IntKind.u64.wrap (t101 - (ji5))) + 1)) = 0
  · rw [if_pos c7] at H
    exact absurd H (by simp)
  · rw [if_neg c7] at H
    have c7b0 : ((IntKind.u64.wrap ((IntKind.u64.wrap (t101 - (ji5))) + 1)) == 0) = false := beq_eq_false_iff_ne.mpr c7
    have c7b1 : ((IntKind.u64.wrap ((IntKind.u64.wrap (t101 - (ji5))) + 1)) != 0) = true := bne_iff_ne.mpr c7
    obtain rfl := Option.some.inj H
    go_enter Try.func11, Try.ntmps11
    go_wp2_with (first | ((with_reducible refine gate_callee (f := 9) rfl ?_); refine goesL_ (some 18) rfl rfl Try.func9 (by kernel_rfl) rfl #[.int .u64 a0, .int .u64 a1, .int .i64 a2] rfl (by (try simp only [List.map_toArray, List.map_cons, List.map_nil]); first | done | rfl | (simp only [List.length_drop, List.length_take]; rfl)) ?_; (with_reducible refine (back_Span.calls k a0 a1 a2 t101 _ A6.out).mono ?_); rintro e w8 ⟨rfl, hb⟩; refine ⟨_, rfl, ?_⟩; have n0_ := Aside0.mk (below_step (by repeat (first | (with_reducible first | exact HB.out | apply below_alloc | apply pw_below_drewN | apply below_drew1) | exact HB.out)) hb); clear HB; have HB := n0_; clear n0_; (try clear hb); (try clear hb2); (try clear hk); (try clear hi)))
    go_ret
    exact ⟨by first | rfl | (simp [errW_none, errW_some] <;> rfl) | (simp only [← hji5]; first | rfl | (simp [errW_none, errW_some] <;> rfl)) | (simp [*, errW_none, errW_some] <;> rfl), by repeat (first | (with_reducible first | exact HB.out | apply below_alloc | apply pw_below_drewN | apply below_drew1) | exact HB.out)⟩

/-! ### postroomlaw14_shown: function 8 -/
def postroomlaw14_shown.f (k : Nat)  : Option (Bool) := (back_Span.f k 10 100 0).bind fun t102 => (if t102 = 10 then ((back_Span.f k 10 100 2).bind fun t103 => (if t103 = 40 then ((back_Span.f k 10 100 9).bind fun t104 => (if t104 = 100 then ((back_Delay.f k 10 100 2 31).bind fun t105 => (some (t105 == 10))) else (some false))) else (some false))) else (some false))
theorem postroomlaw14_shown.mono : ∀ k, LeO (postroomlaw14_shown.f k ) (postroomlaw14_shown.f (k + 1) ) := by
  intro  k
  unfold postroomlaw14_shown.f
  repeat' first
      | (with_reducible exact back_Delay.mono _ _ _ _ _)
      | (with_reducible exact back_Span.mono _ _ _ _)
      | (with_reducible exact LeO.refl _)
      | (with_reducible exact LeO.none _)
      | (with_reducible refine LeO.ite ?_ ?_)
      | (with_reducible refine LeO.bind ?_ (fun _ => ?_))
      | exact back_Delay.mono _ _ _ _ _
      | exact back_Span.mono _ _ _ _
      | exact LeO.none _
      | refine LeO.ite ?_ ?_
      | refine LeO.bind ?_ (fun _ => ?_)
set_option maxHeartbeats 8000000 in
set_option maxRecDepth 100000 in
theorem postroomlaw14_shown.calls (k : Nat)  (r : Bool) (w : World) (h : postroomlaw14_shown.f k  = some r) :
    Calls Try.prog 8 #[] w fun e w' => e = .returned (.bool r) ∧ Below w.heap.size w w' := by
  have HB := Aside0.mk (Below.refl w.heap.size w)
  have H : ((back_Span.f k 10 100 0).bind fun t102 => (if t102 = 10 then ((back_Span.f k 10 100 2).bind fun t103 => (if t103 = 40 then ((back_Span.f k 10 100 9).bind fun t104 => (if t104 = 100 then ((back_Delay.f k 10 100 2 31).bind fun t105 => (some (t105 == 10))) else (some false))) else (some false))) else (some false))) = some r := h
  clear h
  replace H := Option.bind_eq_some_iff.mp H
  obtain ⟨t102, A10, H⟩ := H
  replace H : (if t102 = 10 then ((back_Span.f k 10 100 2).bind fun t103 => (if t103 = 40 then ((back_Span.f k 10 100 9).bind fun t104 => (if t104 = 100 then ((back_Delay.f k 10 100 2 31).bind fun t105 => (some (t105 == 10))) else (some false))) else (some false))) else (some false)) = some r := H
  have A1 := Aside0.mk A10
  clear A10
  by_cases c2 : t102 = 10
  · rw [if_pos c2] at H
    have c2b0 : (t102 == 10) = true := beq_iff_eq.mpr c2
    have c2b1 : (t102 != 10) = false := bne_eq_false_iff_eq.mpr c2
    clear c2
    replace H := Option.bind_eq_some_iff.mp H
    obtain ⟨t103, A30, H⟩ := H
    replace H : (if t103 = 40 then ((back_Span.f k 10 100 9).bind fun t104 => (if t104 = 100 then ((back_Delay.f k 10 100 2 31).bind fun t105 => (some (t105 == 10))) else (some false))) else (some false)) = some r := H
    have A3 := Aside0.mk A30
    clear A30
    by_cases c4 : t103 = 40
    · rw [if_pos c4] at H
      have c4b0 : (t103 == 40) = true := beq_iff_eq.mpr c4
      have c4b1 : (t103 != 40) = false := bne_eq_false_iff_eq.mpr c4
      clear c4
      replace H := Option.bind_eq_some_iff.mp H
      obtain ⟨t104, A50, H⟩ := H
      replace H : (if t104 = 100 then ((back_Delay.f k 10 100 2 31).bind fun t105 => (some (t105 == 10))) else (some false)) = some r := H
      have A5 := Aside0.mk A50
      clear A50
      by_cases c6 : t104 = 100
      · rw [if_pos c6] at H
        have c6b0 : (t104 == 100) = true := beq_iff_eq.mpr c6
        have c6b1 : (t104 != 100) = false := bne_eq_false_iff_eq.mpr c6
        clear c6
        replace H := Option.bind_eq_some_iff.mp H
        obtain ⟨t105, A70, H⟩ := H
        replace H : (some (t105 == 10)) = some r := H
        have A7 := Aside0.mk A70
        clear A70
        obtain rfl := Option.some.inj H
        go_enter Try.func8, Try.ntmps8
        go_wp2_with (first | ((with_reducible refine gate_callee (f := 9) rfl ?_); refine goesL_ (some 1) rfl rfl Try.func9 (by kernel_rfl) rfl #[.int .u64 10, .int .u64 100, .int .i64 0] rfl (by (try simp only [List.map_toArray, List.map_cons, List.map_nil]); first | done | rfl | (simp only [List.length_drop, List.length_take]; rfl)) ?_; (with_reducible refine (back_Span.calls k 10 100 0 t102 _ A1.out).mono ?_); rintro e w8 ⟨rfl, hb⟩; refine ⟨_, rfl, ?_⟩; have n0_ := Aside0.mk (below_step (by repeat (first | (with_reducible first | exact HB.out | apply below_alloc | apply pw_below_drewN | apply below_drew1) | exact HB.out)) hb); clear HB; have HB := n0_; clear n0_; (try clear hb); (try clear hb2); (try clear hk); (try clear hi)) | (go_at_call 9; (with_reducible refine (back_Span.calls k 10 100 2 t103 _ A3.out).mono ?_); rintro e w9 ⟨rfl, hb⟩; have n0_ := Aside0.mk (below_step (by repeat (first | (with_reducible first | exact HB.out | apply below_alloc | apply pw_below_drewN | apply below_drew1) | exact HB.out)) hb); clear HB; have HB := n0_; clear n0_; (try clear hb); (try clear hb2); (try clear hk); (try clear hi)) | (go_at_call 9; (with_reducible refine (back_Span.calls k 10 100 9 t104 _ A5.out).mono ?_); rintro e w10 ⟨rfl, hb⟩; have n0_ := Aside0.mk (below_step (by repeat (first | (with_reducible first | exact HB.out | apply below_alloc | apply pw_below_drewN | apply below_drew1) | exact HB.out)) hb); clear HB; have HB := n0_; clear n0_; (try clear hb); (try clear hb2); (try clear hk); (try clear hi)) | (go_at_call 11; (with_reducible refine (back_Delay.calls k 10 100 2 31 t105 _ A7.out).mono ?_); rintro e w11 ⟨rfl, hb⟩; have n0_ := Aside0.mk (below_step (by repeat (first | (with_reducible first | exact HB.out | apply below_alloc | apply pw_below_drewN | apply below_drew1) | exact HB.out)) hb); clear HB; have HB := n0_; clear n0_; (try clear hb); (try clear hb2); (try clear hk); (try clear hi)))
        go_ret
        exact ⟨by first | rfl | (simp [errW_none, errW_some] <;> rfl) | (simp [*, errW_none, errW_some] <;> rfl), by repeat (first | (with_reducible first | exact HB.out | apply below_alloc | apply pw_below_drewN | apply below_drew1) | exact HB.out)⟩
      · rw [if_neg c6] at H
        have c6b0 : (t104 == 100) = false := beq_eq_false_iff_ne.mpr c6
        have c6b1 : (t104 != 100) = true := bne_iff_ne.mpr c6
        obtain rfl := Option.some.inj H
        go_enter Try.func8, Try.ntmps8
        go_wp2_with (first | ((with_reducible refine gate_callee (f := 9) rfl ?_); refine goesL_ (some 1) rfl rfl Try.func9 (by kernel_rfl) rfl #[.int .u64 10, .int .u64 100, .int .i64 0] rfl (by (try simp only [List.map_toArray, List.map_cons, List.map_nil]); first | done | rfl | (simp only [List.length_drop, List.length_take]; rfl)) ?_; (with_reducible refine (back_Span.calls k 10 100 0 t102 _ A1.out).mono ?_); rintro e w12 ⟨rfl, hb⟩; refine ⟨_, rfl, ?_⟩; have n0_ := Aside0.mk (below_step (by repeat (first | (with_reducible first | exact HB.out | apply below_alloc | apply pw_below_drewN | apply below_drew1) | exact HB.out)) hb); clear HB; have HB := n0_; clear n0_; (try clear hb); (try clear hb2); (try clear hk); (try clear hi)) | (go_at_call 9; (with_reducible refine (back_Span.calls k 10 100 2 t103 _ A3.out).mono ?_); rintro e w13 ⟨rfl, hb⟩; have n0_ := Aside0.mk (below_step (by repeat (first | (with_reducible first | exact HB.out | apply below_alloc | apply pw_below_drewN | apply below_drew1) | exact HB.out)) hb); clear HB; have HB := n0_; clear n0_; (try clear hb); (try clear hb2); (try clear hk); (try clear hi)) | (go_at_call 9; (with_reducible refine (back_Span.calls k 10 100 9 t104 _ A5.out).mono ?_); rintro e w14 ⟨rfl, hb⟩; have n0_ := Aside0.mk (below_step (by repeat (first | (with_reducible first | exact HB.out | apply below_alloc | apply pw_below_drewN | apply below_drew1) | exact HB.out)) hb); clear HB; have HB := n0_; clear n0_; (try clear hb); (try clear hb2); (try clear hk); (try clear hi)))
        go_ret
        exact ⟨by first | rfl | (simp [errW_none, errW_some] <;> rfl) | (simp [*, errW_none, errW_some] <;> rfl), by repeat (first | (with_reducible first | exact HB.out | apply below_alloc | apply pw_below_drewN | apply below_drew1) | exact HB.out)⟩
    · rw [if_neg c4] at H
      have c4b0 : (t103 == 40) = false := beq_eq_false_iff_ne.mpr c4
      have c4b1 : (t103 != 40) = true := bne_iff_ne.mpr c4
      obtain rfl := Option.some.inj H
      go_enter Try.func8, Try.ntmps8
      go_wp2_with (first | ((with_reducible refine gate_callee (f := 9) rfl ?_); refine goesL_ (some 1) rfl rfl Try.func9 (by kernel_rfl) rfl #[.int .u64 10, .int .u64 100, .int .i64 0] rfl (by (try simp only [List.map_toArray, List.map_cons, List.map_nil]); first | done | rfl | (simp only [List.length_drop, List.length_take]; rfl)) ?_; (with_reducible refine (back_Span.calls k 10 100 0 t102 _ A1.out).mono ?_); rintro e w15 ⟨rfl, hb⟩; refine ⟨_, rfl, ?_⟩; have n0_ := Aside0.mk (below_step (by repeat (first | (with_reducible first | exact HB.out | apply below_alloc | apply pw_below_drewN | apply below_drew1) | exact HB.out)) hb); clear HB; have HB := n0_; clear n0_; (try clear hb); (try clear hb2); (try clear hk); (try clear hi)) | (go_at_call 9; (with_reducible refine (back_Span.calls k 10 100 2 t103 _ A3.out).mono ?_); rintro e w16 ⟨rfl, hb⟩; have n0_ := Aside0.mk (below_step (by repeat (first | (with_reducible first | exact HB.out | apply below_alloc | apply pw_below_drewN | apply below_drew1) | exact HB.out)) hb); clear HB; have HB := n0_; clear n0_; (try clear hb); (try clear hb2); (try clear hk); (try clear hi)))
      go_ret
      exact ⟨by first | rfl | (simp [errW_none, errW_some] <;> rfl) | (simp [*, errW_none, errW_some] <;> rfl), by repeat (first | (with_reducible first | exact HB.out | apply below_alloc | apply pw_below_drewN | apply below_drew1) | exact HB.out)⟩
  · rw [if_neg c2] at H
    have c2b0 : (t102 == 10) = false := beq_eq_false_iff_ne.mpr c2
    have c2b1 : (t102 != 10) = true := bne_iff_ne.mpr c2
    obtain rfl := Option.some.inj H
    go_enter Try.func8, Try.ntmps8
    go_wp2_with (first | ((with_reducible refine gate_callee (f := 9) rfl ?_); refine goesL_ (some 1) rfl rfl Try.func9 (by kernel_rfl) rfl #[.int .u64 10, .int .u64 100, .int .i64 0] rfl (by (try simp only [List.map_toArray, List.map_cons, List.map_nil]); first | done | rfl | (simp only [List.length_drop, List.length_take]; rfl)) ?_; (with_reducible refine (back_Span.calls k 10 100 0 t102 _ A1.out).mono ?_); rintro e w17 ⟨rfl, hb⟩; refine ⟨_, rfl, ?_⟩; have n0_ := Aside0.mk (below_step (by repeat (first | (with_reducible first | exact HB.out | apply below_alloc | apply pw_below_drewN | apply below_drew1) | exact HB.out)) hb); clear HB; have HB := n0_; clear n0_; (try clear hb); (try clear hb2); (try clear hk); (try clear hi)))
    go_ret
    exact ⟨by first | rfl | (simp [errW_none, errW_some] <;> rfl) | (simp [*, errW_none, errW_some] <;> rfl), by repeat (first | (with_reducible first | exact HB.out | apply below_alloc | apply pw_below_drewN | apply below_drew1) | exact HB.out)⟩

/-! ### postroomlaw14_BackReach: function 5 -/
def postroomlaw14_BackReach.f (k : Nat) (a0 : Int) (a1 : Int) (a2 : Int) (a3 : Int) : Option (Bool) := (postroomlaw14_shown.f k).bind fun t106 => (if t106 = true then ((back_Span.f k a0 a1 a2).bind fun t107 => (if (IntKind.u64.wrap (t107 - (mn a0 a1))) = 18446744073709551615 then (some false) else (if (IntKind.u64.wrap ((IntKind.u64.wrap (t107 - (mn a0 a1))) + 1)) = 0 then (none) else ((back_Delay.f k a0 a1 a2 (Int.tmod a3 (IntKind.u64.wrap ((IntKind.u64.wrap (t107 - (mn a0 a1))) + 1)))).bind fun t108 => (some (t108 == (IntKind.u64.wrap ((mn a0 a1) + (Int.tmod a3 (IntKind.u64.wrap ((IntKind.u64.wrap (t107 - (mn a0 a1))) + 1))))))))))) else (some false))
theorem postroomlaw14_BackReach.mono : ∀ a0 a1 a2 a3 k, LeO (postroomlaw14_BackReach.f k a0 a1 a2 a3) (postroomlaw14_BackReach.f (k + 1) a0 a1 a2 a3) := by
  intro a0 a1 a2 a3 k
  unfold postroomlaw14_BackReach.f
  repeat' first
      | (with_reducible exact back_Delay.mono _ _ _ _ _)
      | (with_reducible exact back_Span.mono _ _ _ _)
      | (with_reducible exact postroomlaw14_shown.mono _)
      | (with_reducible exact LeO.refl _)
      | (with_reducible exact LeO.none _)
      | (with_reducible refine LeO.ite ?_ ?_)
      | (with_reducible refine LeO.bind ?_ (fun _ => ?_))
      | exact back_Delay.mono _ _ _ _ _
      | exact back_Span.mono _ _ _ _
      | exact postroomlaw14_shown.mono _
      | exact LeO.none _
      | refine LeO.ite ?_ ?_
      | refine LeO.bind ?_ (fun _ => ?_)
set_option maxHeartbeats 8000000 in
set_option maxRecDepth 100000 in
theorem postroomlaw14_BackReach.calls (k : Nat) (a0 : Int) (a1 : Int) (a2 : Int) (a3 : Int) (r : Bool) (w : World) (h : postroomlaw14_BackReach.f k a0 a1 a2 a3 = some r) :
    Calls Try.prog 5 #[.int .u64 a0, .int .u64 a1, .int .i64 a2, .int .u64 a3] w fun e w' => e = .returned (.bool r) ∧ Below w.heap.size w w' := by
  have HB := Aside0.mk (Below.refl w.heap.size w)
  have H : ((postroomlaw14_shown.f k).bind fun t106 => (if t106 = true then ((back_Span.f k a0 a1 a2).bind fun t107 => (if (IntKind.u64.wrap (t107 - (mn a0 a1))) = 18446744073709551615 then (some false) else (if (IntKind.u64.wrap ((IntKind.u64.wrap (t107 - (mn a0 a1))) + 1)) = 0 then (none) else ((back_Delay.f k a0 a1 a2 (Int.tmod a3 (IntKind.u64.wrap ((IntKind.u64.wrap (t107 - (mn a0 a1))) + 1)))).bind fun t108 => (some (t108 == (IntKind.u64.wrap ((mn a0 a1) + (Int.tmod a3 (IntKind.u64.wrap ((IntKind.u64.wrap (t107 - (mn a0 a1))) + 1))))))))))) else (some false))) = some r := h
  clear h
  replace H := Option.bind_eq_some_iff.mp H
  obtain ⟨t106, A50, H⟩ := H
  replace H : (if t106 = true then ((back_Span.f k a0 a1 a2).bind fun t107 => (if (IntKind.u64.wrap (t107 - (mn a0 a1))) = 18446744073709551615 then (some false) else (if (IntKind.u64.wrap ((IntKind.u64.wrap (t107 - (mn a0 a1))) + 1)) = 0 then (none) else ((back_Delay.f k a0 a1 a2 (Int.tmod a3 (IntKind.u64.wrap ((IntKind.u64.wrap (t107 - (mn a0 a1))) + 1)))).bind fun t108 => (some (t108 == (IntKind.u64.wrap ((mn a0 a1) + (Int.tmod a3 (IntKind.u64.wrap ((IntKind.u64.wrap (t107 - (mn a0 a1))) + 1))))))))))) else (some false)) = some r := H
  have A5 := Aside0.mk A50
  clear A50
  by_cases c6 : t106 = true
  · subst c6
    have H1 : ((back_Span.f k a0 a1 a2).bind fun t107 => (if (IntKind.u64.wrap (t107 - (mn a0 a1))) = 18446744073709551615 then (some false) else (if (IntKind.u64.wrap ((IntKind.u64.wrap (t107 - (mn a0 a1))) + 1)) = 0 then (none) else ((back_Delay.f k a0 a1 a2 (Int.tmod a3 (IntKind.u64.wrap ((IntKind.u64.wrap (t107 - (mn a0 a1))) + 1)))).bind fun t108 => (some (t108 == (IntKind.u64.wrap ((mn a0 a1) + (Int.tmod a3 (IntKind.u64.wrap ((IntKind.u64.wrap (t107 - (mn a0 a1))) + 1))))))))))) = some r := by rw [if_pos rfl] at H; exact H
    clear H
    have H := H1
    clear H1
    obtain ⟨ji7, hji7⟩ : ∃ j_ : Int, (mn a0 a1) = j_ := ⟨_, rfl⟩
    replace H : ((back_Span.f k a0 a1 a2).bind fun t107 => (if (IntKind.u64.wrap (t107 - (ji7))) = 18446744073709551615 then (some false) else (if (IntKind.u64.wrap ((IntKind.u64.wrap (t107 - (ji7))) + 1)) = 0 then (none) else ((back_Delay.f k a0 a1 a2 (Int.tmod a3 (IntKind.u64.wrap ((IntKind.u64.wrap (t107 - (ji7))) + 1)))).bind fun t108 => (some (t108 == (IntKind.u64.wrap ((ji7) + (Int.tmod a3 (IntKind.u64.wrap ((IntKind.u64.wrap (t107 - (ji7))) + 1))))))))))) = some r := by first | (rw [hji7] at H; exact H) | (simp only [hji7] at H ⊢; exact H)
    (try rw [hji7] at A5)
    have hji7_ : (if a1 < a0 then a1 else a0) = ji7 := hji7
    replace H := Option.bind_eq_some_iff.mp H
    obtain ⟨t107, A80, H⟩ := H
    replace H : (if (IntKind.u64.wrap (t107 - (ji7))) = 18446744073709551615 then (some false) else (if (IntKind.u64.wrap ((IntKind.u64.wrap (t107 - (ji7))) + 1)) = 0 then (none) else ((back_Delay.f k a0 a1 a2 (Int.tmod a3 (IntKind.u64.wrap ((IntKind.u64.wrap (t107 - (ji7))) + 1)))).bind fun t108 => (some (t108 == (IntKind.u64.wrap ((ji7) + (Int.tmod a3 (IntKind.u64.wrap ((IntKind.u64.wrap (t107 - (ji7))) + 1)))))))))) = some r := H
    have A8 := Aside0.mk A80
    clear A80
    by_cases c9 : (IntKind.u64.wrap (t107 - (ji7))) = 18446744073709551615
    · rw [if_pos c9] at H
      have c9b0 : ((IntKind.u64.wrap (t107 - (ji7))) == 18446744073709551615) = true := beq_iff_eq.mpr c9
      have c9b1 : ((IntKind.u64.wrap (t107 - (ji7))) != 18446744073709551615) = false := bne_eq_false_iff_eq.mpr c9
      clear c9
      obtain rfl := Option.some.inj H
      go_enter Try.func5, Try.ntmps5
      go_wp2_with (first | ((with_reducible refine gate_callee (f := 8) rfl ?_); refine goesL_ (some 13) rfl rfl Try.func8 (by kernel_rfl) rfl #[] rfl (by (try simp only [List.map_toArray, List.map_cons, List.map_nil]); first | done | rfl | (simp only [List.length_drop, List.length_take]; rfl)) ?_; (with_reducible refine (postroomlaw14_shown.calls k  true _ A5.out).mono ?_); rintro e w10 ⟨rfl, hb⟩; refine ⟨_, rfl, ?_⟩; have n0_ := Aside0.mk (below_step (by repeat (first | (with_reducible first | exact HB.out | apply below_alloc | apply pw_below_drewN | apply below_drew1) | exact HB.out)) hb); clear HB; have HB := n0_; clear n0_; (try clear hb); (try clear hb2); (try clear hk); (try clear hi)) | ((with_reducible refine gate_callee (f := 9) rfl ?_); refine goesL_ (some 22) rfl rfl Try.func9 (by kernel_rfl) rfl #[.int .u64 a0, .int .u64 a1, .int .i64 a2] rfl (by (try simp only [List.map_toArray, List.map_cons, List.map_nil]); first | done | rfl | (simp only [List.length_drop, List.length_take]; rfl)) ?_; (with_reducible refine (back_Span.calls k a0 a1 a2 t107 _ A8.out).mono ?_); rintro e w11 ⟨rfl, hb⟩; refine ⟨_, rfl, ?_⟩; have n0_ := Aside0.mk (below_step (by repeat (first | (with_reducible first | exact HB.out | apply below_alloc | apply pw_below_drewN | apply below_drew1) | exact HB.out)) hb); clear HB; have HB := n0_; clear n0_; (try clear hb); (try clear hb2); (try clear hk); (try clear hi)))
      go_ret
      exact ⟨by first | rfl | (simp [errW_none, errW_some] <;> rfl) | (simp only [← hji7]; first | rfl | (simp [errW_none, errW_some] <;> rfl)) | (simp [*, errW_none, errW_some] <;> rfl), by repeat (first | (with_reducible first | exact HB.out | apply below_alloc | apply pw_below_drewN | apply below_drew1) | exact HB.out)⟩
    · rw [if_neg c9] at H
      have c9b0 : ((IntKind.u64.wrap (t107 - (ji7))) == 18446744073709551615) = false := beq_eq_false_iff_ne.mpr c9
      have c9b1 : ((IntKind.u64.wrap (t107 - (ji7))) != 18446744073709551615) = true := bne_iff_ne.mpr c9
      by_cases c12 : (IntKind.u64.wrap ((IntKind.u64.wrap (t107 - (ji7))) + 1)) = 0
      · rw [if_pos c12] at H
        exact absurd H (by simp)
      · rw [if_neg c12] at H
        have c12b0 : ((IntKind.u64.wrap ((IntKind.u64.wrap (t107 - (ji7))) + 1)) == 0) = false := beq_eq_false_iff_ne.mpr c12
        have c12b1 : ((IntKind.u64.wrap ((IntKind.u64.wrap (t107 - (ji7))) + 1)) != 0) = true := bne_iff_ne.mpr c12
        replace H := Option.bind_eq_some_iff.mp H
        obtain ⟨t108, A130, H⟩ := H
        replace H : (some (t108 == (IntKind.u64.wrap ((ji7) + (Int.tmod a3 (IntKind.u64.wrap ((IntKind.u64.wrap (t107 - (ji7))) + 1))))))) = some r := H
        have A13 := Aside0.mk A130
        clear A130
        obtain rfl := Option.some.inj H
        go_enter Try.func5, Try.ntmps5
        go_wp2_with (first | ((with_reducible refine gate_callee (f := 8) rfl ?_); refine goesL_ (some 13) rfl rfl Try.func8 (by kernel_rfl) rfl #[] rfl (by (try simp only [List.map_toArray, List.map_cons, List.map_nil]); first | done | rfl | (simp only [List.length_drop, List.length_take]; rfl)) ?_; (with_reducible refine (postroomlaw14_shown.calls k  true _ A5.out).mono ?_); rintro e w14 ⟨rfl, hb⟩; refine ⟨_, rfl, ?_⟩; have n0_ := Aside0.mk (below_step (by repeat (first | (with_reducible first | exact HB.out | apply below_alloc | apply pw_below_drewN | apply below_drew1) | exact HB.out)) hb); clear HB; have HB := n0_; clear n0_; (try clear hb); (try clear hb2); (try clear hk); (try clear hi)) | ((with_reducible refine gate_callee (f := 9) rfl ?_); refine goesL_ (some 22) rfl rfl Try.func9 (by kernel_rfl) rfl #[.int .u64 a0, .int .u64 a1, .int .i64 a2] rfl (by (try simp only [List.map_toArray, List.map_cons, List.map_nil]); first | done | rfl | (simp only [List.length_drop, List.length_take]; rfl)) ?_; (with_reducible refine (back_Span.calls k a0 a1 a2 t107 _ A8.out).mono ?_); rintro e w15 ⟨rfl, hb⟩; refine ⟨_, rfl, ?_⟩; have n0_ := Aside0.mk (below_step (by repeat (first | (with_reducible first | exact HB.out | apply below_alloc | apply pw_below_drewN | apply below_drew1) | exact HB.out)) hb); clear HB; have HB := n0_; clear n0_; (try clear hb); (try clear hb2); (try clear hk); (try clear hi)) | ((with_reducible refine gate_callee (f := 11) rfl ?_); refine goesL_ (some 35) rfl rfl Try.func11 (by kernel_rfl) rfl #[.int .u64 a0, .int .u64 a1, .int .i64 a2, .int .u64 (Int.tmod a3 (IntKind.u64.wrap ((IntKind.u64.wrap (t107 - (ji7))) + 1)))] rfl (by (try simp only [List.map_toArray, List.map_cons, List.map_nil]); first | done | (simp only [hji7]; rfl) | rfl | (simp only [List.length_drop, List.length_take]; rfl)) ?_; (with_reducible refine (back_Delay.calls k a0 a1 a2 (Int.tmod a3 (IntKind.u64.wrap ((IntKind.u64.wrap (t107 - (ji7))) + 1))) t108 _ A13.out).mono ?_); rintro e w16 ⟨rfl, hb⟩; refine ⟨_, rfl, ?_⟩; have n0_ := Aside0.mk (below_step (by repeat (first | (with_reducible first | exact HB.out | apply below_alloc | apply pw_below_drewN | apply below_drew1) | exact HB.out)) hb); clear HB; have HB := n0_; clear n0_; (try clear hb); (try clear hb2); (try clear hk); (try clear hi)))
        go_ret
        exact ⟨by first | rfl | (simp [errW_none, errW_some] <;> rfl) | (simp only [← hji7]; first | rfl | (simp [errW_none, errW_some] <;> rfl)) | (simp [*, errW_none, errW_some] <;> rfl), by repeat (first | (with_reducible first | exact HB.out | apply below_alloc | apply pw_below_drewN | apply below_drew1) | exact HB.out)⟩
  · replace c6 := Bool.eq_false_iff.mpr c6
    subst c6
    have H1 : (some false) = some r := by rw [if_neg (show ¬ (false = true) by decide)] at H; exact H
    clear H
    have H := H1
    clear H1
    obtain rfl := Option.some.inj H
    go_enter Try.func5, Try.ntmps5
    go_wp2_with (first | ((with_reducible refine gate_callee (f := 8) rfl ?_); refine goesL_ (some 13) rfl rfl Try.func8 (by kernel_rfl) rfl #[] rfl (by (try simp only [List.map_toArray, List.map_cons, List.map_nil]); first | done | rfl | (simp only [List.length_drop, List.length_take]; rfl)) ?_; (with_reducible refine (postroomlaw14_shown.calls k  false _ A5.out).mono ?_); rintro e w17 ⟨rfl, hb⟩; refine ⟨_, rfl, ?_⟩; have n0_ := Aside0.mk (below_step (by repeat (first | (with_reducible first | exact HB.out | apply below_alloc | apply pw_below_drewN | apply below_drew1) | exact HB.out)) hb); clear HB; have HB := n0_; clear n0_; (try clear hb); (try clear hb2); (try clear hk); (try clear hi)))
    go_ret
    exact ⟨by first | rfl | (simp [errW_none, errW_some] <;> rfl) | (simp [*, errW_none, errW_some] <;> rfl), by repeat (first | (with_reducible first | exact HB.out | apply below_alloc | apply pw_below_drewN | apply below_drew1) | exact HB.out)⟩

/-- THE ONE PURE STATEMENT of postroomlaw14_BackReach: yours. -/
def postroomlaw14_BackReach.Pure : Prop := ∀ (a0 : Int) (a1 : Int) (a2 : Int) (a3 : Int), (Lit.int .u64 a0).wf = true → (Lit.int .u64 a1).wf = true → (Lit.int .i64 a2).wf = true → (Lit.int .u64 a3).wf = true → ∃ k, postroomlaw14_BackReach.f k a0 a1 a2 a3 = some true
theorem postroomlaw14_BackReach.walk (P : postroomlaw14_BackReach.Pure) (a0 : Int) (a1 : Int) (a2 : Int) (a3 : Int) (w : World) (w0 : (Lit.int .u64 a0).wf = true) (w1 : (Lit.int .u64 a1).wf = true) (w2 : (Lit.int .i64 a2).wf = true) (w3 : (Lit.int .u64 a3).wf = true) :
    Calls Try.prog 5 #[.int .u64 a0, .int .u64 a1, .int .i64 a2, .int .u64 a3] w fun e w' => e = .returned (.bool true) ∧ Below w.heap.size w w' := by
  obtain ⟨k, h⟩ := P a0 a1 a2 a3 w0 w1 w2 w3
  refine (postroomlaw14_BackReach.calls k a0 a1 a2 a3 true w h).mono ?_
  rintro e w' ⟨rfl, hd⟩
  exact ⟨rfl, hd⟩

end Go.Proofs.Ytblijbpdnbldgaa.PBackReach
