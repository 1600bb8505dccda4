-- PRINTED BY print.sh 35421559b90ae4d0a3588c463048766b98c2df88dd9212a6774a882060cdf62d: not written by this session
import Derived.Test.YtblijbpdnbldgaaPBackTellsx0
namespace Go.Proofs.Ytblijbpdnbldgaa.PBackTells
open Go.RowKit Go.Proofs.YtblijbpdnbldgaaW.PrintWords Go.Proofs.YtblijbpdnbldgaaW.PrintLast Go.Proofs.YtblijbpdnbldgaaW.PrintMore
attribute [local go_sem] max2_int min2_int max_two min_two max_three min_three max_four min_four   -- for this text's walks alone
set_option linter.unusedVariables false
set_option linter.unusedSimpArgs false

/-! ### back_Span: function 9 -/
def back_Span.l0 : Nat → Int → Int → Int → Int → Option (Int)
  | 0, _, _, _, _ => none
  | k + 1, x1, x7, x12, x13 => if x13 < x12 then (if x7 > (IntKind.u64.wrap (Int.tdiv x1 2)) then (some x1) else (back_Span.l0 k x1 (IntKind.u64.wrap (x7 * 2)) x12 (wrap64 (x13 + 1)))) else (some (mn x7 x1))
def back_Span.f (k : Nat) (a0 : Int) (a1 : Int) (a2 : Int) : Option (Int) := if a0 = 0 then (some 0) else (back_Span.l0 k a1 a0 (mx a2 0) 0)
theorem back_Span.mono_l : ∀ k, (∀ y0 y1 y2 y3, LeO (back_Span.l0 k y0 y1 y2 y3) (back_Span.l0 (k + 1) y0 y1 y2 y3))
  | 0 => fun _ _ _ _ r h => by simp [back_Span.l0] at h
  | k + 1 => by
    have ih0 := back_Span.mono_l k
    · intro y0 y1 y2 y3
      unfold back_Span.l0
      repeat' first
      | (with_reducible exact ih0 _ _ _ _)
      | (with_reducible exact LeO.refl _)
      | (with_reducible exact LeO.none _)
      | (with_reducible refine LeO.ite ?_ ?_)
      | (with_reducible refine LeO.bind ?_ (fun _ => ?_))
      | exact ih0 _ _ _ _
      | exact LeO.none _
      | refine LeO.ite ?_ ?_
      | refine LeO.bind ?_ (fun _ => ?_)
theorem back_Span.mono : ∀ a0 a1 a2 k, LeO (back_Span.f k a0 a1 a2) (back_Span.f (k + 1) a0 a1 a2) := by
  intro a0 a1 a2 k
  have ih0 := back_Span.mono_l k
  unfold back_Span.f
  repeat' first
      | (with_reducible exact ih0 _ _ _ _)
      | (with_reducible exact LeO.refl _)
      | (with_reducible exact LeO.none _)
      | (with_reducible refine LeO.ite ?_ ?_)
      | (with_reducible refine LeO.bind ?_ (fun _ => ?_))
      | exact ih0 _ _ _ _
      | exact LeO.none _
      | refine LeO.ite ?_ ?_
      | refine LeO.bind ?_ (fun _ => ?_)
set_option maxHeartbeats 8000000 in
set_option maxRecDepth 100000 in
theorem back_Span.calls (k : Nat) (a0 : Int) (a1 : Int) (a2 : Int) (r : Int) (w : World) (h : back_Span.f k a0 a1 a2 = some r) :
    Calls Try.prog 9 #[.int .u64 a0, .int .u64 a1, .int .i64 a2] w fun e w' => e = .returned (.int .u64 r) ∧ Below w.heap.size w w' := by
  have HB := Aside0.mk (Below.refl w.heap.size w)
  have H : (if a0 = 0 then (some 0) else (back_Span.l0 k a1 a0 (mx a2 0) 0)) = some r := h
  clear h
  by_cases c4 : a0 = 0
  · rw [if_pos c4] at H
    have c4b0 : (a0 == 0) = true := beq_iff_eq.mpr c4
    have c4b1 : (a0 != 0) = false := bne_eq_false_iff_eq.mpr c4
    clear c4
    obtain rfl := Option.some.inj H
    go_enter Try.func9, Try.ntmps9
    go_wp2
    go_ret
    exact ⟨by first | rfl | (simp [errW_none, errW_some] <;> rfl) | (simp [*, errW_none, errW_some] <;> rfl), by repeat (first | (with_reducible first | exact HB.out | apply below_alloc | apply pw_below_drewN | apply below_drew1) | exact HB.out)⟩
  · rw [if_neg c4] at H
    have c4b0 : (a0 == 0) = false := beq_eq_false_iff_ne.mpr c4
    have c4b1 : (a0 != 0) = true := bne_iff_ne.mpr c4
    obtain ⟨ji5, hji5⟩ : ∃ j_ : Int, (mx a2 0) = j_ := ⟨_, rfl⟩
    replace H : (back_Span.l0 k a1 a0 ji5 0) = some r := by first | (rw [hji5] at H; exact H) | (simp only [hji5] at H ⊢; exact H)
    (try (have hji5l : 0 ≤ ji5 := by (rw [← hji5]; unfold mx; (repeat' split) <;> omega)))
    (try (have hji5m : 0 ≤ ji5 := by omega))
    have hji5_ : (if a2 < 0 then 0 else a2) = ji5 := hji5
    have H' := Aside0.mk H
    clear H
    go_enter Try.func9, Try.ntmps9
    go_wp2
    go_loopg [7, 13] k (fun kq v7 v13 w' => ∃ (x7_1 : Int) (x13_1 : Int), v7 = .int .u64 x7_1 ∧ v13 = .int .i64 x13_1 ∧ Aside0 (back_Span.l0 kq a1 x7_1 ji5 x13_1 = some r) ∧ Aside0 (kq ≤ k) ∧ Aside0 (Below w.heap.size w w'))
    case atStart => exact ⟨(a0), (0), (by first | rfl | (simp; done) | (simp [*]; done)), (by first | rfl | (simp; done) | (simp [*]; done)), H', ⟨Nat.le_refl _⟩, ⟨by repeat (first | (with_reducible first | exact HB.out | apply below_alloc | apply pw_below_drewN | apply below_drew1) | exact HB.out)⟩⟩
    case round =>
      clear H'
      try clear p2
      try clear c4
      try clear c4b0
      try clear c4b1
      obtain ⟨x7_1, x13_1, rfl, rfl, HA, HK1, HB⟩ := hrel
      cases gk with
      | zero => exact absurd HA.out (by simp [back_Span.l0])
      | succ k1 =>
        have H := HA.out
        clear HA
        simp only [back_Span.l0] at H
        by_cases c6 : x13_1 < ji5
        · rw [if_pos c6] at H
          have c6b0 : decide (x13_1 < ji5) = true := decide_eq_true c6
          clear c6
          by_cases c7 : x7_1 > (IntKind.u64.wrap (Int.tdiv a1 2))
          · rw [if_pos c7] at H
            have c7b0 : decide ((IntKind.u64.wrap (Int.tdiv a1 2)) < x7_1) = true := decide_eq_true c7
            clear c7
            obtain rfl := Option.some.inj H
            go_wp2
            go_ret
            exact ⟨by first | rfl | (simp [errW_none, errW_some] <;> rfl) | (simp only [← hji5]; first | rfl | (simp [errW_none, errW_some] <;> rfl)) | (simp [*, errW_none, errW_some] <;> rfl), by repeat (first | (with_reducible first | exact HB.out | apply below_alloc | apply pw_below_drewN | apply below_drew1) | exact HB.out)⟩
          · rw [if_neg c7] at H
            have c7b0 : decide ((IntKind.u64.wrap (Int.tdiv a1 2)) < x7_1) = false := decide_eq_false c7
            clear c7
            have H' := Aside0.mk H
            clear H
            go_wp2
            go_roundg k1
            case measure => have := HK1.out; omega
            case rel => exact ⟨(IntKind.u64.wrap (x7_1 * 2)), (wrap64 (x13_1 + 1)), (by first | rfl | (simp; done) | (simp [*]; done)), (by first | rfl | (simp; done) | (simp [*]; done)), H', ⟨by have := HK1.out; omega⟩, ⟨by repeat (first | (with_reducible first | exact HB.out | apply below_alloc | apply pw_below_drewN | apply below_drew1) | exact HB.out)⟩⟩
        · rw [if_neg c6] at H
          have c6b0 : decide (x13_1 < ji5) = false := decide_eq_false c6
          clear c6
          obtain ⟨ji8, hji8⟩ : ∃ j_ : Int, (mn x7_1 a1) = j_ := ⟨_, rfl⟩
          replace H : (some ji8) = some r := by first | (rw [hji8] at H; exact H) | (simp only [hji8] at H ⊢; exact H)
          have hji8_ : (if a1 < x7_1 then a1 else x7_1) = ji8 := hji8
          obtain rfl := Option.some.inj H
          go_wp2
          go_ret
          exact ⟨by first | rfl | (simp [errW_none, errW_some] <;> rfl) | (simp only [← hji5, ← hji8]; first | rfl | (simp [errW_none, errW_some] <;> rfl)) | (simp [*, errW_none, errW_some] <;> rfl), by repeat (first | (with_reducible first | exact HB.out | apply below_alloc | apply pw_below_drewN | apply below_drew1) | exact HB.out)⟩

/-! ### back_Delay: function 11 -/
def back_Delay.f (k : Nat) (a0 : Int) (a1 : Int) (a2 : Int) (a3 : Int) : Option (Int) := (back_Span.f k a0 a1 a2).bind fun t101 => (if (IntKind.u64.wrap ((IntKind.u64.wrap (t101 - (mn a0 a1))) + 1)) = 0 then (none) else (some (IntKind.u64.wrap ((mn a0 a1) + (Int.tmod a3 (IntKind.u64.wrap ((IntKind.u64.wrap (t101 - (mn a0 a1))) + 1)))))))
theorem back_Delay.mono : ∀ a0 a1 a2 a3 k, LeO (back_Delay.f k a0 a1 a2 a3) (back_Delay.f (k + 1) a0 a1 a2 a3) := by
  intro a0 a1 a2 a3 k
  unfold back_Delay.f
  repeat' first
      | (with_reducible exact back_Span.mono _ _ _ _)
      | (with_reducible exact LeO.refl _)
      | (with_reducible exact LeO.none _)
      | (with_reducible refine LeO.ite ?_ ?_)
      | (with_reducible refine LeO.bind ?_ (fun _ => ?_))
      | exact back_Span.mono _ _ _ _
      | exact LeO.none _
      | refine LeO.ite ?_ ?_
      | refine LeO.bind ?_ (fun _ => ?_)
set_option maxHeartbeats 8000000 in
set_option maxRecDepth 100000 in
theorem back_Delay.calls (k : Nat) (a0 : Int) (a1 : Int) (a2 : Int) (a3 : Int) (r : Int) (w : World) (h : back_Delay.f k a0 a1 a2 a3 = some r) :
    Calls Try.prog 11 #[.int .u64 a0, .int .u64 a1, .int .i64 a2, .int .u64 a3] w fun e w' => e = .returned (.int .u64 r) ∧ Below w.heap.size w w' := by
  have HB := Aside0.mk (Below.refl w.heap.size w)
  have H : ((back_Span.f k a0 a1 a2).bind fun t101 => (if (IntKind.u64.wrap ((IntKind.u64.wrap (t101 - (mn a0 a1))) + 1)) = 0 then (none) else (some (IntKind.u64.wrap ((mn a0 a1) + (Int.tmod a3 (IntKind.u64.wrap ((IntKind.u64.wrap (t101 - (mn a0 a1))) + 1)))))))) = some r := h
  clear h
  obtain ⟨ji5, hji5⟩ : ∃ j_ : Int, (mn a0 a1) = j_ := ⟨_, rfl⟩
  replace H : ((back_Span.f k a0 a1 a2).bind fun t101 => (if (IntKind.u64.wrap ((IntKind.u64.wrap (t101 - (ji5))) + 1)) = 0 then (none) else (some (IntKind.u64.wrap ((ji5) + (Int.tmod a3 (IntKind.u64.wrap ((IntKind.u64.wrap (t101 - (ji5))) + 1)))))))) = some r := by first | (rw [hji5] at H; exact H) | (simp only [hji5] at H ⊢; exact H)
  have hji5_ : (if a1 < a0 then a1 else a0) = ji5 := hji5
  replace H := Option.bind_eq_some_iff.mp H
  obtain ⟨t101, A60, H⟩ := H
  replace H : (if (IntKind.u64.wrap ((IntKind.u64.wrap (t101 - (ji5))) + 1)) = 0 then (none) else (some (IntKind.u64.wrap ((ji5) + (Int.tmod a3 (IntKind.u64.wrap ((IntKind.u64.wrap (t101 - (ji5))) + 1))))))) = some r := H
  have A6 := Aside0.mk A60
  clear A60
  by_cases c7 : (IntKind.u64.wrap ((IntKind.u64.wrap (t101 - (ji5))) + 1)) = 0
  · rw [if_pos c7] at H
    exact absurd H (by simp)
  · rw [if_neg c7] at H
    have c7b0 : ((IntKind.u64.wrap ((IntKind.u64.wrap (t101 - (ji5))) + 1)) == 0) = false := beq_eq_false_iff_ne.mpr c7
    have c7b1 : ((IntKind.u64.wrap ((IntKind.u64.wrap (t101 - (ji5))) + 1)) != 0) = true := bne_iff_ne.mpr c7
    obtain rfl := Option.some.inj H
    go_enter Try.func11, Try.ntmps11
    go_wp2_with (first | ((with_reducible refine gate_callee (f := 9) rfl ?_); refine goesL_ (some 18) rfl rfl Try.func9 (by kernel_rfl) rfl #[.int .u64 a0, .int .u64 a1, .int .i64 a2] rfl (by (try simp only [List.map_toArray, List.map_cons, List.map_nil]); first | done | rfl | (simp only [List.length_drop, List.length_take]; rfl)) ?_; (with_reducible refine (back_Span.calls k a0 a1 a2 t101 _ A6.out).mono ?_); rintro e w8 ⟨rfl, hb⟩; refine ⟨_, rfl, ?_⟩; have n0_ := Aside0.mk (below_step (by repeat (first | (with_reducible first | exact HB.out | apply below_alloc | apply pw_below_drewN | apply below_drew1) | exact HB.out)) hb); clear HB; have HB := n0_; clear n0_; (try clear hb); (try clear hb2); (try clear hk); (try clear hi)))
    go_ret
    exact ⟨by first | rfl | (simp [errW_none, errW_some] <;> rfl) | (simp only [← hji5]; first | rfl | (simp [errW_none, errW_some] <;> rfl)) | (simp [*, errW_none, errW_some] <;> rfl), by repeat (first | (with_reducible first | exact HB.out | apply below_alloc | apply pw_below_drewN | apply below_drew1) | exact HB.out)⟩

/-! ### postroomlaw14_shown: function 8 -/
def postroomlaw14_shown.f (k : Nat)  : Option (Bool) := (back_Span.f k 10 100 0).bind fun t102 => (if t102 = 10 then ((back_Span.f k 10 100 2).bind fun t103 => (if t103 = 40 then ((back_Span.f k 10 100 9).bind fun t104 => (if t104 = 100 then ((back_Delay.f k 10 100 2 31).bind fun t105 => (some (t105 == 10))) else (some false))) else (some false))) else (some false))
theorem postroomlaw14_shown.mono : ∀ k, LeO (postroomlaw14_shown.f k ) (postroomlaw14_shown.f (k + 1) ) := by
  intro  k
  unfold postroomlaw14_shown.f
  repeat' first
      | (with_reducible exact back_Delay.mono _ _ _ _ _)
      | (with_reducible exact back_Span.mono _ _ _ _)
      | (with_reducible exact LeO.refl _)
      | (with_reducible exact LeO.none _)
      | (with_reducible refine LeO.ite ?_ ?_)
      | (with_reducible refine LeO.bind ?_ (fun _ => ?_))
      | exact back_Delay.mono _ _ _ _ _
      | exact back_Span.mono _ _ _ _
      | exact LeO.none _
      | refine LeO.ite ?_ ?_
      | refine LeO.bind ?_ (fun _ => ?_)
set_option maxHeartbeats 8000000 in
set_option maxRecDepth 100000 in
theorem postroomlaw14_shown.calls (k : Nat)  (r : Bool) (w : World) (h : postroomlaw14_shown.f k  = some r) :
    Calls Try.prog 8 #[] w fun e w' => e = .returned (.bool r) ∧ Below w.heap.size w w' := by
  have HB := Aside0.mk (Below.refl w.heap.size w)
  have H : ((back_Span.f k 10 100 0).bind fun t102 => (if t102 = 10 then ((back_Span.f k 10 100 2).bind fun t103 => (if t103 = 40 then ((back_Span.f k 10 100 9).bind fun t104 => (if t104 = 100 then ((back_Delay.f k 10 100 2 31).bind fun t105 => (some (t105 == 10))) else (some false))) else (some false))) else (some false))) = some r := h
  clear h
  replace H := Option.bind_eq_some_iff.mp H
  obtain ⟨t102, A10, H⟩ := H
  replace H : (if t102 = 10 then ((back_Span.f k 10 100 2).bind fun t103 => (if t103 = 40 then ((back_Span.f k 10 100 9).bind fun t104 => (if t104 = 100 then ((back_Delay.f k 10 100 2 31).bind fun t105 => (some (t105 == 10))) else (some false))) else (some false))) else (some false)) = some r := H
  have A1 := Aside0.mk A10
  clear A10
  by_cases c2 : t102 = 10
  · rw [if_pos c2] at H
    have c2b0 : (t102 == 10) = true := beq_iff_eq.mpr c2
    have c2b1 : (t102 != 10) = false := bne_eq_false_iff_eq.mpr c2
    clear c2
    replace H := Option.bind_eq_some_iff.mp H
    obtain ⟨t103, A30, H⟩ := H
    replace H : (if t103 = 40 then ((back_Span.f k 10 100 9).bind fun t104 => (if t104 = 100 then ((back_Delay.f k 10 100 2 31).bind fun t105 => (some (t105 == 10))) else (some false))) else (some false)) = some r := H
    have A3 := Aside0.mk A30
    clear A30
    by_cases c4 : t103 = 40
    · rw [if_pos c4] at H
      have c4b0 : (t103 == 40) = true := beq_iff_eq.mpr c4
      have c4b1 : (t103 != 40) = false := bne_eq_false_iff_eq.mpr c4
      clear c4
      replace H := Option.bind_eq_some_iff.mp H
      obtain ⟨t104, A50, H⟩ := H
      replace H : (if t104 = 100 then ((back_Delay.f k 10 100 2 31).bind fun t105 => (some (t105 == 10))) else (some false)) = some r := H
      have A5 := Aside0.mk A50
      clear A50
      by_cases c6 : t104 = 100
      · rw [if_pos c6] at H
        have c6b0 : (t104 == 100) = true := beq_iff_eq.mpr c6
        have c6b1 : (t104 != 100) = false := bne_eq_false_iff_eq.mpr c6
        clear c6
        replace H := Option.bind_eq_some_iff.mp H
        obtain ⟨t105, A70, H⟩ := H
        replace H : (some (t105 == 10)) = some r := H
        have A7 := Aside0.mk A70
        clear A70
        obtain rfl := Option.some.inj H
        go_enter Try.func8, Try.ntmps8
        go_wp2_with (first | ((with_reducible refine gate_callee (f := 9) rfl ?_); refine goesL_ (some 1) rfl rfl Try.func9 (by kernel_rfl) rfl #[.int .u64 10, .int .u64 100, .int .i64 0] rfl (by (try simp only [List.map_toArray, List.map_cons, List.map_nil]); first | done | rfl | (simp only [List.length_drop, List.length_take]; rfl)) ?_; (with_reducible refine (back_Span.calls k 10 100 0 t102 _ A1.out).mono ?_); rintro e w8 ⟨rfl, hb⟩; refine ⟨_, rfl, ?_⟩; have n0_ := Aside0.mk (below_step (by repeat (first | (with_reducible first | exact HB.out | apply below_alloc | apply pw_below_drewN | apply below_drew1) | exact HB.out)) hb); clear HB; have HB := n0_; clear n0_; (try clear hb); (try clear hb2); (try clear hk); (try clear hi)) | (go_at_call 9; (with_reducible refine (back_Span.calls k 10 100 2 t103 _ A3.out).mono ?_); rintro e w9 ⟨rfl, hb⟩; have n0_ := Aside0.mk (below_step (by repeat (first | (with_reducible first | exact HB.out | apply below_alloc | apply pw_below_drewN | apply below_drew1) | exact HB.out)) hb); clear HB; have HB := n0_; clear n0_; (try clear hb); (try clear hb2); (try clear hk); (try clear hi)) | (go_at_call 9; (with_reducible refine (back_Span.calls k 10 100 9 t104 _ A5.out).mono ?_); rintro e w10 ⟨rfl, hb⟩; have n0_ := Aside0.mk (below_step (by repeat (first | (with_reducible first | exact HB.out | apply below_alloc | apply pw_below_drewN | apply below_drew1) | exact HB.out)) hb); clear HB; have HB := n0_; clear n0_; (try clear hb); (try clear hb2); (try clear hk); (try clear hi)) | (go_at_call 11; (with_reducible refine (back_Delay.calls k 10 100 2 31 t105 _ A7.out).mono ?_); rintro e w11 ⟨rfl, hb⟩; have n0_ := Aside0.mk (below_step (by repeat (first | (with_reducible first | exact HB.out | apply below_alloc | apply pw_below_drewN | apply below_drew1) | exact HB.out)) hb); clear HB; have HB := n0_; clear n0_; (try clear hb); (try clear hb2); (try clear hk); (try clear hi)))
        go_ret
        exact ⟨by first | rfl | (simp [errW_none, errW_some] <;> rfl) | (simp [*, errW_none, errW_some] <;> rfl), by repeat (first | (with_reducible first | exact HB.out | apply below_alloc | apply pw_below_drewN | apply below_drew1) | exact HB.out)⟩
      · rw [if_neg c6] at H
        have c6b0 : (t104 == 100) = false := beq_eq_false_iff_ne.mpr c6
        have c6b1 : (t104 != 100) = true := bne_iff_ne.mpr c6
        obtain rfl := Option.some.inj H
        go_enter Try.func8, Try.ntmps8
        go_wp2_with (first | ((with_reducible refine gate_callee (f := 9) rfl ?_); refine goesL_ (some 1) rfl rfl Try.func9 (by kernel_rfl) rfl #[.int .u64 10, .int .u64 100, .int .i64 0] rfl (by (try simp only [List.map_toArray, List.map_cons, List.map_nil]); first | done | rfl | (simp only [List.length_drop, List.length_take]; rfl)) ?_; (with_reducible refine (back_Span.calls k 10 100 0 t102 _ A1.out).mono ?_); rintro e w12 ⟨rfl, hb⟩; refine ⟨_, rfl, ?_⟩; have n0_ := Aside0.mk (below_step (by repeat (first | (with_reducible first | exact HB.out | apply below_alloc | apply pw_below_drewN | apply below_drew1) | exact HB.out)) hb); clear HB; have HB := n0_; clear n0_; (try clear hb); (try clear hb2); (try clear hk); (try clear hi)) | (go_at_call 9; (with_reducible refine (back_Span.calls k 10 100 2 t103 _ A3.out).mono ?_); rintro e w13 ⟨rfl, hb⟩; have n0_ := Aside0.mk (below_step (by repeat (first | (with_reducible first | exact HB.out | apply below_alloc | apply pw_below_drewN | apply below_drew1) | exact HB.out)) hb); clear HB; have HB := n0_; clear n0_; (try clear hb); (try clear hb2); (try clear hk); (try clear hi)) | (go_at_call 9; (with_reducible refine (back_Span.calls k 10 100 9 t104 _ A5.out).mono ?_); rintro e w14 ⟨rfl, hb⟩; have n0_ := Aside0.mk (below_step (by repeat (first | (with_reducible first | exact HB.out | apply below_alloc | apply pw_below_drewN | apply below_drew1) | exact HB.out)) hb); clear HB; have HB := n0_; clear n0_; (try clear hb); (try clear hb2); (try clear hk); (try clear hi)))
        go_ret
        exact ⟨by first | rfl | (simp [errW_none, errW_some] <;> rfl) | (simp [*, errW_none, errW_some] <;> rfl), by repeat (first | (with_reducible first | exact HB.out | apply below_alloc | apply pw_below_drewN | apply below_drew1) | exact HB.out)⟩
    · rw [if_neg c4] at H
      have c4b0 : (t103 == 40) = false := beq_eq_false_iff_ne.mpr c4
      have c4b1 : (t103 != 40) = true := bne_iff_ne.mpr c4
      obtain rfl := Option.some.inj H
      go_enter Try.func8, Try.ntmps8
      go_wp2_with (first | ((with_reducible refine gate_callee (f := 9) rfl ?_); refine goesL_ (some 1) rfl rfl Try.func9 (by kernel_rfl) rfl #[.int .u64 10, .int .u64 100, .int .i64 0] rfl (by (try simp only [List.map_toArray, List.map_cons, List.map_nil]); first | done | rfl | (simp only [List.length_drop, List.length_take]; rfl)) ?_; (with_reducible refine (back_Span.calls k 10 100 0 t102 _ A1.out).mono ?_); rintro e w15 ⟨rfl, hb⟩; refine ⟨_, rfl, ?_⟩; have n0_ := Aside0.mk (below_step (by repeat (first | (with_reducible first | exact HB.out | apply below_alloc | apply pw_below_drewN | apply below_drew1) | exact HB.out)) hb); clear HB; have HB := n0_; clear n0_; (try clear hb); (try clear hb2); (try clear hk); (try clear hi)) | (go_at_call 9; (with_reducible refine (back_Span.calls k 10 100 2 t103 _ A3.out).mono ?_); rintro e w16 ⟨rfl, hb⟩; have n0_ := Aside0.mk (below_step (by repeat (first | (with_reducible first | exact HB.out | apply below_alloc | apply pw_below_drewN | apply below_drew1) | exact HB.out)) hb); clear HB; have HB := n0_; clear n0_; (try clear hb); (try clear hb2); (try clear hk); (try clear hi)))
      go_ret
      exact ⟨by first | rfl | (simp [errW_none, errW_some] <;> rfl) | (simp [*, errW_none, errW_some] <;> rfl), by repeat (first | (with_reducible first | exact HB.out | apply below_alloc | apply pw_below_drewN | apply below_drew1) | exact HB.out)⟩
  · rw [if_neg c2] at H
    have c2b0 : (t102 == 10) = false := beq_eq_false_iff_ne.mpr c2
    have c2b1 : (t102 != 10) = true := bne_iff_ne.mpr c2
    obtain rfl := Option.some.inj H
    go_enter Try.func8, Try.ntmps8
    go_wp2_with (first | ((with_reducible refine gate_callee (f := 9) rfl ?_); refine goesL_ (some 1) rfl rfl Try.func9 (by kernel_rfl) rfl #[.int .u64 10, .int .u64 100, .int .i64 0] rfl (by (try simp only [List.map_toArray, List.map_cons, List.map_nil]); first | done | rfl | (simp only [List.length_drop, List.length_take]; rfl)) ?_; (with_reducible refine (back_Span.calls k 10 100 0 t102 _ A1.out).mono ?_); rintro e w17 ⟨rfl, hb⟩; refine ⟨_, rfl, ?_⟩; have n0_ := Aside0.mk (below_step (by repeat (first | (with_reducible first | exact HB.out | apply below_alloc | apply pw_below_drewN | apply below_drew1) | exact HB.out)) hb); clear HB; have HB := n0_; clear n0_; (try clear hb); (try clear hb2); (try clear hk); (try clear hi)))
    go_ret
    exact ⟨by first | rfl | (simp [errW_none, errW_some] <;> rfl) | (simp [*, errW_none, errW_some] <;> rfl), by repeat (first | (with_reducible first | exact HB.out | apply below_alloc | apply pw_below_drewN | apply below_drew1) | exact HB.out)⟩

/-! ### postroomref14_Span: function 10 -/
mutual
def postroomref14_Span.l0 : Nat → Int → Int → Int → Int → Int → Option (Int)
  | 0, _, _, _, _, _ => none
  | k + 1, x0, x1, x2, x7, x8 => if x8 < x2 then (postroomref14_Span.j1 k x0 x1 x2 x7 x8 (decide (x8 < 64))) else (postroomref14_Span.j1 k x0 x1 x2 x7 x8 false)
def postroomref14_Span.j1 : Nat → Int → Int → Int → Int → Int → Bool → Option (Int)
  | 0, _, _, _, _, _, _ => none
  | k + 1, x0, x1, x2, x7, x8, x16 => if x16 = true then (if x7 > 9223372036854775807 then (some x1) else (postroomref14_Span.l0 k x0 x1 x2 (IntKind.u64.wrap (2 * x7)) (wrap64 (x8 + 1)))) else (if x7 > x1 then (some x1) else (if x2 > 64 then (if x0 > 0 then (some x1) else (some x7)) else (some x7)))
end
def postroomref14_Span.f (k : Nat) (a0 : Int) (a1 : Int) (a2 : Int) : Option (Int) := postroomref14_Span.l0 k a0 a1 a2 a0 0
theorem postroomref14_Span.mono_l : ∀ k, (∀ y0 y1 y2 y3 y4, LeO (postroomref14_Span.l0 k y0 y1 y2 y3 y4) (postroomref14_Span.l0 (k + 1) y0 y1 y2 y3 y4)) ∧ (∀ y0 y1 y2 y3 y4 y5, LeO (postroomref14_Span.j1 k y0 y1 y2 y3 y4 y5) (postroomref14_Span.j1 (k + 1) y0 y1 y2 y3 y4 y5))
  | 0 => ⟨fun _ _ _ _ _ r h => by simp [postroomref14_Span.l0] at h, fun _ _ _ _ _ _ r h => by simp [postroomref14_Span.j1] at h⟩
  | k + 1 => by
    obtain ⟨ih0, ih1⟩ := postroomref14_Span.mono_l k
    refine ⟨?_, ?_⟩
    · intro y0 y1 y2 y3 y4
      unfold postroomref14_Span.l0
      repeat' first
      | (with_reducible exact ih0 _ _ _ _ _)
      | (with_reducible exact ih1 _ _ _ _ _ _)
      | (with_reducible exact LeO.refl _)
      | (with_reducible exact LeO.none _)
      | (with_reducible refine LeO.ite ?_ ?_)
      | (with_reducible refine LeO.bind ?_ (fun _ => ?_))
      | exact ih0 _ _ _ _ _
      | exact ih1 _ _ _ _ _ _
      | exact LeO.none _
      | refine LeO.ite ?_ ?_
      | refine LeO.bind ?_ (fun _ => ?_)
    · intro y0 y1 y2 y3 y4 y5
      unfold postroomref14_Span.j1
      repeat' first
      | (with_reducible exact ih0 _ _ _ _ _)
      | (with_reducible exact ih1 _ _ _ _ _ _)
      | (with_reducible exact LeO.refl _)
      | (with_reducible exact LeO.none _)
      | (with_reducible refine LeO.ite ?_ ?_)
      | (with_reducible refine LeO.bind ?_ (fun _ => ?_))
      | exact ih0 _ _ _ _ _
      | exact ih1 _ _ _ _ _ _
      | exact LeO.none _
      | refine LeO.ite ?_ ?_
      | refine LeO.bind ?_ (fun _ => ?_)
theorem postroomref14_Span.mono : ∀ a0 a1 a2 k, LeO (postroomref14_Span.f k a0 a1 a2) (postroomref14_Span.f (k + 1) a0 a1 a2) := by
  intro a0 a1 a2 k
  obtain ⟨ih0, ih1⟩ := postroomref14_Span.mono_l k
  unfold postroomref14_Span.f
  repeat' first
      | (with_reducible exact ih0 _ _ _ _ _)
      | (with_reducible exact ih1 _ _ _ _ _ _)
      | (with_reducible exact LeO.refl _)
      | (with_reducible exact LeO.none _)
      | (with_reducible refine LeO.ite ?_ ?_)
      | (with_reducible refine LeO.bind ?_ (fun _ => ?_))
      | exact ih0 _ _ _ _ _
      | exact ih1 _ _ _ _ _ _
      | exact LeO.none _
      | refine LeO.ite ?_ ?_
      | refine LeO.bind ?_ (fun _ => ?_)
set_option maxHeartbeats 8000000 in
set_option maxRecDepth 100000 in
theorem postroomref14_Span.calls (k : Nat) (a0 : Int) (a1 : Int) (a2 : Int) (r : Int) (w : World) (h : postroomref14_Span.f k a0 a1 a2 = some r) :
    Calls Try.prog 10 #[.int .u64 a0, .int .u64 a1, .int .i64 a2] w fun e w' => e = .returned (.int .u64 r) ∧ Drawn0 w w' := by
  have H : (postroomref14_Span.l0 k a0 a1 a2 a0 0) = some r := h
  clear h
  have H' := Aside0.mk H
  clear H
  go_enter Try.func10, Try.ntmps10
  go_wp2
  go_loopg [7, 8] k (fun kq v7 v8 w' => ∃ (x7_1 : Int) (x8_1 : Int), v7 = .int .u64 x7_1 ∧ v8 = .int .i64 x8_1 ∧ Aside0 (postroomref14_Span.l0 kq a0 a1 a2 x7_1 x8_1 = some r) ∧ Aside0 (kq ≤ k) ∧ Drawn0 w w')
  case atStart => exact ⟨(a0), (0), (by first | rfl | (simp; done) | (simp [*]; done)), (by first | rfl | (simp; done) | (simp [*]; done)), H', ⟨Nat.le_refl _⟩, by repeat (first | exact Drawn0.refl _ | apply Drawn0.step)⟩
  case round =>
    clear H'
    try clear c1
    try clear p2
    obtain ⟨x7_1, x8_1, rfl, rfl, HA, HK1, ⟨m1, rfl⟩⟩ := hrel
    cases gk with
    | zero => exact absurd HA.out (by simp [postroomref14_Span.l0])
    | succ k1 =>
      have H := HA.out
      clear HA
      simp only [postroomref14_Span.l0] at H
      have HC4 := Aside0.mk H
      clear H
      go_upto_region 3 with (fail)
      go_cut [16] (fun v16 wc => ∃ (kq : Nat) (x16_3 : Bool), v16 = .bool x16_3 ∧ Aside0 (postroomref14_Span.j1 kq a0 a1 a2 x7_1 x8_1 x16_3 = some r) ∧ Aside0 (kq ≤ k1) ∧ Drawn0 w wc)
      case first =>
        have H := HC4.out
        clear HC4
        by_cases c5 : x8_1 < a2
        · rw [if_pos c5] at H
          have c5b0 : decide (x8_1 < a2) = true := decide_eq_true c5
          clear c5
          (first | rw [c5b0] | (simp only [i64_w, i32_w]; rw [c5b0]) | skip)
          have H' := Aside0.mk H
          clear H
          go_wp2
          go_meet
          case rel => exact ⟨_, (decide (x8_1 < 64)), (by first | rfl | (simp; done) | (simp [*]; done)), H', ⟨by have := HK1.out; first | omega | exact Nat.le_refl _⟩, by repeat (first | exact Drawn0.refl _ | apply Drawn0.step)⟩
        · rw [if_neg c5] at H
          have c5b0 : decide (x8_1 < a2) = false := decide_eq_false c5
          clear c5
          (first | rw [c5b0] | (simp only [i64_w, i32_w]; rw [c5b0]) | skip)
          have H' := Aside0.mk H
          clear H
          go_wp2
          go_meet
          case rel => exact ⟨_, (false), (by first | rfl | (simp; done) | (simp [*]; done)), H', ⟨by have := HK1.out; first | omega | exact Nat.le_refl _⟩, by repeat (first | exact Drawn0.refl _ | apply Drawn0.step)⟩
      case rest =>
        clear HC4
        try clear c1
        try clear p2
        try clear c5
        try clear c5b0
        try clear p2
        obtain ⟨kq, x16_3, rfl, HA, HJ3, ⟨mc3, rfl⟩⟩ := hcut
        cases kq with
        | zero => exact absurd HA.out (by simp [postroomref14_Span.j1])
        | succ kj3 =>
          have H := HA.out
          clear HA
          simp only [postroomref14_Span.j1] at H
          by_cases c6 : x16_3 = true
          · subst c6
            have H1 : (if x7_1 > 9223372036854775807 then (some a1) else (postroomref14_Span.l0 kj3 a0 a1 a2 (IntKind.u64.wrap (2 * x7_1)) (wrap64 (x8_1 + 1)))) = some r := by rw [if_pos rfl] at H; exact H
            clear H
            have H := H1
            clear H1
            by_cases c7 : x7_1 > 9223372036854775807
            · rw [if_pos c7] at H
              have c7b0 : decide (9223372036854775807 < x7_1) = true := decide_eq_true c7
              clear c7
              obtain rfl := Option.some.inj H
              go_wp2
              go_ret
              exact ⟨by first | rfl | (simp; done) | (simp [*]; done), by repeat (first | exact Drawn0.refl _ | apply Drawn0.step)⟩
            · rw [if_neg c7] at H
              have c7b0 : decide (9223372036854775807 < x7_1) = false := decide_eq_false c7
              clear c7
              have H' := Aside0.mk H
              clear H
              go_wp2
              go_roundg kj3
              case measure => have := HK1.out; have := HJ3.out; omega
              case rel => exact ⟨(IntKind.u64.wrap (2 * x7_1)), (wrap64 (x8_1 + 1)), (by first | rfl | (simp; done) | (simp [*]; done)), (by first | rfl | (simp; done) | (simp [*]; done)), H', ⟨by have := HK1.out; have := HJ3.out; omega⟩, by repeat (first | exact Drawn0.refl _ | apply Drawn0.step)⟩
          · replace c6 := Bool.eq_false_iff.mpr c6
            subst c6
            have H1 : (if x7_1 > a1 then (some a1) else (if a2 > 64 then (if a0 > 0 then (some a1) else (some x7_1)) else (some x7_1))) = some r := by rw [if_neg (show ¬ (false = true) by decide)] at H; exact H
            clear H
            have H := H1
            clear H1
            by_cases c8 : x7_1 > a1
            · rw [if_pos c8] at H
              have c8b0 : decide (a1 < x7_1) = true := decide_eq_true c8
              clear c8
              obtain rfl := Option.some.inj H
              go_wp2
              go_ret
              exact ⟨by first | rfl | (simp; done) | (simp [*]; done), by repeat (first | exact Drawn0.refl _ | apply Drawn0.step)⟩
            · rw [if_neg c8] at H
              have c8b0 : decide (a1 < x7_1) = false := decide_eq_false c8
              clear c8
              by_cases c9 : a2 > 64
              · rw [if_pos c9] at H
                have c9b0 : decide (64 < a2) = true := decide_eq_true c9
                clear c9
                by_cases c10 : a0 > 0
                · rw [if_pos c10] at H
                  have c10b0 : decide (0 < a0) = true := decide_eq_true c10
                  clear c10
                  obtain rfl := Option.some.inj H
                  go_wp2
                  go_ret
                  exact ⟨by first | rfl | (simp; done) | (simp [*]; done), by repeat (first | exact Drawn0.refl _ | apply Drawn0.step)⟩
                · rw [if_neg c10] at H
                  have c10b0 : decide (0 < a0) = false := decide_eq_false c10
                  clear c10
                  obtain rfl := Option.some.inj H
                  go_wp2
                  go_ret
                  exact ⟨by first | rfl | (simp; done) | (simp [*]; done), by repeat (first | exact Drawn0.refl _ | apply Drawn0.step)⟩
              · rw [if_neg c9] at H
                have c9b0 : decide (64 < a2) = false := decide_eq_false c9
                clear c9
                obtain rfl := Option.some.inj H
                go_wp2
                go_ret
                exact ⟨by first | rfl | (simp; done) | (simp [*]; done), by repeat (first | exact Drawn0.refl _ | apply Drawn0.step)⟩

/-! ### postroomref14_Delay: function 12 -/
def postroomref14_Delay.f (k : Nat) (a0 : Int) (a1 : Int) (a2 : Int) (a3 : Int) : Option (Int) := if a1 < a0 then ((postroomref14_Span.f k a0 a1 a2).bind fun t106 => (if (IntKind.u64.wrap ((IntKind.u64.wrap (t106 - a1)) + 1)) = 0 then (none) else (some (IntKind.u64.wrap (a1 + (Int.tmod a3 (IntKind.u64.wrap ((IntKind.u64.wrap (t106 - a1)) + 1)))))))) else ((postroomref14_Span.f k a0 a1 a2).bind fun t107 => (if (IntKind.u64.wrap ((IntKind.u64.wrap (t107 - a0)) + 1)) = 0 then (none) else (some (IntKind.u64.wrap (a0 + (Int.tmod a3 (IntKind.u64.wrap ((IntKind.u64.wrap (t107 - a0)) + 1))))))))
theorem postroomref14_Delay.mono : ∀ a0 a1 a2 a3 k, LeO (postroomref14_Delay.f k a0 a1 a2 a3) (postroomref14_Delay.f (k + 1) a0 a1 a2 a3) := by
  intro a0 a1 a2 a3 k
  unfold postroomref14_Delay.f
  repeat' first
      | (with_reducible exact postroomref14_Span.mono _ _ _ _)
      | (with_reducible exact LeO.refl _)
      | (with_reducible exact LeO.none _)
      | (with_reducible refine LeO.ite ?_ ?_)
      | (with_reducible refine LeO.bind ?_ (fun _ => ?_))
      | exact postroomref14_Span.mono _ _ _ _
      | exact LeO.none _
      | refine LeO.ite ?_ ?_
      | refine LeO.bind ?_ (fun _ => ?_)
set_option maxHeartbeats 8000000 in
set_option maxRecDepth 100000 in
theorem postroomref14_Delay.calls (k : Nat) (a0 : Int) (a1 : Int) (a2 : Int) (a3 : Int) (r : Int) (w : World) (h : postroomref14_Delay.f k a0 a1 a2 a3 = some r) :
    Calls Try.prog 12 #[.int .u64 a0, .int .u64 a1, .int .i64 a2, .int .u64 a3] w fun e w' => e = .returned (.int .u64 r) ∧ Drawn0 w w' := by
  have H : (if a1 < a0 then ((postroomref14_Span.f k a0 a1 a2).bind fun t106 => (if (IntKind.u64.wrap ((IntKind.u64.wrap (t106 - a1)) + 1)) = 0 then (none) else (some (IntKind.u64.wrap (a1 + (Int.tmod a3 (IntKind.u64.wrap ((IntKind.u64.wrap (t106 - a1)) + 1)))))))) else ((postroomref14_Span.f k a0 a1 a2).bind fun t107 => (if (IntKind.u64.wrap ((IntKind.u64.wrap (t107 - a0)) + 1)) = 0 then (none) else (some (IntKind.u64.wrap (a0 + (Int.tmod a3 (IntKind.u64.wrap ((IntKind.u64.wrap (t107 - a0)) + 1))))))))) = some r := h
  clear h
  by_cases c5 : a1 < a0
  · rw [if_pos c5] at H
    have c5b0 : decide (a1 < a0) = true := decide_eq_true c5
    clear c5
    replace H := Option.bind_eq_some_iff.mp H
    obtain ⟨t106, A60, H⟩ := H
    replace H : (if (IntKind.u64.wrap ((IntKind.u64.wrap (t106 - a1)) + 1)) = 0 then (none) else (some (IntKind.u64.wrap (a1 + (Int.tmod a3 (IntKind.u64.wrap ((IntKind.u64.wrap (t106 - a1)) + 1))))))) = some r := H
    have A6 := Aside0.mk A60
    clear A60
    by_cases c7 : (IntKind.u64.wrap ((IntKind.u64.wrap (t106 - a1)) + 1)) = 0
    · rw [if_pos c7] at H
      exact absurd H (by simp)
    · rw [if_neg c7] at H
      have c7b0 : ((IntKind.u64.wrap ((IntKind.u64.wrap (t106 - a1)) + 1)) == 0) = false := beq_eq_false_iff_ne.mpr c7
      have c7b1 : ((IntKind.u64.wrap ((IntKind.u64.wrap (t106 - a1)) + 1)) != 0) = true := bne_iff_ne.mpr c7
      obtain rfl := Option.some.inj H
      go_enter Try.func12, Try.ntmps12
      go_wp2_with (first | ((with_reducible refine gate_callee (f := 10) rfl ?_); refine goesL_ (some 19) rfl rfl Try.func10 (by kernel_rfl) rfl #[.int .u64 a0, .int .u64 a1, .int .i64 a2] rfl (by (try simp only [List.map_toArray, List.map_cons, List.map_nil]); first | done | rfl | (simp only [List.length_drop, List.length_take]; rfl)) ?_; (with_reducible refine (postroomref14_Span.calls k a0 a1 a2 t106 _ A6.out).mono ?_); rintro e w' ⟨rfl, ⟨nd, rfl⟩⟩; refine ⟨_, rfl, ?_⟩))
      go_ret
      exact ⟨by first | rfl | (simp; done) | (simp [*]; done), by repeat (first | exact Drawn0.refl _ | apply Drawn0.step)⟩
  · rw [if_neg c5] at H
    have c5b0 : decide (a1 < a0) = false := decide_eq_false c5
    clear c5
    replace H := Option.bind_eq_some_iff.mp H
    obtain ⟨t107, A80, H⟩ := H
    replace H : (if (IntKind.u64.wrap ((IntKind.u64.wrap (t107 - a0)) + 1)) = 0 then (none) else (some (IntKind.u64.wrap (a0 + (Int.tmod a3 (IntKind.u64.wrap ((IntKind.u64.wrap (t107 - a0)) + 1))))))) = some r := H
    have A8 := Aside0.mk A80
    clear A80
    by_cases c9 : (IntKind.u64.wrap ((IntKind.u64.wrap (t107 - a0)) + 1)) = 0
    · rw [if_pos c9] at H
      exact absurd H (by simp)
    · rw [if_neg c9] at H
      have c9b0 : ((IntKind.u64.wrap ((IntKind.u64.wrap (t107 - a0)) + 1)) == 0) = false := beq_eq_false_iff_ne.mpr c9
      have c9b1 : ((IntKind.u64.wrap ((IntKind.u64.wrap (t107 - a0)) + 1)) != 0) = true := bne_iff_ne.mpr c9
      obtain rfl := Option.some.inj H
      go_enter Try.func12, Try.ntmps12
      go_wp2_with (first | ((with_reducible refine gate_callee (f := 10) rfl ?_); refine goesL_ (some 19) rfl rfl Try.func10 (by kernel_rfl) rfl #[.int .u64 a0, .int .u64 a1, .int .i64 a2] rfl (by (try simp only [List.map_toArray, List.map_cons, List.map_nil]); first | done | rfl | (simp only [List.length_drop, List.length_take]; rfl)) ?_; (with_reducible refine (postroomref14_Span.calls k a0 a1 a2 t107 _ A8.out).mono ?_); rintro e w' ⟨rfl, ⟨nd, rfl⟩⟩; refine ⟨_, rfl, ?_⟩))
      go_ret
      exact ⟨by first | rfl | (simp; done) | (simp [*]; done), by repeat (first | exact Drawn0.refl _ | apply Drawn0.step)⟩

/-! ### postroomlaw14_BackTells: function 3 -/
def postroomlaw14_BackTells.f (k : Nat) (a0 : Int) (a1 : Int) (a2 : Int) (a3 : Int) : Option (Bool) := (postroomlaw14_shown.f k).bind fun t108 => (if t108 = true then ((back_Span.f k a0 a1 a2).bind fun t109 => ((postroomref14_Span.f k a0 a1 a2).bind fun t110 => (if t109 = t110 then ((back_Delay.f k a0 a1 a2 a3).bind fun t111 => ((postroomref14_Delay.f k a0 a1 a2 a3).bind fun t112 => (some (t111 == t112)))) else (some false)))) else (some false))
theorem postroomlaw14_BackTells.mono : ∀ a0 a1 a2 a3 k, LeO (postroomlaw14_BackTells.f k a0 a1 a2 a3) (postroomlaw14_BackTells.f (k + 1) a0 a1 a2 a3) := by
  intro a0 a1 a2 a3 k
  unfold postroomlaw14_BackTells.f
  repeat' first
      | (with_reducible exact back_Delay.mono _ _ _ _ _)
      | (with_reducible exact back_Span.mono _ _ _ _)
      | (with_reducible exact postroomlaw14_shown.mono _)
      | (with_reducible exact postroomref14_Delay.mono _ _ _ _ _)
      | (with_reducible exact postroomref14_Span.mono _ _ _ _)
      | (with_reducible exact LeO.refl _)
      | (with_reducible exact LeO.none _)
      | (with_reducible refine LeO.ite ?_ ?_)
      | (with_reducible refine LeO.bind ?_ (fun _ => ?_))
      | exact back_Delay.mono _ _ _ _ _
      | exact back_Span.mono _ _ _ _
      | exact postroomlaw14_shown.mono _
      | exact postroomref14_Delay.mono _ _ _ _ _
      | exact postroomref14_Span.mono _ _ _ _
      | exact LeO.none _
      | refine LeO.ite ?_ ?_
      | refine LeO.bind ?_ (fun _ => ?_)
set_option maxHeartbeats 8000000 in
set_option maxRecDepth 100000 in
theorem postroomlaw14_BackTells.calls (k : Nat) (a0 : Int) (a1 : Int) (a2 : Int) (a3 : Int) (r : Bool) (w : World) (h : postroomlaw14_BackTells.f k a0 a1 a2 a3 = some r) :
    Calls Try.prog 3 #[.int .u64 a0, .int .u64 a1, .int .i64 a2, .int .u64 a3] w fun e w' => e = .returned (.bool r) ∧ Below w.heap.size w w' := by
  have HB := Aside0.mk (Below.refl w.heap.size w)
  have H : ((postroomlaw14_shown.f k).bind fun t108 => (if t108 = true then ((back_Span.f k a0 a1 a2).bind fun t109 => ((postroomref14_Span.f k a0 a1 a2).bind fun t110 => (if t109 = t110 then ((back_Delay.f k a0 a1 a2 a3).bind fun t111 => ((postroomref14_Delay.f k a0 a1 a2 a3).bind fun t112 => (some (t111 == t112)))) else (some false)))) else (some false))) = some r := h
  clear h
  replace H := Option.bind_eq_some_iff.mp H
  obtain ⟨t108, A50, H⟩ := H
  replace H : (if t108 = true then ((back_Span.f k a0 a1 a2).bind fun t109 => ((postroomref14_Span.f k a0 a1 a2).bind fun t110 => (if t109 = t110 then ((back_Delay.f k a0 a1 a2 a3).bind fun t111 => ((postroomref14_Delay.f k a0 a1 a2 a3).bind fun t112 => (some (t111 == t112)))) else (some false)))) else (some false)) = some r := H
  have A5 := Aside0.mk A50
  clear A50
  by_cases c6 : t108 = true
  · subst c6
    have H1 : ((back_Span.f k a0 a1 a2).bind fun t109 => ((postroomref14_Span.f k a0 a1 a2).bind fun t110 => (if t109 = t110 then ((back_Delay.f k a0 a1 a2 a3).bind fun t111 => ((postroomref14_Delay.f k a0 a1 a2 a3).bind fun t112 => (some (t111 == t112)))) else (some false)))) = some r := by rw [if_pos rfl] at H; exact H
    clear H
    have H := H1
    clear H1
    replace H := Option.bind_eq_some_iff.mp H
    obtain ⟨t109, A70, H⟩ := H
    replace H : ((postroomref14_Span.f k a0 a1 a2).bind fun t110 => (if t109 = t110 then ((back_Delay.f k a0 a1 a2 a3).bind fun t111 => ((postroomref14_Delay.f k a0 a1 a2 a3).bind fun t112 => (some (t111 == t112)))) else (some false))) = some r := H
    have A7 := Aside0.mk A70
    clear A70
    replace H := Option.bind_eq_some_iff.mp H
    obtain ⟨t110, A80, H⟩ := H
    replace H : (if t109 = t110 then ((back_Delay.f k a0 a1 a2 a3).bind fun t111 => ((postroomref14_Delay.f k a0 a1 a2 a3).bind fun t112 => (some (t111 == t112)))) else (some false)) = some r := H
    have A8 := Aside0.mk A80
    clear A80
    by_cases c9 : t109 = t110
    · rw [if_pos c9] at H
      have c9b0 : (t109 == t110) = true := beq_iff_eq.mpr c9
      have c9b1 : (t109 != t110) = false := bne_eq_false_iff_eq.mpr c9
      clear c9
      replace H := Option.bind_eq_some_iff.mp H
      obtain ⟨t111, A100, H⟩ := H
      replace H : ((postroomref14_Delay.f k a0 a1 a2 a3).bind fun t112 => (some (t111 == t112))) = some r := H
      have A10 := Aside0.mk A100
      clear A100
      replace H := Option.bind_eq_some_iff.mp H
      obtain ⟨t112, A110, H⟩ := H
      replace H : (some (t111 == t112)) = some r := H
      have A11 := Aside0.mk A110
      clear A110
      obtain rfl := Option.some.inj H
      go_enter Try.func3, Try.ntmps3
      go_wp2_with (first | ((with_reducible refine gate_callee (f := 8) rfl ?_); refine goesL_ (some 10) rfl rfl Try.func8 (by kernel_rfl) rfl #[] rfl (by (try simp only [List.map_toArray, List.map_cons, List.map_nil]); first | done | rfl | (simp only [List.length_drop, List.length_take]; rfl)) ?_; (with_reducible refine (postroomlaw14_shown.calls k  true _ A5.out).mono ?_); rintro e w12 ⟨rfl, hb⟩; refine ⟨_, rfl, ?_⟩; have n0_ := Aside0.mk (below_step (by repeat (first | (with_reducible first | exact HB.out | apply below_alloc | apply pw_below_drewN | apply below_drew1) | exact HB.out)) hb); clear HB; have HB := n0_; clear n0_; (try clear hb); (try clear hb2); (try clear hk); (try clear hi)) | ((with_reducible refine gate_callee (f := 9) rfl ?_); refine goesL_ (some 16) rfl rfl Try.func9 (by kernel_rfl) rfl #[.int .u64 a0, .int .u64 a1, .int .i64 a2] rfl (by (try simp only [List.map_toArray, List.map_cons, List.map_nil]); first | done | rfl | (simp only [List.length_drop, List.length_take]; rfl)) ?_; (with_reducible refine (back_Span.calls k a0 a1 a2 t109 _ A7.out).mono ?_); rintro e w13 ⟨rfl, hb⟩; refine ⟨_, rfl, ?_⟩; have n0_ := Aside0.mk (below_step (by repeat (first | (with_reducible first | exact HB.out | apply below_alloc | apply pw_below_drewN | apply below_drew1) | exact HB.out)) hb); clear HB; have HB := n0_; clear n0_; (try clear hb); (try clear hb2); (try clear hk); (try clear hi)) | ((with_reducible refine gate_callee (f := 10) rfl ?_); refine goesL_ (some 20) rfl rfl Try.func10 (by kernel_rfl) rfl #[.int .u64 a0, .int .u64 a1, .int .i64 a2] rfl (by (try simp only [List.map_toArray, List.map_cons, List.map_nil]); first | done | rfl | (simp only [List.length_drop, List.length_take]; rfl)) ?_; (with_reducible refine (postroomref14_Span.calls k a0 a1 a2 t110 _ A8.out).mono ?_); rintro e w' ⟨rfl, ⟨nd, rfl⟩⟩; refine ⟨_, rfl, ?_⟩) | (go_at_call 11; (with_reducible refine (back_Delay.calls k a0 a1 a2 a3 t111 _ A10.out).mono ?_); rintro e w14 ⟨rfl, hb⟩; have n0_ := Aside0.mk (below_step (by repeat (first | (with_reducible first | exact HB.out | apply below_alloc | apply pw_below_drewN | apply below_drew1) | exact HB.out)) hb); clear HB; have HB := n0_; clear n0_; (try clear hb); (try clear hb2); (try clear hk); (try clear hi)) | (go_at_call 12; (with_reducible refine (postroomref14_Delay.calls k a0 a1 a2 a3 t112 _ A11.out).mono ?_); rintro e w' ⟨rfl, ⟨nd, rfl⟩⟩))
      go_ret
      exact ⟨by first | rfl | (simp [errW_none, errW_some] <;> rfl) | (simp [*, errW_none, errW_some] <;> rfl), by repeat (first | (with_reducible first | exact HB.out | apply below_alloc | apply pw_below_drewN | apply below_drew1) | exact HB.out)⟩
    · rw [if_neg c9] at H
      have c9b0 : (t109 == t110) = false := beq_eq_false_iff_ne.mpr c9
      have c9b1 : (t109 != t110) = true := bne_iff_ne.mpr c9
      obtain rfl := Option.some.inj H
      go_enter Try.func3, Try.ntmps3
      go_wp2_with (first | ((with_reducible refine gate_callee (f := 8) rfl ?_); refine goesL_ (some 10) rfl rfl Try.func8 (by kernel_rfl) rfl #[] rfl (by (try simp only [List.map_toArray, List.map_cons, List.map_nil]); first | done | rfl | (simp only [List.length_drop, List.length_take]; rfl)) ?_; (with_reducible refine (postroomlaw14_shown.calls k  true _ A5.out).mono ?_); rintro e w15 ⟨rfl, hb⟩; refine ⟨_, rfl, ?_⟩; have n0_ := Aside0.mk (below_step (by repeat (first | (with_reducible first | exact HB.out | apply below_alloc | apply pw_below_drewN | apply below_drew1) | exact HB.out)) hb); clear HB; have HB := n0_; clear n0_; (try clear hb); (try clear hb2); (try clear hk); (try clear hi)) | ((with_reducible refine gate_callee (f := 9) rfl ?_); refine goesL_ (some 16) rfl rfl Try.func9 (by kernel_rfl) rfl #[.int .u64 a0, .int .u64 a1, .int .i64 a2] rfl (by (try simp only [List.map_toArray, List.map_cons, List.map_nil]); first | done | rfl | (simp only [List.length_drop, List.length_take]; rfl)) ?_; (with_reducible refine (back_Span.calls k a0 a1 a2 t109 _ A7.out).mono ?_); rintro e w16 ⟨rfl, hb⟩; refine ⟨_, rfl, ?_⟩; have n0_ := Aside0.mk (below_step (by repeat (first | (with_reducible first | exact HB.out | apply below_alloc | apply pw_below_drewN | apply below_drew1) | exact HB.out)) hb); clear HB; have HB := n0_; clear n0_; (try clear hb); (try clear hb2); (try clear hk); (try clear hi)) | ((with_reducible refine gate_callee (f := 10) rfl ?_); refine goesL_ (some 20) rfl rfl Try.func10 (by kernel_rfl) rfl #[.int .u64 a0, .int .u64 a1, .int .i64 a2] rfl (by (try simp only [List.map_toArray, List.map_cons, List.map_nil]); first | done | rfl | (simp only [List.length_drop, List.length_take]; rfl)) ?_; (with_reducible refine (postroomref14_Span.calls k a0 a1 a2 t110 _ A8.out).mono ?_); rintro e w' ⟨rfl, ⟨nd, rfl⟩⟩; refine ⟨_, rfl, ?_⟩))
      go_ret
      exact ⟨by first | rfl | (simp [errW_none, errW_some] <;> rfl) | (simp [*, errW_none, errW_some] <;> rfl), by repeat (first | (with_reducible first | exact HB.out | apply below_alloc | apply pw_below_drewN | apply below_drew1) | exact HB.out)⟩
  · replace c6 := Bool.eq_false_iff.mpr c6
    subst c6
    have H1 : (some false) = some r := by rw [if_neg (show ¬ (false = true) by decide)] at H; exact H
    clear H
    have H := H1
    clear H1
    obtain rfl := Option.some.inj H
    go_enter Try.func3, Try.ntmps3
    go_wp2_with (first | ((with_reducible refine gate_callee (f := 8) rfl ?_); refine goesL_ (some 10) rfl rfl Try.func8 (by kernel_rfl) rfl #[] rfl (by (try simp only [List.map_toArray, List.map_cons, List.map_nil]); first | done | rfl | (simp only [List.length_drop, List.length_take]; rfl)) ?_; (with_reducible refine (postroomlaw14_shown.calls k  false _ A5.out).mono ?_); rintro e w17 ⟨rfl, hb⟩; refine ⟨_, rfl, ?_⟩; have n0_ := Aside0.mk (below_step (by repeat (first | (with_reducible first | exact HB.out | apply below_alloc | apply pw_below_drewN | apply below_drew1) | exact HB.out)) hb); clear HB; have HB := n0_; clear n0_; (try clear hb); (try clear hb2); (try clear hk); (try clear hi)))
    go_ret
    exact ⟨by first | rfl | (simp [errW_none, errW_some] <;> rfl) | (simp [*, errW_none, errW_some] <;> rfl), by repeat (first | (with_reducible first | exact HB.out | apply below_alloc | apply pw_below_drewN | apply below_drew1) | exact HB.out)⟩

/-- THE ONE PURE STATEMENT of postroomlaw14_BackTells: yours. -/
def postroomlaw14_BackTells.Pure : Prop := ∀ (a0 : Int) (a1 : Int) (a2 : Int) (a3 : Int), (Lit.int .u64 a0).wf = true → (Lit.int .u64 a1).wf = true → (Lit.int .i64 a2).wf = true → (Lit.int .u64 a3).wf = true → ∃ k, postroomlaw14_BackTells.f k a0 a1 a2 a3 = some true
theorem postroomlaw14_BackTells.walk (P : postroomlaw14_BackTells.Pure) (a0 : Int) (a1 : Int) (a2 : Int) (a3 : Int) (w : World) (w0 : (Lit.int .u64 a0).wf = true) (w1 : (Lit.int .u64 a1).wf = true) (w2 : (Lit.int .i64 a2).wf = true) (w3 : (Lit.int .u64 a3).wf = true) :
    Calls Try.prog 3 #[.int .u64 a0, .int .u64 a1, .int .i64 a2, .int .u64 a3] w fun e w' => e = .returned (.bool true) ∧ Below w.heap.size w w' := by
  obtain ⟨k, h⟩ := P a0 a1 a2 a3 w0 w1 w2 w3
  refine (postroomlaw14_BackTells.calls k a0 a1 a2 a3 true w h).mono ?_
  rintro e w' ⟨rfl, hd⟩
  exact ⟨rfl, hd⟩

end Go.Proofs.Ytblijbpdnbldgaa.PBackTells
