-- PRINTED BY print.sh 35421559b90ae4d0a3588c463048766b98c2df88dd9212a6774a882060cdf62d: not written by this session
import Derived.Test.YtlkcekldddpjbaaPDuePlaysx0
namespace Go.Proofs.Ytlkcekldddpjbaa.PDuePlays
open Go.RowKit Go.Proofs.YtlkcekldddpjbaaW.PrintWords Go.Proofs.YtlkcekldddpjbaaW.PrintLast Go.Proofs.YtlkcekldddpjbaaW.PrintMore
attribute [local go_sem] max2_int min2_int max_two min_two max_three min_three max_four min_four   -- for this text's walks alone
set_option linter.unusedVariables false
set_option linter.unusedSimpArgs false

-- NOT PRINTED: function 9 (due_New)

-- NOT PRINTED: function 25 (heap_up)

-- NOT PRINTED: function 26 (heap_down)

-- NOT PRINTED: function 23 (heap_Remove)

-- NOT PRINTED: function 13 (due_Due_Drop)

-- NOT PRINTED: function 22 (heap_Push)

-- NOT PRINTED: function 11 (due_Due_Put)

-- NOT PRINTED: function 19 (due_Due_Len)

-- NOT PRINTED: function 17 (due_Due_Next)

-- NOT PRINTED: function 15 (due_Due_Take)

-- NOT PRINTED: function 8 (postroomlaw15_shown)

/-! ### postroomlaw15_pick: function 10 -/
def postroomlaw15_pick.f (a0 : Int) (a1 : Int) : Option (Int) := if a0 < 0 then (if a1 = 0 then (none) else (some (Int.tmod (wrap64 (-(wrap64 (a0 + 1)))) a1))) else (if a1 = 0 then (none) else (some (Int.tmod a0 a1)))
set_option maxHeartbeats 8000000 in
set_option maxRecDepth 100000 in
theorem postroomlaw15_pick.calls (a0 : Int) (a1 : Int) (r : Int) (w : World) (h : postroomlaw15_pick.f a0 a1 = some r) :
    Calls Try.prog 10 #[.int .i64 a0, .int .i64 a1] w fun e w' => e = .returned (.int .i64 r) ∧ Drawn0 w w' := by
  have H : (if a0 < 0 then (if a1 = 0 then (none) else (some (Int.tmod (wrap64 (-(wrap64 (a0 + 1)))) a1))) else (if a1 = 0 then (none) else (some (Int.tmod a0 a1)))) = some r := h
  clear h
  by_cases c3 : a0 < 0
  · rw [if_pos c3] at H
    have c3b0 : decide (a0 < 0) = true := decide_eq_true c3
    clear c3
    by_cases c4 : a1 = 0
    · rw [if_pos c4] at H
      exact absurd H (by simp)
    · rw [if_neg c4] at H
      have c4b0 : (a1 == 0) = false := beq_eq_false_iff_ne.mpr c4
      have c4b1 : (a1 != 0) = true := bne_iff_ne.mpr c4
      obtain rfl := Option.some.inj H
      go_enter Try.func10, Try.ntmps10
      go_wp2
      go_ret
      exact ⟨by first | rfl | (simp; done) | (simp [*]; done), by repeat (first | exact Drawn0.refl _ | apply Drawn0.step)⟩
  · rw [if_neg c3] at H
    have c3b0 : decide (a0 < 0) = false := decide_eq_false c3
    clear c3
    by_cases c5 : a1 = 0
    · rw [if_pos c5] at H
      exact absurd H (by simp)
    · rw [if_neg c5] at H
      have c5b0 : (a1 == 0) = false := beq_eq_false_iff_ne.mpr c5
      have c5b1 : (a1 != 0) = true := bne_iff_ne.mpr c5
      obtain rfl := Option.some.inj H
      go_enter Try.func10, Try.ntmps10
      go_wp2
      go_ret
      exact ⟨by first | rfl | (simp; done) | (simp [*]; done), by repeat (first | exact Drawn0.refl _ | apply Drawn0.step)⟩

-- NOT PRINTED: function 14 (postroomref15_Due_Drop)

-- NOT PRINTED: function 12 (postroomref15_Due_Put)

-- NOT PRINTED: function 18 (postroomref15_Due_Next)

-- NOT PRINTED: function 16 (postroomref15_Due_Take)

-- NOT PRINTED: function 3 (postroomlaw15_DuePlays)

end Go.Proofs.Ytlkcekldddpjbaa.PDuePlays
