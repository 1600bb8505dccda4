/- Each wait between the least one and the longest one is some jitter's: for all numbers. -/
import Derived.Test.YtblijbpdnbldgaaPBackReachx1
namespace Go.Proofs.Ytblijbpdnbldgaa.Pure.AtBackReach
open Go.RowKit Go.Proofs.Ytblijbpdnbldgaa.PBackReach Go.Proofs.YtblijbpdnbldgaaW.PrintWords Go.Proofs.YtblijbpdnbldgaaW.PrintLast Go.Proofs.YtblijbpdnbldgaaW.PrintMore

theorem u64_rng {a : Int} (h : (Lit.int .u64 a).wf = true) : 0 ≤ a ∧ a ≤ 18446744073709551615 := by
  simp [Lit.wf, IntKind.min, IntKind.max, IntKind.signed, IntKind.bits] at h
  omega
theorem i64_rng {a : Int} (h : (Lit.int .i64 a).wf = true) : -9223372036854775808 ≤ a ∧ a ≤ 9223372036854775807 := by
  simp [Lit.wf, IntKind.min, IntKind.max, IntKind.signed, IntKind.bits] at h
  omega
theorem wu {a : Int} (h0 : 0 ≤ a) (h1 : a ≤ 18446744073709551615) : IntKind.u64.wrap a = a := by
  rw [IntKind.wrap_u64]; omega
theorem two_pow_pos (d : Nat) : (1 : Int) ≤ 2 ^ d := by
  induction d with
  | zero => simp
  | succ d ih => rw [Int.pow_succ]; omega

/-- The longest wait: n doubled d times, and m, if that is less. -/
def S (n m : Int) (d : Nat) : Int := if m < n * 2 ^ d then m else n * 2 ^ d
theorem S_zero (n m : Int) : S n m 0 = mn n m := by simp [S, mn]
theorem S_step (n m : Int) (d : Nat) : S n m (d + 1) = S (n * 2) m d := by
  unfold S
  have e : n * 2 ^ (d + 1) = n * 2 * 2 ^ d := by rw [Int.pow_succ, Int.mul_comm (2 ^ d) 2, Int.mul_assoc]
  rw [e]
theorem grow (n : Int) (d : Nat) (h : 0 ≤ n) : n ≤ n * 2 ^ d := by
  have h1 := two_pow_pos d
  have h2 : n * 1 ≤ n * 2 ^ d := Int.mul_le_mul_of_nonneg_left h1 h
  omega
theorem S_big (n m : Int) (d : Nat) (h : 0 ≤ n) (hm : m < n * 2) : S n m (d + 1) = m := by
  rw [S_step]; unfold S
  have := grow (n * 2) d (by omega)
  rw [if_pos (by omega)]
theorem S_rng (n m : Int) (d : Nat) (h : 0 ≤ n) : mn n m ≤ S n m d ∧ S n m d ≤ m ∨ S n m d = n ∧ n = 0 := by
  unfold S mn
  have := grow n d h
  split <;> split <;> omega
theorem S_le (n m : Int) (d : Nat) : S n m d ≤ m := by
  unfold S; split <;> omega
theorem S_ge (n m : Int) (d : Nat) (h : 0 ≤ n) : mn n m ≤ S n m d := by
  unfold S mn
  have := grow n d h
  split <;> split <;> omega
theorem S_least_zero (n m : Int) (d : Nat) (h : 0 ≤ n) (hm : 0 ≤ m) (h0 : mn n m = 0) : S n m d = 0 := by
  unfold mn at h0
  unfold S
  by_cases hn : n = 0
  · subst hn; simp; omega
  · have hg := grow n d h
    split at h0
    · rw [if_pos (by omega)]; omega
    · omega

theorem span_loop (m T : Int) (hm0 : 0 ≤ m) (hm : m ≤ 18446744073709551615) (hT : T ≤ 9223372036854775807) (d : Nat) : ∀ (k : Nat) (n j : Int), 0 ≤ j → j ≤ T → T - j = d → 0 ≤ n → n ≤ 18446744073709551615 → d < k → back_Span.l0 k m n T j = some (S n m d) := by
  induction d with
  | zero =>
    intro k n j h0 h1 hd hn0 hn hk
    obtain ⟨k, rfl⟩ : ∃ x, k = x + 1 := ⟨k - 1, by omega⟩
    simp only [back_Span.l0]
    rw [if_neg (by omega), S_zero]
  | succ d ih =>
    intro k n j h0 h1 hd hn0 hn hk
    obtain ⟨k, rfl⟩ : ∃ x, k = x + 1 := ⟨k - 1, by omega⟩
    simp only [back_Span.l0]
    rw [if_pos (by omega)]
    have e : IntKind.u64.wrap (Int.tdiv m 2) = m / 2 := by
      rw [Int.tdiv_eq_ediv_of_nonneg hm0]; exact wu (by omega) (by omega)
    rw [e]
    by_cases hb : n > m / 2
    · rw [if_pos hb, S_big n m d hn0 (by omega)]
    · rw [if_neg hb, wu (by omega) (by omega)]
      have ej : wrap64 (j + 1) = j + 1 := by unfold wrap64; omega
      rw [ej, ih k (n * 2) (j + 1) (by omega) (by omega) (by omega) (by omega) (by omega) (by omega), S_step]

theorem span_tells (b m t : Int) (hb : (Lit.int .u64 b).wf = true) (hm : (Lit.int .u64 m).wf = true) (ht : t ≤ 9223372036854775807) (k : Nat) (hk : t.toNat < k) : back_Span.f k b m t = some (S b m t.toNat) := by
  obtain ⟨b0, b1⟩ := u64_rng hb
  obtain ⟨m0, m1⟩ := u64_rng hm
  unfold back_Span.f
  by_cases e : b = 0
  · rw [if_pos e]; subst e; simp [S]; omega
  · rw [if_neg e]
    unfold mx
    exact span_loop m _ m0 m1 (by split <;> omega) _ k b 0 (by omega) (by split <;> omega) (by split <;> omega) b0 b1 hk

/-- How long a wait is. -/
def D (b m : Int) (d : Nat) (j : Int) : Int := mn b m + j % (S b m d - mn b m + 1)
theorem parts (b m : Int) (d : Nat) (hb : 0 ≤ b ∧ b ≤ 18446744073709551615) (hm : 0 ≤ m ∧ m ≤ 18446744073709551615) :
    0 ≤ mn b m ∧ mn b m ≤ S b m d ∧ S b m d ≤ m ∧ S b m d - mn b m ≤ 18446744073709551614 := by
  have h1 := S_ge b m d hb.1
  have h2 := S_le b m d
  have h3 : 0 ≤ mn b m := by unfold mn; split <;> omega
  refine ⟨h3, h1, h2, ?_⟩
  by_cases e : mn b m = 0
  · have := S_least_zero b m d hb.1 hm.1 e
    omega
  · omega
theorem D_rng (b m : Int) (d : Nat) (j : Int) (hb : 0 ≤ b ∧ b ≤ 18446744073709551615) (hm : 0 ≤ m ∧ m ≤ 18446744073709551615) :
    mn b m ≤ D b m d j ∧ D b m d j ≤ S b m d := by
  obtain ⟨h0, h1, h2, h3⟩ := parts b m d hb hm
  unfold D
  have ha := Int.emod_nonneg j (show S b m d - mn b m + 1 ≠ 0 by omega)
  have hc := Int.emod_lt_of_pos j (show 0 < S b m d - mn b m + 1 by omega)
  omega
theorem delay_tells (b m t j : Int) (hb : (Lit.int .u64 b).wf = true) (hm : (Lit.int .u64 m).wf = true) (ht : t ≤ 9223372036854775807) (hj : 0 ≤ j) (k : Nat) (hk : t.toNat < k) :
    back_Delay.f k b m t j = some (D b m t.toNat j) := by
  have hb' := u64_rng hb
  have hm' := u64_rng hm
  obtain ⟨h0, h1, h2, h3⟩ := parts b m t.toNat hb' hm'
  have h4 := D_rng b m t.toNat j hb' hm'
  unfold back_Delay.f
  rw [span_tells b m t hb hm ht k hk]
  simp only [Option.bind_some]
  have e1 : IntKind.u64.wrap (S b m t.toNat - mn b m) = S b m t.toNat - mn b m := wu (by omega) (by omega)
  rw [e1]
  have e2 : IntKind.u64.wrap (S b m t.toNat - mn b m + 1) = S b m t.toNat - mn b m + 1 := wu (by omega) (by omega)
  rw [e2, if_neg (by omega), Int.tmod_eq_emod_of_nonneg hj]
  have e3 : IntKind.u64.wrap (mn b m + j % (S b m t.toNat - mn b m + 1)) = D b m t.toNat j := by
    unfold D at h4 ⊢
    exact wu (by omega) (by omega)
  rw [e3]
theorem shown_tells (k : Nat) (hk : 20 ≤ k) : postroomlaw14_shown.f k = some true :=
  at_rounds postroomlaw14_shown.mono hk (by decide +kernel)

end Go.Proofs.Ytblijbpdnbldgaa.Pure.AtBackReach
namespace Go.Proofs.Ytblijbpdnbldgaa.Pure
open Go.RowKit Go.Proofs.Ytblijbpdnbldgaa.PBackReach Go.Proofs.YtblijbpdnbldgaaW.PrintWords Go.Proofs.YtblijbpdnbldgaaW.PrintLast Go.Proofs.YtblijbpdnbldgaaW.PrintMore AtBackReach
theorem BackReach : postroomlaw14_BackReach.Pure := by
  intro b m t w hb hm ht hw
  have ht' := i64_rng ht
  have hw' := u64_rng hw
  have hb' := u64_rng hb
  have hm' := u64_rng hm
  obtain ⟨h0, h1, h2, h3⟩ := parts b m t.toNat hb' hm'
  refine ⟨t.toNat + 300, ?_⟩
  unfold postroomlaw14_BackReach.f
  rw [shown_tells _ (by omega), span_tells b m t hb hm ht'.2 _ (by omega)]
  simp only [Option.bind_some]
  rw [if_pos trivial]
  have e1 : IntKind.u64.wrap (S b m t.toNat - mn b m) = S b m t.toNat - mn b m := wu (by omega) (by omega)
  have e2 : IntKind.u64.wrap (S b m t.toNat - mn b m + 1) = S b m t.toNat - mn b m + 1 := wu (by omega) (by omega)
  rw [e1, if_neg (by omega), e2, if_neg (by omega), Int.tmod_eq_emod_of_nonneg hw'.1]
  have ha := Int.emod_nonneg w (show S b m t.toNat - mn b m + 1 ≠ 0 by omega)
  have hc := Int.emod_lt_of_pos w (show 0 < S b m t.toNat - mn b m + 1 by omega)
  rw [delay_tells b m t _ hb hm ht'.2 ha _ (by omega)]
  simp only [Option.bind_some]
  have e3 : D b m t.toNat (w % (S b m t.toNat - mn b m + 1)) = mn b m + w % (S b m t.toNat - mn b m + 1) := by
    unfold D; rw [Int.emod_emod_of_dvd w (Int.dvd_refl _)]
  rw [e3, wu (by omega) (by omega)]
  simp

end Go.Proofs.Ytblijbpdnbldgaa.Pure

