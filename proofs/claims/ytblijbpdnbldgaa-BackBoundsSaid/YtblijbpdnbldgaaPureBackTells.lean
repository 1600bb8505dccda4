/- The program's waits and longest waits are those of the reference: for all numbers. -/
import Derived.Test.YtblijbpdnbldgaaPBackTellsx1
namespace Go.Proofs.Ytblijbpdnbldgaa.Pure.AtBackTells
open Go.RowKit Go.Proofs.Ytblijbpdnbldgaa.PBackTells Go.Proofs.YtblijbpdnbldgaaW.PrintWords Go.Proofs.YtblijbpdnbldgaaW.PrintLast Go.Proofs.YtblijbpdnbldgaaW.PrintMore

theorem u64_rng {a : Int} (h : (Lit.int .u64 a).wf = true) : 0 ≤ a ∧ a ≤ 18446744073709551615 := by
  simp [Lit.wf, IntKind.min, IntKind.max, IntKind.signed, IntKind.bits] at h
  omega
theorem i64_rng {a : Int} (h : (Lit.int .i64 a).wf = true) : -9223372036854775808 ≤ a ∧ a ≤ 9223372036854775807 := by
  simp [Lit.wf, IntKind.min, IntKind.max, IntKind.signed, IntKind.bits] at h
  omega
theorem wu {a : Int} (h0 : 0 ≤ a) (h1 : a ≤ 18446744073709551615) : IntKind.u64.wrap a = a := by
  rw [IntKind.wrap_u64]; omega
theorem two_pow_pos (d : Nat) : (1 : Int) ≤ 2 ^ d := by
  induction d with
  | zero => simp
  | succ d ih => rw [Int.pow_succ]; omega

/-- The longest wait: n doubled d times, and m, if that is less. -/
def S (n m : Int) (d : Nat) : Int := if m < n * 2 ^ d then m else n * 2 ^ d
theorem S_zero (n m : Int) : S n m 0 = mn n m := by simp [S, mn]
theorem S_step (n m : Int) (d : Nat) : S n m (d + 1) = S (n * 2) m d := by
  unfold S
  have e : n * 2 ^ (d + 1) = n * 2 * 2 ^ d := by rw [Int.pow_succ, Int.mul_comm (2 ^ d) 2, Int.mul_assoc]
  rw [e]
theorem grow (n : Int) (d : Nat) (h : 0 ≤ n) : n ≤ n * 2 ^ d := by
  have h1 := two_pow_pos d
  have h2 : n * 1 ≤ n * 2 ^ d := Int.mul_le_mul_of_nonneg_left h1 h
  omega
theorem S_big (n m : Int) (d : Nat) (h : 0 ≤ n) (hm : m < n * 2) : S n m (d + 1) = m := by
  rw [S_step]; unfold S
  have := grow (n * 2) d (by omega)
  rw [if_pos (by omega)]
theorem S_rng (n m : Int) (d : Nat) (h : 0 ≤ n) : mn n m ≤ S n m d ∧ S n m d ≤ m ∨ S n m d = n ∧ n = 0 := by
  unfold S mn
  have := grow n d h
  split <;> split <;> omega
theorem S_le (n m : Int) (d : Nat) : S n m d ≤ m := by
  unfold S; split <;> omega
theorem S_ge (n m : Int) (d : Nat) (h : 0 ≤ n) : mn n m ≤ S n m d := by
  unfold S mn
  have := grow n d h
  split <;> split <;> omega
theorem S_least_zero (n m : Int) (d : Nat) (h : 0 ≤ n) (hm : 0 ≤ m) (h0 : mn n m = 0) : S n m d = 0 := by
  unfold mn at h0
  unfold S
  by_cases hn : n = 0
  · subst hn; simp; omega
  · have hg := grow n d h
    split at h0
    · rw [if_pos (by omega)]; omega
    · omega

theorem span_loop (m T : Int) (hm0 : 0 ≤ m) (hm : m ≤ 18446744073709551615) (hT : T ≤ 9223372036854775807) (d : Nat) : ∀ (k : Nat) (n j : Int), 0 ≤ j → j ≤ T → T - j = d → 0 ≤ n → n ≤ 18446744073709551615 → d < k → back_Span.l0 k m n T j = some (S n m d) := by
  induction d with
  | zero =>
    intro k n j h0 h1 hd hn0 hn hk
    obtain ⟨k, rfl⟩ : ∃ x, k = x + 1 := ⟨k - 1, by omega⟩
    simp only [back_Span.l0]
    rw [if_neg (by omega), S_zero]
  | succ d ih =>
    intro k n j h0 h1 hd hn0 hn hk
    obtain ⟨k, rfl⟩ : ∃ x, k = x + 1 := ⟨k - 1, by omega⟩
    simp only [back_Span.l0]
    rw [if_pos (by omega)]
    have e : IntKind.u64.wrap (Int.tdiv m 2) = m / 2 := by
      rw [Int.tdiv_eq_ediv_of_nonneg hm0]; exact wu (by omega) (by omega)
    rw [e]
    by_cases hb : n > m / 2
    · rw [if_pos hb, S_big n m d hn0 (by omega)]
    · rw [if_neg hb, wu (by omega) (by omega)]
      have ej : wrap64 (j + 1) = j + 1 := by unfold wrap64; omega
      rw [ej, ih k (n * 2) (j + 1) (by omega) (by omega) (by omega) (by omega) (by omega) (by omega), S_step]

theorem span_tells (b m t : Int) (hb : (Lit.int .u64 b).wf = true) (hm : (Lit.int .u64 m).wf = true) (ht : t ≤ 9223372036854775807) (k : Nat) (hk : t.toNat < k) : back_Span.f k b m t = some (S b m t.toNat) := by
  obtain ⟨b0, b1⟩ := u64_rng hb
  obtain ⟨m0, m1⟩ := u64_rng hm
  unfold back_Span.f
  by_cases e : b = 0
  · rw [if_pos e]; subst e; simp [S]; omega
  · rw [if_neg e]
    unfold mx
    exact span_loop m _ m0 m1 (by split <;> omega) _ k b 0 (by omega) (by split <;> omega) (by split <;> omega) b0 b1 hk

/-- How long a wait is. -/
def D (b m : Int) (d : Nat) (j : Int) : Int := mn b m + j % (S b m d - mn b m + 1)
theorem parts (b m : Int) (d : Nat) (hb : 0 ≤ b ∧ b ≤ 18446744073709551615) (hm : 0 ≤ m ∧ m ≤ 18446744073709551615) :
    0 ≤ mn b m ∧ mn b m ≤ S b m d ∧ S b m d ≤ m ∧ S b m d - mn b m ≤ 18446744073709551614 := by
  have h1 := S_ge b m d hb.1
  have h2 := S_le b m d
  have h3 : 0 ≤ mn b m := by unfold mn; split <;> omega
  refine ⟨h3, h1, h2, ?_⟩
  by_cases e : mn b m = 0
  · have := S_least_zero b m d hb.1 hm.1 e
    omega
  · omega
theorem D_rng (b m : Int) (d : Nat) (j : Int) (hb : 0 ≤ b ∧ b ≤ 18446744073709551615) (hm : 0 ≤ m ∧ m ≤ 18446744073709551615) :
    mn b m ≤ D b m d j ∧ D b m d j ≤ S b m d := by
  obtain ⟨h0, h1, h2, h3⟩ := parts b m d hb hm
  unfold D
  have ha := Int.emod_nonneg j (show S b m d - mn b m + 1 ≠ 0 by omega)
  have hc := Int.emod_lt_of_pos j (show 0 < S b m d - mn b m + 1 by omega)
  omega
theorem delay_tells (b m t j : Int) (hb : (Lit.int .u64 b).wf = true) (hm : (Lit.int .u64 m).wf = true) (ht : t ≤ 9223372036854775807) (hj : 0 ≤ j) (k : Nat) (hk : t.toNat < k) :
    back_Delay.f k b m t j = some (D b m t.toNat j) := by
  have hb' := u64_rng hb
  have hm' := u64_rng hm
  obtain ⟨h0, h1, h2, h3⟩ := parts b m t.toNat hb' hm'
  have h4 := D_rng b m t.toNat j hb' hm'
  unfold back_Delay.f
  rw [span_tells b m t hb hm ht k hk]
  simp only [Option.bind_some]
  have e1 : IntKind.u64.wrap (S b m t.toNat - mn b m) = S b m t.toNat - mn b m := wu (by omega) (by omega)
  rw [e1]
  have e2 : IntKind.u64.wrap (S b m t.toNat - mn b m + 1) = S b m t.toNat - mn b m + 1 := wu (by omega) (by omega)
  rw [e2, if_neg (by omega), Int.tmod_eq_emod_of_nonneg hj]
  have e3 : IntKind.u64.wrap (mn b m + j % (S b m t.toNat - mn b m + 1)) = D b m t.toNat j := by
    unfold D at h4 ⊢
    exact wu (by omega) (by omega)
  rw [e3]
theorem shown_tells (k : Nat) (hk : 20 ≤ k) : postroomlaw14_shown.f k = some true :=
  at_rounds postroomlaw14_shown.mono hk (by decide +kernel)

theorem S_ref_big (b m : Int) (i d : Nat) (hm : m ≤ 18446744073709551615) (hn : 9223372036854775807 < b * 2 ^ i) : S b m (i + d + 1) = m := by
  unfold S
  have e : b * 2 ^ (i + d + 1) = b * 2 ^ i * 2 * 2 ^ d := by
    rw [Int.pow_succ, Int.pow_add, Int.mul_assoc, Int.mul_assoc, Int.mul_assoc, Int.mul_comm 2 (2 ^ d)]
  have := grow (b * 2 ^ i * 2) d (by omega)
  rw [e, if_pos (by omega)]
theorem ref_loop (b m t : Int) (hb : 0 ≤ b ∧ b ≤ 18446744073709551615) (hm : 0 ≤ m ∧ m ≤ 18446744073709551615) (ht : t ≤ 9223372036854775807) (d : Nat) : ∀ (k i : Nat), i + d = 64 → i ≤ t.toNat → b * 2 ^ i ≤ 18446744073709551615 → 2 * d + 2 ≤ k →
    postroomref14_Span.l0 k b m t (b * 2 ^ i) i = some (S b m t.toNat) := by
  induction d with
  | zero =>
    intro k i hi hit hn hk
    obtain ⟨k, rfl⟩ : ∃ x, k = x + 2 := ⟨k - 2, by omega⟩
    obtain rfl : i = 64 := by omega
    have hp : (2 : Int) ^ 64 = 18446744073709551616 := by decide
    have h0 : b = 0 := by rw [hp] at hn; omega
    subst h0
    simp only [postroomref14_Span.l0, postroomref14_Span.j1]
    have hs : S 0 m t.toNat = 0 := by unfold S; rw [Int.zero_mul, if_neg (by omega)]
    rw [hs, Int.zero_mul]
    simp
    omega
  | succ d ih =>
    intro k i hi hit hn hk
    obtain ⟨k, rfl⟩ : ∃ x, k = x + 2 := ⟨k - 2, by omega⟩
    have hg := grow b i hb.1
    simp only [postroomref14_Span.l0]
    by_cases hlt : (i : Int) < t
    · rw [if_pos hlt, decide_eq_true (show (i : Int) < 64 by omega)]
      simp only [postroomref14_Span.j1]
      rw [if_pos trivial]
      obtain ⟨e, he⟩ : ∃ e, t.toNat = i + e + 1 := ⟨t.toNat - i - 1, by omega⟩
      by_cases hbig : b * 2 ^ i > 9223372036854775807
      · rw [if_pos hbig, he, S_ref_big b m i e hm.2 hbig]
      · rw [if_neg hbig, wu (by omega) (by omega)]
        have ej : wrap64 ((i : Int) + 1) = ((i + 1 : Nat) : Int) := by unfold wrap64; omega
        have ep : 2 * (b * 2 ^ i) = b * 2 ^ (i + 1) := by rw [Int.pow_succ, ← Int.mul_assoc b, Int.mul_comm 2]
        rw [ej, ep]
        exact ih k (i + 1) (by omega) (by omega) (by omega) (by omega)
    · rw [if_neg hlt]
      simp only [postroomref14_Span.j1]
      obtain rfl : i = t.toNat := by omega
      rw [if_neg (by simp)]
      unfold S
      by_cases h1 : m < b * 2 ^ t.toNat
      · rw [if_pos h1, if_pos h1]
      · rw [if_neg h1, if_neg h1, if_neg (by omega)]
theorem ref_span (b m t : Int) (hb : (Lit.int .u64 b).wf = true) (hm : (Lit.int .u64 m).wf = true) (ht : t ≤ 9223372036854775807) (k : Nat) (hk : 200 ≤ k) :
    postroomref14_Span.f k b m t = some (S b m t.toNat) := by
  have hb' := u64_rng hb
  have h := ref_loop b m t hb' (u64_rng hm) ht 64 k 0 (by omega) (by omega) (by simpa using hb'.2) (by omega)
  unfold postroomref14_Span.f
  simpa using h
theorem ref_delay (b m t j : Int) (hb : (Lit.int .u64 b).wf = true) (hm : (Lit.int .u64 m).wf = true) (ht : t ≤ 9223372036854775807) (hj : 0 ≤ j) (k : Nat) (hk : 200 ≤ k) :
    postroomref14_Delay.f k b m t j = some (D b m t.toNat j) := by
  have hb' := u64_rng hb
  have hm' := u64_rng hm
  obtain ⟨h0, h1, h2, h3⟩ := parts b m t.toNat hb' hm'
  have h4 := D_rng b m t.toNat j hb' hm'
  have e1 : IntKind.u64.wrap (S b m t.toNat - mn b m) = S b m t.toNat - mn b m := wu (by omega) (by omega)
  have e2 : IntKind.u64.wrap (S b m t.toNat - mn b m + 1) = S b m t.toNat - mn b m + 1 := wu (by omega) (by omega)
  have e3 : IntKind.u64.wrap (mn b m + j % (S b m t.toNat - mn b m + 1)) = D b m t.toNat j := by
    unfold D at h4 ⊢
    exact wu (by omega) (by omega)
  unfold postroomref14_Delay.f
  rw [ref_span b m t hb hm ht k hk]
  simp only [Option.bind_some]
  by_cases hc : m < b
  · have hmn : m = mn b m := by unfold mn; rw [if_pos hc]
    rw [if_pos hc]
    rw [← hmn] at e1 e2 e3 h1 h3
    rw [e1, e2, if_neg (by omega), Int.tmod_eq_emod_of_nonneg hj, e3]
  · have hmn : b = mn b m := by unfold mn; rw [if_neg hc]
    rw [if_neg hc]
    rw [← hmn] at e1 e2 e3 h1 h3
    rw [e1, e2, if_neg (by omega), Int.tmod_eq_emod_of_nonneg hj, e3]
end Go.Proofs.Ytblijbpdnbldgaa.Pure.AtBackTells
namespace Go.Proofs.Ytblijbpdnbldgaa.Pure
open Go.RowKit Go.Proofs.Ytblijbpdnbldgaa.PBackTells Go.Proofs.YtblijbpdnbldgaaW.PrintWords Go.Proofs.YtblijbpdnbldgaaW.PrintLast AtBackTells
theorem BackTells : postroomlaw14_BackTells.Pure := by
  intro b m t j hb hm ht hj
  have ht' := i64_rng ht
  have hj' := u64_rng hj
  refine ⟨t.toNat + 300, ?_⟩
  unfold postroomlaw14_BackTells.f
  rw [shown_tells _ (by omega), span_tells b m t hb hm ht'.2 _ (by omega), ref_span b m t hb hm ht'.2 _ (by omega), delay_tells b m t j hb hm ht'.2 hj'.1 _ (by omega), ref_delay b m t j hb hm ht'.2 hj'.1 _ (by omega)]
  simp

end Go.Proofs.Ytblijbpdnbldgaa.Pure

