/- A shard of twice as many shards is part of one of them: for every text and number. -/
import Derived.Test.YtemjjhpdpdlbnaaQShardHalvesx1
namespace Go.Proofs.Ytemjjhpdpdlbnaa.Pure.AtShardHalves
open Go.RowKit Go.Proofs.Ytemjjhpdpdlbnaa.QShardHalves Go.Proofs.YtemjjhpdpdlbnaaW.PrintWords Go.Proofs.YtemjjhpdpdlbnaaW.PrintLast Go.Proofs.YtemjjhpdpdlbnaaW.PrintMore
theorem i64_rng {a : Int} (h : (Lit.int .i64 a).wf = true) : -9223372036854775808 ≤ a ∧ a ≤ 9223372036854775807 := by
  simp [Lit.wf, IntKind.min, IntKind.max, IntKind.signed, IntKind.bits] at h
  omega
theorem u8_rng {a : Int} (h : (Lit.int .u8 a).wf = true) : 0 ≤ a ∧ a ≤ 255 := by
  simp [Lit.wf, IntKind.min, IntKind.max, IntKind.signed, IntKind.bits] at h
  omega
theorem wu {a : Int} (h0 : 0 ≤ a) (h1 : a ≤ 18446744073709551615) : IntKind.u64.wrap a = a := by
  rw [IntKind.wrap_u64]; omega
theorem w64 {a : Int} (h0 : -9223372036854775808 ≤ a) (h1 : a ≤ 9223372036854775807) : wrap64 a = a := by unfold wrap64; omega
theorem shown_tells (k : Nat) (hk : 30 ≤ k) : postroomlaw13_shown.f k = some true :=
  at_rounds postroomlaw13_shown.mono hk (by decide +kernel)

theorem pick_tells (c n : Int) (hc : -9223372036854775808 ≤ c ∧ c ≤ 9223372036854775807) (hn : 0 < n) : ∃ r, postroomlaw13_pick.f c n = some r ∧ 0 ≤ r ∧ r < n := by
  unfold postroomlaw13_pick.f
  by_cases h : c < 0
  · rw [if_pos h, if_neg (by omega)]
    have e1 : wrap64 (c + 1) = c + 1 := by unfold wrap64; omega
    have e2 : wrap64 (-(c + 1)) = -(c + 1) := by unfold wrap64; omega
    rw [e1, e2, Int.tmod_eq_emod_of_nonneg (by omega)]
    exact ⟨_, rfl, Int.emod_nonneg _ (by omega), Int.emod_lt_of_pos _ hn⟩
  · rw [if_neg h, if_neg (by omega), Int.tmod_eq_emod_of_nonneg (by omega)]
    exact ⟨_, rfl, Int.emod_nonneg _ (by omega), Int.emod_lt_of_pos _ hn⟩

end Go.Proofs.Ytemjjhpdpdlbnaa.Pure.AtShardHalves
namespace Go.Proofs.Ytemjjhpdpdlbnaa.Pure
open Go.RowKit Go.Proofs.Ytemjjhpdpdlbnaa.QShardHalves Go.Proofs.YtemjjhpdpdlbnaaW.PrintWords Go.Proofs.YtemjjhpdpdlbnaaW.PrintLast Go.Proofs.YtemjjhpdpdlbnaaW.PrintMore AtShardHalves
theorem ShardHalves : postroomlaw13_ShardHalves.Pure := by
  intro s a1 hs h1
  refine ⟨3000, ?_⟩
  unfold postroomlaw13_ShardHalves.f
  rw [shown_tells _ (by omega)]
  simp only [Option.bind_some]
  rw [if_pos trivial]
  simp only [postroomlaw13_ShardHalves.j0]
  by_cases hbig : (s.size : Int) > 2000
  · rw [decide_eq_true hbig, if_pos rfl]
  · obtain ⟨t, ht, t0, t1⟩ := pick_tells a1 4 (i64_rng h1) (by omega)
    rw [decide_eq_false hbig, if_neg (by simp), ht]
    simp only [Option.bind_some]
    have of : ∀ n, shard_Of.f 2999 s n = some (ofN s n) := fun n => of_tells s n (by omega) 2999 (by omega)
    have hr := hashN_rng s
    have e1 : wrap64 (1 + t) = 1 + t := w64 (by omega) (by omega)
    have e2 : wrap64 (2 * (1 + t)) = 2 * (1 + t) := w64 (by omega) (by omega)
    have e3 : wrap64 (-(1 + t)) = -(1 + t) := w64 (by omega) (by omega)
    have e4 : wrap64 (8 + (1 + t)) = 8 + (1 + t) := w64 (by omega) (by omega)
    rw [e1, e2, e3, e4]
    simp only [of, Option.bind_some]
    have o1 : ofN s 1 = 0 := by rw [ofN_eq s 1 (by omega) (by omega)]; omega
    have o2 : ofN s (-(1 + t)) = 0 := by unfold ofN; rw [if_pos (by omega)]
    have o3 : ofN s (8 + (1 + t)) = 0 := by unfold ofN; rw [if_neg (by omega), if_pos (by omega)]
    have oa := ofN_rng s (1 + t) (by omega) (by omega)
    have ob : ofN s (2 * (1 + t)) = ofN s (1 + t) ∨ ofN s (2 * (1 + t)) = ofN s (1 + t) + (1 + t) := by
      rw [ofN_eq s (2 * (1 + t)) (by omega) (by omega), ofN_eq s (1 + t) (by omega) (by omega)]
      have : t = 0 ∨ t = 1 ∨ t = 2 ∨ t = 3 := by omega
      rcases this with rfl | rfl | rfl | rfl <;> omega
    have e5 : wrap64 (ofN s (1 + t) + (1 + t)) = ofN s (1 + t) + (1 + t) := w64 (by omega) (by omega)
    rw [o1, o2, o3, e5]
    by_cases hx : ofN s (2 * (1 + t)) = ofN s (1 + t)
    · rw [if_pos hx, if_pos oa.1, if_pos oa.2]; simp
    · rw [if_neg hx, if_pos (by omega), if_pos oa.1, if_pos oa.2]; simp

end Go.Proofs.Ytemjjhpdpdlbnaa.Pure

