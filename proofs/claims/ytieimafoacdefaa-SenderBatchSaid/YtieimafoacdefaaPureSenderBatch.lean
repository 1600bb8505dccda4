/- What goes out is the front of what is pending, as many as a batch has, and nothing that is handed in is written: for all numbers. -/
import Derived.Test.YtieimafoacdefaaQSenderBatchx3
namespace Go.Proofs.Ytieimafoacdefaa.Pure.AtSenderBatch
open Go.RowKit Go.Proofs.Ytieimafoacdefaa.QSenderBatch Go.Proofs.YtieimafoacdefaaW.PrintWords Go.Proofs.YtieimafoacdefaaW.PrintLast Go.Proofs.YtieimafoacdefaaW.PrintMore

theorem u64_rng {a : Int} (h : (Lit.int .u64 a).wf = true) : 0 ≤ a ∧ a ≤ 18446744073709551615 := by
  simp [Lit.wf, IntKind.min, IntKind.max, IntKind.signed, IntKind.bits] at h
  omega
theorem i64_rng {a : Int} (h : (Lit.int .i64 a).wf = true) : -9223372036854775808 ≤ a ∧ a ≤ 9223372036854775807 := by
  simp [Lit.wf, IntKind.min, IntKind.max, IntKind.signed, IntKind.bits] at h
  omega
theorem wu {a : Int} (h0 : 0 ≤ a) (h1 : a ≤ 18446744073709551615) : IntKind.u64.wrap a = a := by
  rw [IntKind.wrap_u64]; omega
theorem two_pow_pos (d : Nat) : (1 : Int) ≤ 2 ^ d := by
  induction d with
  | zero => simp
  | succ d ih => rw [Int.pow_succ]; omega

/-- The longest wait: n doubled d times, and m, if that is less. -/
def S (n m : Int) (d : Nat) : Int := if m < n * 2 ^ d then m else n * 2 ^ d
theorem S_zero (n m : Int) : S n m 0 = mn n m := by simp [S, mn]
theorem S_step (n m : Int) (d : Nat) : S n m (d + 1) = S (n * 2) m d := by
  unfold S
  have e : n * 2 ^ (d + 1) = n * 2 * 2 ^ d := by rw [Int.pow_succ, Int.mul_comm (2 ^ d) 2, Int.mul_assoc]
  rw [e]
theorem grow (n : Int) (d : Nat) (h : 0 ≤ n) : n ≤ n * 2 ^ d := by
  have h1 := two_pow_pos d
  have h2 : n * 1 ≤ n * 2 ^ d := Int.mul_le_mul_of_nonneg_left h1 h
  omega
theorem S_big (n m : Int) (d : Nat) (h : 0 ≤ n) (hm : m < n * 2) : S n m (d + 1) = m := by
  rw [S_step]; unfold S
  have := grow (n * 2) d (by omega)
  rw [if_pos (by omega)]
theorem S_rng (n m : Int) (d : Nat) (h : 0 ≤ n) : mn n m ≤ S n m d ∧ S n m d ≤ m ∨ S n m d = n ∧ n = 0 := by
  unfold S mn
  have := grow n d h
  split <;> split <;> omega
theorem S_le (n m : Int) (d : Nat) : S n m d ≤ m := by
  unfold S; split <;> omega
theorem S_ge (n m : Int) (d : Nat) (h : 0 ≤ n) : mn n m ≤ S n m d := by
  unfold S mn
  have := grow n d h
  split <;> split <;> omega
theorem S_least_zero (n m : Int) (d : Nat) (h : 0 ≤ n) (hm : 0 ≤ m) (h0 : mn n m = 0) : S n m d = 0 := by
  unfold mn at h0
  unfold S
  by_cases hn : n = 0
  · subst hn; simp; omega
  · have hg := grow n d h
    split at h0
    · rw [if_pos (by omega)]; omega
    · omega

theorem span_loop (m T : Int) (hm0 : 0 ≤ m) (hm : m ≤ 18446744073709551615) (hT : T ≤ 9223372036854775807) (d : Nat) : ∀ (k : Nat) (n j : Int), 0 ≤ j → j ≤ T → T - j = d → 0 ≤ n → n ≤ 18446744073709551615 → d < k → back_Span.l0 k m n T j = some (S n m d) := by
  induction d with
  | zero =>
    intro k n j h0 h1 hd hn0 hn hk
    obtain ⟨k, rfl⟩ : ∃ x, k = x + 1 := ⟨k - 1, by omega⟩
    simp only [back_Span.l0]
    rw [if_neg (by omega), S_zero]
  | succ d ih =>
    intro k n j h0 h1 hd hn0 hn hk
    obtain ⟨k, rfl⟩ : ∃ x, k = x + 1 := ⟨k - 1, by omega⟩
    simp only [back_Span.l0]
    rw [if_pos (by omega)]
    have e : IntKind.u64.wrap (Int.tdiv m 2) = m / 2 := by
      rw [Int.tdiv_eq_ediv_of_nonneg hm0]; exact wu (by omega) (by omega)
    rw [e]
    by_cases hb : n > m / 2
    · rw [if_pos hb, S_big n m d hn0 (by omega)]
    · rw [if_neg hb, wu (by omega) (by omega)]
      have ej : wrap64 (j + 1) = j + 1 := by unfold wrap64; omega
      rw [ej, ih k (n * 2) (j + 1) (by omega) (by omega) (by omega) (by omega) (by omega) (by omega), S_step]

theorem span_tells (b m t : Int) (hb : (Lit.int .u64 b).wf = true) (hm : (Lit.int .u64 m).wf = true) (ht : t ≤ 9223372036854775807) (k : Nat) (hk : t.toNat < k) : back_Span.f k b m t = some (S b m t.toNat) := by
  obtain ⟨b0, b1⟩ := u64_rng hb
  obtain ⟨m0, m1⟩ := u64_rng hm
  unfold back_Span.f
  by_cases e : b = 0
  · rw [if_pos e]; subst e; simp [S]; omega
  · rw [if_neg e]
    unfold mx
    exact span_loop m _ m0 m1 (by split <;> omega) _ k b 0 (by omega) (by split <;> omega) (by split <;> omega) b0 b1 hk

/-- How long a wait is. -/
def D (b m : Int) (d : Nat) (j : Int) : Int := mn b m + j % (S b m d - mn b m + 1)
theorem parts (b m : Int) (d : Nat) (hb : 0 ≤ b ∧ b ≤ 18446744073709551615) (hm : 0 ≤ m ∧ m ≤ 18446744073709551615) :
    0 ≤ mn b m ∧ mn b m ≤ S b m d ∧ S b m d ≤ m ∧ S b m d - mn b m ≤ 18446744073709551614 := by
  have h1 := S_ge b m d hb.1
  have h2 := S_le b m d
  have h3 : 0 ≤ mn b m := by unfold mn; split <;> omega
  refine ⟨h3, h1, h2, ?_⟩
  by_cases e : mn b m = 0
  · have := S_least_zero b m d hb.1 hm.1 e
    omega
  · omega
theorem D_rng (b m : Int) (d : Nat) (j : Int) (hb : 0 ≤ b ∧ b ≤ 18446744073709551615) (hm : 0 ≤ m ∧ m ≤ 18446744073709551615) :
    mn b m ≤ D b m d j ∧ D b m d j ≤ S b m d := by
  obtain ⟨h0, h1, h2, h3⟩ := parts b m d hb hm
  unfold D
  have ha := Int.emod_nonneg j (show S b m d - mn b m + 1 ≠ 0 by omega)
  have hc := Int.emod_lt_of_pos j (show 0 < S b m d - mn b m + 1 by omega)
  omega
theorem delay_tells (b m t j : Int) (hb : (Lit.int .u64 b).wf = true) (hm : (Lit.int .u64 m).wf = true) (ht : t ≤ 9223372036854775807) (hj : 0 ≤ j) (k : Nat) (hk : t.toNat < k) :
    back_Delay.f k b m t j = some (D b m t.toNat j) := by
  have hb' := u64_rng hb
  have hm' := u64_rng hm
  obtain ⟨h0, h1, h2, h3⟩ := parts b m t.toNat hb' hm'
  have h4 := D_rng b m t.toNat j hb' hm'
  unfold back_Delay.f
  rw [span_tells b m t hb hm ht k hk]
  simp only [Option.bind_some]
  have e1 : IntKind.u64.wrap (S b m t.toNat - mn b m) = S b m t.toNat - mn b m := wu (by omega) (by omega)
  rw [e1]
  have e2 : IntKind.u64.wrap (S b m t.toNat - mn b m + 1) = S b m t.toNat - mn b m + 1 := wu (by omega) (by omega)
  rw [e2, if_neg (by omega), Int.tmod_eq_emod_of_nonneg hj]
  have e3 : IntKind.u64.wrap (mn b m + j % (S b m t.toNat - mn b m + 1)) = D b m t.toNat j := by
    unfold D at h4 ⊢
    exact wu (by omega) (by omega)
  rw [e3]
theorem pick_tells (c n : Int) (hc : -9223372036854775808 ≤ c ∧ c ≤ 9223372036854775807) (hn : 0 < n) : ∃ r, postroomlaw16_pick.f c n = some r ∧ 0 ≤ r ∧ r < n := by
  unfold postroomlaw16_pick.f
  by_cases h : c < 0
  · rw [if_pos h, if_neg (by omega)]
    have e1 : wrap64 (c + 1) = c + 1 := by unfold wrap64; omega
    have e2 : wrap64 (-(c + 1)) = -(c + 1) := by unfold wrap64; omega
    rw [e1, e2, Int.tmod_eq_emod_of_nonneg (by omega)]
    exact ⟨_, rfl, Int.emod_nonneg _ (by omega), Int.emod_lt_of_pos _ hn⟩
  · rw [if_neg h, if_neg (by omega), Int.tmod_eq_emod_of_nonneg (by omega)]
    exact ⟨_, rfl, Int.emod_nonneg _ (by omega), Int.emod_lt_of_pos _ hn⟩
theorem clone_tells (l : List Int) (h : l.length < 17592186044416) : slices_Clone_uint64_uint64.f l = some l := by
  unfold slices_Clone_uint64_uint64.f
  simp only [Option.bind_some, List.length_nil, Nat.zero_add, List.nil_append]
  rw [if_pos h]
theorem ready_yes (id since tries until_ now : Int) (h : until_ ≤ now) : sender_Ready.f id [] since tries until_ now = some true := by
  unfold sender_Ready.f
  rw [if_pos (by simp), decide_eq_true h]
theorem start_yes (ba ti b m id since tries until_ now : Int) (l : List Int) (h : until_ ≤ now) (hl : l ≠ []) (hn : l.length < 17592186044416) :
    sender_Start.f ba ti b m id [] since tries until_ l now = some (IntKind.u64.wrap (id + 1), l.take (mn (mx ba 0) (l.length : Int)).toNat, now, tries, until_, 0) := by
  have hp : 0 < l.length := List.length_pos_iff.2 hl
  have h1 : 0 ≤ mn (mx ba 0) (l.length : Int) := by unfold mn mx; split <;> split <;> omega
  have h2 : mn (mx ba 0) (l.length : Int) ≤ (l.length : Int) := by unfold mn mx; split <;> split <;> omega
  unfold sender_Start.f
  rw [ready_yes id since tries until_ now h]
  simp only [Option.bind_some]
  rw [if_pos trivial, if_neg (by omega), if_pos h1, if_pos h2, clone_tells _ (by rw [List.length_take]; omega)]
  simp only [Option.bind_some]
theorem start_early (ba ti b m id since tries until_ now : Int) (l : List Int) (h : now < until_) :
    sender_Start.f ba ti b m id [] since tries until_ l now = some (0, [], 0, 0, 0, 13) := by
  unfold sender_Start.f sender_Ready.f
  rw [if_pos (by simp), decide_eq_false (by omega)]
  simp
theorem failed_tells (ba ti b m id since tries until_ now jitter : Int) (fl : List Int) (hb : (Lit.int .u64 b).wf = true) (hm : (Lit.int .u64 m).wf = true) (ht : tries ≤ 9223372036854775807) (hj : 0 ≤ jitter) (h0 : 0 ≤ now) (hn : now + m ≤ 18446744073709551615) (hm0 : 0 ≤ m) (ht0 : 0 ≤ tries) (ht1 : tries < 2147483647) (k : Nat) (hk : tries.toNat < k) :
    sender_failed.f k ba ti b m id fl since tries until_ now jitter = some (id, [], since, tries + 1, now + D b m tries.toNat jitter) := by
  have hb' := u64_rng hb
  have hm' := u64_rng hm
  have h4 := D_rng b m tries.toNat jitter hb' hm'
  have h5 := parts b m tries.toNat hb' hm'
  unfold sender_failed.f
  rw [delay_tells b m tries jitter hb hm ht hj k hk]
  simp only [Option.bind_some]
  have e1 : wrap64 (mn tries 2147483647 + 1) = tries + 1 := by
    have : mn tries 2147483647 = tries := by unfold mn; rw [if_neg (by omega)]
    rw [this]; unfold wrap64; omega
  have e2 : IntKind.u64.wrap (18446744073709551615 - now) = 18446744073709551615 - now := wu (by omega) (by omega)
  have e3 : mn (D b m tries.toNat jitter) (18446744073709551615 - now) = D b m tries.toNat jitter := by unfold mn; rw [if_neg (by omega)]
  rw [e1, e2, e3, wu (by omega) (by omega)]
theorem reply_fails (ba ti b m id since tries until_ now jitter : Int) (fl : List Int) (hfl : fl ≠ []) (hb : (Lit.int .u64 b).wf = true) (hm : (Lit.int .u64 m).wf = true) (ht : tries ≤ 9223372036854775807) (hj : 0 ≤ jitter) (h0 : 0 ≤ now) (hn : now + m ≤ 18446744073709551615) (hm0 : 0 ≤ m) (ht0 : 0 ≤ tries) (ht1 : tries < 2147483647) (k : Nat) (hk : tries.toNat + 2 < k) :
    sender_Reply.f k ba ti b m id fl since tries until_ id 3 now jitter = some (id, [], since, tries + 1, now + D b m tries.toNat jitter, [], 0) := by
  have hp : 0 < fl.length := List.length_pos_iff.2 hfl
  obtain ⟨k, rfl⟩ : ∃ x, k = x + 2 := ⟨k - 2, by omega⟩
  unfold sender_Reply.f
  rw [if_neg (by omega), decide_eq_false (by omega)]
  simp only [sender_Reply.j0]
  rw [if_neg (by simp), if_neg (by omega), bne_self_eq_false]
  simp only [sender_Reply.j1]
  rw [if_neg (by simp), if_pos trivial, failed_tells ba ti b m id since tries until_ now jitter fl hb hm ht hj h0 hn hm0 ht0 ht1 k (by omega)]
  simp only [Option.bind_some]
theorem reply_tells (ba ti b m id since tries until_ kind now jitter : Int) (fl : List Int) (hfl : fl ≠ []) (hn : fl.length < 17592186044416) (hk1 : kind = 1 ∨ kind = 2) (k : Nat) (hk : 2 < k) :
    sender_Reply.f k ba ti b m id fl since tries until_ id kind now jitter = some (id, [], since, 0, now, fl, 0) := by
  have hp : 0 < fl.length := List.length_pos_iff.2 hfl
  obtain ⟨k, rfl⟩ : ∃ x, k = x + 2 := ⟨k - 2, by omega⟩
  unfold sender_Reply.f
  rw [if_neg (by omega), decide_eq_false (by omega)]
  simp only [sender_Reply.j0]
  rw [if_neg (by simp), if_neg (by omega), bne_self_eq_false]
  simp only [sender_Reply.j1]
  rw [if_neg (by simp), if_neg (by omega), clone_tells fl hn]
  simp only [Option.bind_some]
theorem reply_old (ba ti b m id other since tries until_ kind now jitter : Int) (fl : List Int) (ho : other ≠ id) (hk1 : 1 ≤ kind ∧ kind ≤ 3) (k : Nat) (hk : 2 < k) :
    sender_Reply.f k ba ti b m id fl since tries until_ other kind now jitter = some (0, [], 0, 0, 0, [], 13) := by
  obtain ⟨k, rfl⟩ : ∃ x, k = x + 2 := ⟨k - 2, by omega⟩
  have hne : (other != id) = true := bne_iff_ne.2 ho
  unfold sender_Reply.f
  rw [if_neg (by omega), decide_eq_false (by omega)]
  simp only [sender_Reply.j0]
  rw [if_neg (by simp), hne]
  by_cases hz : (fl.length : Int) = 0
  · rw [if_pos hz]; simp only [sender_Reply.j1]; rw [if_pos trivial]
  · rw [if_neg hz]; simp only [sender_Reply.j1]; rw [if_pos trivial]
theorem shown_tells (k : Nat) (hk : 30 ≤ k) : postroomlaw16_shown.f k = some true :=
  at_rounds postroomlaw16_shown.mono hk (by decide +kernel)

theorem same_loop (l : List Int) (hl : l.length ≤ 1000) (d : Nat) : ∀ (k : Nat) (i : Int), 0 ≤ i → i ≤ l.length → (l.length : Int) - i = d → d < k → postroomref16_SameInts.l0 k l l i = some true := by
  induction d with
  | zero =>
    intro k i h0 h1 hd hk
    obtain ⟨k, rfl⟩ : ∃ x, k = x + 1 := ⟨k - 1, by omega⟩
    simp only [postroomref16_SameInts.l0]
    rw [if_neg (by omega)]
  | succ d ih =>
    intro k i h0 h1 hd hk
    obtain ⟨k, rfl⟩ : ∃ x, k = x + 1 := ⟨k - 1, by omega⟩
    simp only [postroomref16_SameInts.l0]
    have e : wrap64 (i + 1) = i + 1 := by unfold wrap64; omega
    rw [if_pos (by omega), if_pos h0, if_pos (by omega), if_pos trivial, e]
    exact ih k (i + 1) (by omega) (by omega) (by omega) (by omega)
theorem same_self (l : List Int) (hl : l.length ≤ 1000) (k : Nat) (hk : l.length < k) : postroomref16_SameInts.f k l l = some true := by
  unfold postroomref16_SameInts.f
  rw [if_pos rfl]
  exact same_loop l hl l.length k 0 (by omega) (by omega) (by omega) hk
theorem start_none (ba ti b m id since tries until_ now : Int) (h : until_ ≤ now) :
    sender_Start.f ba ti b m id [] since tries until_ [] now = some (0, [], 0, 0, 0, 13) := by
  unfold sender_Start.f
  rw [ready_yes id since tries until_ now h]
  simp
theorem part1 (now : Int) (l fl : List Int) (n ba since : Int) (hn : 0 ≤ n ∧ n ≤ l.length) (hl : l.length ≤ 300) (hfl : fl = l.take n.toNat) (h1 : fl ≠ []) (k : Nat) (hk : 400 ≤ k) :
    postroomlaw16_SenderBatch.j1 k l now l n false ba 1 1 1 1 fl since 0 0 = some true := by
  have hlen : fl.length ≤ 300 := by rw [hfl, List.length_take]; omega
  obtain ⟨k, rfl⟩ : ∃ x, k = x + 1 := ⟨k - 1, by omega⟩
  simp only [postroomlaw16_SenderBatch.j1]
  rw [if_neg (by simp), reply_tells ba 1 1 1 1 since 0 0 2 now 0 fl h1 (by omega) (by omega) k (by omega)]
  simp only [Option.bind_some]
  rw [if_pos trivial, if_pos hn.1, if_pos hn.2, ← hfl, same_self fl (by omega) k (by omega)]
  simp only [Option.bind_some]
  rw [if_pos trivial, same_self l (by omega) k (by omega)]
  rfl
end Go.Proofs.Ytieimafoacdefaa.Pure.AtSenderBatch
namespace Go.Proofs.Ytieimafoacdefaa.Pure
open Go.RowKit Go.Proofs.Ytieimafoacdefaa.QSenderBatch Go.Proofs.YtieimafoacdefaaW.PrintWords Go.Proofs.YtieimafoacdefaaW.PrintLast Go.Proofs.YtieimafoacdefaaW.PrintMore AtSenderBatch
theorem SenderBatch : postroomlaw16_SenderBatch.Pure := by
  intro a0 l now h0 hl1 hl2 hl3 hnow
  obtain ⟨p, hp, p0, p1⟩ := pick_tells a0 100 (i64_rng h0) (by omega)
  have hnow' := u64_rng hnow
  refine ⟨1001, ?_⟩
  unfold postroomlaw16_SenderBatch.f
  rw [shown_tells _ (by omega)]
  simp only [Option.bind_some]
  rw [if_pos trivial]
  simp only [postroomlaw16_SenderBatch.j0]
  by_cases hbig : (l.length : Int) > 300
  · rw [decide_eq_true hbig, if_pos rfl]
  · rw [decide_eq_false hbig, if_neg (by simp), hp]
    have e1 : wrap64 (1 + p) = 1 + p := by unfold wrap64; omega
    simp only [Option.bind_some, List.nil_append, List.length_nil, Nat.zero_add]
    rw [if_pos (by omega), e1]
    by_cases hz : l = []
    · subst hz
      rw [start_none (1 + p) 1 1 1 0 0 0 0 now hnow'.1]
      simp
    · have hpos : 0 < l.length := List.length_pos_iff.2 hz
      have en : mn (mx (1 + p) 0) (l.length : Int) = mn (l.length : Int) (1 + p) := by unfold mn mx; split <;> split <;> split <;> omega
      have n0 : 1 ≤ mn (l.length : Int) (1 + p) := by unfold mn; split <;> omega
      have n1 : mn (l.length : Int) (1 + p) ≤ l.length := by unfold mn; split <;> omega
      rw [start_yes (1 + p) 1 1 1 0 0 0 0 now l hnow'.1 hz (by omega), en]
      have e5 : IntKind.u64.wrap (0 + 1) = 1 := wu (by omega) (by omega)
      rw [e5]
      simp only [Option.bind_some]
      generalize mn (l.length : Int) (1 + p) = n at n0 n1 ⊢
      have hlen : (l.take n.toNat).length = n.toNat := by rw [List.length_take]; omega
      have hne : l.take n.toNat ≠ [] := by intro h; rw [h] at hlen; simp at hlen; omega
      rw [if_neg (by omega), if_pos trivial, if_pos (by rw [hlen]; omega), if_pos (by omega), if_pos n1, same_self _ (by omega) _ (by omega)]
      simp only [Option.bind_some, Bool.not_true]
      exact part1 now l _ n (1 + p) now (by omega) (by omega) rfl hne _ (by omega)

end Go.Proofs.Ytieimafoacdefaa.Pure

