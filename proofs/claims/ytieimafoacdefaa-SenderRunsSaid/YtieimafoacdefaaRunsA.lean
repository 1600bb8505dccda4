/- What each act of SenderRuns comes to, on numbers and lists. -/
import Derived.Test.YtieimafoacdefaaQSenderRunsx3
namespace Go.Proofs.Ytieimafoacdefaa.Runs
open Go.RowKit Go.Proofs.Ytieimafoacdefaa.QSenderRuns Go.Proofs.YtieimafoacdefaaW.PrintWords Go.Proofs.YtieimafoacdefaaW.PrintLast Go.Proofs.YtieimafoacdefaaW.PrintMore

theorem u64_rng {a : Int} (h : (Lit.int .u64 a).wf = true) : 0 ≤ a ∧ a ≤ 18446744073709551615 := by
  simp [Lit.wf, IntKind.min, IntKind.max, IntKind.signed, IntKind.bits] at h
  omega
theorem i64_rng {a : Int} (h : (Lit.int .i64 a).wf = true) : -9223372036854775808 ≤ a ∧ a ≤ 9223372036854775807 := by
  simp [Lit.wf, IntKind.min, IntKind.max, IntKind.signed, IntKind.bits] at h
  omega
theorem wu {a : Int} (h0 : 0 ≤ a) (h1 : a ≤ 18446744073709551615) : IntKind.u64.wrap a = a := by
  rw [IntKind.wrap_u64]; omega
theorem two_pow_pos (d : Nat) : (1 : Int) ≤ 2 ^ d := by
  induction d with
  | zero => simp
  | succ d ih => rw [Int.pow_succ]; omega

/-- The longest wait: n doubled d times, and m, if that is less. -/
def S (n m : Int) (d : Nat) : Int := if m < n * 2 ^ d then m else n * 2 ^ d
theorem S_zero (n m : Int) : S n m 0 = mn n m := by simp [S, mn]
theorem S_step (n m : Int) (d : Nat) : S n m (d + 1) = S (n * 2) m d := by
  unfold S
  have e : n * 2 ^ (d + 1) = n * 2 * 2 ^ d := by rw [Int.pow_succ, Int.mul_comm (2 ^ d) 2, Int.mul_assoc]
  rw [e]
theorem grow (n : Int) (d : Nat) (h : 0 ≤ n) : n ≤ n * 2 ^ d := by
  have h1 := two_pow_pos d
  have h2 : n * 1 ≤ n * 2 ^ d := Int.mul_le_mul_of_nonneg_left h1 h
  omega
theorem S_big (n m : Int) (d : Nat) (h : 0 ≤ n) (hm : m < n * 2) : S n m (d + 1) = m := by
  rw [S_step]; unfold S
  have := grow (n * 2) d (by omega)
  rw [if_pos (by omega)]
theorem S_rng (n m : Int) (d : Nat) (h : 0 ≤ n) : mn n m ≤ S n m d ∧ S n m d ≤ m ∨ S n m d = n ∧ n = 0 := by
  unfold S mn
  have := grow n d h
  split <;> split <;> omega
theorem S_le (n m : Int) (d : Nat) : S n m d ≤ m := by
  unfold S; split <;> omega
theorem S_ge (n m : Int) (d : Nat) (h : 0 ≤ n) : mn n m ≤ S n m d := by
  unfold S mn
  have := grow n d h
  split <;> split <;> omega
theorem S_least_zero (n m : Int) (d : Nat) (h : 0 ≤ n) (hm : 0 ≤ m) (h0 : mn n m = 0) : S n m d = 0 := by
  unfold mn at h0
  unfold S
  by_cases hn : n = 0
  · subst hn; simp; omega
  · have hg := grow n d h
    split at h0
    · rw [if_pos (by omega)]; omega
    · omega

theorem span_loop (m T : Int) (hm0 : 0 ≤ m) (hm : m ≤ 18446744073709551615) (hT : T ≤ 9223372036854775807) (d : Nat) : ∀ (k : Nat) (n j : Int), 0 ≤ j → j ≤ T → T - j = d → 0 ≤ n → n ≤ 18446744073709551615 → d < k → back_Span.l0 k m n T j = some (S n m d) := by
  induction d with
  | zero =>
    intro k n j h0 h1 hd hn0 hn hk
    obtain ⟨k, rfl⟩ : ∃ x, k = x + 1 := ⟨k - 1, by omega⟩
    simp only [back_Span.l0]
    rw [if_neg (by omega), S_zero]
  | succ d ih =>
    intro k n j h0 h1 hd hn0 hn hk
    obtain ⟨k, rfl⟩ : ∃ x, k = x + 1 := ⟨k - 1, by omega⟩
    simp only [back_Span.l0]
    rw [if_pos (by omega)]
    have e : IntKind.u64.wrap (Int.tdiv m 2) = m / 2 := by
      rw [Int.tdiv_eq_ediv_of_nonneg hm0]; exact wu (by omega) (by omega)
    rw [e]
    by_cases hb : n > m / 2
    · rw [if_pos hb, S_big n m d hn0 (by omega)]
    · rw [if_neg hb, wu (by omega) (by omega)]
      have ej : wrap64 (j + 1) = j + 1 := by unfold wrap64; omega
      rw [ej, ih k (n * 2) (j + 1) (by omega) (by omega) (by omega) (by omega) (by omega) (by omega), S_step]

theorem span_tells (b m t : Int) (hb : (Lit.int .u64 b).wf = true) (hm : (Lit.int .u64 m).wf = true) (ht : t ≤ 9223372036854775807) (k : Nat) (hk : t.toNat < k) : back_Span.f k b m t = some (S b m t.toNat) := by
  obtain ⟨b0, b1⟩ := u64_rng hb
  obtain ⟨m0, m1⟩ := u64_rng hm
  unfold back_Span.f
  by_cases e : b = 0
  · rw [if_pos e]; subst e; simp [S]; omega
  · rw [if_neg e]
    unfold mx
    exact span_loop m _ m0 m1 (by split <;> omega) _ k b 0 (by omega) (by split <;> omega) (by split <;> omega) b0 b1 hk

/-- How long a wait is. -/
def D (b m : Int) (d : Nat) (j : Int) : Int := mn b m + j % (S b m d - mn b m + 1)
theorem parts (b m : Int) (d : Nat) (hb : 0 ≤ b ∧ b ≤ 18446744073709551615) (hm : 0 ≤ m ∧ m ≤ 18446744073709551615) :
    0 ≤ mn b m ∧ mn b m ≤ S b m d ∧ S b m d ≤ m ∧ S b m d - mn b m ≤ 18446744073709551614 := by
  have h1 := S_ge b m d hb.1
  have h2 := S_le b m d
  have h3 : 0 ≤ mn b m := by unfold mn; split <;> omega
  refine ⟨h3, h1, h2, ?_⟩
  by_cases e : mn b m = 0
  · have := S_least_zero b m d hb.1 hm.1 e
    omega
  · omega
theorem D_rng (b m : Int) (d : Nat) (j : Int) (hb : 0 ≤ b ∧ b ≤ 18446744073709551615) (hm : 0 ≤ m ∧ m ≤ 18446744073709551615) :
    mn b m ≤ D b m d j ∧ D b m d j ≤ S b m d := by
  obtain ⟨h0, h1, h2, h3⟩ := parts b m d hb hm
  unfold D
  have ha := Int.emod_nonneg j (show S b m d - mn b m + 1 ≠ 0 by omega)
  have hc := Int.emod_lt_of_pos j (show 0 < S b m d - mn b m + 1 by omega)
  omega
theorem delay_tells (b m t j : Int) (hb : (Lit.int .u64 b).wf = true) (hm : (Lit.int .u64 m).wf = true) (ht : t ≤ 9223372036854775807) (hj : 0 ≤ j) (k : Nat) (hk : t.toNat < k) :
    back_Delay.f k b m t j = some (D b m t.toNat j) := by
  have hb' := u64_rng hb
  have hm' := u64_rng hm
  obtain ⟨h0, h1, h2, h3⟩ := parts b m t.toNat hb' hm'
  have h4 := D_rng b m t.toNat j hb' hm'
  unfold back_Delay.f
  rw [span_tells b m t hb hm ht k hk]
  simp only [Option.bind_some]
  have e1 : IntKind.u64.wrap (S b m t.toNat - mn b m) = S b m t.toNat - mn b m := wu (by omega) (by omega)
  rw [e1]
  have e2 : IntKind.u64.wrap (S b m t.toNat - mn b m + 1) = S b m t.toNat - mn b m + 1 := wu (by omega) (by omega)
  rw [e2, if_neg (by omega), Int.tmod_eq_emod_of_nonneg hj]
  have e3 : IntKind.u64.wrap (mn b m + j % (S b m t.toNat - mn b m + 1)) = D b m t.toNat j := by
    unfold D at h4 ⊢
    exact wu (by omega) (by omega)
  rw [e3]
theorem pick_tells (c n : Int) (hc : -9223372036854775808 ≤ c ∧ c ≤ 9223372036854775807) (hn : 0 < n) : ∃ r, postroomlaw16_pick.f c n = some r ∧ 0 ≤ r ∧ r < n := by
  unfold postroomlaw16_pick.f
  by_cases h : c < 0
  · rw [if_pos h, if_neg (by omega)]
    have e1 : wrap64 (c + 1) = c + 1 := by unfold wrap64; omega
    have e2 : wrap64 (-(c + 1)) = -(c + 1) := by unfold wrap64; omega
    rw [e1, e2, Int.tmod_eq_emod_of_nonneg (by omega)]
    exact ⟨_, rfl, Int.emod_nonneg _ (by omega), Int.emod_lt_of_pos _ hn⟩
  · rw [if_neg h, if_neg (by omega), Int.tmod_eq_emod_of_nonneg (by omega)]
    exact ⟨_, rfl, Int.emod_nonneg _ (by omega), Int.emod_lt_of_pos _ hn⟩
theorem clone_tells (l : List Int) (h : l.length < 17592186044416) : slices_Clone_uint64_uint64.f l = some l := by
  unfold slices_Clone_uint64_uint64.f
  simp only [Option.bind_some, List.length_nil, Nat.zero_add, List.nil_append]
  rw [if_pos h]
theorem ready_yes (id since tries until_ now : Int) (h : until_ ≤ now) : sender_Ready.f id [] since tries until_ now = some true := by
  unfold sender_Ready.f
  rw [if_pos (by simp), decide_eq_true h]
theorem start_yes (ba ti b m id since tries until_ now : Int) (l : List Int) (h : until_ ≤ now) (hl : l ≠ []) (hn : l.length < 17592186044416) :
    sender_Start.f ba ti b m id [] since tries until_ l now = some (IntKind.u64.wrap (id + 1), l.take (mn (mx ba 0) (l.length : Int)).toNat, now, tries, until_, 0) := by
  have hp : 0 < l.length := List.length_pos_iff.2 hl
  have h1 : 0 ≤ mn (mx ba 0) (l.length : Int) := by unfold mn mx; split <;> split <;> omega
  have h2 : mn (mx ba 0) (l.length : Int) ≤ (l.length : Int) := by unfold mn mx; split <;> split <;> omega
  unfold sender_Start.f
  rw [ready_yes id since tries until_ now h]
  simp only [Option.bind_some]
  rw [if_pos trivial, if_neg (by omega), if_pos h1, if_pos h2, clone_tells _ (by rw [List.length_take]; omega)]
  simp only [Option.bind_some]
theorem start_early (ba ti b m id since tries until_ now : Int) (l : List Int) (h : now < until_) :
    sender_Start.f ba ti b m id [] since tries until_ l now = some (0, [], 0, 0, 0, 13) := by
  unfold sender_Start.f sender_Ready.f
  rw [if_pos (by simp), decide_eq_false (by omega)]
  simp
theorem failed_tells (ba ti b m id since tries until_ now jitter : Int) (fl : List Int) (hb : (Lit.int .u64 b).wf = true) (hm : (Lit.int .u64 m).wf = true) (ht : tries ≤ 9223372036854775807) (hj : 0 ≤ jitter) (h0 : 0 ≤ now) (hn : now + m ≤ 18446744073709551615) (hm0 : 0 ≤ m) (ht0 : 0 ≤ tries) (ht1 : tries < 2147483647) (k : Nat) (hk : tries.toNat < k) :
    sender_failed.f k ba ti b m id fl since tries until_ now jitter = some (id, [], since, tries + 1, now + D b m tries.toNat jitter) := by
  have hb' := u64_rng hb
  have hm' := u64_rng hm
  have h4 := D_rng b m tries.toNat jitter hb' hm'
  have h5 := parts b m tries.toNat hb' hm'
  unfold sender_failed.f
  rw [delay_tells b m tries jitter hb hm ht hj k hk]
  simp only [Option.bind_some]
  have e1 : wrap64 (mn tries 2147483647 + 1) = tries + 1 := by
    have : mn tries 2147483647 = tries := by unfold mn; rw [if_neg (by omega)]
    rw [this]; unfold wrap64; omega
  have e2 : IntKind.u64.wrap (18446744073709551615 - now) = 18446744073709551615 - now := wu (by omega) (by omega)
  have e3 : mn (D b m tries.toNat jitter) (18446744073709551615 - now) = D b m tries.toNat jitter := by unfold mn; rw [if_neg (by omega)]
  rw [e1, e2, e3, wu (by omega) (by omega)]
theorem reply_fails (ba ti b m id since tries until_ now jitter : Int) (fl : List Int) (hfl : fl ≠ []) (hb : (Lit.int .u64 b).wf = true) (hm : (Lit.int .u64 m).wf = true) (ht : tries ≤ 9223372036854775807) (hj : 0 ≤ jitter) (h0 : 0 ≤ now) (hn : now + m ≤ 18446744073709551615) (hm0 : 0 ≤ m) (ht0 : 0 ≤ tries) (ht1 : tries < 2147483647) (k : Nat) (hk : tries.toNat + 2 < k) :
    sender_Reply.f k ba ti b m id fl since tries until_ id 3 now jitter = some (id, [], since, tries + 1, now + D b m tries.toNat jitter, [], 0) := by
  have hp : 0 < fl.length := List.length_pos_iff.2 hfl
  obtain ⟨k, rfl⟩ : ∃ x, k = x + 2 := ⟨k - 2, by omega⟩
  unfold sender_Reply.f
  rw [if_neg (by omega), decide_eq_false (by omega)]
  simp only [sender_Reply.j0]
  rw [if_neg (by simp), if_neg (by omega), bne_self_eq_false]
  simp only [sender_Reply.j1]
  rw [if_neg (by simp), if_pos trivial, failed_tells ba ti b m id since tries until_ now jitter fl hb hm ht hj h0 hn hm0 ht0 ht1 k (by omega)]
  simp only [Option.bind_some]
theorem reply_tells (ba ti b m id since tries until_ kind now jitter : Int) (fl : List Int) (hfl : fl ≠ []) (hn : fl.length < 17592186044416) (hk1 : kind = 1 ∨ kind = 2) (k : Nat) (hk : 2 < k) :
    sender_Reply.f k ba ti b m id fl since tries until_ id kind now jitter = some (id, [], since, 0, now, fl, 0) := by
  have hp : 0 < fl.length := List.length_pos_iff.2 hfl
  obtain ⟨k, rfl⟩ : ∃ x, k = x + 2 := ⟨k - 2, by omega⟩
  unfold sender_Reply.f
  rw [if_neg (by omega), decide_eq_false (by omega)]
  simp only [sender_Reply.j0]
  rw [if_neg (by simp), if_neg (by omega), bne_self_eq_false]
  simp only [sender_Reply.j1]
  rw [if_neg (by simp), if_neg (by omega), clone_tells fl hn]
  simp only [Option.bind_some]
theorem reply_old (ba ti b m id other since tries until_ kind now jitter : Int) (fl : List Int) (ho : other ≠ id) (hk1 : 1 ≤ kind ∧ kind ≤ 3) (k : Nat) (hk : 2 < k) :
    sender_Reply.f k ba ti b m id fl since tries until_ other kind now jitter = some (0, [], 0, 0, 0, [], 13) := by
  obtain ⟨k, rfl⟩ : ∃ x, k = x + 2 := ⟨k - 2, by omega⟩
  have hne : (other != id) = true := bne_iff_ne.2 ho
  unfold sender_Reply.f
  rw [if_neg (by omega), decide_eq_false (by omega)]
  simp only [sender_Reply.j0]
  rw [if_neg (by simp), hne]
  by_cases hz : (fl.length : Int) = 0
  · rw [if_pos hz]; simp only [sender_Reply.j1]; rw [if_pos trivial]
  · rw [if_neg hz]; simp only [sender_Reply.j1]; rw [if_pos trivial]
theorem shown_tells (k : Nat) (hk : 30 ≤ k) : postroomlaw16_shown.f k = some true :=
  at_rounds postroomlaw16_shown.mono hk (by decide +kernel)
/-! ### What each act of SenderRuns comes to -/
theorem start_not (ba ti b m id since tries until_ now : Int) (fl l : List Int) (h : fl ≠ [] ∨ now < until_ ∨ l = []) :
    sender_Start.f ba ti b m id fl since tries until_ l now = some (0, [], 0, 0, 0, 13) := by
  unfold sender_Start.f sender_Ready.f
  by_cases hf : fl = []
  · subst hf
    rw [if_pos (by simp)]
    by_cases hu : until_ ≤ now
    · have hl : l = [] := by
        rcases h with h | h | h
        · exact absurd rfl h
        · omega
        · exact h
      subst hl
      rw [decide_eq_true hu]
      simp
    · rw [decide_eq_false hu]
      simp
  · have hp : 0 < fl.length := List.length_pos_iff.2 hf
    rw [if_neg (by omega)]
    simp
theorem reply_none (ba ti b m id since tries until_ kind now jitter : Int) (other : Int) (hk1 : 1 ≤ kind ∧ kind ≤ 3) (k : Nat) (hk : 2 < k) :
    sender_Reply.f k ba ti b m id [] since tries until_ other kind now jitter = some (0, [], 0, 0, 0, [], 13) := by
  obtain ⟨k, rfl⟩ : ∃ x, k = x + 2 := ⟨k - 2, by omega⟩
  unfold sender_Reply.f
  rw [if_neg (by omega), decide_eq_false (by omega)]
  simp only [sender_Reply.j0]
  rw [if_neg (by simp), if_pos (by simp)]
  simp only [sender_Reply.j1]
  rw [if_pos trivial]
/-- So many numbers from one on. -/
def rowL (n : Int) (d : Nat) : List Int := (List.range d).map fun (j : Nat) => n + (j : Int)
theorem rowL_len (n : Int) (d : Nat) : (rowL n d).length = d := by unfold rowL; simp
theorem rowL_snoc (n : Int) (d : Nat) : rowL n (d + 1) = rowL n d ++ [n + (d : Int)] := by unfold rowL; rw [List.range_succ, List.map_append]; rfl
theorem row_loop (n many : Int) (h0 : 0 ≤ n) (h1 : n ≤ 1000000) (h2 : 0 ≤ many) (h3 : many ≤ 20) : ∀ (d i : Nat) (k : Nat), (i : Int) + d = many → d < k → postroomlaw16_row.l0 k n many (rowL n i) (i : Int) = some (rowL n many.toNat)
  | 0, i, k, hi, hk => by
    obtain ⟨k, rfl⟩ : ∃ x, k = x + 1 := ⟨k - 1, by omega⟩
    simp only [postroomlaw16_row.l0]
    rw [if_neg (by omega)]
    have : many.toNat = i := by omega
    rw [this]
  | d + 1, i, k, hi, hk => by
    obtain ⟨k, rfl⟩ : ∃ x, k = x + 1 := ⟨k - 1, by omega⟩
    have IH := row_loop n many h0 h1 h2 h3 d (i + 1) k (by omega) (by omega)
    simp only [postroomlaw16_row.l0]
    rw [if_pos (by omega), if_pos (by rw [rowL_len]; omega)]
    have e1 : IntKind.u64.wrap (i : Int) = (i : Int) := wu (by omega) (by omega)
    have e2 : IntKind.u64.wrap (n + (i : Int)) = n + (i : Int) := wu (by omega) (by omega)
    have e3 : wrap64 ((i : Int) + 1) = ((i + 1 : Nat) : Int) := by unfold wrap64; omega
    rw [e1, e2, e3, ← rowL_snoc]
    exact IH
theorem row_tells (n many : Int) (h0 : 0 ≤ n) (h1 : n ≤ 1000000) (h2 : 0 ≤ many) (h3 : many ≤ 20) (k : Nat) (hk : 20 < k) : postroomlaw16_row.f k n many = some (rowL n many.toNat) := by
  unfold postroomlaw16_row.f
  exact row_loop n many h0 h1 h2 h3 many.toNat 0 k (by omega) (by omega)
theorem replied_fails (ba ti b m id since tries until_ id' since' until' now : Int) (fl : List Int) (h0 : 0 ≤ now) (hb : 0 ≤ b) (hbm : b ≤ m) (hn : now + m ≤ 18446744073709551615) (h1 : now + b ≤ until') (h2 : until' ≤ now + m) (ht : 0 ≤ tries ∧ tries ≤ 1000000) (k : Nat) (hk : 0 < k) :
    postroomlaw16_replied.f k ba ti b m id fl since tries until_ id' [] since' (tries + 1) until' [] true now = some true := by
  obtain ⟨k, rfl⟩ : ∃ x, k = x + 1 := ⟨k - 1, by omega⟩
  unfold postroomlaw16_replied.f
  rw [if_pos (by simp)]
  simp only [postroomlaw16_replied.j0]
  have e1 : IntKind.u64.wrap (now + b) = now + b := wu (by omega) (by omega)
  have e2 : IntKind.u64.wrap (now + m) = now + m := wu (by omega) (by omega)
  have e3 : wrap64 (tries + 1) = tries + 1 := by unfold wrap64; omega
  rw [if_neg (by simp), if_pos trivial, e1, e2, e3, if_pos (by omega), if_pos (by omega), beq_self_eq_true]
theorem replied_takes (ba ti b m id since tries until_ id' since' now : Int) (fl l : List Int) (hl : l ≠ []) (hlen : l.length = fl.length) (k : Nat) (hk : 0 < k) :
    postroomlaw16_replied.f k ba ti b m id fl since tries until_ id' [] since' 0 now l false now = some true := by
  obtain ⟨k, rfl⟩ : ∃ x, k = x + 1 := ⟨k - 1, by omega⟩
  have hp : 0 < l.length := List.length_pos_iff.2 hl
  have hne : ((l.length : Int) == 0) = false := by simp; exact hl
  unfold postroomlaw16_replied.f
  rw [if_pos (by simp), hne]
  simp only [postroomlaw16_replied.j0]
  rw [if_neg (by simp), if_neg (by simp), if_pos trivial, if_pos trivial, hlen, beq_self_eq_true]
theorem late_is (ba ti b m id since tries u now : Int) (fl : List Int) (h0 : 0 ≤ since) (h1 : since ≤ now) (h2 : now ≤ 18446744073709551615) :
    sender_Late.f ba ti b m id fl since tries u now = some (decide (0 < (fl.length : Int)) && decide (ti ≤ now - since)) := by
  unfold sender_Late.f
  have e : IntKind.u64.wrap (now - since) = now - since := wu (by omega) (by omega)
  by_cases h : (fl.length : Int) > 0
  · rw [if_pos h, if_pos (by omega), e, decide_eq_true (by omega : 0 < (fl.length : Int)), Bool.true_and]
  · rw [if_neg h, decide_eq_false (by omega : ¬ 0 < (fl.length : Int)), Bool.false_and]
theorem tick_not (ba ti b m id since tries u now jitter : Int) (fl : List Int) (h0 : 0 ≤ since) (h1 : since ≤ now) (h2 : now ≤ 18446744073709551615) (hn : fl.length < 17592186044416) (hl : (decide (0 < (fl.length : Int)) && decide (ti ≤ now - since)) = false) (k : Nat) :
    sender_Tick.f k ba ti b m id fl since tries u now jitter = some (id, fl, since, tries, u, false) := by
  unfold sender_Tick.f
  rw [late_is ba ti b m id since tries u now fl h0 h1 h2, hl]
  simp only [Option.bind_some]
  rw [if_neg (by simp), clone_tells fl hn]
  simp only [Option.bind_some]
theorem tick_late (ba ti b m id since tries u now jitter : Int) (fl : List Int) (h0 : 0 ≤ since) (h1 : since ≤ now) (hl : (decide (0 < (fl.length : Int)) && decide (ti ≤ now - since)) = true)
    (hb : (Lit.int .u64 b).wf = true) (hm : (Lit.int .u64 m).wf = true) (hj : 0 ≤ jitter) (hn : now + m ≤ 18446744073709551615) (hm0 : 0 ≤ m) (ht0 : 0 ≤ tries) (ht1 : tries < 2147483647) (k : Nat) (hk : tries.toNat < k) :
    sender_Tick.f k ba ti b m id fl since tries u now jitter = some (id, [], since, tries + 1, now + D b m tries.toNat jitter, true) := by
  unfold sender_Tick.f
  rw [late_is ba ti b m id since tries u now fl h0 h1 (by omega), hl]
  simp only [Option.bind_some]
  rw [if_pos trivial, failed_tells ba ti b m id since tries u now jitter fl hb hm (by omega) hj (by omega) hn hm0 ht0 ht1 k hk]
  simp only [Option.bind_some]
end Go.Proofs.Ytieimafoacdefaa.Runs
