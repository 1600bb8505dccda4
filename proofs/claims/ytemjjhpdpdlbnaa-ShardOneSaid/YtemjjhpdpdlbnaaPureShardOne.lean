/- Each of some texts is in one shard, once, by itself, and is there too behind others: for all texts and numbers. -/
import Derived.Test.YtemjjhpdpdlbnaaQShardOnex2
namespace Go.Proofs.Ytemjjhpdpdlbnaa.Pure.AtShardOne
open Go.RowKit Go.Proofs.Ytemjjhpdpdlbnaa.QShardOne Go.Proofs.YtemjjhpdpdlbnaaW.PrintWords Go.Proofs.YtemjjhpdpdlbnaaW.PrintLast Go.Proofs.YtemjjhpdpdlbnaaW.PrintMore
set_option linter.unusedVariables false
theorem i64_rng {a : Int} (h : (Lit.int .i64 a).wf = true) : -9223372036854775808 ≤ a ∧ a ≤ 9223372036854775807 := by
  simp [Lit.wf, IntKind.min, IntKind.max, IntKind.signed, IntKind.bits] at h
  omega
theorem u8_rng {a : Int} (h : (Lit.int .u8 a).wf = true) : 0 ≤ a ∧ a ≤ 255 := by
  simp [Lit.wf, IntKind.min, IntKind.max, IntKind.signed, IntKind.bits] at h
  omega
theorem wu {a : Int} (h0 : 0 ≤ a) (h1 : a ≤ 18446744073709551615) : IntKind.u64.wrap a = a := by
  rw [IntKind.wrap_u64]; omega
theorem w64 {a : Int} (h0 : -9223372036854775808 ≤ a) (h1 : a ≤ 9223372036854775807) : wrap64 a = a := by unfold wrap64; omega
theorem shown_tells (k : Nat) (hk : 30 ≤ k) : postroomlaw13_shown.f k = some true :=
  at_rounds postroomlaw13_shown.mono hk (by decide +kernel)

theorem pick_tells (c n : Int) (hc : -9223372036854775808 ≤ c ∧ c ≤ 9223372036854775807) (hn : 0 < n) : ∃ r, postroomlaw13_pick.f c n = some r ∧ 0 ≤ r ∧ r < n := by
  unfold postroomlaw13_pick.f
  by_cases h : c < 0
  · rw [if_pos h, if_neg (by omega)]
    have e1 : wrap64 (c + 1) = c + 1 := by unfold wrap64; omega
    have e2 : wrap64 (-(c + 1)) = -(c + 1) := by unfold wrap64; omega
    rw [e1, e2, Int.tmod_eq_emod_of_nonneg (by omega)]
    exact ⟨_, rfl, Int.emod_nonneg _ (by omega), Int.emod_lt_of_pos _ hn⟩
  · rw [if_neg h, if_neg (by omega), Int.tmod_eq_emod_of_nonneg (by omega)]
    exact ⟨_, rfl, Int.emod_nonneg _ (by omega), Int.emod_lt_of_pos _ hn⟩

theorem few_loop (l : List ByteArray) (hl : l.length < 8796093022208) (hs : ∀ s ∈ l, s.size ≤ 140737488351232) (d : Nat) : ∀ (k i : Nat) (acc : Int), i + d = l.length → d < k →
    ∃ r : Int, postroomlaw13_few.l0 k l acc (i : Int) = some (if (l.length : Int) ≤ 50 then decide (r ≤ 2000) else false) ∧
      (0 ≤ acc → acc + d * 140737488351232 ≤ 4611686018427387904 → acc ≤ r ∧ ∀ j, i ≤ j → j < l.length → ((rdOf ByteArray.empty l (j : Int)).size : Int) ≤ r) := by
  induction d with
  | zero =>
    intro k i acc hi hk
    obtain ⟨k, rfl⟩ : ∃ m, k = m + 1 := ⟨k - 1, by omega⟩
    refine ⟨acc, ?_, fun _ _ => ⟨by omega, fun j h1 h2 => by omega⟩⟩
    simp only [postroomlaw13_few.l0]
    rw [if_neg (by omega)]
    split <;> rfl
  | succ d ih =>
    intro k i acc hi hk
    obtain ⟨k, rfl⟩ : ∃ m, k = m + 1 := ⟨k - 1, by omega⟩
    have hmem : rdOf ByteArray.empty l (i : Int) ∈ l := by
      unfold rdOf; rw [Int.toNat_natCast, List.getD_eq_getElem?_getD, List.getElem?_eq_getElem (by omega), Option.getD_some]; exact List.getElem_mem _
    have hsz := hs _ hmem
    obtain ⟨r, hr, hb⟩ := ih k (i + 1) (wrap64 (acc + ((rdOf ByteArray.empty l (i : Int)).size : Int))) (by omega) (by omega)
    refine ⟨r, ?_, fun h0 h1 => ?_⟩
    · simp only [postroomlaw13_few.l0]
      rw [if_pos (by omega), if_pos (by omega), w64 (a := (i : Int) + 1) (by omega) (by omega)]
      exact hr
    · rw [w64 (a := acc + _) (by omega) (by omega)] at hb
      obtain ⟨hb1, hb2⟩ := hb (by omega) (by omega)
      refine ⟨by omega, fun j hj1 hj2 => ?_⟩
      by_cases hj : j = i
      · subst hj; omega
      · exact hb2 j (by omega) hj2
/-- Of few texts each is short. -/
theorem few_tells (l : List ByteArray) (hl : l.length * 16 ≤ 140737488351232) (hs : ∀ s ∈ l, s.size ≤ 140737488351232) :
    ∃ b : Bool, (∀ k, l.length < k → postroomlaw13_few.f k l = some b) ∧ (b = true → l.length ≤ 50 ∧ ∀ s ∈ l, s.size ≤ 2000) := by
  obtain ⟨r, hr, hb⟩ := few_loop l (by omega) hs l.length (l.length + 1) 0 0 (by omega) (by omega)
  refine ⟨_, fun k hk => at_rounds (g := fun k => postroomlaw13_few.f k l) (fun k => postroomlaw13_few.mono l k) hk hr, fun h => ?_⟩
  split at h
  · rename_i h50
    have hr2 := of_decide_eq_true h
    obtain ⟨h1, h2⟩ := hb (by omega) (by omega)
    refine ⟨by omega, fun s hs' => ?_⟩
    obtain ⟨j, hj, rfl⟩ := List.mem_iff_getElem.1 hs'
    have := h2 j (by omega) hj
    unfold rdOf at this
    rw [Int.toNat_natCast, List.getD_eq_getElem?_getD, List.getElem?_eq_getElem hj, Option.getD_some] at this
    omega
  · cases h
theorem split_tells (l : List ByteArray) (n : Int) (hl : l.length ≤ 1000) (hs : ∀ s ∈ l, s.size ≤ 2000) : shard_Split.f l n = some (splitN l n) := by
  unfold shard_Split.f
  rw [if_pos ⟨by omega, List.all_eq_true.2 fun s h => decide_eq_true (by have := hs s h; omega)⟩]
theorem split_row (l : List ByteArray) (n : Int) (h1 : 1 ≤ n) (h8 : n ≤ 8) (j : Int) (hj0 : 0 ≤ j) (hj : j < n) : rd_L1 (splitN l n) j = rowN l n l.length j.toNat := by
  unfold rd_L1
  rw [List.getD_eq_getElem?_getD, splitN_get l n h1 h8 j.toNat (by omega)]; rfl

theorem rd_left (a b : List ByteArray) (q : Nat) (h : q < a.length) : rdOf ByteArray.empty (a ++ b) (q : Int) = rdOf ByteArray.empty a (q : Int) := by
  unfold rdOf
  rw [Int.toNat_natCast, List.getD_eq_getElem?_getD, List.getD_eq_getElem?_getD, List.getElem?_append_left h]
theorem rd_right (a b : List ByteArray) (q : Nat) : rdOf ByteArray.empty (a ++ b) ((a.length + q : Nat) : Int) = rdOf ByteArray.empty b (q : Int) := by
  unfold rdOf
  rw [Int.toNat_natCast, Int.toNat_natCast, List.getD_eq_getElem?_getD, List.getD_eq_getElem?_getD, List.getElem?_append_right (by omega), Nat.add_sub_cancel_left]
theorem row_left (a b : List ByteArray) (n : Int) (j i : Nat) (h : i ≤ a.length) : rowN (a ++ b) n i j = rowN a n i j := by
  induction i with
  | zero => rw [rowN_zero, rowN_zero]
  | succ i ih =>
    have e := rd_left a b i (by omega)
    by_cases hh : ofN (rdOf ByteArray.empty a (i : Int)) n = (j : Int)
    · rw [rowN_hit a n i j hh, rowN_hit (a ++ b) n i j (by rw [e]; exact hh), ih (by omega)]
    · rw [rowN_miss a n i j hh, rowN_miss (a ++ b) n i j (by rw [e]; exact hh), ih (by omega)]
theorem row_both (a b : List ByteArray) (n : Int) (j i : Nat) : rowN (a ++ b) n (a.length + i) j = rowN a n a.length j ++ (rowN b n i j).map (fun x => (a.length : Int) + x) := by
  induction i with
  | zero => rw [Nat.add_zero, row_left a b n j a.length (Nat.le_refl _), rowN_zero]; simp
  | succ i ih =>
    have e := rd_right a b i
    by_cases hh : ofN (rdOf ByteArray.empty b (i : Int)) n = (j : Int)
    · rw [rowN_hit b n i j hh, ← Nat.add_assoc, rowN_hit (a ++ b) n (a.length + i) j (by rw [e]; exact hh), ih, List.map_append, List.append_assoc]
      simp
    · rw [rowN_miss b n i j hh, ← Nat.add_assoc, rowN_miss (a ++ b) n (a.length + i) j (by rw [e]; exact hh), ih]
theorem row_rng (l : List ByteArray) (n : Int) (i j : Nat) (x : Int) (h : x ∈ rowN l n i j) : 0 ≤ x ∧ x < i := by
  unfold rowN at h
  obtain ⟨q, hq, rfl⟩ := List.mem_map.1 h
  have := List.mem_range.1 (List.mem_filter.1 hq).1
  omega

theorem row_mem (l : List ByteArray) (n : Int) (i j p : Nat) : (p : Int) ∈ rowN l n i j ↔ p < i ∧ ofN (rdOf ByteArray.empty l (p : Int)) n = (j : Int) := by
  unfold rowN
  rw [List.mem_map]
  constructor
  · rintro ⟨q, hq, e⟩
    have : q = p := by omega
    subst this
    have h := List.mem_filter.1 hq
    exact ⟨List.mem_range.1 h.1, by simpa using h.2⟩
  · rintro ⟨h1, h2⟩
    exact ⟨p, List.mem_filter.2 ⟨List.mem_range.2 h1, by simpa using h2⟩, rfl⟩
theorem row_rises (l : List ByteArray) (n : Int) (i j : Nat) : (rowN l n i j).Pairwise (· < ·) := by
  unfold rowN
  rw [List.pairwise_map]
  exact (List.pairwise_lt_range.filter _).imp (fun h => by omega)
/-- How often each text was seen, behind the rows below i, and the first q of row i. -/
def seenN (l : List ByteArray) (n : Int) (i q : Nat) : List Int := (List.range l.length).map fun p : Nat => (if ofN (rdOf ByteArray.empty l (p : Int)) n < (i : Int) then (1 : Int) else 0) + (if (p : Int) ∈ (rowN l n l.length i).take q then 1 else 0)
theorem seen_len (l : List ByteArray) (n : Int) (i q : Nat) : (seenN l n i q).length = l.length := by unfold seenN; simp
theorem seen_get (l : List ByteArray) (n : Int) (i q p : Nat) (h : p < l.length) : (seenN l n i q)[p]? = some ((if ofN (rdOf ByteArray.empty l (p : Int)) n < (i : Int) then (1 : Int) else 0) + (if (p : Int) ∈ (rowN l n l.length i).take q then 1 else 0)) := by
  unfold seenN; rw [List.getElem?_map, List.getElem?_range h]; rfl
theorem seen_first (l : List ByteArray) (n : Int) (h1 : 1 ≤ n) (h8 : n ≤ 8) : seenN l n 0 0 = List.replicate l.length 0 := by
  apply List.ext_getElem?
  intro p
  by_cases hp : p < l.length
  · have := ofN_rng (rdOf ByteArray.empty l (p : Int)) n h1 h8
    rw [seen_get l n 0 0 p hp, List.getElem?_replicate, if_pos hp, if_neg (by omega)]; simp
  · rw [List.getElem?_eq_none (by rw [seen_len]; omega), List.getElem?_eq_none (by simp; omega)]
theorem seen_next (l : List ByteArray) (n : Int) (i q : Nat) (hq : (rowN l n l.length i).length ≤ q) : seenN l n i q = seenN l n (i + 1) 0 := by
  apply List.ext_getElem?
  intro p
  by_cases hp : p < l.length
  · rw [seen_get l n i q p hp, seen_get l n (i + 1) 0 p hp, List.take_of_length_le hq, List.take_zero]
    have hm := row_mem l n l.length i p
    congr 1
    by_cases e : ofN (rdOf ByteArray.empty l (p : Int)) n = (i : Int)
    · rw [if_pos (hm.2 ⟨hp, e⟩), if_neg (by omega), if_pos (by omega)]; simp
    · rw [if_neg (fun h => e (hm.1 h).2)]
      by_cases e2 : ofN (rdOf ByteArray.empty l (p : Int)) n < (i : Int)
      · rw [if_pos e2, if_pos (by omega)]; simp
      · rw [if_neg e2, if_neg (by omega)]; simp
  · rw [List.getElem?_eq_none (by rw [seen_len]; omega), List.getElem?_eq_none (by rw [seen_len]; omega)]
theorem seen_step (l : List ByteArray) (n : Int) (i q p : Nat) (hq : q < (rowN l n l.length i).length) (e : (rowN l n l.length i)[q] = (p : Int)) (hp : p < l.length) (hof : ofN (rdOf ByteArray.empty l (p : Int)) n = (i : Int)) :
    rd (seenN l n i q) (p : Int) = 0 ∧ (seenN l n i q).set p 1 = seenN l n i (q + 1) := by
  have hno : ¬ (p : Int) ∈ (rowN l n l.length i).take q := by
    intro h
    obtain ⟨j, hj, ej⟩ := List.mem_iff_getElem.1 h
    rw [List.getElem_take] at ej
    have hjq : j < q := by rw [List.length_take] at hj; omega
    have := List.pairwise_iff_getElem.1 (row_rises l n l.length i) j q (by omega) hq hjq
    omega
  refine ⟨?_, ?_⟩
  · unfold rd
    rw [Int.toNat_natCast, List.getD_eq_getElem?_getD, seen_get l n i q p hp, if_neg (by omega), if_neg hno]; rfl
  · apply List.ext_getElem?
    intro s
    by_cases hs : s < l.length
    · rw [seen_get l n i (q + 1) s hs]
      by_cases es : s = p
      · subst es
        rw [List.getElem?_set_self (by rw [seen_len]; exact hs), if_neg (by omega), if_pos (by rw [List.take_succ_eq_append_getElem hq, e]; simp)]; rfl
      · rw [List.getElem?_set_ne (Ne.symm es), seen_get l n i q s hs]
        have : ((s : Int) ∈ (rowN l n l.length i).take (q + 1)) ↔ ((s : Int) ∈ (rowN l n l.length i).take q) := by
          rw [List.take_succ_eq_append_getElem hq, e, List.mem_append, List.mem_singleton]
          constructor
          · rintro (h | h)
            · exact h
            · omega
          · exact Or.inl
        by_cases h : (s : Int) ∈ (rowN l n l.length i).take q
        · rw [if_pos h, if_pos (this.2 h)]
        · rw [if_neg h, if_neg (fun x => h (this.1 x))]
    · rw [List.getElem?_eq_none (by rw [List.length_set, seen_len]; omega), List.getElem?_eq_none (by rw [seen_len]; omega)]
theorem last_loop (l : List ByteArray) (n : Int) (h1 : 1 ≤ n) (h8 : n ≤ 8) (hl : l.length ≤ 50) (d : Nat) : ∀ (k i : Nat), i + d = l.length → d < k → postroomlaw13_ShardOne.l3 k l (seenN l n n.toNat 0) (i : Int) = some true := by
  induction d with
  | zero =>
    intro k i hi hk
    obtain ⟨k, rfl⟩ : ∃ m, k = m + 1 := ⟨k - 1, by omega⟩
    simp only [postroomlaw13_ShardOne.l3]
    rw [if_neg (by omega)]
  | succ d ih =>
    intro k i hi hk
    obtain ⟨k, rfl⟩ : ∃ m, k = m + 1 := ⟨k - 1, by omega⟩
    have hr := ofN_rng (rdOf ByteArray.empty l (i : Int)) n h1 h8
    have e : rd (seenN l n n.toNat 0) (i : Int) = 1 := by
      unfold rd
      rw [Int.toNat_natCast, List.getD_eq_getElem?_getD, seen_get l n n.toNat 0 i (by omega), if_pos (by omega), List.take_zero]; rfl
    simp only [postroomlaw13_ShardOne.l3]
    rw [if_pos (by omega), if_pos (by omega), if_pos (by rw [seen_len]; omega), e, if_pos rfl, w64 (a := (i : Int) + 1) (by omega) (by omega)]
    exact ih k (i + 1) (by omega) (by omega)
theorem found (l more : List ByteArray) (n : Int) (x y : List (List Int)) (S : List Int) (i q0 at_ : Int) (Y : List Int) (hi0 : 0 ≤ i) (hi : i < y.length) (hY : rd_L1 y i = Y) (hYl : Y.length ≤ 1000) (hq0 : 0 ≤ q0 ∧ q0 ≤ 1000) (hat : 0 ≤ at_ ∧ at_ ≤ 1000) (hm : more.length ≤ 50)
    (K : Nat) (hK : ∀ k, K ≤ k → postroomlaw13_ShardOne.l1 k l more n x y S i (q0 + 1) = some true) (d : Nat) :
    ∀ (k q : Nat) (b : Bool), q + d = Y.length → (b = true ∨ at_ + (more.length : Int) ∈ Y.drop q) → K + d + 1 ≤ k → postroomlaw13_ShardOne.l2 k l more n x y S i q0 at_ b (q : Int) = some true := by
  induction d with
  | zero =>
    intro k q b hq hb hk
    obtain ⟨k, rfl⟩ : ∃ m, k = m + 1 := ⟨k - 1, by omega⟩
    have hbt : b = true := by
      rcases hb with h | h
      · exact h
      · rw [List.drop_of_length_le (by omega)] at h; cases h
    subst hbt
    simp only [postroomlaw13_ShardOne.l2]
    rw [hY, if_pos hi0, if_pos hi, if_neg (by omega), if_pos trivial, w64 (a := q0 + 1) (by omega) (by omega)]
    exact hK k (by omega)
  | succ d ih =>
    intro k q b hq hb hk
    obtain ⟨k, rfl⟩ : ∃ m, k = m + 1 := ⟨k - 1, by omega⟩
    have hlt : q < Y.length := by omega
    simp only [postroomlaw13_ShardOne.l2]
    rw [hY, if_pos hi0, if_pos hi, if_pos (by omega), w64 (a := (q : Int) + 1) (by omega) (by omega)]
    cases b with
    | true => rw [if_pos rfl]; exact ih k (q + 1) true (by omega) (.inl rfl) (by omega)
    | false =>
      have hrd : rd Y (q : Int) = Y[q] := by unfold rd; rw [Int.toNat_natCast, List.getD_eq_getElem?_getD, List.getElem?_eq_getElem hlt]; rfl
      rw [if_neg (by simp), if_pos (by omega), hrd, w64 (a := at_ + (more.length : Int)) (by omega) (by omega)]
      refine ih k (q + 1) _ (by omega) ?_ (by omega)
      rcases hb with h | h
      · cases h
      · rw [List.drop_eq_getElem_cons hlt] at h
        rcases List.mem_cons.1 h with h | h
        · exact .inl (by rw [h]; simp)
        · exact .inr h
theorem row_loop (l more : List ByteArray) (n : Int) (h1 : 1 ≤ n) (h8 : n ≤ 8) (hl : l.length ≤ 50) (hm : more.length ≤ 50) (hs : ∀ s ∈ l, s.size ≤ 2000) (i : Nat) (hi : (i : Int) < n)
    (K : Nat) (hK : ∀ k, K ≤ k → postroomlaw13_ShardOne.l0 k l more n (splitN l n) (splitN (more ++ l) n) (seenN l n (i + 1) 0) ((i : Int) + 1) = some true) (d : Nat) :
    ∀ (q : Nat), q + d = (rowN l n l.length i).length → ∃ K', ∀ k, K' ≤ k → postroomlaw13_ShardOne.l1 k l more n (splitN l n) (splitN (more ++ l) n) (seenN l n i q) (i : Int) (q : Int) = some true := by
  have lx := splitN_length l n h1 h8
  have ly := splitN_length (more ++ l) n h1 h8
  have sx := split_row l n h1 h8 (i : Int) (by omega) hi
  have sy := split_row (more ++ l) n h1 h8 (i : Int) (by omega) hi
  rw [Int.toNat_natCast] at sx sy
  rw [List.length_append, row_both] at sy
  have hxl := rowN_length l n l.length i
  have hyl := rowN_length more n more.length i
  induction d with
  | zero =>
    intro q hq
    refine ⟨K + 1, fun k hk => ?_⟩
    obtain ⟨k, rfl⟩ : ∃ m, k = m + 1 := ⟨k - 1, by omega⟩
    simp only [postroomlaw13_ShardOne.l1]
    rw [sx, if_pos (by omega), if_pos (by omega), if_neg (by omega), w64 (a := (i : Int) + 1) (by omega) (by omega), seen_next l n i q (by omega)]
    exact hK k (by omega)
  | succ d ih =>
    intro q hq
    obtain ⟨K', hK'⟩ := ih (q + 1) (by omega)
    have hlt : q < (rowN l n l.length i).length := by omega
    have hb := row_rng l n l.length i _ (List.getElem_mem hlt)
    obtain ⟨p, hp⟩ := Int.eq_ofNat_of_zero_le hb.1
    have hpl : p < l.length := by omega
    have hof := ((row_mem l n l.length i p).1 (by rw [← hp]; exact List.getElem_mem hlt)).2
    obtain ⟨s0, s1⟩ := seen_step l n i q p hlt hp hpl hof
    have hrd : rd (rowN l n l.length i) (q : Int) = (p : Int) := by unfold rd; rw [Int.toNat_natCast, List.getD_eq_getElem?_getD, List.getElem?_eq_getElem hlt, ← hp]; rfl
    have hmem : rdOf ByteArray.empty l (p : Int) ∈ l := by
      unfold rdOf; rw [Int.toNat_natCast, List.getD_eq_getElem?_getD, List.getElem?_eq_getElem hpl, Option.getD_some]; exact List.getElem_mem _
    have hsz := hs _ hmem
    have hin : (p : Int) + (more.length : Int) ∈ (rowN more n more.length i ++ (rowN l n l.length i).map (fun x => (more.length : Int) + x)).drop 0 := by
      rw [List.drop_zero, List.mem_append]
      exact .inr (List.mem_map.2 ⟨(p : Int), by rw [← hp]; exact List.getElem_mem hlt, by omega⟩)
    refine ⟨K' + 4000, fun k hk => ?_⟩
    obtain ⟨k, rfl⟩ : ∃ m, k = m + 2 := ⟨k - 2, by omega⟩
    have next : postroomlaw13_ShardOne.j4 (k + 1) l more n (splitN l n) (splitN (more ++ l) n) (seenN l n i q) (i : Int) (q : Int) (p : Int) false = some true := by
      simp only [postroomlaw13_ShardOne.j4]
      rw [if_neg (by simp), if_pos (by omega), if_pos (by rw [seen_len]; omega), s0, w64 (a := 0 + 1) (by omega) (by omega), Int.toNat_natCast]
      have e01 : (0 : Int) + 1 = 1 := by omega
      rw [e01, s1]
      exact found l more n (splitN l n) (splitN (more ++ l) n) (seenN l n i (q + 1)) (i : Int) (q : Int) (p : Int) _ (by omega) (by omega) sy (by rw [List.length_append, List.length_map]; omega) (by omega) (by omega) hm K' hK' _ k 0 false (Nat.zero_add _) (.inr hin) (by rw [List.length_append, List.length_map]; omega)
    have hof' : shard_Of.f (k + 1) (rdOf ByteArray.empty l (p : Int)) n = some (i : Int) := by rw [of_tells _ n (by omega) (k + 1) (by omega), hof]
    have hne : ((i : Int) != (i : Int)) = false := by simp
    simp only [postroomlaw13_ShardOne.l1]
    rw [sx, if_pos (by omega), if_pos (by omega), if_pos (by omega), if_pos (by omega), hrd, if_neg (by omega), if_neg (by omega)]
    by_cases hq0 : (q : Int) > 0
    · have e1 : wrap64 ((q : Int) - 1) = ((q - 1 : Nat) : Int) := by unfold wrap64; omega
      have hlt2 : q - 1 < (rowN l n l.length i).length := by omega
      have hrd2 : rd (rowN l n l.length i) ((q - 1 : Nat) : Int) = (rowN l n l.length i)[q - 1] := by unfold rd; rw [Int.toNat_natCast, List.getD_eq_getElem?_getD, List.getElem?_eq_getElem hlt2]; rfl
      have hup := List.pairwise_iff_getElem.1 (row_rises l n l.length i) (q - 1) q hlt2 hlt (by omega)
      rw [if_pos hq0, e1, if_pos (by omega), if_pos (by omega), hrd2, if_neg (by omega), if_pos (by omega), if_pos (by omega), hof']
      simp only [Option.bind_some]
      rw [hne]
      exact next
    · rw [if_neg hq0, if_pos (by omega), if_pos (by omega), hof']
      simp only [Option.bind_some]
      rw [hne]
      exact next
theorem outer (l more : List ByteArray) (n : Int) (h1 : 1 ≤ n) (h8 : n ≤ 8) (hl : l.length ≤ 50) (hm : more.length ≤ 50) (hs : ∀ s ∈ l, s.size ≤ 2000) (d : Nat) : ∀ (i : Nat), (i : Int) + d = n →
    ∃ K, ∀ k, K ≤ k → postroomlaw13_ShardOne.l0 k l more n (splitN l n) (splitN (more ++ l) n) (seenN l n i 0) (i : Int) = some true := by
  induction d with
  | zero =>
    intro i hi
    refine ⟨l.length + 10, fun k hk => ?_⟩
    obtain ⟨k, rfl⟩ : ∃ m, k = m + 1 := ⟨k - 1, by omega⟩
    simp only [postroomlaw13_ShardOne.l0]
    rw [if_neg (by omega)]
    have : i = n.toNat := by omega
    subst this
    exact last_loop l n h1 h8 hl l.length k 0 (by omega) (by omega)
  | succ d ih =>
    intro i hi
    obtain ⟨K, hK⟩ := ih (i + 1) (by omega)
    obtain ⟨K', hK'⟩ := row_loop l more n h1 h8 hl hm hs i (by omega) K (fun k hk => by have := hK k hk; simpa using this) (rowN l n l.length i).length 0 (by omega)
    refine ⟨K' + 1, fun k hk => ?_⟩
    obtain ⟨k, rfl⟩ : ∃ m, k = m + 1 := ⟨k - 1, by omega⟩
    simp only [postroomlaw13_ShardOne.l0]
    rw [if_pos (by omega)]
    exact hK' k (by omega)
theorem tells (a b : List ByteArray) (n : Int) (hn : (Lit.int .i64 n).wf = true) (ha16 : a.length * 16 ≤ 140737488351232) (ha47 : ∀ s ∈ a, s.size ≤ 140737488351232) (hb16 : b.length * 16 ≤ 140737488351232) (hb47 : ∀ s ∈ b, s.size ≤ 140737488351232) : ∃ k, postroomlaw13_ShardOne.f k a b n = some true := by
  obtain ⟨p, hp, hp2⟩ := few_tells a ha16 ha47
  obtain ⟨q, hq, hq2⟩ := few_tells b hb16 hb47
  obtain ⟨t, ht, t0, t1⟩ := pick_tells n 8 (i64_rng hn) (by omega)
  obtain ⟨K, hK⟩ : ∃ K, (p = true → q = true → ∀ k, K ≤ k → postroomlaw13_ShardOne.l0 k a b (1 + t) (splitN a (1 + t)) (splitN (b ++ a) (1 + t)) (seenN a (1 + t) 0 0) 0 = some true) := by
    cases p with
    | false => exact ⟨0, fun h => by cases h⟩
    | true =>
      cases q with
      | false => exact ⟨0, fun _ h => by cases h⟩
      | true =>
        obtain ⟨K, hK⟩ := outer a b (1 + t) (by omega) (by omega) (hp2 rfl).1 (hq2 rfl).1 (hp2 rfl).2 (1 + t).toNat 0 (by omega)
        exact ⟨K, fun _ _ => hK⟩
  refine ⟨K + a.length + b.length + 1000, ?_⟩
  unfold postroomlaw13_ShardOne.f
  rw [shown_tells _ (by omega), hp _ (by omega), hq _ (by omega)]
  simp only [Option.bind_some]
  rw [if_pos trivial]
  cases p with
  | false =>
    rw [if_neg (by simp)]
    simp only [postroomlaw13_ShardOne.j0]
    rw [if_pos trivial]
  | true =>
    rw [if_pos rfl]
    cases q with
    | false =>
      simp only [postroomlaw13_ShardOne.j0, Bool.not_false]
      rw [if_pos trivial]
    | true =>
      obtain ⟨a50, a2000⟩ := hp2 rfl
      obtain ⟨b50, b2000⟩ := hq2 rfl
      have la := splitN_length a (1 + t) (by omega) (by omega)
      have lz := splitN_length (b ++ a) (1 + t) (by omega) (by omega)
      have hab : ∀ s ∈ b ++ a, s.size ≤ 2000 := fun s hs => (List.mem_append.1 hs).elim (b2000 s) (a2000 s)
      simp only [postroomlaw13_ShardOne.j0, Bool.not_true]
      rw [if_neg (by simp), ht]
      simp only [Option.bind_some, List.nil_append, List.length_nil, Nat.zero_add]
      rw [w64 (a := 1 + t) (by omega) (by omega), split_tells a _ (by omega) a2000]
      simp only [Option.bind_some]
      rw [if_pos (by omega), if_pos (by omega), split_tells (b ++ a) _ (by rw [List.length_append]; omega) hab]
      simp only [Option.bind_some]
      have hz : (((splitN (b ++ a) (1 + t)).length : Int) != 1 + t) = false := by rw [lz]; simp; omega
      rw [if_pos (by omega), hz]
      simp only [postroomlaw13_ShardOne.j1]
      rw [if_neg (by simp), if_pos (by omega), if_pos (by omega), Int.toNat_natCast, ← seen_first a (1 + t) (by omega) (by omega)]
      exact hK rfl rfl _ (by omega)
end Go.Proofs.Ytemjjhpdpdlbnaa.Pure.AtShardOne
namespace Go.Proofs.Ytemjjhpdpdlbnaa.Pure
open Go.RowKit Go.Proofs.Ytemjjhpdpdlbnaa.QShardOne Go.Proofs.YtemjjhpdpdlbnaaW.PrintWords Go.Proofs.YtemjjhpdpdlbnaaW.PrintLast Go.Proofs.YtemjjhpdpdlbnaaW.PrintMore AtShardOne
set_option linter.unusedVariables false
/-- The walk, with what the row's arguments tell. -/
theorem ShardOneW (w : World) (A0 : Option Addr) (c0 : Nat) (a : List ByteArray) (hr0 : Kd.C Kd.string w A0 a.length a) (hc0 : a.length ≤ c0) (ha : a.length * 16 ≤ 140737488351232) (ha2 : ∀ s ∈ a, s.size ≤ 140737488351232) (A1 : Option Addr) (c1 : Nat) (b : List ByteArray) (hr1 : Kd.C Kd.string w A1 b.length b) (hc1 : b.length ≤ c1) (hb : b.length * 16 ≤ 140737488351232) (hb2 : ∀ s ∈ b, s.size ≤ 140737488351232) (n : Int) (hn : (Lit.int .i64 n).wf = true) :
    Calls Try.prog 4 #[.slice A0 a.length c0, .slice A1 b.length c1, .int .i64 n] w fun e w' => e = .returned (.bool true) ∧ Below w.heap.size w w' := by
  obtain ⟨k, h⟩ := tells a b n hn ha ha2 hb hb2
  exact postroomlaw13_ShardOne.calls k A0 c0 a A1 c1 b n true w hr0 hc0 hr1 hc1 h rfl

end Go.Proofs.Ytemjjhpdpdlbnaa.Pure

