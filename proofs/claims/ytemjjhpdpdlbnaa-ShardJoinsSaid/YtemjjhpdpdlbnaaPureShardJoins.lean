/- What is behind other texts is in the same shards as alone, moved by how many there are: for all texts and numbers. -/
import Derived.Test.YtemjjhpdpdlbnaaQShardJoinsx2
namespace Go.Proofs.Ytemjjhpdpdlbnaa.Pure.AtShardJoins
open Go.RowKit Go.Proofs.Ytemjjhpdpdlbnaa.QShardJoins Go.Proofs.YtemjjhpdpdlbnaaW.PrintWords Go.Proofs.YtemjjhpdpdlbnaaW.PrintLast Go.Proofs.YtemjjhpdpdlbnaaW.PrintMore
set_option linter.unusedVariables false
theorem i64_rng {a : Int} (h : (Lit.int .i64 a).wf = true) : -9223372036854775808 ≤ a ∧ a ≤ 9223372036854775807 := by
  simp [Lit.wf, IntKind.min, IntKind.max, IntKind.signed, IntKind.bits] at h
  omega
theorem u8_rng {a : Int} (h : (Lit.int .u8 a).wf = true) : 0 ≤ a ∧ a ≤ 255 := by
  simp [Lit.wf, IntKind.min, IntKind.max, IntKind.signed, IntKind.bits] at h
  omega
theorem wu {a : Int} (h0 : 0 ≤ a) (h1 : a ≤ 18446744073709551615) : IntKind.u64.wrap a = a := by
  rw [IntKind.wrap_u64]; omega
theorem w64 {a : Int} (h0 : -9223372036854775808 ≤ a) (h1 : a ≤ 9223372036854775807) : wrap64 a = a := by unfold wrap64; omega
theorem shown_tells (k : Nat) (hk : 30 ≤ k) : postroomlaw13_shown.f k = some true :=
  at_rounds postroomlaw13_shown.mono hk (by decide +kernel)

theorem pick_tells (c n : Int) (hc : -9223372036854775808 ≤ c ∧ c ≤ 9223372036854775807) (hn : 0 < n) : ∃ r, postroomlaw13_pick.f c n = some r ∧ 0 ≤ r ∧ r < n := by
  unfold postroomlaw13_pick.f
  by_cases h : c < 0
  · rw [if_pos h, if_neg (by omega)]
    have e1 : wrap64 (c + 1) = c + 1 := by unfold wrap64; omega
    have e2 : wrap64 (-(c + 1)) = -(c + 1) := by unfold wrap64; omega
    rw [e1, e2, Int.tmod_eq_emod_of_nonneg (by omega)]
    exact ⟨_, rfl, Int.emod_nonneg _ (by omega), Int.emod_lt_of_pos _ hn⟩
  · rw [if_neg h, if_neg (by omega), Int.tmod_eq_emod_of_nonneg (by omega)]
    exact ⟨_, rfl, Int.emod_nonneg _ (by omega), Int.emod_lt_of_pos _ hn⟩

theorem few_loop (l : List ByteArray) (hl : l.length < 8796093022208) (hs : ∀ s ∈ l, s.size ≤ 140737488351232) (d : Nat) : ∀ (k i : Nat) (acc : Int), i + d = l.length → d < k →
    ∃ r : Int, postroomlaw13_few.l0 k l acc (i : Int) = some (if (l.length : Int) ≤ 50 then decide (r ≤ 2000) else false) ∧
      (0 ≤ acc → acc + d * 140737488351232 ≤ 4611686018427387904 → acc ≤ r ∧ ∀ j, i ≤ j → j < l.length → ((rdOf ByteArray.empty l (j : Int)).size : Int) ≤ r) := by
  induction d with
  | zero =>
    intro k i acc hi hk
    obtain ⟨k, rfl⟩ : ∃ m, k = m + 1 := ⟨k - 1, by omega⟩
    refine ⟨acc, ?_, fun _ _ => ⟨by omega, fun j h1 h2 => by omega⟩⟩
    simp only [postroomlaw13_few.l0]
    rw [if_neg (by omega)]
    split <;> rfl
  | succ d ih =>
    intro k i acc hi hk
    obtain ⟨k, rfl⟩ : ∃ m, k = m + 1 := ⟨k - 1, by omega⟩
    have hmem : rdOf ByteArray.empty l (i : Int) ∈ l := by
      unfold rdOf; rw [Int.toNat_natCast, List.getD_eq_getElem?_getD, List.getElem?_eq_getElem (by omega), Option.getD_some]; exact List.getElem_mem _
    have hsz := hs _ hmem
    obtain ⟨r, hr, hb⟩ := ih k (i + 1) (wrap64 (acc + ((rdOf ByteArray.empty l (i : Int)).size : Int))) (by omega) (by omega)
    refine ⟨r, ?_, fun h0 h1 => ?_⟩
    · simp only [postroomlaw13_few.l0]
      rw [if_pos (by omega), if_pos (by omega), w64 (a := (i : Int) + 1) (by omega) (by omega)]
      exact hr
    · rw [w64 (a := acc + _) (by omega) (by omega)] at hb
      obtain ⟨hb1, hb2⟩ := hb (by omega) (by omega)
      refine ⟨by omega, fun j hj1 hj2 => ?_⟩
      by_cases hj : j = i
      · subst hj; omega
      · exact hb2 j (by omega) hj2
/-- Of few texts each is short. -/
theorem few_tells (l : List ByteArray) (hl : l.length * 16 ≤ 140737488351232) (hs : ∀ s ∈ l, s.size ≤ 140737488351232) :
    ∃ b : Bool, (∀ k, l.length < k → postroomlaw13_few.f k l = some b) ∧ (b = true → l.length ≤ 50 ∧ ∀ s ∈ l, s.size ≤ 2000) := by
  obtain ⟨r, hr, hb⟩ := few_loop l (by omega) hs l.length (l.length + 1) 0 0 (by omega) (by omega)
  refine ⟨_, fun k hk => at_rounds (g := fun k => postroomlaw13_few.f k l) (fun k => postroomlaw13_few.mono l k) hk hr, fun h => ?_⟩
  split at h
  · rename_i h50
    have hr2 := of_decide_eq_true h
    obtain ⟨h1, h2⟩ := hb (by omega) (by omega)
    refine ⟨by omega, fun s hs' => ?_⟩
    obtain ⟨j, hj, rfl⟩ := List.mem_iff_getElem.1 hs'
    have := h2 j (by omega) hj
    unfold rdOf at this
    rw [Int.toNat_natCast, List.getD_eq_getElem?_getD, List.getElem?_eq_getElem hj, Option.getD_some] at this
    omega
  · cases h
theorem split_tells (l : List ByteArray) (n : Int) (hl : l.length ≤ 1000) (hs : ∀ s ∈ l, s.size ≤ 2000) : shard_Split.f l n = some (splitN l n) := by
  unfold shard_Split.f
  rw [if_pos ⟨by omega, List.all_eq_true.2 fun s h => decide_eq_true (by have := hs s h; omega)⟩]
theorem same_loop (l : List Int) (hl : l.length ≤ 1000000) (d : Nat) : ∀ (k : Nat) (i : Int), 0 ≤ i → i ≤ l.length → (l.length : Int) - i = d → d < k → postroomref13_Same.l0 k l l i = some true := by
  induction d with
  | zero =>
    intro k i h0 h1 hd hk
    obtain ⟨k, rfl⟩ : ∃ x, k = x + 1 := ⟨k - 1, by omega⟩
    simp only [postroomref13_Same.l0]
    rw [if_neg (by omega)]
  | succ d ih =>
    intro k i h0 h1 hd hk
    obtain ⟨k, rfl⟩ : ∃ x, k = x + 1 := ⟨k - 1, by omega⟩
    simp only [postroomref13_Same.l0]
    rw [if_pos (by omega), if_pos h0, if_pos (by omega), if_pos trivial, w64 (a := i + 1) (by omega) (by omega)]
    exact ih k (i + 1) (by omega) (by omega) (by omega) (by omega)
theorem same_self (l : List Int) (hl : l.length ≤ 1000000) (k : Nat) (hk : l.length < k) : postroomref13_Same.f k l l = some true := by
  unfold postroomref13_Same.f
  rw [if_pos rfl]
  exact same_loop l hl l.length k 0 (by omega) (by omega) (by omega) hk
theorem split_row (l : List ByteArray) (n : Int) (h1 : 1 ≤ n) (h8 : n ≤ 8) (j : Int) (hj0 : 0 ≤ j) (hj : j < n) : rd_L1 (splitN l n) j = rowN l n l.length j.toNat := by
  unfold rd_L1
  rw [List.getD_eq_getElem?_getD, splitN_get l n h1 h8 j.toNat (by omega)]; rfl

theorem rd_left (a b : List ByteArray) (q : Nat) (h : q < a.length) : rdOf ByteArray.empty (a ++ b) (q : Int) = rdOf ByteArray.empty a (q : Int) := by
  unfold rdOf
  rw [Int.toNat_natCast, List.getD_eq_getElem?_getD, List.getD_eq_getElem?_getD, List.getElem?_append_left h]
theorem rd_right (a b : List ByteArray) (q : Nat) : rdOf ByteArray.empty (a ++ b) ((a.length + q : Nat) : Int) = rdOf ByteArray.empty b (q : Int) := by
  unfold rdOf
  rw [Int.toNat_natCast, Int.toNat_natCast, List.getD_eq_getElem?_getD, List.getD_eq_getElem?_getD, List.getElem?_append_right (by omega), Nat.add_sub_cancel_left]
theorem row_left (a b : List ByteArray) (n : Int) (j i : Nat) (h : i ≤ a.length) : rowN (a ++ b) n i j = rowN a n i j := by
  induction i with
  | zero => rw [rowN_zero, rowN_zero]
  | succ i ih =>
    have e := rd_left a b i (by omega)
    by_cases hh : ofN (rdOf ByteArray.empty a (i : Int)) n = (j : Int)
    · rw [rowN_hit a n i j hh, rowN_hit (a ++ b) n i j (by rw [e]; exact hh), ih (by omega)]
    · rw [rowN_miss a n i j hh, rowN_miss (a ++ b) n i j (by rw [e]; exact hh), ih (by omega)]
theorem row_both (a b : List ByteArray) (n : Int) (j i : Nat) : rowN (a ++ b) n (a.length + i) j = rowN a n a.length j ++ (rowN b n i j).map (fun x => (a.length : Int) + x) := by
  induction i with
  | zero => rw [Nat.add_zero, row_left a b n j a.length (Nat.le_refl _), rowN_zero]; simp
  | succ i ih =>
    have e := rd_right a b i
    by_cases hh : ofN (rdOf ByteArray.empty b (i : Int)) n = (j : Int)
    · rw [rowN_hit b n i j hh, ← Nat.add_assoc, rowN_hit (a ++ b) n (a.length + i) j (by rw [e]; exact hh), ih, List.map_append, List.append_assoc]
      simp
    · rw [rowN_miss b n i j hh, ← Nat.add_assoc, rowN_miss (a ++ b) n (a.length + i) j (by rw [e]; exact hh), ih]
theorem row_rng (l : List ByteArray) (n : Int) (i j : Nat) (x : Int) (h : x ∈ rowN l n i j) : 0 ≤ x ∧ x < i := by
  unfold rowN at h
  obtain ⟨q, hq, rfl⟩ := List.mem_map.1 h
  have := List.mem_range.1 (List.mem_filter.1 hq).1
  omega
theorem inner (a : List ByteArray) (n : Int) (x y z : List (List Int)) (i : Int) (W Y : List Int) (hi0 : 0 ≤ i) (hi : i < y.length) (hiz : i < z.length) (hY : rd_L1 y i = Y) (hYb : ∀ v ∈ Y, 0 ≤ v ∧ v ≤ 1000) (ha : a.length ≤ 1000) (hW : W.length ≤ 1000) (hYl : Y.length ≤ 1000)
    (hz : rd_L1 z i = W ++ Y.map (fun v => (a.length : Int) + v)) (K : Nat) (hK : ∀ k, K ≤ k → postroomlaw13_ShardJoins.l0 k a n x y z (i + 1) = some true) (hi2 : i ≤ 1000) (d : Nat) :
    ∀ (k q : Nat), q + d = Y.length → K + d + 3000 ≤ k → postroomlaw13_ShardJoins.l1 k a n x y z i (W ++ (Y.take q).map (fun v => (a.length : Int) + v)) (q : Int) = some true := by
  induction d with
  | zero =>
    intro k q hq hk
    obtain ⟨k, rfl⟩ : ∃ m, k = m + 1 := ⟨k - 1, by omega⟩
    simp only [postroomlaw13_ShardJoins.l1]
    rw [hY, if_pos hi0, if_pos hi, if_neg (by omega), if_pos hiz, hz, List.take_of_length_le (by omega), same_self _ (by rw [List.length_append, List.length_map]; omega) k (by rw [List.length_append, List.length_map]; omega)]
    simp only [Option.bind_some]
    rw [if_pos trivial, w64 (a := i + 1) (by omega) (by omega)]
    exact hK k (by omega)
  | succ d ih =>
    intro k q hq hk
    obtain ⟨k, rfl⟩ : ∃ m, k = m + 1 := ⟨k - 1, by omega⟩
    have hlt : q < Y.length := by omega
    have hv := hYb Y[q] (List.getElem_mem hlt)
    have hrd : rd Y (q : Int) = Y[q] := by unfold rd; rw [Int.toNat_natCast, List.getD_eq_getElem?_getD, List.getElem?_eq_getElem hlt]; rfl
    have hl : (W ++ (Y.take q).map (fun v => (a.length : Int) + v)).length < 17592186044416 := by rw [List.length_append, List.length_map, List.length_take]; omega
    simp only [postroomlaw13_ShardJoins.l1]
    rw [hY, if_pos hi0, if_pos hi, if_pos (by omega), if_pos (by omega), if_pos hl, hrd, w64 (a := (a.length : Int) + Y[q]) (by omega) (by omega), w64 (a := (q : Int) + 1) (by omega) (by omega)]
    have e : W ++ (Y.take q).map (fun v => (a.length : Int) + v) ++ [(a.length : Int) + Y[q]] = W ++ (Y.take (q + 1)).map (fun v => (a.length : Int) + v) := by
      rw [List.take_succ_eq_append_getElem hlt, List.map_append, List.append_assoc]; rfl
    rw [e]
    exact ih k (q + 1) (by omega) (by omega)
theorem outer (a b : List ByteArray) (n : Int) (h1 : 1 ≤ n) (h8 : n ≤ 8) (ha : a.length ≤ 50) (hb : b.length ≤ 50) (d : Nat) : ∀ (i : Int), 0 ≤ i → i + d = n →
    ∃ K, ∀ k, K ≤ k → postroomlaw13_ShardJoins.l0 k a n (splitN a n) (splitN b n) (splitN (a ++ b) n) i = some true := by
  induction d with
  | zero =>
    intro i h0 hi
    refine ⟨1, fun k hk => ?_⟩
    obtain ⟨k, rfl⟩ : ∃ m, k = m + 1 := ⟨k - 1, by omega⟩
    simp only [postroomlaw13_ShardJoins.l0]
    rw [if_neg (by omega)]
  | succ d ih =>
    intro i h0 hi
    obtain ⟨K, hK⟩ := ih (i + 1) (by omega) (by omega)
    have la := splitN_length a n h1 h8
    have lb := splitN_length b n h1 h8
    have lz := splitN_length (a ++ b) n h1 h8
    have ra := rowN_length a n a.length i.toNat
    have rb := rowN_length b n b.length i.toNat
    have sa := split_row a n h1 h8 i h0 (by omega)
    have sb := split_row b n h1 h8 i h0 (by omega)
    have sz := split_row (a ++ b) n h1 h8 i h0 (by omega)
    rw [List.length_append, row_both] at sz
    refine ⟨K + 5000, fun k hk => ?_⟩
    obtain ⟨k, rfl⟩ : ∃ m, k = m + 1 := ⟨k - 1, by omega⟩
    simp only [postroomlaw13_ShardJoins.l0]
    rw [if_pos (by omega)]
    simp only [Option.bind_some, List.nil_append, List.length_nil, Nat.zero_add]
    rw [if_pos h0, if_pos (by omega), sa, if_pos (by omega)]
    have := inner a n (splitN a n) (splitN b n) (splitN (a ++ b) n) i (rowN a n a.length i.toNat) (rowN b n b.length i.toNat) h0 (by omega) (by omega) sb (fun v hv => by have := row_rng b n b.length i.toNat v hv; omega) (by omega) (by omega) (by omega) sz K hK (by omega) (rowN b n b.length i.toNat).length k 0 (by omega) (by omega)
    simpa using this
theorem tells (a b : List ByteArray) (n : Int) (hn : (Lit.int .i64 n).wf = true) (ha16 : a.length * 16 ≤ 140737488351232) (ha47 : ∀ s ∈ a, s.size ≤ 140737488351232) (hb16 : b.length * 16 ≤ 140737488351232) (hb47 : ∀ s ∈ b, s.size ≤ 140737488351232) : ∃ k, postroomlaw13_ShardJoins.f k a b n = some true := by
  obtain ⟨p, hp, hp2⟩ := few_tells a ha16 ha47
  obtain ⟨q, hq, hq2⟩ := few_tells b hb16 hb47
  obtain ⟨t, ht, t0, t1⟩ := pick_tells n 8 (i64_rng hn) (by omega)
  obtain ⟨K, hK⟩ : ∃ K, (p = true → q = true → ∀ k, K ≤ k → postroomlaw13_ShardJoins.l0 k a (1 + t) (splitN a (1 + t)) (splitN b (1 + t)) (splitN (a ++ b) (1 + t)) 0 = some true) := by
    cases p with
    | false => exact ⟨0, fun h => by cases h⟩
    | true =>
      cases q with
      | false => exact ⟨0, fun _ h => by cases h⟩
      | true =>
        obtain ⟨K, hK⟩ := outer a b (1 + t) (by omega) (by omega) (hp2 rfl).1 (hq2 rfl).1 (1 + t).toNat 0 (by omega) (by omega)
        exact ⟨K, fun _ _ => hK⟩
  refine ⟨K + a.length + b.length + 1000, ?_⟩
  unfold postroomlaw13_ShardJoins.f
  rw [shown_tells _ (by omega), hp _ (by omega), hq _ (by omega)]
  simp only [Option.bind_some]
  rw [if_pos trivial]
  cases p with
  | false =>
    rw [if_neg (by simp)]
    simp only [postroomlaw13_ShardJoins.j0]
    rw [if_pos trivial]
  | true =>
    rw [if_pos rfl]
    cases q with
    | false =>
      simp only [postroomlaw13_ShardJoins.j0, Bool.not_false]
      rw [if_pos trivial]
    | true =>
      obtain ⟨a50, a2000⟩ := hp2 rfl
      obtain ⟨b50, b2000⟩ := hq2 rfl
      have la := splitN_length a (1 + t) (by omega) (by omega)
      have lb := splitN_length b (1 + t) (by omega) (by omega)
      have lz := splitN_length (a ++ b) (1 + t) (by omega) (by omega)
      have hab : ∀ s ∈ a ++ b, s.size ≤ 2000 := fun s hs => (List.mem_append.1 hs).elim (a2000 s) (b2000 s)
      simp only [postroomlaw13_ShardJoins.j0, Bool.not_true]
      rw [if_neg (by simp), ht]
      simp only [Option.bind_some, List.nil_append, List.length_nil, Nat.zero_add]
      rw [w64 (a := 1 + t) (by omega) (by omega), split_tells a _ (by omega) a2000, split_tells b _ (by omega) b2000]
      simp only [Option.bind_some]
      rw [if_pos (by omega), if_pos (by omega), split_tells (a ++ b) _ (by rw [List.length_append]; omega) hab]
      simp only [Option.bind_some]
      rw [if_pos (by omega), if_pos (by omega)]
      simp only [postroomlaw13_ShardJoins.j1]
      have hz : (((splitN (a ++ b) (1 + t)).length : Int) != 1 + t) = false := by rw [lz]; simp; omega
      rw [hz, if_neg (by simp)]
      exact hK rfl rfl _ (by omega)
end Go.Proofs.Ytemjjhpdpdlbnaa.Pure.AtShardJoins
namespace Go.Proofs.Ytemjjhpdpdlbnaa.Pure
open Go.RowKit Go.Proofs.Ytemjjhpdpdlbnaa.QShardJoins Go.Proofs.YtemjjhpdpdlbnaaW.PrintWords Go.Proofs.YtemjjhpdpdlbnaaW.PrintLast Go.Proofs.YtemjjhpdpdlbnaaW.PrintMore AtShardJoins
set_option linter.unusedVariables false
/-- The walk, with what the row's arguments tell. -/
theorem ShardJoinsW (w : World) (A0 : Option Addr) (c0 : Nat) (a : List ByteArray) (hr0 : Kd.C Kd.string w A0 a.length a) (hc0 : a.length ≤ c0) (ha : a.length * 16 ≤ 140737488351232) (ha2 : ∀ s ∈ a, s.size ≤ 140737488351232) (A1 : Option Addr) (c1 : Nat) (b : List ByteArray) (hr1 : Kd.C Kd.string w A1 b.length b) (hc1 : b.length ≤ c1) (hb : b.length * 16 ≤ 140737488351232) (hb2 : ∀ s ∈ b, s.size ≤ 140737488351232) (n : Int) (hn : (Lit.int .i64 n).wf = true) :
    Calls Try.prog 7 #[.slice A0 a.length c0, .slice A1 b.length c1, .int .i64 n] w fun e w' => e = .returned (.bool true) ∧ Below w.heap.size w w' := by
  obtain ⟨k, h⟩ := tells a b n hn ha ha2 hb hb2
  exact postroomlaw13_ShardJoins.calls k A0 c0 a A1 c1 b n true w hr0 hc0 hr1 hc1 h rfl

end Go.Proofs.Ytemjjhpdpdlbnaa.Pure

