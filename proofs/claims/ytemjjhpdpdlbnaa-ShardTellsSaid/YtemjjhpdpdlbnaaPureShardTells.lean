/- The hash and the shard of any text, and those of each shard, are as the reference says: for all texts and numbers. -/
import Derived.Test.YtemjjhpdpdlbnaaQShardTellsx2
namespace Go.Proofs.Ytemjjhpdpdlbnaa.Pure.AtShardTells
open Go.RowKit Go.Proofs.Ytemjjhpdpdlbnaa.QShardTells Go.Proofs.YtemjjhpdpdlbnaaW.PrintWords Go.Proofs.YtemjjhpdpdlbnaaW.PrintLast Go.Proofs.YtemjjhpdpdlbnaaW.PrintMore
set_option linter.unusedVariables false
theorem i64_rng {a : Int} (h : (Lit.int .i64 a).wf = true) : -9223372036854775808 ≤ a ∧ a ≤ 9223372036854775807 := by
  simp [Lit.wf, IntKind.min, IntKind.max, IntKind.signed, IntKind.bits] at h
  omega
theorem u8_rng {a : Int} (h : (Lit.int .u8 a).wf = true) : 0 ≤ a ∧ a ≤ 255 := by
  simp [Lit.wf, IntKind.min, IntKind.max, IntKind.signed, IntKind.bits] at h
  omega
theorem wu {a : Int} (h0 : 0 ≤ a) (h1 : a ≤ 18446744073709551615) : IntKind.u64.wrap a = a := by
  rw [IntKind.wrap_u64]; omega
theorem w64 {a : Int} (h0 : -9223372036854775808 ≤ a) (h1 : a ≤ 9223372036854775807) : wrap64 a = a := by unfold wrap64; omega
theorem shown_tells (k : Nat) (hk : 30 ≤ k) : postroomlaw13_shown.f k = some true :=
  at_rounds postroomlaw13_shown.mono hk (by decide +kernel)

theorem few_loop (l : List ByteArray) (hl : l.length < 8796093022208) (hs : ∀ s ∈ l, s.size ≤ 140737488351232) (d : Nat) : ∀ (k i : Nat) (acc : Int), i + d = l.length → d < k →
    ∃ r : Int, postroomlaw13_few.l0 k l acc (i : Int) = some (if (l.length : Int) ≤ 50 then decide (r ≤ 2000) else false) ∧
      (0 ≤ acc → acc + d * 140737488351232 ≤ 4611686018427387904 → acc ≤ r ∧ ∀ j, i ≤ j → j < l.length → ((rdOf ByteArray.empty l (j : Int)).size : Int) ≤ r) := by
  induction d with
  | zero =>
    intro k i acc hi hk
    obtain ⟨k, rfl⟩ : ∃ m, k = m + 1 := ⟨k - 1, by omega⟩
    refine ⟨acc, ?_, fun _ _ => ⟨by omega, fun j h1 h2 => by omega⟩⟩
    simp only [postroomlaw13_few.l0]
    rw [if_neg (by omega)]
    split <;> rfl
  | succ d ih =>
    intro k i acc hi hk
    obtain ⟨k, rfl⟩ : ∃ m, k = m + 1 := ⟨k - 1, by omega⟩
    have hmem : rdOf ByteArray.empty l (i : Int) ∈ l := by
      unfold rdOf; rw [Int.toNat_natCast, List.getD_eq_getElem?_getD, List.getElem?_eq_getElem (by omega), Option.getD_some]; exact List.getElem_mem _
    have hsz := hs _ hmem
    obtain ⟨r, hr, hb⟩ := ih k (i + 1) (wrap64 (acc + ((rdOf ByteArray.empty l (i : Int)).size : Int))) (by omega) (by omega)
    refine ⟨r, ?_, fun h0 h1 => ?_⟩
    · simp only [postroomlaw13_few.l0]
      rw [if_pos (by omega), if_pos (by omega), w64 (a := (i : Int) + 1) (by omega) (by omega)]
      exact hr
    · rw [w64 (a := acc + _) (by omega) (by omega)] at hb
      obtain ⟨hb1, hb2⟩ := hb (by omega) (by omega)
      refine ⟨by omega, fun j hj1 hj2 => ?_⟩
      by_cases hj : j = i
      · subst hj; omega
      · exact hb2 j (by omega) hj2
/-- Of few texts each is short. -/
theorem few_tells (l : List ByteArray) (hl : l.length * 16 ≤ 140737488351232) (hs : ∀ s ∈ l, s.size ≤ 140737488351232) :
    ∃ b : Bool, (∀ k, l.length < k → postroomlaw13_few.f k l = some b) ∧ (b = true → l.length ≤ 50 ∧ ∀ s ∈ l, s.size ≤ 2000) := by
  obtain ⟨r, hr, hb⟩ := few_loop l (by omega) hs l.length (l.length + 1) 0 0 (by omega) (by omega)
  refine ⟨_, fun k hk => at_rounds (g := fun k => postroomlaw13_few.f k l) (fun k => postroomlaw13_few.mono l k) hk hr, fun h => ?_⟩
  split at h
  · rename_i h50
    have hr2 := of_decide_eq_true h
    obtain ⟨h1, h2⟩ := hb (by omega) (by omega)
    refine ⟨by omega, fun s hs' => ?_⟩
    obtain ⟨j, hj, rfl⟩ := List.mem_iff_getElem.1 hs'
    have := h2 j (by omega) hj
    unfold rdOf at this
    rw [Int.toNat_natCast, List.getD_eq_getElem?_getD, List.getElem?_eq_getElem hj, Option.getD_some] at this
    omega
  · cases h
theorem split_tells (l : List ByteArray) (n : Int) (hl : l.length ≤ 1000) (hs : ∀ s ∈ l, s.size ≤ 2000) : shard_Split.f l n = some (splitN l n) := by
  unfold shard_Split.f
  rw [if_pos ⟨by omega, List.all_eq_true.2 fun s h => decide_eq_true (by have := hs s h; omega)⟩]
theorem same_loop (l : List Int) (hl : l.length ≤ 1000000) (d : Nat) : ∀ (k : Nat) (i : Int), 0 ≤ i → i ≤ l.length → (l.length : Int) - i = d → d < k → postroomref13_Same.l0 k l l i = some true := by
  induction d with
  | zero =>
    intro k i h0 h1 hd hk
    obtain ⟨k, rfl⟩ : ∃ x, k = x + 1 := ⟨k - 1, by omega⟩
    simp only [postroomref13_Same.l0]
    rw [if_neg (by omega)]
  | succ d ih =>
    intro k i h0 h1 hd hk
    obtain ⟨k, rfl⟩ : ∃ x, k = x + 1 := ⟨k - 1, by omega⟩
    simp only [postroomref13_Same.l0]
    rw [if_pos (by omega), if_pos h0, if_pos (by omega), if_pos trivial, w64 (a := i + 1) (by omega) (by omega)]
    exact ih k (i + 1) (by omega) (by omega) (by omega) (by omega)
theorem same_self (l : List Int) (hl : l.length ≤ 1000000) (k : Nat) (hk : l.length < k) : postroomref13_Same.f k l l = some true := by
  unfold postroomref13_Same.f
  rw [if_pos rfl]
  exact same_loop l hl l.length k 0 (by omega) (by omega) (by omega) hk
theorem split_row (l : List ByteArray) (n : Int) (h1 : 1 ≤ n) (h8 : n ≤ 8) (j : Int) (hj0 : 0 ≤ j) (hj : j < n) : rd_L1 (splitN l n) j = rowN l n l.length j.toNat := by
  unfold rd_L1
  rw [List.getD_eq_getElem?_getD, splitN_get l n h1 h8 j.toNat (by omega)]; rfl

theorem ref_from (s : ByteArray) (hs : s.size ≤ 1000000) (d : Nat) : ∀ (k i : Nat) (h : Int), i + d = s.size → d < k → postroomref13_Hash.l0 k s h (i : Int) = some (hashFrom s d i h) := by
  induction d with
  | zero =>
    intro k i h hi hk
    obtain ⟨k, rfl⟩ : ∃ m, k = m + 1 := ⟨k - 1, by omega⟩
    simp only [postroomref13_Hash.l0]
    rw [if_neg (by omega)]; rfl
  | succ d ih =>
    intro k i h hi hk
    obtain ⟨k, rfl⟩ : ∃ m, k = m + 1 := ⟨k - 1, by omega⟩
    simp only [postroomref13_Hash.l0]
    have e2 : IntKind.u64.wrap ((IntKind.u64.wrap ((Go.bits .xor .u64 h (IntKind.u64.wrap (bt s (i : Int)))) * 1099511627776)) + (IntKind.u64.wrap ((Go.bits .xor .u64 h (IntKind.u64.wrap (bt s (i : Int)))) * 435))) = IntKind.u64.wrap ((Go.bits .xor .u64 h (IntKind.u64.wrap (bt s (i : Int)))) * 1099511628211) := by
      generalize Go.bits .xor .u64 h (IntKind.u64.wrap (bt s (i : Int))) = x
      simp only [IntKind.wrap_u64]
      omega
    rw [if_pos (by omega), if_pos (by omega), w64 (a := (i : Int) + 1) (by omega) (by omega), e2]
    exact ih k (i + 1) _ (by omega) (by omega)
theorem ref_hash (s : ByteArray) (hs : s.size ≤ 1000000) (k : Nat) (hk : s.size < k) : postroomref13_Hash.f k s = some (hashN s) := by
  unfold postroomref13_Hash.f
  exact ref_from s hs s.size k 0 _ (by omega) hk
theorem ref_of (s : ByteArray) (n : Int) (hs : s.size ≤ 1000000) (k : Nat) (hk : s.size < k) : postroomref13_Of.f k s n = some (ofN s n) := by
  unfold postroomref13_Of.f ofN
  by_cases h1 : n < 1
  · rw [if_pos h1, if_pos h1]
  · rw [if_neg h1, if_neg h1]
    by_cases h8 : n > 8
    · rw [if_pos h8, if_pos h8]
    · rw [if_neg h8, if_neg h8, ref_hash s hs k hk]
      simp only [Option.bind_some]
      rw [if_neg (by rw [IntKind.wrap_u64]; omega)]
theorem ref_split_loop (l : List ByteArray) (n : Int) (hl : l.length ≤ 1000) (hs : ∀ s ∈ l, s.size ≤ 2000) (j : Nat) (d : Nat) : ∀ (k i : Nat), i + d = l.length → d + 3000 < k →
    postroomref13_Split.l0 k l n (j : Int) (rowN l n i j) (i : Int) = some (rowN l n l.length j) := by
  induction d with
  | zero =>
    intro k i hi hk
    obtain ⟨k, rfl⟩ : ∃ m, k = m + 1 := ⟨k - 1, by omega⟩
    simp only [postroomref13_Split.l0]
    rw [if_neg (by omega)]
    obtain rfl : i = l.length := by omega
    rfl
  | succ d ih =>
    intro k i hi hk
    obtain ⟨k, rfl⟩ : ∃ m, k = m + 1 := ⟨k - 1, by omega⟩
    have hmem : rdOf ByteArray.empty l (i : Int) ∈ l := by
      unfold rdOf; rw [Int.toNat_natCast, List.getD_eq_getElem?_getD, List.getElem?_eq_getElem (by omega), Option.getD_some]; exact List.getElem_mem _
    have hsz := hs _ hmem
    have hlen := rowN_length l n i j
    simp only [postroomref13_Split.l0]
    rw [if_pos (by omega), if_pos (by omega), ref_of _ n (by omega) k (by omega)]
    simp only [Option.bind_some]
    rw [w64 (a := (i : Int) + 1) (by omega) (by omega)]
    by_cases hh : ofN (rdOf ByteArray.empty l (i : Int)) n = (j : Int)
    · rw [if_pos hh, if_pos (by omega), ← rowN_hit l n i j hh]
      exact ih k (i + 1) (by omega) (by omega)
    · rw [if_neg hh, ← rowN_miss l n i j hh]
      exact ih k (i + 1) (by omega) (by omega)
theorem ref_split (l : List ByteArray) (n : Int) (hl : l.length ≤ 1000) (hs : ∀ s ∈ l, s.size ≤ 2000) (j : Int) (hj : 0 ≤ j) (k : Nat) (hk : l.length + 3000 < k) :
    postroomref13_Split.f k l n j = some (rowN l n l.length j.toNat) := by
  obtain ⟨j, rfl⟩ := Int.eq_ofNat_of_zero_le hj
  unfold postroomref13_Split.f
  rw [Int.toNat_natCast]
  exact ref_split_loop l n hl hs j l.length k 0 (by omega) hk
theorem law_loop (l : List ByteArray) (n : Int) (h1 : 1 ≤ n) (h8 : n ≤ 8) (hl : l.length ≤ 50) (hs : ∀ s ∈ l, s.size ≤ 2000) (d : Nat) : ∀ (k : Nat) (i : Int), 0 ≤ i → i + d = n → d + 4000 < k →
    postroomlaw13_ShardTells.l0 k l n (splitN l n) i = some true := by
  induction d with
  | zero =>
    intro k i h0 hi hk
    obtain ⟨k, rfl⟩ : ∃ m, k = m + 1 := ⟨k - 1, by omega⟩
    simp only [postroomlaw13_ShardTells.l0]
    rw [if_neg (by omega)]
  | succ d ih =>
    intro k i h0 hi hk
    obtain ⟨k, rfl⟩ : ∃ m, k = m + 1 := ⟨k - 1, by omega⟩
    have hlen := rowN_length l n l.length i.toNat
    simp only [postroomlaw13_ShardTells.l0]
    rw [if_pos (by omega), if_pos h0, if_pos (by rw [splitN_length l n h1 h8]; omega), ref_split l n (by omega) hs i h0 k (by omega)]
    simp only [Option.bind_some]
    rw [split_row l n h1 h8 i h0 (by omega), same_self _ (by omega) k (by omega)]
    simp only [Option.bind_some]
    rw [if_pos trivial, w64 (a := i + 1) (by omega) (by omega)]
    exact ih k (i + 1) (by omega) (by omega) (by omega)
theorem tells (s : ByteArray) (l : List ByteArray) (n : Int) (hl16 : l.length * 16 ≤ 140737488351232) (hl47 : ∀ s ∈ l, s.size ≤ 140737488351232) : ∃ k, postroomlaw13_ShardTells.f k s l n = some true := by
  obtain ⟨b, hb, hb2⟩ := few_tells l hl16 hl47
  refine ⟨l.length + 10000, ?_⟩
  unfold postroomlaw13_ShardTells.f
  rw [shown_tells _ (by omega), hb _ (by omega)]
  simp only [Option.bind_some]
  rw [if_pos trivial]
  cases b with
  | false =>
    rw [if_neg (by simp)]
    simp only [postroomlaw13_ShardTells.j0]
    rw [if_pos trivial]
  | true =>
    obtain ⟨h50, h2000⟩ := hb2 rfl
    rw [if_pos rfl]
    simp only [postroomlaw13_ShardTells.j0]
    by_cases hbig : (s.size : Int) > 2000
    · rw [decide_eq_true hbig, if_pos rfl]
    · rw [decide_eq_false hbig, if_neg (by simp), hash_tells s (by omega) _ (by omega), ref_hash s (by omega) _ (by omega)]
      simp only [Option.bind_some]
      rw [if_pos trivial, of_tells s n (by omega) _ (by omega), ref_of s n (by omega) _ (by omega)]
      simp only [Option.bind_some, bne_self_eq_false]
      simp only [postroomlaw13_ShardTells.j1]
      rw [if_neg (by simp), split_tells l n (by omega) h2000]
      simp only [Option.bind_some]
      by_cases h1 : n < 1
      · rw [if_pos h1]
        simp only [postroomlaw13_ShardTells.j2]
        have : splitN l n = [] := by unfold splitN; rw [if_neg (by omega)]
        rw [if_pos trivial, this]; rfl
      · rw [if_neg h1]
        by_cases h8 : n > 8
        · rw [decide_eq_true h8]
          simp only [postroomlaw13_ShardTells.j2]
          have : splitN l n = [] := by unfold splitN; rw [if_neg (by omega)]
          rw [if_pos trivial, this]; rfl
        · rw [decide_eq_false h8]
          simp only [postroomlaw13_ShardTells.j2]
          rw [if_neg (by simp), if_pos (by rw [splitN_length l n (by omega) (by omega)]; omega)]
          exact law_loop l n (by omega) (by omega) h50 h2000 n.toNat _ 0 (by omega) (by omega) (by omega)
end Go.Proofs.Ytemjjhpdpdlbnaa.Pure.AtShardTells
namespace Go.Proofs.Ytemjjhpdpdlbnaa.Pure
open Go.RowKit Go.Proofs.Ytemjjhpdpdlbnaa.QShardTells Go.Proofs.YtemjjhpdpdlbnaaW.PrintWords Go.Proofs.YtemjjhpdpdlbnaaW.PrintLast Go.Proofs.YtemjjhpdpdlbnaaW.PrintMore AtShardTells
set_option linter.unusedVariables false
/-- The walk, with what the row's arguments tell. -/
theorem ShardTellsW (w : World) (s : ByteArray) (hs : s.size ≤ 140737488351232) (A1 : Option Addr) (c1 : Nat) (l : List ByteArray) (hr1 : Kd.C Kd.string w A1 l.length l) (hc1 : l.length ≤ c1) (hl : l.length * 16 ≤ 140737488351232) (hl2 : ∀ s ∈ l, s.size ≤ 140737488351232) (n : Int) (hn : (Lit.int .i64 n).wf = true) :
    Calls Try.prog 3 #[.string s, .slice A1 l.length c1, .int .i64 n] w fun e w' => e = .returned (.bool true) ∧ Below w.heap.size w w' := by
  obtain ⟨k, h⟩ := tells s l n hl hl2
  exact postroomlaw13_ShardTells.calls k s A1 c1 l n true w hr1 hc1 h rfl

end Go.Proofs.Ytemjjhpdpdlbnaa.Pure

