/- A hash goes on byte by byte, and a last byte that is another one makes another hash: for every text and two bytes. -/
import Derived.Test.YtemjjhpdpdlbnaaQShardHashesx1
import Derived.Laws.Bits64
namespace Go.Proofs.Ytemjjhpdpdlbnaa.Pure.AtShardHashes
open Go.RowKit Go.Proofs.Ytemjjhpdpdlbnaa.QShardHashes Go.Proofs.YtemjjhpdpdlbnaaW.PrintWords Go.Proofs.YtemjjhpdpdlbnaaW.PrintLast Go.Proofs.YtemjjhpdpdlbnaaW.PrintMore
theorem i64_rng {a : Int} (h : (Lit.int .i64 a).wf = true) : -9223372036854775808 ≤ a ∧ a ≤ 9223372036854775807 := by
  simp [Lit.wf, IntKind.min, IntKind.max, IntKind.signed, IntKind.bits] at h
  omega
theorem u8_rng {a : Int} (h : (Lit.int .u8 a).wf = true) : 0 ≤ a ∧ a ≤ 255 := by
  simp [Lit.wf, IntKind.min, IntKind.max, IntKind.signed, IntKind.bits] at h
  omega
theorem wu {a : Int} (h0 : 0 ≤ a) (h1 : a ≤ 18446744073709551615) : IntKind.u64.wrap a = a := by
  rw [IntKind.wrap_u64]; omega
theorem w64 {a : Int} (h0 : -9223372036854775808 ≤ a) (h1 : a ≤ 9223372036854775807) : wrap64 a = a := by unfold wrap64; omega
theorem shown_tells (k : Nat) (hk : 30 ≤ k) : postroomlaw13_shown.f k = some true :=
  at_rounds postroomlaw13_shown.mono hk (by decide +kernel)

theorem bt_eq (s : ByteArray) (i : Nat) : bt s (i : Int) = ((s.data.toList[i]?).map fun c => (c.toNat : Int)).getD 0 := by
  unfold bt
  rw [Int.toNat_natCast]
  by_cases h : i < s.size
  · have hl : i < s.data.toList.length := by rw [Array.length_toList]; exact h
    rw [dif_pos h, List.getElem?_eq_getElem hl]; rfl
  · have hl : s.data.toList.length ≤ i := by rw [Array.length_toList]; exact Nat.not_lt.1 h
    rw [dif_neg h, List.getElem?_eq_none hl]; rfl
theorem data_app (s t : ByteArray) : (s ++ t).data.toList = s.data.toList ++ t.data.toList := by
  rw [ByteArray.data_append, Array.toList_append]
theorem size_list (s : ByteArray) : s.data.toList.length = s.size := Array.length_toList
theorem bt_left (s t : ByteArray) (i : Nat) (h : i < s.size) : bt (s ++ t) (i : Int) = bt s (i : Int) := by
  rw [bt_eq, bt_eq, data_app, List.getElem?_append_left (by rw [size_list]; exact h)]
theorem bt_last (s : ByteArray) (x : Int) (h0 : 0 ≤ x) (h1 : x ≤ 255) : bt (s ++ strOfNums [x]) (s.size : Int) = x := by
  rw [bt_eq, data_app, List.getElem?_append_right (by rw [size_list]; omega), size_list, Nat.sub_self, strOfNums_data]
  simp only [List.map_cons, List.map_nil, List.getElem?_cons_zero, Option.map_some, Option.getD_some]
  rw [UInt8.toNat_ofNat']
  omega
theorem size_app (s : ByteArray) (x : Int) : (s ++ strOfNums [x]).size = s.size + 1 := by
  rw [← size_list, data_app, List.length_append, size_list, size_list, strOfNums_size]; rfl
theorem from_app (s : ByteArray) (x : Int) (h0 : 0 ≤ x) (h1 : x ≤ 255) (d : Nat) : ∀ (i : Nat) (h : Int), i + d = s.size →
    hashFrom (s ++ strOfNums [x]) (d + 1) i h = IntKind.u64.wrap ((Go.bits .xor .u64 (hashFrom s d i h) (IntKind.u64.wrap x)) * 1099511628211) := by
  induction d with
  | zero =>
    intro i h hi
    obtain rfl : i = s.size := by omega
    simp only [hashFrom]
    rw [bt_last s x h0 h1]
  | succ d ih =>
    intro i h hi
    show hashFrom (s ++ strOfNums [x]) (d + 1) (i + 1) _ = _
    rw [ih (i + 1) _ (by omega), bt_left s _ i (by omega)]
    rfl
theorem hash_app (s : ByteArray) (x : Int) (h0 : 0 ≤ x) (h1 : x ≤ 255) : hashN (s ++ strOfNums [x]) = IntKind.u64.wrap ((Go.bits .xor .u64 (hashN s) (IntKind.u64.wrap x)) * 1099511628211) := by
  unfold hashN
  rw [size_app]
  exact from_app s x h0 h1 s.size 0 _ (by omega)
theorem back (x : Nat) (hx : x < 18446744073709551616) : (((x : Int) * 1099511628211) % 18446744073709551616 * 14886173955864302971) % 18446744073709551616 = x := by
  have hc : (1099511628211 : Int) * 14886173955864302971 = 1 + 18446744073709551616 * 887285111055 := by decide
  have e : (x : Int) * 1099511628211 * 14886173955864302971 = x + 18446744073709551616 * (x * 887285111055) := by
    rw [Int.mul_assoc, hc, Int.mul_add, Int.mul_one, Int.mul_left_comm]
  rw [Int.mul_emod, Int.emod_emod_of_dvd _ (Int.dvd_refl _), ← Int.mul_emod, e, Int.add_mul_emod_self_left]
  exact Int.emod_eq_of_lt (by omega) (by omega)
/-- The product is one to one. -/
theorem mul_one_to_one (x y : Nat) (hx : x < 18446744073709551616) (hy : y < 18446744073709551616) (h : ((x : Int) * 1099511628211) % 18446744073709551616 = ((y : Int) * 1099511628211) % 18446744073709551616) : x = y := by
  have hx' := back x hx
  have hy' := back y hy
  generalize ((x : Int) * 1099511628211) % 18446744073709551616 = u at h hx'
  subst h
  exact Int.ofNat.inj (hx'.symm.trans hy')
theorem xor_one_to_one (h a b : Nat) (e : h ^^^ a = h ^^^ b) : a = b := by
  have e2 : h ^^^ (h ^^^ a) = h ^^^ (h ^^^ b) := by rw [e]
  simpa [← Nat.xor_assoc] using e2
theorem last_byte (h a b : Int) (hr : 0 ≤ h ∧ h ≤ 18446744073709551615) (ha : 0 ≤ a ∧ a ≤ 255) (hb : 0 ≤ b ∧ b ≤ 255)
    (e : IntKind.u64.wrap ((Go.bits .xor .u64 h (IntKind.u64.wrap a)) * 1099511628211) = IntKind.u64.wrap ((Go.bits .xor .u64 h (IntKind.u64.wrap b)) * 1099511628211)) : a = b := by
  obtain ⟨h, rfl⟩ := Int.eq_ofNat_of_zero_le hr.1
  obtain ⟨a, rfl⟩ := Int.eq_ofNat_of_zero_le ha.1
  obtain ⟨b, rfl⟩ := Int.eq_ofNat_of_zero_le hb.1
  rw [wu (a := (a : Int)) (by omega) (by omega), wu (a := (b : Int)) (by omega) (by omega), Go.bits_xor_u64_nat h a (by omega) (by omega), Go.bits_xor_u64_nat h b (by omega) (by omega), IntKind.wrap_u64, IntKind.wrap_u64] at e
  have hx : h ^^^ a < 2 ^ 64 := Nat.xor_lt_two_pow (by omega) (by omega)
  have hy : h ^^^ b < 2 ^ 64 := Nat.xor_lt_two_pow (by omega) (by omega)
  have := xor_one_to_one h a b (mul_one_to_one _ _ (by omega) (by omega) e)
  omega
end Go.Proofs.Ytemjjhpdpdlbnaa.Pure.AtShardHashes
namespace Go.Proofs.Ytemjjhpdpdlbnaa.Pure
open Go.RowKit Go.Proofs.Ytemjjhpdpdlbnaa.QShardHashes Go.Proofs.YtemjjhpdpdlbnaaW.PrintWords Go.Proofs.YtemjjhpdpdlbnaaW.PrintLast Go.Proofs.YtemjjhpdpdlbnaaW.PrintMore AtShardHashes
theorem ShardHashes : postroomlaw13_ShardHashes.Pure := by
  intro s a b hs ha hb
  have ha' := u8_rng ha
  have hb' := u8_rng hb
  refine ⟨3000, ?_⟩
  unfold postroomlaw13_ShardHashes.f
  rw [shown_tells _ (by omega)]
  simp only [Option.bind_some]
  rw [if_pos trivial]
  simp only [postroomlaw13_ShardHashes.j0]
  by_cases hbig : (s.size : Int) > 2000
  · rw [decide_eq_true hbig, if_pos rfl]
  · rw [decide_eq_false hbig, if_neg (by simp)]
    simp only [Option.bind_some]
    have sa := size_app s a
    have sb := size_app s b
    rw [if_pos (by rw [strOfNums_size]; simp only [List.length_singleton]; omega), hash_tells (s ++ strOfNums [a]) (by omega) 2999 (by omega)]
    simp only [Option.bind_some]
    rw [if_pos (by rw [strOfNums_size]; simp only [List.length_singleton]; omega), hash_tells (s ++ strOfNums [b]) (by omega) 2999 (by omega)]
    simp only [Option.bind_some]
    rw [hash_tells s (by omega) 2999 (by omega), hash_tells (⟨#[]⟩ : ByteArray) (by decide) 2999 (by decide)]
    simp only [Option.bind_some]
    have xa := hash_app s a ha'.1 ha'.2
    have xb := hash_app s b hb'.1 hb'.2
    have x0 : hashN (⟨#[]⟩ : ByteArray) = 14695981039346656037 := rfl
    have hab : ((hashN (s ++ strOfNums [a]) == hashN (s ++ strOfNums [b])) == (a == b)) = true := by
      by_cases e : a = b
      · subst e; simp
      · have : hashN (s ++ strOfNums [a]) ≠ hashN (s ++ strOfNums [b]) := by
          intro h
          rw [xa, xb] at h
          exact e (last_byte _ _ _ (hashN_rng s) ha' hb' h)
        rw [beq_eq_false_iff_ne.2 this, beq_eq_false_iff_ne.2 e]; rfl
    rw [if_pos xa, hab, if_pos rfl, x0]
    rfl

end Go.Proofs.Ytemjjhpdpdlbnaa.Pure

