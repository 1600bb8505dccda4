/- The walk of DueLast. -/
import Derived.Test.YtlkcekldddpjbaaDueY
import Derived.Deep.RegionHeld3
import Derived.Deep.RegionLaw
import Derived.Deep.AppendLies
import Derived.RegionTactic
import Derived.ChangeAlike
import Derived.BigRegion
import Derived.Outline
import Derived.Deep.DeepCutAuto
import Derived.Maps.Keyed
import Derived.WideKeyEntry
import Derived.Deep.LoopGhost
import Derived.StillTailTactics
namespace Go.Proofs.Ytlkcekldddpjbaa.Due
open Go.RowKit Go.Proofs.YtlkcekldddpjbaaW.PrintWords Go.Proofs.YtlkcekldddpjbaaW.PrintLast Go.Proofs.YtlkcekldddpjbaaW.PrintMore
open Go.MapKept (Stamped)
open Go.ChangeMaps (setBlock)
open Go.Maps (Keyed int_keyed keyOf_int_mk)
set_option linter.unusedVariables false
set_option linter.unusedSimpArgs false

open Go.Proofs.Ytlkcekldddpjbaa.PDuePlays
set_option maxRecDepth 100000 in
set_option maxHeartbeats 6400000 in
theorem walk_last (W : World) (A0 : Option Addr) (c0 : Nat) (l0 : List Int) (n0 : Nat) (e0 : l0.length = n0) (hr0 : ReadsInt W .i64 A0 n0 l0) (hc0 : n0 ≤ c0) (hw0 : ∀ x ∈ l0, (Lit.int .i64 x).wf = true)
    (A1 : Option Addr) (c1 : Nat) (l1 : List Int) (n1 : Nat) (e1 : l1.length = n1) (hr1 : ReadsInt W .u64 A1 n1 l1) (hc1 : n1 ≤ c1) (hw1 : ∀ x ∈ l1, (Lit.int .u64 x).wf = true) (a2 : Int) (hw2 : (Lit.int .i64 a2).wf = true) (a3 : Int) (hw3 : (Lit.int .u64 a3).wf = true)
    (N : Nat) (hN : (N = n1 ∧ (n1 : Int) < (n0 : Int)) ∨ (N = n0 ∧ ¬ ((n1 : Int) < (n0 : Int)))) (hN0 : 0 < N) (hs : n0 ≤ 100) :
    Calls Try.prog 7 #[.slice A0 n0 c0, .slice A1 n1 c1, .int .i64 a2, .int .u64 a3] W fun e w' => e = .returned (.bool true) ∧ Below W.heap.size W w' := by
  have l0n : N ≤ n0 := by omega
  have l1n : N ≤ n1 := by omega
  have HS := Aside0.mk (shown_true W)
  obtain ⟨r, hr, hp⟩ := pick_some a2 N hw2 hN0
  have HP := Aside0.mk (fun (w : World) => postroomlaw15_pick.calls a2 (N : Int) (r : Int) w hp)
  have hl0 : (n0 : Int) ≤ 100 := by omega
  have hN1 : (0 : Int) < (N : Int) := by omega
  have hN2 : (N : Int) ≤ 100 := by omega
  obtain ⟨x0, rfl, _⟩ := hr0.at_ 0 (by omega) (by omega)
  obtain ⟨x1, rfl, _⟩ := hr1.at_ 0 (by omega) (by omega)
  have HK := Aside0.mk (fun (w : World) (hb : Below W.heap.size W w) (i : Nat) (hi : i < N) => (by
    obtain ⟨ad, ha, hc⟩ := (hr0.below hb).at_ (i : Int) (by omega) (by omega)
    cases ha
    simpa using hc : w.cell? (x0.add i) = some (.int .i64 (rd l0 i))))
  have HT := Aside0.mk (fun (w : World) (hb : Below W.heap.size W w) (i : Nat) (hi : i < N) => (by
    obtain ⟨ad, ha, hc⟩ := (hr1.below hb).at_ (i : Int) (by omega) (by omega)
    cases ha
    simpa using hc : w.cell? (x1.add i) = some (.int .u64 (rd l1 i))))
  have HW := Aside0.mk (fun (i : Nat) (hi : i < N) => rd_wf hw0 (by omega : i < l0.length))
  have HW1 := Aside0.mk (fun (i : Nat) (hi : i < N) => rd_wf hw1 (by omega : i < l1.length))
  have HE := Aside0.mk (And.intro e0 e1)
  have hr' : (r : Int) < (n0 : Int) := by omega
  have hr0' : (0 : Int) ≤ (r : Int) := by omega
  have hnz : ¬ ((N : Int) = 0) := by omega
  have HL0 := Aside0.mk (fun (i : Nat) (h : i < N) => (by omega : (i : Int) < (n0 : Int)))
  have HL1 := Aside0.mk (fun (i : Nat) (h : i < N) => (by omega : (i : Int) < (n1 : Int)))
  have HL := Aside0.mk (And.intro l0n l1n)
  clear hp hr0 hr1 hw0 hw1 e0 e1 l0n l1n hc0 hc1 hs hN0
  rcases hN with ⟨hnN, hlt⟩ | ⟨hnN, hlt⟩
  all_goals
    subst hnN
    go_enter Try.func7, Try.ntmps7
    go_wp2_with (first
      | (go_at_call 8; refine HS.out.mono ?_; rintro e w1 ⟨rfl, hb1⟩)
      | (go_at_call 9; refine (solo_new (by assumption)).mono ?_; rintro e w2 ⟨D, rfl, hd2⟩)
      | (go_at_call 9; refine (duo_new (by assumption)).mono ?_; rintro e w3 ⟨E, rfl, hd3⟩)
      | (go_at_call 10; refine (HP.out _).mono ?_; rintro e w4 ⟨rfl, hd4⟩; replace hd4 := duo_below hd3 hd4.below; have ck := HK.out w4 hd4.below r hr))
    · go_ret
      exact ⟨rfl, hd3.below⟩
    obtain ⟨key, hkey⟩ : ∃ k, k = rd l0 r := ⟨_, rfl⟩
    rw [← hkey] at ck
    have HKEY := Aside0.mk hkey
    have H4 := Aside0.mk hd4
    clear hd2 hd3 hd4 ck
    rw [← hkey]
    clear hkey
    go_loopg [14] (N + 1) (fun k v wr => ∃ i : Nat, v = .int .i64 (i : Int) ∧ N - i < k ∧ i ≤ N ∧ Duo D (puts ((both l0 l1).take i) []) E [] W wr)
    case atStart => exact ⟨0, rfl, by omega, by omega, H4.out⟩
    case round =>
      obtain ⟨i, rfl, hik, hiN, hd⟩ := hrel
      by_cases hi : i < N
      · have hi' : (i : Int) < (N : Int) := by omega
        have hin := HL0.out i hi
        have hin1 := HL1.out i hi
        have hi0 : (0 : Int) ≤ (i : Int) := by omega
        obtain ⟨kk, hkk⟩ : ∃ k, k = rd l0 i := ⟨_, rfl⟩
        obtain ⟨tt, htt⟩ : ∃ k, k = rd l1 i := ⟨_, rfl⟩
        have ck : wr.cell? (x0.add i) = some (.int .i64 kk) := by rw [hkk]; exact HK.out wr hd.below i hi
        have ct : wr.cell? (x1.add i) = some (.int .u64 tt) := by rw [htt]; exact HT.out wr hd.below i hi
        have e01 := And.intro HE.out HL.out
        have hlen := puts_len ((both l0 l1).take i) []
        rw [List.length_take] at hlen
        have hwk : (Lit.int .i64 kk).wf = true := hkk ▸ HW.out i hi
        have hz := both_at (l0 := l0) (l1 := l1) (i := i) (by omega) (by omega)
        rw [← hkk, ← htt] at hz
        have HZ := Aside0.mk hz
        generalize hMA : puts ((both l0 l1).take i) [] = MA at hd hlen
        have HM := Aside0.mk hMA
        have HI := Aside0.mk (And.intro hik hi)
        have HPA := Aside0.mk (duo_put (duo_drew hd) kk tt hwk (by simp at hlen; omega))
        clear hd hlen e01 hz hMA hkk htt hwk
        clear HP HS hik hiN H4
        go_wp2
        go_still_tail 9, (by kernel_rfl)
        go_wp2_with (go_at_call_of 11 (Value.pointer (some (⟨D, 0, none⟩ : Addr))); refine HPA.out.mono ?_; rintro e w5 ⟨rfl, hd5⟩)
        go_roundg (N - i)
        case measure => have := HI.out; omega
        case rel =>
          have h1 := HI.out
          refine ⟨i + 1, by go_num, by omega, by omega, ?_⟩
          rw [HZ.out, puts_snoc, HM.out]
          exact hd5
      · obtain rfl : i = N := by omega
        have e01 := And.intro HE.out HL.out
        have hZl := both_len (l0 := l0) (l1 := l1) (n := i) (by omega) (by omega)
        have hkeyin := both_has (l0 := l0) (l1 := l1) (r := r) (n := i) (by omega) (by omega) hr
        rw [← HKEY.out] at hkeyin
        have hlen := puts_len ((both l0 l1).take i) []
        rw [hZl] at hlen
        have hhas : hasM (puts ((both l0 l1).take i) []) key = true := by rw [has_puts, hkeyin]; rfl
        have hnd := puts_nodup ((both l0 l1).take i) [] (by simp)
        have hpl := put_len_has hnd a3 hhas
        have hMA9 : (puts ((both l0 l1).take i) []).length < 900000 := by simp at hlen; omega
        have hwk : (Lit.int .i64 key).wf = true := HKEY.out ▸ HW.out r hr
        have HA := Aside0.mk (by rw [hpl]; simpa using hlen : (putM (puts ((both l0 l1).take i) []) key a3).length ≤ i)
        have HPA := Aside0.mk (duo_put hd key a3 hwk hMA9)
        have HPB := Aside0.mk (fun (w : World) (h : Duo D (putM (puts ((both l0 l1).take i) []) key a3) E [] W w) => duo_put h.turn key a3 hwk (by simp))
        have HZ := Aside0.mk hZl
        clear hd hlen hhas hnd hpl hMA9 hwk hkeyin hZl H4 HP HS hik hiN e01
        go_wp2_with (first
          | (go_at_call_of 11 (Value.pointer (some (⟨D, 0, none⟩ : Addr))); refine HPA.out.mono ?_; rintro e w5 ⟨rfl, hd5⟩)
          | (go_at_call_of 11 (Value.pointer (some (⟨E, 0, none⟩ : Addr))); refine (HPB.out _ (by assumption)).mono ?_; rintro e w6 ⟨rfl, hd6⟩; clear hd5))
        have H4 := Aside0.mk hd6
        clear hd6
        have hN1' := HL0.out
        generalize hMA : putM (puts ((both l0 l1).take i) []) key a3 = MA at HA H4
        have HMA := Aside0.mk hMA
        clear hMA HPA HPB hN1'
        go_loopg [15] (i + 1) (fun k v wr => ∃ (j : Nat) (x : Int) (M : List Item), v = .int .i64 x ∧ x = (j : Int) - 1 ∧ j < k ∧ j ≤ i ∧ BackOf ((both l0 l1).take i) j key a3 M ∧ M.length + j ≤ i + 1 ∧ Duo E M D MA W wr)
        case atStart => exact ⟨i, _, _, rfl, rfl, by omega, by omega, by have h := back_first ((both l0 l1).take i) key a3; rw [HZ.out] at h; exact h, by simp [putM, dropM]; omega, H4.out⟩
        case round =>
          obtain ⟨j, x, M, rfl, hx, hjk, hji, hback, hlen, hd⟩ := hrel
          by_cases hj : j = 0
          · subst hj
            obtain rfl : x = -1 := by omega
            have hset := back_same hback
            rw [HMA.out] at hset
            have hML : M.length = MA.length := (same_len (duo_nodup hd.turn) (duo_nodup hd) hset).symm
            have hAl := HA.out
            have hAt : ∀ q ∈ MA, q.2 ≤ 18446744073709551615 := fun q hq => by
              rw [← HMA.out, mem_put] at hq
              rcases hq with ⟨hq, _⟩ | hq
              · obtain ⟨m, hm, rfl⟩ := mem_both (by have := And.intro HE.out HL.out; omega) (by have := And.intro HE.out HL.out; omega) (puts_mem hq)
                exact (u64_bounds (HW1.out m hm)).2
              · rw [hq]
                exact (u64_bounds hw3).2
            have HSET := Aside0.mk (And.intro hset (And.intro hAt hAl))
            have H1 := Aside0.mk (duo_len hd.turn)
            have H2 := Aside0.mk (fun (w : World) (h : Duo D MA E M W w) => (by have h := duo_len h.turn; rw [hML] at h; exact h))
            clear hd hback hx hjk hji hlen H4 HK HT HW HW1 HL0 HL1 HZ HMA hset hAt hML hAl HA HE HL HKEY
            go_wp2_with (first
              | (go_at_call_of 19 (Value.pointer (some (⟨D, 0, none⟩ : Addr))); refine H1.out.mono ?_; rintro e v1 ⟨rfl, hv1⟩)
              | (go_at_call_of 19 (Value.pointer (some (⟨E, 0, none⟩ : Addr))); refine (H2.out _ (by assumption)).mono ?_; rintro e v2 ⟨rfl, hv2⟩; clear hv1))
            have H4 := Aside0.mk hv2
            clear hv2 H1 H2
            go_loopg [18] (i + 2) (fun k v wr => ∃ (j : Nat) (M N : List Item), v = .int .i64 (j : Int) ∧ i + 1 - j < k ∧ j ≤ i + 1 ∧ N.length ≤ i - j ∧ M.length = N.length ∧ (∀ x, x ∈ N ↔ x ∈ M) ∧ (∀ q ∈ N, q.2 ≤ 18446744073709551615) ∧ Duo E M D N W wr)
            case atStart => exact ⟨0, M, MA, rfl, by omega, by omega, HSET.out.2.2, (same_len (duo_nodup H4.out.turn) (duo_nodup H4.out) HSET.out.1).symm, HSET.out.1, HSET.out.2.1, H4.out⟩
            case round =>
              obtain ⟨j, M2, N2, rfl, hjk, hj, hN2l, hlen, hset, hat, hd⟩ := hrel
              by_cases hji : j ≤ i
              · have hji' : (j : Int) ≤ (i : Int) := by omega
                have ht := take_same hset 18446744073709551615
                have hta := take_all (duo_nodup hd.turn) hat
                have hts := fun (x : Item) (h : x ∈ (takeM N2 18446744073709551615).2) => hat x (take_sub h)
                have htl : (takeM M2 18446744073709551615).2.length = (takeM N2 18446744073709551615).2.length := (same_len (take_nodup _ (duo_nodup hd.turn)) (take_nodup _ (duo_nodup hd)) ht.2).symm
                have H1 := Aside0.mk (duo_take hd.turn 18446744073709551615 (by omega))
                have H2 := Aside0.mk (fun (w : World) (h : Duo D (takeM N2 18446744073709551615).2 E M2 W w) => duo_take h.turn 18446744073709551615 (by omega))
                rw [← ht.1] at H2
                generalize (takeM N2 18446744073709551615).2 = N' at H1 H2 ht hta hts htl
                generalize (takeM M2 18446744073709551615).2 = M' at H1 H2 ht htl
                generalize (takeM N2 18446744073709551615).1.1 = kx at H1 H2
                generalize (takeM N2 18446744073709551615).1.2 = bx at H1 H2
                have HM := Aside0.mk (And.intro ht.2 (And.intro hts htl))
                have HLE := Aside0.mk (by
                  rcases hta with h | ⟨_, h⟩
                  · omega
                  · rw [h]; simp : N'.length ≤ i - (j + 1))
                have HB := Aside0.mk (And.intro hjk hji)
                clear hd hjk H4 hta hts htl ht hat hset hlen hN2l hj hji HSET
                go_wp2_with (first
                  | (go_at_call_of 15 (Value.pointer (some (⟨D, 0, none⟩ : Addr))); refine H1.out.mono ?_; rintro e v1 ⟨rfl, hv1⟩)
                  | (go_at_call_of 15 (Value.pointer (some (⟨E, 0, none⟩ : Addr))); refine (H2.out _ (by assumption)).mono ?_; rintro e v2 ⟨rfl, hv2⟩))
                go_roundg (i + 1 - j)
                case measure => have := HB.out; omega
                case rel =>
                  have h1 := HB.out
                  exact ⟨j + 1, M', N', by go_num, by omega, by omega, HLE.out, HM.out.2.2, HM.out.1, HM.out.2.1, hv2⟩
              · have hji' : ¬ (j : Int) ≤ (i : Int) := by omega
                have hz : N2.length = 0 := by omega
                have HL2 := Aside0.mk (by have h := duo_len hd.turn; rw [hz] at h; exact h)
                clear hd hjk H4 hat hset hlen hN2l hj hji hz HSET
                go_wp2_with (go_at_call_of 19 (Value.pointer (some (⟨D, 0, none⟩ : Addr))); refine HL2.out.mono ?_; rintro e v1 ⟨rfl, hv1⟩)
                go_ret
                exact ⟨rfl, hv1.below⟩
          · obtain ⟨m, rfl⟩ : ∃ m, j = m + 1 := ⟨j - 1, by omega⟩
            obtain rfl : x = (m : Int) := by omega
            have hm : m < i := by omega
            have hm' : (m : Int) < (i : Int) := by omega
            have hm0 : (0 : Int) ≤ (m : Int) := by omega
            have hmn := HL0.out m hm
            have hmn1 := HL1.out m hm
            have HB := Aside0.mk (And.intro hback hlen)
            have HI := Aside0.mk (And.intro hjk hm)
            have HD := Aside0.mk hd
            obtain ⟨kk, hkk⟩ : ∃ k, k = rd l0 m := ⟨_, rfl⟩
            obtain ⟨tt, htt⟩ : ∃ k, k = rd l1 m := ⟨_, rfl⟩
            have HKK := Aside0.mk (And.intro hkk htt)
            have HKI := Aside0.mk (fun (w : World) (hb : Below W.heap.size W w) => (by rw [hkk]; exact HK.out w hb m hm : w.cell? (x0.add m) = some (.int .i64 kk)))
            have HTI := Aside0.mk (fun (w : World) (hb : Below W.heap.size W w) => (by rw [htt]; exact HT.out w hb m hm : w.cell? (x1.add m) = some (.int .u64 tt)))
            have ck := HKI.out wr hd.below
            clear hd hback hx hjk hji hlen H4 hj hm hkk htt
            go_wp2
            repeat (go_quiet (fail); try go_wp2)
            have H5 := Aside0.mk HD.out
            go_loopg [16, 17] (i + 1) (fun k v b wr => ∃ q : Nat, b = .int .i64 (q : Int) ∧ v = .bool ((kk != key) && alone l0 m q) ∧ m + 1 ≤ q ∧ q ≤ i ∧ i - q < k ∧ Duo E M D MA W wr)
            case atStart => exact ⟨m + 1, by go_num, by rw [alone_first, Bool.and_true], by omega, by have := HI.out; omega, by omega, H5.out⟩
            case round =>
              obtain ⟨q, rfl, rfl, hq1, hq2, hqk, hd⟩ := hrel
              obtain ⟨b, hb⟩ : ∃ b, b = ((kk != key) && alone l0 m q) := ⟨_, rfl⟩
              rw [← hb]
              by_cases hq : q < i
              · have hq' : (q : Int) < (i : Int) := by omega
                have hqn := HL0.out q hq
                have hq0 : (0 : Int) ≤ (q : Int) := by omega
                have ck2 := HK.out wr hd.below q hq
                have ck3 := HKI.out wr hd.below
                have HQ := Aside0.mk (And.intro (alone_next (l0 := l0) (i := m) (j := q) (by omega)) (And.intro hq1 (And.intro hq hqk)))
                have HD2 := Aside0.mk hd
                have HBB := Aside0.mk hb
                obtain ⟨kq, hkq⟩ : ∃ k, k = rd l0 q := ⟨_, rfl⟩
                rw [← hkq] at ck2
                have HKQ := Aside0.mk hkq
                clear hd hb hq hq1 hq2 hqk H5 ck hkq
                cases b with
                | true =>
                  go_wp2
                  repeat (go_quiet (fail); try go_wp2)
                  go_roundg (i - q)
                  case measure => have := HQ.out; omega
                  case rel =>
                    have h1 := HQ.out
                    have h2 := HKQ.out
                    have h3 := HKK.out.1
                    refine ⟨q + 1, by go_num, ?_, by omega, by omega, by omega, duo_drewN HD2.out _⟩
                    rw [h1.1, ← Bool.and_assoc, ← HBB.out, Bool.true_and, h2, h3]
                | false =>
                  go_wp2
                  repeat (go_quiet (fail); try go_wp2)
                  go_roundg (i - q)
                  case measure => have := HQ.out; omega
                  case rel =>
                    have h1 := HQ.out
                    refine ⟨q + 1, by go_num, ?_, by omega, by omega, by omega, duo_drewN HD2.out _⟩
                    rw [h1.1, ← Bool.and_assoc, ← HBB.out, Bool.false_and]
              · have hq' : ¬ (q : Int) < (i : Int) := by omega
                obtain rfl : q = i := by omega
                have ck2 := HKI.out wr hd.below
                have ct2 := HTI.out wr hd.below
                have HD2 := Aside0.mk hd
                have HBB := Aside0.mk hb
                have hwk : (Lit.int .i64 kk).wf = true := HKK.out.1 ▸ HW.out m HI.out.2
                have hlen := HB.out.2
                have HPA := Aside0.mk (duo_put (duo_drew hd) kk tt hwk (by omega))
                clear hd hb hq hq1 hq2 hqk H5 ck hwk hlen
                cases b with
                | true =>
                  go_wp2
                  go_still_tail 9, (by kernel_rfl)
                  go_wp2_with (go_at_call_of 11 (Value.pointer (some (⟨E, 0, none⟩ : Addr))); refine HPA.out.mono ?_; rintro e w5 ⟨rfl, hd5⟩)
                  go_roundg (m + 1)
                  case measure => have := HI.out; omega
                  case rel =>
                    have h1 := HI.out
                    have h2 := HKK.out
                    have h3 := HBB.out
                    have h4 := And.intro HE.out HL.out
                    have h5 := HB.out.2
                    have hpl := put_len M kk tt
                    refine ⟨m, _, _, rfl, ?_, by omega, by omega, ?_, by omega, hd5⟩
                    · simp
                    · rw [eq_comm, Bool.and_eq_true, bne_iff_ne] at h3
                      rw [h2.1, h2.2]
                      exact back_put (by omega) (by omega) (by omega) HB.out.1 (h2.1 ▸ h3.1) h3.2
                | false =>
                  go_wp2
                  go_roundg (m + 1)
                  case measure => have := HI.out; omega
                  case rel =>
                    have h1 := HI.out
                    have h2 := HKK.out
                    have h3 := HBB.out
                    have h4 := And.intro HE.out HL.out
                    have h5 := HB.out.2
                    refine ⟨m, _, _, rfl, ?_, by omega, by omega, ?_, by omega, HD2.out⟩
                    · simp
                    · refine back_skip (by omega) (by omega) (by omega) HB.out.1 ?_
                      cases hka : (kk != key) with
                      | true => rw [hka, Bool.true_and] at h3; exact .inr h3.symm
                      | false => exact .inl (h2.1 ▸ (by simpa using hka))
set_option maxRecDepth 100000 in
set_option maxHeartbeats 3200000 in
theorem walk_last0 (W : World) (A0 : Option Addr) (c0 : Nat) (n0 : Nat) (A1 : Option Addr) (c1 : Nat) (n1 : Nat) (a2 a3 : Int)
    (N : Nat) (hN : (N = n1 ∧ (n1 : Int) < (n0 : Int)) ∨ (N = n0 ∧ ¬ ((n1 : Int) < (n0 : Int)))) (hs : 100 < n0 ∨ N = 0) :
    Calls Try.prog 7 #[.slice A0 n0 c0, .slice A1 n1 c1, .int .i64 a2, .int .u64 a3] W fun e w' => e = .returned (.bool true) ∧ Below W.heap.size W w' := by
  have HS := Aside0.mk (shown_true W)
  have hs' : (100 : Int) < (n0 : Int) ∨ ((¬ (100 : Int) < (n0 : Int)) ∧ N = 0) := by omega
  clear hs
  rcases hs' with hs | ⟨hs, hs0⟩
  all_goals rcases hN with ⟨hnN, hlt⟩ | ⟨hnN, hlt⟩
  all_goals try subst hs0
  all_goals subst hnN
  all_goals
    go_enter Try.func7, Try.ntmps7
    go_wp2_with (first
      | (go_at_call 8; refine HS.out.mono ?_; rintro e w1 ⟨rfl, hb1⟩)
      | (go_at_call 9; refine (solo_new (by assumption)).mono ?_; rintro e w2 ⟨D, rfl, hd2⟩)
      | (go_at_call 9; refine (duo_new (by assumption)).mono ?_; rintro e w3 ⟨E, rfl, hd3⟩))
    go_ret
    exact ⟨rfl, hd3.below⟩
/-- DueLast, walked whole. -/
theorem DueLastW (W : World) (A0 : Option Addr) (c0 : Nat) (l0 : List Int) (hr0 : ReadsInt W .i64 A0 l0.length l0) (hc0 : l0.length ≤ c0) (hw0 : ∀ x ∈ l0, (Lit.int .i64 x).wf = true)
    (A1 : Option Addr) (c1 : Nat) (l1 : List Int) (hr1 : ReadsInt W .u64 A1 l1.length l1) (hc1 : l1.length ≤ c1) (hw1 : ∀ x ∈ l1, (Lit.int .u64 x).wf = true) (a2 : Int) (hw2 : (Lit.int .i64 a2).wf = true) (a3 : Int) (hw3 : (Lit.int .u64 a3).wf = true) :
    Calls Try.prog 7 #[.slice A0 l0.length c0, .slice A1 l1.length c1, .int .i64 a2, .int .u64 a3] W fun e w' => e = .returned (.bool true) ∧ Below W.heap.size W w' := by
  by_cases hlt : (l1.length : Int) < (l0.length : Int)
  · by_cases hs : 100 < l0.length ∨ l1.length = 0
    · exact walk_last0 W A0 c0 _ A1 c1 _ a2 a3 l1.length (.inl ⟨rfl, hlt⟩) hs
    · exact walk_last W A0 c0 l0 _ rfl hr0 hc0 hw0 A1 c1 l1 _ rfl hr1 hc1 hw1 a2 hw2 a3 hw3 l1.length (.inl ⟨rfl, hlt⟩) (by omega) (by omega)
  · by_cases hs : 100 < l0.length ∨ l0.length = 0
    · exact walk_last0 W A0 c0 _ A1 c1 _ a2 a3 l0.length (.inr ⟨rfl, hlt⟩) hs
    · exact walk_last W A0 c0 l0 _ rfl hr0 hc0 hw0 A1 c1 l1 _ rfl hr1 hc1 hw1 a2 hw2 a3 hw3 l0.length (.inr ⟨rfl, hlt⟩) (by omega) (by omega)

end Go.Proofs.Ytlkcekldddpjbaa.Due
