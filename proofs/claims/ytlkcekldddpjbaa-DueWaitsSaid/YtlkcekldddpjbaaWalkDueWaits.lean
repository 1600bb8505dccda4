/- The walk of DueWaits. -/
import Derived.Test.YtlkcekldddpjbaaDueY
import Derived.Test.YtlkcekldddpjbaaDueZ
import Derived.Test.YtlkcekldddpjbaaPDueOrderx1
import Derived.Deep.RegionHeld3
import Derived.Deep.RegionLaw
import Derived.Deep.AppendLies
import Derived.RegionTactic
import Derived.ChangeAlike
import Derived.BigRegion
import Derived.Outline
import Derived.Deep.DeepCutAuto
import Derived.Maps.Keyed
import Derived.WideKeyEntry
import Derived.Deep.LoopGhost
import Derived.StillTailTactics
namespace Go.Proofs.Ytlkcekldddpjbaa.Due
open Go.RowKit Go.Proofs.YtlkcekldddpjbaaW.PrintWords Go.Proofs.YtlkcekldddpjbaaW.PrintLast Go.Proofs.YtlkcekldddpjbaaW.PrintMore
open Go.MapKept (Stamped)
open Go.ChangeMaps (setBlock)
open Go.Maps (Keyed int_keyed keyOf_int_mk)
set_option linter.unusedVariables false
set_option linter.unusedSimpArgs false

open Go.Proofs.Ytlkcekldddpjbaa.PDuePlays
/-- How many items are due. -/
def dueIn (M : List Item) (now : Int) : Nat := (M.filter fun q => decide (q.2 ≤ now)).length
theorem due_drop_one {L : List Item} {now : Int} (hn : (L.map Prod.fst).Nodup) {p : Item} (hp : p ∈ L) (ht : p.2 ≤ now) : dueIn (dropM L p.1) now + 1 = dueIn L now := by
  unfold dueIn
  have e : (dropM L p.1).filter (fun q => decide (q.2 ≤ now)) = dropM (L.filter fun q => decide (q.2 ≤ now)) p.1 := by
    unfold dropM
    rw [List.filter_filter, List.filter_filter]
    congr 1
    funext q
    exact Bool.and_comm _ _
  rw [e]
  refine drop_one (hn.sublist (List.filter_sublist.map _)) ⟨p, List.mem_filter.2 ⟨hp, by simpa using ht⟩, rfl⟩
theorem due_none {L : List Item} {now : Int} (h : ∀ q ∈ L, now < q.2) : dueIn L now = 0 := by
  unfold dueIn
  rw [List.filter_eq_nil_iff.2 (fun q hq => by have := h q hq; simp; omega)]
  rfl
theorem late_all {L : List Item} {now : Int} {p : Item} (hb : best L = some p) (ht : now < p.2) : ∀ q ∈ L, now < q.2 := fun q hq => by
  have := (best_spec hb).2 q hq
  simp [lessB] at this
  omega
theorem due_perm {L M : List Item} (now : Int) (h : L.Perm M) : dueIn L now = dueIn M now := (h.filter _).length_eq
theorem rest_step {l0 l1 : List Int} {N i : Nat} (h0 : N ≤ l0.length) (h1 : N ≤ l1.length) (hi : i < N) (now : Int) :
    dueIn (puts (((both l0 l1).take N).drop i) []) now = dueIn (puts (((both l0 l1).take N).drop (i + 1)) []) now + (if alone l0 i N && decide (rd l1 i ≤ now) then 1 else 0) := by
  have hd := both_drop h0 h1 hi
  have hn0 := puts_nodup (((both l0 l1).take N).drop i) [] (by simp)
  have hn1 := puts_nodup (((both l0 l1).take N).drop (i + 1)) [] (by simp)
  have hm0 := mem_puts (((both l0 l1).take N).drop i) []
  have hm1 := mem_puts (((both l0 l1).take N).drop (i + 1)) []
  rw [hd] at hm0
  rw [hd] at hn0
  rw [hd]
  simp only [List.not_mem_nil, and_false, or_false] at hm0 hm1
  cases ha : alone l0 i N with
  | true =>
    have hl := (alone_last h0 h1).1 ha
    have hp : (puts ((rd l0 i, rd l1 i) :: ((both l0 l1).take N).drop (i + 1)) []).Perm ((rd l0 i, rd l1 i) :: puts (((both l0 l1).take N).drop (i + 1)) []) := by
      refine (List.perm_ext_iff_of_nodup (nodup_of hn0) ?_).2 fun x => ?_
      · refine List.nodup_cons.2 ⟨fun h => ?_, nodup_of hn1⟩
        have := (hm1 _).1 h
        rw [hl] at this
        cases this
      · rw [hm0, List.mem_cons, hm1]
        by_cases hx : rd l0 i = x.1
        · rw [← hx]
          simp only [lastT, hl, if_pos, Option.some.injEq, reduceCtorEq, or_false]
          constructor
          · exact fun h => Prod.ext hx.symm h.symm
          · intro h; rw [h]
        · have hx' : ¬ x = (rd l0 i, rd l1 i) := fun h => hx (by rw [h])
          cases hq : lastT (((both l0 l1).take N).drop (i + 1)) x.1 <;> simp [lastT, hq, hx, hx']
    rw [due_perm now hp, Bool.true_and]
    unfold dueIn
    cases hdt : decide (rd l1 i ≤ now) with
    | true => rw [List.filter_cons_of_pos (p := fun q : Item => decide (q.2 ≤ now)) hdt, if_pos rfl, List.length_cons]
    | false => rw [List.filter_cons_of_neg (p := fun q : Item => decide (q.2 ≤ now)) (by simpa using hdt), if_neg (by simp)]; rfl
  | false =>
    have hl : lastT (((both l0 l1).take N).drop (i + 1)) (rd l0 i) ≠ none := fun h => by rw [(alone_last h0 h1).2 h] at ha; cases ha
    have hp : (puts ((rd l0 i, rd l1 i) :: ((both l0 l1).take N).drop (i + 1)) []).Perm (puts (((both l0 l1).take N).drop (i + 1)) []) := by
      refine (List.perm_ext_iff_of_nodup (nodup_of hn0) (nodup_of hn1)).2 fun x => ?_
      rw [hm0, hm1]
      by_cases hx : rd l0 i = x.1
      · rw [← hx]
        cases hq : lastT (((both l0 l1).take N).drop (i + 1)) (rd l0 i) with
        | none => exact absurd hq hl
        | some u => simp [lastT, hq]
      · cases hq : lastT (((both l0 l1).take N).drop (i + 1)) x.1 <;> simp [lastT, hq, hx]
    rw [due_perm now hp, Bool.false_and, if_neg (by simp)]
    rfl
/-- What Next tells. -/
def nextM (M : List Item) : Int × Int × Bool := match best M with | none => (0, 0, false) | some p => (p.1, p.2, true)
theorem solo_next' {D : Nat} {M : List Item} {W0 w : World} (h : Solo D M W0 w) :
    Calls Try.prog 17 #[.pointer (some ⟨D, 0, none⟩)] w fun e w' => e = .returned (.tuple #[.int .i64 (nextM M).1, .int .u64 (nextM M).2.1, .bool (nextM M).2.2]) ∧ Solo D M W0 w' := by
  refine (solo_next h).mono fun e w' q => ⟨?_, q.2⟩
  rw [q.1]
  unfold nextM
  cases best M with
  | none => rfl
  | some p => rfl
theorem next_late {M : List Item} {now : Int} (h : ∀ q ∈ M, now < q.2) : (nextM M).2.2 = decide (0 < (M.length : Int)) ∧ ((nextM M).2.2 = true → now < (nextM M).2.1) := by
  unfold nextM
  cases hb : best M with
  | none => rw [best_none hb]; exact ⟨rfl, fun h => by cases h⟩
  | some p =>
    have hp := (best_spec hb).1
    refine ⟨?_, fun _ => h p hp⟩
    have : 0 < M.length := List.length_pos_of_mem hp
    exact (decide_eq_true (by omega)).symm
open Go.Proofs.Ytlkcekldddpjbaa.PDueOrder
/-- A row of numbers, its front. -/
theorem front_int {k : IntKind} {w : World} {A : Option Addr} {n : Nat} {l : List Int} (h : ReadsInt w k A n l) {m : Nat} (hm : m ≤ n) : Kd.C (Kd.int k) w A (l.take m).length (l.take m) := by
  have h2 : Kd.C (Kd.int k) w A n l := Kd.C_of_reads (d := (0 : Int)) h
  obtain rfl : l.length = n := h.1
  exact Kd.C_take h2 hm
set_option maxRecDepth 100000 in
set_option maxHeartbeats 6400000 in
theorem walk_waits (W : World) (A0 : Option Addr) (c0 : Nat) (l0 : List Int) (n0 : Nat) (e0 : l0.length = n0) (hr0 : ReadsInt W .i64 A0 n0 l0) (hc0 : n0 ≤ c0) (hw0 : ∀ x ∈ l0, (Lit.int .i64 x).wf = true)
    (A1 : Option Addr) (c1 : Nat) (l1 : List Int) (n1 : Nat) (e1 : l1.length = n1) (hr1 : ReadsInt W .u64 A1 n1 l1) (hc1 : n1 ≤ c1) (hw1 : ∀ x ∈ l1, (Lit.int .u64 x).wf = true) (now : Int)
    (N : Nat) (hN : (N = n1 ∧ (n1 : Int) < (n0 : Int)) ∨ (N = n0 ∧ ¬ ((n1 : Int) < (n0 : Int)))) (hN0 : 0 < N) (hs : n0 ≤ 100) :
    Calls Try.prog 5 #[.slice A0 n0 c0, .slice A1 n1 c1, .int .u64 now] W fun e w' => e = .returned (.bool true) ∧ Below W.heap.size W w' := by
  have l0n : N ≤ n0 := by omega
  have l1n : N ≤ n1 := by omega
  have HS := Aside0.mk (shown_true W)
  have hl0 : (n0 : Int) ≤ 100 := by omega
  have hN1 : (0 : Int) < (N : Int) := by omega
  have hN2 : (N : Int) ≤ 100 := by omega
  have hNc : N ≤ c0 := by omega
  have hNc' : (N : Int) ≤ (c0 : Int) := by omega
  have hlen0 : (l0.take N).length = N := by rw [List.length_take]; omega
  obtain ⟨x0, rfl, _⟩ := hr0.at_ 0 (by omega) (by omega)
  obtain ⟨x1, rfl, _⟩ := hr1.at_ 0 (by omega) (by omega)
  have HTime := Aside0.mk (fun (w : World) (hb : Below W.heap.size W w) (key t : Int) (ht : lastT ((both l0 l1).take N) key = some t) => (by
    have e : (l1.take n1) = l1 := List.take_of_length_le (by omega)
    have h1 := front_int (hr1.below hb) (Nat.le_refl n1)
    rw [e] at h1
    have h := postroomlaw15_timeOf.calls (N + 1) (some x0) c0 (l0.take N) (some x1) c1 l1 key t true w (front_int (hr0.below hb) l0n) (by omega) h1 (by omega) (timeOf_tells (by omega) (by omega) (by omega) ht)
    rw [hlen0, e1] at h
    exact h))
  have HK := Aside0.mk (fun (w : World) (hb : Below W.heap.size W w) (i : Nat) (hi : i < N) => (by
    obtain ⟨ad, ha, hc⟩ := (hr0.below hb).at_ (i : Int) (by omega) (by omega)
    cases ha
    simpa using hc : w.cell? (x0.add i) = some (.int .i64 (rd l0 i))))
  have HT := Aside0.mk (fun (w : World) (hb : Below W.heap.size W w) (i : Nat) (hi : i < N) => (by
    obtain ⟨ad, ha, hc⟩ := (hr1.below hb).at_ (i : Int) (by omega) (by omega)
    cases ha
    simpa using hc : w.cell? (x1.add i) = some (.int .u64 (rd l1 i))))
  have HW := Aside0.mk (fun (i : Nat) (hi : i < N) => rd_wf hw0 (by omega : i < l0.length))
  have HW1 := Aside0.mk (fun (i : Nat) (hi : i < N) => rd_wf hw1 (by omega : i < l1.length))
  have HE := Aside0.mk (And.intro e0 e1)
  have HL0 := Aside0.mk (fun (i : Nat) (h : i < N) => (by omega : (i : Int) < (n0 : Int)))
  have HL1 := Aside0.mk (fun (i : Nat) (h : i < N) => (by omega : (i : Int) < (n1 : Int)))
  have HL := Aside0.mk (And.intro l0n l1n)
  clear hr0 hr1 hw0 hw1 e0 e1 l0n l1n hc0 hc1 hs hN0 hlen0
  rcases hN with ⟨hnN, hlt⟩ | ⟨hnN, hlt⟩
  all_goals
    subst hnN
    go_enter Try.func5, Try.ntmps5
    go_wp2_with (first
      | (go_at_call 8; refine HS.out.mono ?_; rintro e w1 ⟨rfl, hb1⟩)
      | (go_at_call 9; refine (solo_new (by assumption)).mono ?_; rintro e w2 ⟨D, rfl, hd2⟩))
    have H4 := Aside0.mk hd2
    clear hd2
    go_loopg [10] (N + 1) (fun k v wr => ∃ i : Nat, v = .int .i64 (i : Int) ∧ N - i < k ∧ i ≤ N ∧ Solo D (puts ((both l0 l1).take i) []) W wr)
    case atStart => exact ⟨0, rfl, by omega, by omega, H4.out⟩
    case round =>
      obtain ⟨i, rfl, hik, hiN, hd⟩ := hrel
      by_cases hi : i < N
      · have hi' : (i : Int) < (N : Int) := by omega
        have hin := HL0.out i hi
        have hin1 := HL1.out i hi
        have hi0 : (0 : Int) ≤ (i : Int) := by omega
        obtain ⟨kk, hkk⟩ : ∃ k, k = rd l0 i := ⟨_, rfl⟩
        obtain ⟨tt, htt⟩ : ∃ k, k = rd l1 i := ⟨_, rfl⟩
        have ck : wr.cell? (x0.add i) = some (.int .i64 kk) := by rw [hkk]; exact HK.out wr hd.below i hi
        have ct : wr.cell? (x1.add i) = some (.int .u64 tt) := by rw [htt]; exact HT.out wr hd.below i hi
        have e01 := And.intro HE.out HL.out
        have hlen := puts_len ((both l0 l1).take i) []
        rw [List.length_take] at hlen
        have hwk : (Lit.int .i64 kk).wf = true := hkk ▸ HW.out i hi
        have hz := both_at (l0 := l0) (l1 := l1) (i := i) (by omega) (by omega)
        rw [← hkk, ← htt] at hz
        have HZ := Aside0.mk hz
        generalize hMA : puts ((both l0 l1).take i) [] = MA at hd hlen
        have HM := Aside0.mk hMA
        have HI := Aside0.mk (And.intro hik hi)
        have HPA := Aside0.mk (solo_put (solo_drew hd) kk tt hwk (by simp at hlen; omega))
        clear hd hlen e01 hz hMA hkk htt hwk
        clear HS hik hiN H4
        go_wp2
        go_still_tail 9, (by kernel_rfl)
        go_wp2_with (go_at_call_of 11 (Value.pointer (some (⟨D, 0, none⟩ : Addr))); refine HPA.out.mono ?_; rintro e w5 ⟨rfl, hd5⟩)
        go_roundg (N - i)
        case measure => have := HI.out; omega
        case rel =>
          have h1 := HI.out
          refine ⟨i + 1, by go_num, by omega, by omega, ?_⟩
          rw [HZ.out, puts_snoc, HM.out]
          exact hd5
      · obtain rfl : N = i := by omega
        have e01 := And.intro HE.out HL.out
        have hlen := puts_len ((both l0 l1).take N) []
        rw [both_len (l0 := l0) (l1 := l1) (n := N) (by omega) (by omega)] at hlen
        have hM100 : (puts ((both l0 l1).take N) []).length ≤ 100 := by simp at hlen; omega
        have hrest : dueIn (puts (((both l0 l1).take N).drop 0) []) now = dueIn (puts ((both l0 l1).take N) []) now := by rw [List.drop_zero]
        have hmem : ∀ p, p ∈ puts ((both l0 l1).take N) [] → lastT ((both l0 l1).take N) p.1 = some p.2 ∧ 0 ≤ p.2 ∧ p.2 ≤ 18446744073709551615 := fun p hp => by
          refine ⟨?_, ?_⟩
          · rcases (mem_puts _ [] p).1 hp with h | ⟨_, h⟩
            · exact h
            · cases h
          · obtain ⟨m, hm, rfl⟩ := mem_both (by omega) (by omega) (puts_mem hp)
            exact u64_bounds (HW1.out m hm)
        generalize puts ((both l0 l1).take N) [] = M at hd hlen hM100 hmem hrest
        have H1 := Aside0.mk (solo_len hd)
        have HMM := Aside0.mk (And.intro hM100 (And.intro hmem hrest))
        have hM1 : (M.length : Int) ≤ 100 := by omega
        clear hd hlen hM100 hmem e01 H4 hik hiN HS HW HW1 hrest
        go_wp2_with (go_at_call 19; refine H1.out.mono ?_; rintro e v1 ⟨rfl, hv1⟩)
        have H4 := Aside0.mk hv1
        clear hv1 H1
        go_loopg [12] (M.length + 1) (fun k v wr => ∃ (i : Nat) (L : List Item), v = .int .i64 (i : Int) ∧ L.length < k ∧ i + L.length = M.length ∧ (∀ q ∈ L, q ∈ M) ∧ i + dueIn L now = dueIn M now ∧ Solo D L W wr)
        case atStart => exact ⟨0, M, rfl, by omega, by omega, fun _ h => h, by omega, H4.out⟩
        case round =>
          obtain ⟨i, L, rfl, hLk, hiL, hsub, hdue, hd⟩ := hrel
          have hiM : (i : Int) ≤ (M.length : Int) := by omega
          have hL9 : L.length < 900000 := by omega
          by_cases hstop : ∀ q ∈ L, now < q.2
          · have htk := take_none hstop
            have hdz := due_none hstop
            have hnl := next_late hstop
            have H1 := Aside0.mk (by have h := solo_take hd now hL9; rw [htk] at h; exact h)
            have H2 := Aside0.mk (fun (w : World) (h : Solo D L W w) => solo_next' h)
            obtain ⟨x, t, b, hx⟩ : ∃ x t b, nextM L = (x, t, b) := ⟨_, _, _, rfl⟩
            rw [hx] at H2 hnl
            have HX := Aside0.mk (And.intro hnl (And.intro hdz (And.intro hiL hdue)))
            clear hd hLk hiL hsub hdue H4 hL9 hstop htk hdz hnl hx
            go_wp2_with (first
              | (go_at_call 15; refine H1.out.mono ?_; rintro e v1 ⟨rfl, hv1⟩)
              | (go_at_call 17; refine (H2.out _ (by assumption)).mono ?_; rintro e v2 ⟨rfl, hv2⟩; clear hv1))
            have H4 := Aside0.mk hv2
            clear hv2 H1 H2
            go_loopg [20, 21] (N + 1) (fun k a v wr => ∃ (e j : Nat), a = .int .i64 (e : Int) ∧ v = .int .i64 (j : Int) ∧ N - j < k ∧ j ≤ N ∧ e + dueIn (puts (((both l0 l1).take N).drop j) []) now = i ∧ Solo D L W wr)
            case atStart => exact ⟨0, 0, rfl, rfl, by omega, by omega, by have h1 := HMM.out.2.2; have h2 := HX.out; omega, H4.out⟩
            case round =>
              obtain ⟨ea, j, rfl, rfl, hjk, hj, hrest, hd⟩ := hrel
              by_cases hjN : j < N
              · have hj' : (j : Int) < (N : Int) := by omega
                have hj0 : (0 : Int) ≤ (j : Int) := by omega
                have hjn := HL0.out j hjN
                have hjn1 := HL1.out j hjN
                have hei : (ea : Int) ≤ 100 := by omega
                have HB := Aside0.mk (And.intro hjk (And.intro hjN hrest))
                have HD := Aside0.mk hd
                obtain ⟨kk, hkk⟩ : ∃ k, k = rd l0 j := ⟨_, rfl⟩
                obtain ⟨tt, htt⟩ : ∃ k, k = rd l1 j := ⟨_, rfl⟩
                have HKK := Aside0.mk (And.intro hkk htt)
                have HKI := Aside0.mk (fun (w : World) (hb : Below W.heap.size W w) => (by rw [hkk]; exact HK.out w hb j hjN : w.cell? (x0.add j) = some (.int .i64 kk)))
                have HTI := Aside0.mk (fun (w : World) (hb : Below W.heap.size W w) => (by rw [htt]; exact HT.out w hb j hjN : w.cell? (x1.add j) = some (.int .u64 tt)))
                clear hd hjk hj hrest hjN H4 hkk htt
                go_wp2
                have H5 := Aside0.mk HD.out
                go_loopg [22, 23] (N + 1) (fun k v b wr => ∃ q : Nat, b = .int .i64 (q : Int) ∧ v = .bool (alone l0 j q) ∧ j + 1 ≤ q ∧ q ≤ N ∧ N - q < k ∧ Solo D L W wr)
                case atStart => exact ⟨j + 1, by go_num, by rw [alone_first], by omega, by have := HB.out; omega, by omega, H5.out⟩
                case round =>
                  obtain ⟨q, rfl, rfl, hq1, hq2, hqk, hd⟩ := hrel
                  obtain ⟨ba, hba⟩ : ∃ b, b = alone l0 j q := ⟨_, rfl⟩
                  rw [← hba]
                  by_cases hq : q < N
                  · have hq' : (q : Int) < (N : Int) := by omega
                    have hqn := HL0.out q hq
                    have hq0 : (0 : Int) ≤ (q : Int) := by omega
                    have ck2 := HK.out wr hd.below q hq
                    have ck3 := HKI.out wr hd.below
                    have HQ := Aside0.mk (And.intro (alone_next (l0 := l0) (i := j) (j := q) (by omega)) (And.intro hq1 (And.intro hq hqk)))
                    have HD2 := Aside0.mk hd
                    have HBB := Aside0.mk hba
                    obtain ⟨kq, hkq⟩ : ∃ k, k = rd l0 q := ⟨_, rfl⟩
                    rw [← hkq] at ck2
                    have HKQ := Aside0.mk hkq
                    clear hd hba hq hq1 hq2 hqk H5 hkq
                    cases ba with
                    | true =>
                      go_wp2
                      repeat (go_quiet (fail); try go_wp2)
                      go_roundg (N - q)
                      case measure => have := HQ.out; omega
                      case rel =>
                        have h1 := HQ.out
                        have h2 := HKQ.out
                        have h3 := HKK.out.1
                        refine ⟨q + 1, by go_num, ?_, by omega, by omega, by omega, solo_drewN HD2.out _⟩
                        rw [h1.1, ← HBB.out, Bool.true_and, h2, h3]
                    | false =>
                      go_wp2
                      repeat (go_quiet (fail); try go_wp2)
                      go_roundg (N - q)
                      case measure => have := HQ.out; omega
                      case rel =>
                        have h1 := HQ.out
                        refine ⟨q + 1, by go_num, ?_, by omega, by omega, by omega, solo_drewN HD2.out _⟩
                        rw [h1.1, ← HBB.out, Bool.false_and]
                  · have hq' : ¬ (q : Int) < (N : Int) := by omega
                    obtain rfl : N = q := by omega
                    have ct2 := HTI.out wr hd.below
                    have HD2 := Aside0.mk hd
                    have HBB := Aside0.mk hba
                    have HRS := Aside0.mk (rest_step (l0 := l0) (l1 := l1) (N := N) (i := j) (by have := And.intro HE.out HL.out; omega) (by have := And.intro HE.out HL.out; omega) HB.out.2.1 now)
                    clear hd hba hq hq1 hq2 hqk H5
                    have hcase : (ba = true ∧ tt ≤ now) ∨ (ba = true ∧ ¬ tt ≤ now) ∨ ba = false := by
                      cases ba with
                      | true => rcases Int.lt_or_le now tt with h | h
                                · exact .inr (.inl ⟨rfl, by omega⟩)
                                · exact .inl ⟨rfl, h⟩
                      | false => exact .inr (.inr rfl)
                    rcases hcase with ⟨hbt, htn⟩ | ⟨hbt, htn⟩ | hbt
                    · subst hbt
                      go_wp2
                      go_roundg (N - j)
                      case measure => have := HB.out; omega
                      case rel =>
                        obtain ⟨h1, h2, h3⟩ := HB.out
                        have h4 := HRS.out
                        rw [← HBB.out, ← HKK.out.2, if_pos (by simpa using htn)] at h4
                        exact ⟨ea + 1, j + 1, by go_num, by go_num, by omega, by omega, by omega, HD2.out⟩
                    · subst hbt
                      go_wp2
                      go_roundg (N - j)
                      case measure => have := HB.out; omega
                      case rel =>
                        obtain ⟨h1, h2, h3⟩ := HB.out
                        have h4 := HRS.out
                        rw [← HBB.out, ← HKK.out.2, if_neg (by simpa using htn)] at h4
                        exact ⟨ea, j + 1, by go_num, by go_num, by omega, by omega, by omega, HD2.out⟩
                    · subst hbt
                      go_wp2
                      go_roundg (N - j)
                      case measure => have := HB.out; omega
                      case rel =>
                        obtain ⟨h1, h2, h3⟩ := HB.out
                        have h4 := HRS.out
                        rw [← HBB.out, Bool.false_and, if_neg (by simp)] at h4
                        exact ⟨ea, j + 1, by go_num, by go_num, by omega, by omega, by omega, HD2.out⟩
              · have hj' : ¬ (j : Int) < (N : Int) := by omega
                obtain rfl : N = j := by omega
                have he : ea = i := by
                  rw [List.drop_eq_nil_of_le (by have := And.intro HE.out HL.out; rw [both_len (by omega) (by omega)]; omega)] at hrest
                  have : dueIn (puts [] []) now = 0 := rfl
                  omega
                subst he
                obtain ⟨⟨hx1, hx2⟩, hx3, hx4, hx5⟩ := HX.out
                have H1 := Aside0.mk (fun (w : World) (h : Solo D L W w) => solo_len h)
                have H2 := Aside0.mk hd
                clear hd hjk hj hrest hjN H4 HK HT HL0 HL1 HE HL HTime HMM hx3 hx5 HX
                generalize M.length = mm at hiM hM1 hx4
                generalize L.length = ll at H1 hx1 hx4
                have hmm : (mm : Int) - (ea : Int) = (ll : Int) := by omega
                have hll : (ll : Int) ≤ 100 := by omega
                clear hx4
                cases b with
                | true =>
                  have hpos : 0 < (ll : Int) := by simpa using hx1.symm
                  have hlate : now < t := hx2 rfl
                  clear hx1 hx2
                  go_wp2_with (first
                    | (go_at_call 19; refine (H1.out _ H2.out).mono ?_; rintro e v1 ⟨rfl, hv1⟩)
                    | (go_at_call 19; refine (H1.out _ (by assumption)).mono ?_; rintro e v2 ⟨rfl, hv2⟩; clear hv1))
                  go_ret
                  exact ⟨rfl, hv2.below⟩
                | false =>
                  have hpos : ¬ 0 < (ll : Int) := by simpa using hx1.symm
                  clear hx1 hx2
                  go_wp2_with (first
                    | (go_at_call 19; refine (H1.out _ H2.out).mono ?_; rintro e v1 ⟨rfl, hv1⟩)
                    | (go_at_call 19; refine (H1.out _ (by assumption)).mono ?_; rintro e v2 ⟨rfl, hv2⟩; clear hv1))
                  go_ret
                  exact ⟨rfl, hv2.below⟩
          · obtain ⟨p, hb, hpt⟩ : ∃ p, best L = some p ∧ p.2 ≤ now := by
              cases hb : best L with
              | none => exact absurd (fun q hq => by rw [best_none hb] at hq; cases hq) hstop
              | some p =>
                refine ⟨p, rfl, ?_⟩
                rcases Int.lt_or_le now p.2 with h | h
                · exact absurd (late_all hb h) hstop
                · exact h
            obtain ⟨pk, pt⟩ := p
            have hbs := best_spec hb
            have hp := HMM.out.2.1 _ (hsub _ hbs.1)
            have htk := take_some (now := now) hb hpt
            have hdl := drop_one (solo_nodup hd) ⟨_, hbs.1, rfl⟩
            have hdd := due_drop_one (solo_nodup hd) hbs.1 hpt
            have H1 := Aside0.mk (by have h := solo_take hd now hL9; rw [htk] at h; exact h)
            have H2 := Aside0.mk (fun (w : World) (h : Solo D (dropM L pk) W w) => HTime.out w h.below pk pt hp.1)
            have hpn : ¬ now < pt := by have := hpt; simp only at this; omega
            have HO := Aside0.mk (And.intro hLk (And.intro hiL (And.intro hsub (And.intro hdl (And.intro hdd hdue)))))
            clear hd hLk hiL hsub hdue H4 hL9 hstop htk hdl hdd hb hbs hp hpt HMM HTime
            go_wp2_with (first
              | (go_at_call 15; refine H1.out.mono ?_; rintro e v1 ⟨rfl, hv1⟩)
              | (go_at_call 21; refine (H2.out _ (by assumption)).mono ?_; rintro e v2 ⟨rfl, hv2⟩; replace hv2 := solo_below hv1 hv2.below; clear hv1))
            go_roundg L.length
            case measure => have := HO.out; omega
            case rel =>
              obtain ⟨h1, h2, h3, h4, h5, h6⟩ := HO.out
              have h4 : (dropM L pk).length + 1 = L.length := h4
              have h5 : dueIn (dropM L pk) now + 1 = dueIn L now := h5
              exact ⟨i + 1, dropM L pk, by go_num, by omega, by omega, fun q hq => h3 q (mem_drop.1 hq).1, by omega, hv2⟩
set_option maxRecDepth 100000 in
set_option maxHeartbeats 3200000 in
theorem walk_waits9 (W : World) (A0 : Option Addr) (c0 : Nat) (n0 : Nat) (A1 : Option Addr) (c1 : Nat) (n1 : Nat) (now : Int) (hs : 100 < n0) :
    Calls Try.prog 5 #[.slice A0 n0 c0, .slice A1 n1 c1, .int .u64 now] W fun e w' => e = .returned (.bool true) ∧ Below W.heap.size W w' := by
  have HS := Aside0.mk (shown_true W)
  have hs' : (100 : Int) < (n0 : Int) := by omega
  clear hs
  go_enter Try.func5, Try.ntmps5
  go_wp2_with (first
    | (go_at_call 8; refine HS.out.mono ?_; rintro e w1 ⟨rfl, hb1⟩)
    | (go_at_call 9; refine (solo_new (by assumption)).mono ?_; rintro e w2 ⟨D, rfl, hd2⟩))
  go_ret
  exact ⟨rfl, hd2.below⟩
set_option maxRecDepth 100000 in
set_option maxHeartbeats 3200000 in
theorem walk_waits0 (W : World) (A0 : Option Addr) (c0 : Nat) (n0 : Nat) (A1 : Option Addr) (c1 : Nat) (n1 : Nat) (now : Int)
    (hN : (0 = n1 ∧ (n1 : Int) < (n0 : Int)) ∨ (0 = n0 ∧ ¬ ((n1 : Int) < (n0 : Int)))) (hs : n0 ≤ 100) :
    Calls Try.prog 5 #[.slice A0 n0 c0, .slice A1 n1 c1, .int .u64 now] W fun e w' => e = .returned (.bool true) ∧ Below W.heap.size W w' := by
  have HS := Aside0.mk (shown_true W)
  have hs' : ¬ (100 : Int) < (n0 : Int) := by omega
  have h0 : takeM ([] : List Item) now = ((0, false), []) := rfl
  have H2 := Aside0.mk (fun (w : World) (D : Nat) (h : Solo D [] W w) => (solo_len h : Calls Try.prog 19 #[.pointer (some ⟨D, 0, none⟩)] w fun e w' => e = .returned (.int .i64 0) ∧ Solo D [] W w'))
  have H3 := Aside0.mk (fun (w : World) (D : Nat) (h : Solo D [] W w) => (by have h := solo_take h now (by simp); rw [h0] at h; exact h))
  have H5 := Aside0.mk (fun (w : World) (D : Nat) (h : Solo D [] W w) => (show Calls Try.prog 17 #[.pointer (some ⟨D, 0, none⟩)] w fun e w' => e = .returned (.tuple #[.int .i64 0, .int .u64 0, .bool false]) ∧ Solo D [] W w' from solo_next' h))
  clear h0 hs
  rcases hN with ⟨hnN, hlt⟩ | ⟨hnN, hlt⟩
  all_goals
    subst hnN
    go_enter Try.func5, Try.ntmps5
    go_wp2_with (first
      | (go_at_call 8; refine HS.out.mono ?_; rintro e w1 ⟨rfl, hb1⟩)
      | (go_at_call 9; refine (solo_new (by assumption)).mono ?_; rintro e w2 ⟨D, rfl, hd2⟩))
    have H4 := Aside0.mk hd2
    clear hd2
    go_loopg [10] 1 (fun k v wr => 0 < k ∧ v = .int .i64 0 ∧ Solo D [] W wr)
    case atStart => exact ⟨by omega, rfl, H4.out⟩
    case round =>
      obtain ⟨_, rfl, hd⟩ := hrel
      have H1 := Aside0.mk (H2.out _ _ hd)
      clear H4 hd
      go_wp2_with (go_at_call 19; refine H1.out.mono ?_; rintro e v3 ⟨rfl, hv3⟩)
      have H4 := Aside0.mk hv3
      clear hv3
      go_loopg [12] 1 (fun k v wr => 0 < k ∧ v = .int .i64 0 ∧ Solo D [] W wr)
      case atStart => exact ⟨by omega, rfl, H4.out⟩
      case round =>
        obtain ⟨_, rfl, hd⟩ := hrel
        have H1 := Aside0.mk (H3.out _ _ hd)
        clear hd H4
        go_wp2_with (first
          | (go_at_call 15; refine H1.out.mono ?_; rintro e v4 ⟨rfl, hv4⟩)
          | (go_at_call 17; refine (H5.out _ _ (by assumption)).mono ?_; rintro e v5 ⟨rfl, hv5⟩; clear hv4))
        have H4 := Aside0.mk hv5
        clear hv5
        go_loopg [20, 21] 1 (fun k a v wr => 0 < k ∧ a = .int .i64 0 ∧ v = .int .i64 0 ∧ Solo D [] W wr)
        case atStart => exact ⟨by omega, rfl, rfl, H4.out⟩
        case round =>
          obtain ⟨_, rfl, rfl, hd⟩ := hrel
          have H1 := Aside0.mk hd
          clear hd H4
          go_wp2_with (first
            | (go_at_call 19; refine (H2.out _ _ H1.out).mono ?_; rintro e v1 ⟨rfl, hv1⟩)
            | (go_at_call 19; refine (H2.out _ _ (by assumption)).mono ?_; rintro e v2 ⟨rfl, hv2⟩; clear hv1))
          go_ret
          exact ⟨rfl, hv2.below⟩
/-- DueWaits, walked whole. -/
theorem DueWaitsW (W : World) (A0 : Option Addr) (c0 : Nat) (l0 : List Int) (hr0 : ReadsInt W .i64 A0 l0.length l0) (hc0 : l0.length ≤ c0) (hw0 : ∀ x ∈ l0, (Lit.int .i64 x).wf = true)
    (A1 : Option Addr) (c1 : Nat) (l1 : List Int) (hr1 : ReadsInt W .u64 A1 l1.length l1) (hc1 : l1.length ≤ c1) (hw1 : ∀ x ∈ l1, (Lit.int .u64 x).wf = true) (now : Int) (_hw2 : (Lit.int .u64 now).wf = true) :
    Calls Try.prog 5 #[.slice A0 l0.length c0, .slice A1 l1.length c1, .int .u64 now] W fun e w' => e = .returned (.bool true) ∧ Below W.heap.size W w' := by
  by_cases h9 : 100 < l0.length
  · exact walk_waits9 W A0 c0 _ A1 c1 _ now h9
  · by_cases hlt : (l1.length : Int) < (l0.length : Int)
    · by_cases hs : 0 = l1.length
      · exact walk_waits0 W A0 c0 _ A1 c1 _ now (.inl ⟨hs, hlt⟩) (by omega)
      · exact walk_waits W A0 c0 l0 _ rfl hr0 hc0 hw0 A1 c1 l1 _ rfl hr1 hc1 hw1 now l1.length (.inl ⟨rfl, hlt⟩) (by omega) (by omega)
    · by_cases hs : 0 = l0.length
      · exact walk_waits0 W A0 c0 _ A1 c1 _ now (.inr ⟨hs, hlt⟩) (by omega)
      · exact walk_waits W A0 c0 l0 _ rfl hr0 hc0 hw0 A1 c1 l1 _ rfl hr1 hc1 hw1 now l0.length (.inr ⟨rfl, hlt⟩) (by omega) (by omega)

end Go.Proofs.Ytlkcekldddpjbaa.Due
