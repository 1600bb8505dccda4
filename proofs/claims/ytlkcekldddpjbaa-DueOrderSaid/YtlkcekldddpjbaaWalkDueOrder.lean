/- The walk of DueOrder. -/
import Derived.Test.YtlkcekldddpjbaaDueY
import Derived.Test.YtlkcekldddpjbaaDueZ
import Derived.Test.YtlkcekldddpjbaaPDueOrderx1
import Derived.Deep.RegionHeld3
import Derived.Deep.RegionLaw
import Derived.Deep.AppendLies
import Derived.RegionTactic
import Derived.ChangeAlike
import Derived.BigRegion
import Derived.Outline
import Derived.Deep.DeepCutAuto
import Derived.Maps.Keyed
import Derived.WideKeyEntry
import Derived.Deep.LoopGhost
import Derived.StillTailTactics
namespace Go.Proofs.Ytlkcekldddpjbaa.Due
open Go.RowKit Go.Proofs.YtlkcekldddpjbaaW.PrintWords Go.Proofs.YtlkcekldddpjbaaW.PrintLast Go.Proofs.YtlkcekldddpjbaaW.PrintMore
open Go.MapKept (Stamped)
open Go.ChangeMaps (setBlock)
open Go.Maps (Keyed int_keyed keyOf_int_mk)
set_option linter.unusedVariables false
set_option linter.unusedSimpArgs false

open Go.Proofs.Ytlkcekldddpjbaa.PDuePlays
open Go.Proofs.Ytlkcekldddpjbaa.PDueOrder
/-- A row of numbers, its front. -/
theorem front_int {k : IntKind} {w : World} {A : Option Addr} {n : Nat} {l : List Int} (h : ReadsInt w k A n l) {m : Nat} (hm : m ≤ n) : Kd.C (Kd.int k) w A (l.take m).length (l.take m) := by
  have h2 : Kd.C (Kd.int k) w A n l := Kd.C_of_reads (d := (0 : Int)) h
  obtain rfl : l.length = n := h.1
  exact Kd.C_take h2 hm
set_option maxRecDepth 100000 in
set_option maxHeartbeats 6400000 in
theorem walk_order (W : World) (A0 : Option Addr) (c0 : Nat) (l0 : List Int) (n0 : Nat) (e0 : l0.length = n0) (hr0 : ReadsInt W .i64 A0 n0 l0) (hc0 : n0 ≤ c0) (hw0 : ∀ x ∈ l0, (Lit.int .i64 x).wf = true)
    (A1 : Option Addr) (c1 : Nat) (l1 : List Int) (n1 : Nat) (e1 : l1.length = n1) (hr1 : ReadsInt W .u64 A1 n1 l1) (hc1 : n1 ≤ c1) (hw1 : ∀ x ∈ l1, (Lit.int .u64 x).wf = true)
    (N : Nat) (hN : (N = n1 ∧ (n1 : Int) < (n0 : Int)) ∨ (N = n0 ∧ ¬ ((n1 : Int) < (n0 : Int)))) (hN0 : 0 < N) (hs : n0 ≤ 100) :
    Calls Try.prog 4 #[.slice A0 n0 c0, .slice A1 n1 c1] W fun e w' => e = .returned (.bool true) ∧ Below W.heap.size W w' := by
  have l0n : N ≤ n0 := by omega
  have l1n : N ≤ n1 := by omega
  have HS := Aside0.mk (shown_true W)
  have hl0 : (n0 : Int) ≤ 100 := by omega
  have hN1 : (0 : Int) < (N : Int) := by omega
  have hN2 : (N : Int) ≤ 100 := by omega
  have hNc : N ≤ c0 := by omega
  have hNc' : (N : Int) ≤ (c0 : Int) := by omega
  have hlen0 : (l0.take N).length = N := by rw [List.length_take]; omega
  obtain ⟨x0, rfl, _⟩ := hr0.at_ 0 (by omega) (by omega)
  obtain ⟨x1, rfl, _⟩ := hr1.at_ 0 (by omega) (by omega)
  obtain ⟨F, hmany⟩ := many_tells (l0 := l0) (l1 := l1) (N := N) (by omega) (by omega) (by omega)
  have HMany := Aside0.mk (fun (w : World) (hb : Below W.heap.size W w) => (by
    have h := postroomlaw15_many.calls F (some x0) c0 (l0.take N) _ w (front_int (hr0.below hb) l0n) (by omega) hmany
    rw [hlen0] at h
    exact h))
  have HTime := Aside0.mk (fun (w : World) (hb : Below W.heap.size W w) (key t : Int) (ht : lastT ((both l0 l1).take N) key = some t) => (by
    have e : (l1.take n1) = l1 := List.take_of_length_le (by omega)
    have h1 := front_int (hr1.below hb) (Nat.le_refl n1)
    rw [e] at h1
    have h := postroomlaw15_timeOf.calls (N + 1) (some x0) c0 (l0.take N) (some x1) c1 l1 key t true w (front_int (hr0.below hb) l0n) (by omega) h1 (by omega) (timeOf_tells (by omega) (by omega) (by omega) ht)
    rw [hlen0, e1] at h
    exact h))
  have HK := Aside0.mk (fun (w : World) (hb : Below W.heap.size W w) (i : Nat) (hi : i < N) => (by
    obtain ⟨ad, ha, hc⟩ := (hr0.below hb).at_ (i : Int) (by omega) (by omega)
    cases ha
    simpa using hc : w.cell? (x0.add i) = some (.int .i64 (rd l0 i))))
  have HT := Aside0.mk (fun (w : World) (hb : Below W.heap.size W w) (i : Nat) (hi : i < N) => (by
    obtain ⟨ad, ha, hc⟩ := (hr1.below hb).at_ (i : Int) (by omega) (by omega)
    cases ha
    simpa using hc : w.cell? (x1.add i) = some (.int .u64 (rd l1 i))))
  have HW := Aside0.mk (fun (i : Nat) (hi : i < N) => rd_wf hw0 (by omega : i < l0.length))
  have HW1 := Aside0.mk (fun (i : Nat) (hi : i < N) => rd_wf hw1 (by omega : i < l1.length))
  have HE := Aside0.mk (And.intro e0 e1)
  have HL0 := Aside0.mk (fun (i : Nat) (h : i < N) => (by omega : (i : Int) < (n0 : Int)))
  have HL1 := Aside0.mk (fun (i : Nat) (h : i < N) => (by omega : (i : Int) < (n1 : Int)))
  have HL := Aside0.mk (And.intro l0n l1n)
  clear hmany hr0 hr1 hw0 hw1 e0 e1 l0n l1n hc0 hc1 hs hN0 hlen0
  rcases hN with ⟨hnN, hlt⟩ | ⟨hnN, hlt⟩
  all_goals
    subst hnN
    go_enter Try.func4, Try.ntmps4
    go_wp2_with (first
      | (go_at_call 8; refine HS.out.mono ?_; rintro e w1 ⟨rfl, hb1⟩)
      | (go_at_call 9; refine (solo_new (by assumption)).mono ?_; rintro e w2 ⟨D, rfl, hd2⟩))
    have H4 := Aside0.mk hd2
    clear hd2
    go_loopg [8] (N + 1) (fun k v wr => ∃ i : Nat, v = .int .i64 (i : Int) ∧ N - i < k ∧ i ≤ N ∧ Solo D (puts ((both l0 l1).take i) []) W wr)
    case atStart => exact ⟨0, rfl, by omega, by omega, H4.out⟩
    case round =>
      obtain ⟨i, rfl, hik, hiN, hd⟩ := hrel
      by_cases hi : i < N
      · have hi' : (i : Int) < (N : Int) := by omega
        have hin := HL0.out i hi
        have hin1 := HL1.out i hi
        have hi0 : (0 : Int) ≤ (i : Int) := by omega
        obtain ⟨kk, hkk⟩ : ∃ k, k = rd l0 i := ⟨_, rfl⟩
        obtain ⟨tt, htt⟩ : ∃ k, k = rd l1 i := ⟨_, rfl⟩
        have ck : wr.cell? (x0.add i) = some (.int .i64 kk) := by rw [hkk]; exact HK.out wr hd.below i hi
        have ct : wr.cell? (x1.add i) = some (.int .u64 tt) := by rw [htt]; exact HT.out wr hd.below i hi
        have e01 := And.intro HE.out HL.out
        have hlen := puts_len ((both l0 l1).take i) []
        rw [List.length_take] at hlen
        have hwk : (Lit.int .i64 kk).wf = true := hkk ▸ HW.out i hi
        have hz := both_at (l0 := l0) (l1 := l1) (i := i) (by omega) (by omega)
        rw [← hkk, ← htt] at hz
        have HZ := Aside0.mk hz
        generalize hMA : puts ((both l0 l1).take i) [] = MA at hd hlen
        have HM := Aside0.mk hMA
        have HI := Aside0.mk (And.intro hik hi)
        have HPA := Aside0.mk (solo_put (solo_drew hd) kk tt hwk (by simp at hlen; omega))
        clear hd hlen e01 hz hMA hkk htt hwk
        clear HS hik hiN H4
        go_wp2
        go_still_tail 9, (by kernel_rfl)
        go_wp2_with (go_at_call_of 11 (Value.pointer (some (⟨D, 0, none⟩ : Addr))); refine HPA.out.mono ?_; rintro e w5 ⟨rfl, hd5⟩)
        go_roundg (N - i)
        case measure => have := HI.out; omega
        case rel =>
          have h1 := HI.out
          refine ⟨i + 1, by go_num, by omega, by omega, ?_⟩
          rw [HZ.out, puts_snoc, HM.out]
          exact hd5
      · obtain rfl : N = i := by omega
        have e01 := And.intro HE.out HL.out
        have hlen := puts_len ((both l0 l1).take N) []
        rw [both_len (l0 := l0) (l1 := l1) (n := N) (by omega) (by omega)] at hlen
        have hM100 : (puts ((both l0 l1).take N) []).length ≤ 100 := by simp at hlen; omega
        have hmem : ∀ p, p ∈ puts ((both l0 l1).take N) [] → lastT ((both l0 l1).take N) p.1 = some p.2 ∧ 0 ≤ p.2 ∧ p.2 ≤ 18446744073709551615 := fun p hp => by
          refine ⟨?_, ?_⟩
          · rcases (mem_puts _ [] p).1 hp with h | ⟨_, h⟩
            · exact h
            · cases h
          · obtain ⟨m, hm, rfl⟩ := mem_both (by omega) (by omega) (puts_mem hp)
            exact u64_bounds (HW1.out m hm)
        generalize puts ((both l0 l1).take N) [] = M at hd hlen hM100 hmem HMany
        have H1 := Aside0.mk (solo_len (solo_drew hd))
        have H2 := Aside0.mk (fun (w : World) (h : Solo D M W w) => HMany.out w h.below)
        have H3 := Aside0.mk (fun (w : World) (h : Solo D M W w) => solo_len h)
        have HMM := Aside0.mk (And.intro hM100 hmem)
        clear hd hlen hM100 hmem HMany e01 H4 hik hiN HS HK HT HW HW1 HL0 HL1 HE HL
        have HU := Aside0.mk (And.intro (fun (A : Nat) (h : A = 5) => h) trivial)
        go_wp2
        go_region_with (first
          | (go_at_call 19; refine H1.out.mono ?_; rintro e v1 ⟨rfl, hv1⟩)
          | (go_at_call 20; refine (H2.out _ (by assumption)).mono ?_; rintro e v2 ⟨rfl, hv2⟩; replace hv2 := solo_below hv1 hv2.below; clear hv1))
        go_wp2_with (go_at_call 19; refine (H3.out _ (by assumption)).mono ?_; rintro e v3 ⟨rfl, hv3⟩; clear hv2)
        have H4 := Aside0.mk hv3
        clear hv3 H1 H2 H3
        go_loopg [10, 11, 12] (M.length + 1) (fun k a b v wr => ∃ (i : Nat) (T K : Int) (L : List Item), a = .int .u64 T ∧ b = .int .i64 K ∧ v = .int .i64 (i : Int) ∧ L.length < k ∧ i + L.length = M.length ∧ (∀ q ∈ L, q ∈ M) ∧ ((¬ 0 < (i : Int) ∧ T = 0) ∨ (0 < (i : Int) ∧ ∀ q ∈ L, lessB (K, T) q = true)) ∧ Solo D L W wr)
        case atStart => exact ⟨0, 0, 0, M, rfl, rfl, rfl, by omega, by omega, fun _ h => h, .inl ⟨by simp, rfl⟩, H4.out⟩
        case round =>
          obtain ⟨i, T, K, L, rfl, rfl, rfl, hLk, hiL, hsub, hord, hd⟩ := hrel
          cases hbest : best L with
          | none =>
            have hL := best_none hbest
            subst hL
            have hiM : ¬ (i : Int) < (M.length : Int) := by simp at hiL; omega
            have h0 : takeM ([] : List Item) 18446744073709551615 = ((0, false), []) := rfl
            have H1 := Aside0.mk (by have h := solo_take hd 18446744073709551615 (by simp); rw [h0] at h; exact h)
            have H2 := Aside0.mk (fun (w : World) (h : Solo D [] W w) => solo_len h)
            clear hd hLk hiL hsub hord H4 hbest h0 HMM HTime
            go_wp2_with (first
              | (go_at_call 15; refine H1.out.mono ?_; rintro e v1 ⟨rfl, hv1⟩)
              | (go_at_call 19; refine (H2.out _ (by assumption)).mono ?_; rintro e v2 ⟨rfl, hv2⟩; clear hv1))
            go_ret
            exact ⟨rfl, hv2.below⟩
          | some p =>
            obtain ⟨pk, pt⟩ := p
            have hb := best_spec hbest
            have hp := HMM.out.2 _ (hsub _ hb.1)
            have htk := take_some (now := 18446744073709551615) hbest hp.2.2
            have hdl := drop_one (solo_nodup hd) ⟨_, hb.1, rfl⟩
            have hiM : (i : Int) < (M.length : Int) := by omega
            have hM1 : (M.length : Int) ≤ 100 := by have := HMM.out.1; omega
            have hL9 : L.length < 900000 := by have := HMM.out.1; omega
            have H1 := Aside0.mk (by have h := solo_take hd 18446744073709551615 hL9; rw [htk] at h; exact h)
            have H2 := Aside0.mk (fun (w : World) (h : Solo D (dropM L pk) W w) => HTime.out w h.below pk pt hp.1)
            have hlt : ¬ pt < T := by
              rcases hord with ⟨_, rfl⟩ | ⟨_, h⟩
              · have := hp.2.1; simp only at this; omega
              · have := h _ hb.1
                simp [lessB] at this
                omega
            have HO := Aside0.mk (And.intro hLk (And.intro hiL (And.intro hsub (And.intro hdl (And.intro hb HMM.out.1)))))
            have hcase : (¬ 0 < (i : Int)) ∨ (0 < (i : Int) ∧ (pt == T) = false) ∨ (0 < (i : Int) ∧ (pt == T) = true ∧ ¬ pk ≤ K) := by
              rcases hord with ⟨h, _⟩ | ⟨h, hq⟩
              · exact .inl h
              · have hq := hq _ hb.1
                simp [lessB] at hq
                by_cases he : pt = T
                · exact .inr (.inr ⟨h, by simpa using he, by omega⟩)
                · exact .inr (.inl ⟨h, by simpa using he⟩)
            clear hd hLk hiL hsub hord H4 hb hp htk hdl hL9 hbest HMM HTime
            rcases hcase with hi0 | ⟨hi0, he⟩ | ⟨hi0, he, hk⟩
            all_goals
              go_wp2_with (first
                | (go_at_call 15; refine H1.out.mono ?_; rintro e v1 ⟨rfl, hv1⟩)
                | (go_at_call 21; refine (H2.out _ (by assumption)).mono ?_; rintro e v2 ⟨rfl, hv2⟩; replace hv2 := solo_below hv1 hv2.below; clear hv1))
              go_roundg L.length
              case measure => have := HO.out; omega
              case rel =>
                obtain ⟨h1, h2, h3, h4, h5, h6⟩ := HO.out
                have h4 : (dropM L pk).length + 1 = L.length := h4
                refine ⟨i + 1, pt, pk, dropM L pk, rfl, rfl, by go_num, by omega, by omega, fun q hq => h3 q (mem_drop.1 hq).1, .inr ⟨by omega, fun q hq => ?_⟩, hv2⟩
                have h7 := h5.2 q (mem_drop.1 hq).1
                cases h8 : lessB (pk, pt) q with
                | true => rfl
                | false => exact absurd (congrArg Prod.fst (less_anti h7 h8)) (mem_drop.1 hq).2
set_option maxRecDepth 100000 in
set_option maxHeartbeats 3200000 in
theorem walk_order9 (W : World) (A0 : Option Addr) (c0 : Nat) (n0 : Nat) (A1 : Option Addr) (c1 : Nat) (n1 : Nat) (hs : 100 < n0) :
    Calls Try.prog 4 #[.slice A0 n0 c0, .slice A1 n1 c1] W fun e w' => e = .returned (.bool true) ∧ Below W.heap.size W w' := by
  have HS := Aside0.mk (shown_true W)
  have hs' : (100 : Int) < (n0 : Int) := by omega
  clear hs
  go_enter Try.func4, Try.ntmps4
  go_wp2_with (first
    | (go_at_call 8; refine HS.out.mono ?_; rintro e w1 ⟨rfl, hb1⟩)
    | (go_at_call 9; refine (solo_new (by assumption)).mono ?_; rintro e w2 ⟨D, rfl, hd2⟩))
  go_ret
  exact ⟨rfl, hd2.below⟩
set_option maxRecDepth 100000 in
set_option maxHeartbeats 3200000 in
theorem walk_order0 (W : World) (A0 : Option Addr) (c0 : Nat) (n0 : Nat) (A1 : Option Addr) (c1 : Nat) (n1 : Nat)
    (hN : (0 = n1 ∧ (n1 : Int) < (n0 : Int)) ∨ (0 = n0 ∧ ¬ ((n1 : Int) < (n0 : Int)))) (hs : n0 ≤ 100) :
    Calls Try.prog 4 #[.slice A0 n0 c0, .slice A1 n1 c1] W fun e w' => e = .returned (.bool true) ∧ Below W.heap.size W w' := by
  have HS := Aside0.mk (shown_true W)
  have hs' : ¬ (100 : Int) < (n0 : Int) := by omega
  have HMany := Aside0.mk (fun (w : World) (A : Option Addr) => postroomlaw15_many.calls 1 A c0 [] 0 w ⟨rfl, by simp, fun h => absurd h (Nat.lt_irrefl 0)⟩ (Nat.zero_le _) (by simp [postroomlaw15_many.f, postroomlaw15_many.l0]))
  have h0 : takeM ([] : List Item) 18446744073709551615 = ((0, false), []) := rfl
  have H2 := Aside0.mk (fun (w : World) (D : Nat) (h : Solo D [] W w) => solo_len h)
  have H3 := Aside0.mk (fun (w : World) (D : Nat) (h : Solo D [] W w) => (by have h := solo_take h 18446744073709551615 (by simp); rw [h0] at h; exact h))
  clear h0 hs
  rcases hN with ⟨hnN, hlt⟩ | ⟨hnN, hlt⟩
  all_goals
    subst hnN
    go_enter Try.func4, Try.ntmps4
    go_wp2_with (first
      | (go_at_call 8; refine HS.out.mono ?_; rintro e w1 ⟨rfl, hb1⟩)
      | (go_at_call 9; refine (solo_new (by assumption)).mono ?_; rintro e w2 ⟨D, rfl, hd2⟩))
    have H4 := Aside0.mk hd2
    clear hd2
    go_loopg [8] 1 (fun k v wr => 0 < k ∧ v = .int .i64 0 ∧ Solo D [] W wr)
    case atStart => exact ⟨by omega, rfl, H4.out⟩
    case round =>
      obtain ⟨_, rfl, hd⟩ := hrel
      have H1 := Aside0.mk (H2.out _ _ (solo_drew hd))
      have HD := Aside0.mk hd
      clear H4 hd
      go_wp2
      go_region_with (first
        | (go_at_call 19; refine H1.out.mono ?_; rintro e v1 ⟨rfl, hv1⟩)
        | (go_at_call 20; refine (HMany.out _ _).mono ?_; rintro e v2 ⟨rfl, hv2⟩; replace hv2 := solo_below hv1 hv2.below; clear hv1))
      go_wp2_with (go_at_call 19; refine (H2.out _ _ (by assumption)).mono ?_; rintro e v3 ⟨rfl, hv3⟩; clear hv2)
      have H4 := Aside0.mk hv3
      clear hv3
      go_loopg [12] 1 (fun k v wr => 0 < k ∧ v = .int .i64 0 ∧ Solo D [] W wr)
      case atStart => exact ⟨by omega, rfl, H4.out⟩
      case round =>
        obtain ⟨_, rfl, hd⟩ := hrel
        have H1 := Aside0.mk (H3.out _ _ hd)
        clear hd H4
        go_wp2_with (first
          | (go_at_call 15; refine H1.out.mono ?_; rintro e v4 ⟨rfl, hv4⟩)
          | (go_at_call 19; refine (H2.out _ _ (by assumption)).mono ?_; rintro e v5 ⟨rfl, hv5⟩; clear hv4))
        go_ret
        exact ⟨rfl, hv5.below⟩
/-- DueOrder, walked whole. -/
theorem DueOrderW (W : World) (A0 : Option Addr) (c0 : Nat) (l0 : List Int) (hr0 : ReadsInt W .i64 A0 l0.length l0) (hc0 : l0.length ≤ c0) (hw0 : ∀ x ∈ l0, (Lit.int .i64 x).wf = true)
    (A1 : Option Addr) (c1 : Nat) (l1 : List Int) (hr1 : ReadsInt W .u64 A1 l1.length l1) (hc1 : l1.length ≤ c1) (hw1 : ∀ x ∈ l1, (Lit.int .u64 x).wf = true) :
    Calls Try.prog 4 #[.slice A0 l0.length c0, .slice A1 l1.length c1] W fun e w' => e = .returned (.bool true) ∧ Below W.heap.size W w' := by
  by_cases h9 : 100 < l0.length
  · exact walk_order9 W A0 c0 _ A1 c1 _ h9
  · by_cases hlt : (l1.length : Int) < (l0.length : Int)
    · by_cases hs : 0 = l1.length
      · exact walk_order0 W A0 c0 _ A1 c1 _ (.inl ⟨hs, hlt⟩) (by omega)
      · exact walk_order W A0 c0 l0 _ rfl hr0 hc0 hw0 A1 c1 l1 _ rfl hr1 hc1 hw1 l1.length (.inl ⟨rfl, hlt⟩) (by omega) (by omega)
    · by_cases hs : 0 = l0.length
      · exact walk_order0 W A0 c0 _ A1 c1 _ (.inr ⟨hs, hlt⟩) (by omega)
      · exact walk_order W A0 c0 l0 _ rfl hr0 hc0 hw0 A1 c1 l1 _ rfl hr1 hc1 hw1 l0.length (.inr ⟨rfl, hlt⟩) (by omega) (by omega)

end Go.Proofs.Ytlkcekldddpjbaa.Due
