/- The walk of DueDrops. -/
import Derived.Test.YtlkcekldddpjbaaDueY
import Derived.Deep.RegionHeld3
import Derived.Deep.RegionLaw
import Derived.Deep.AppendLies
import Derived.RegionTactic
import Derived.ChangeAlike
import Derived.BigRegion
import Derived.Outline
import Derived.Deep.DeepCutAuto
import Derived.Maps.Keyed
import Derived.WideKeyEntry
import Derived.Deep.LoopGhost
import Derived.StillTailTactics
namespace Go.Proofs.Ytlkcekldddpjbaa.Due
open Go.RowKit Go.Proofs.YtlkcekldddpjbaaW.PrintWords Go.Proofs.YtlkcekldddpjbaaW.PrintLast Go.Proofs.YtlkcekldddpjbaaW.PrintMore
open Go.MapKept (Stamped)
open Go.ChangeMaps (setBlock)
open Go.Maps (Keyed int_keyed keyOf_int_mk)
set_option linter.unusedVariables false
set_option linter.unusedSimpArgs false

open Go.Proofs.Ytlkcekldddpjbaa.PDuePlays
set_option maxRecDepth 100000 in
set_option maxHeartbeats 6400000 in
theorem walk_drops (W : World) (A0 : Option Addr) (c0 : Nat) (l0 : List Int) (n0 : Nat) (e0 : l0.length = n0) (hr0 : ReadsInt W .i64 A0 n0 l0) (hc0 : n0 ≤ c0) (hw0 : ∀ x ∈ l0, (Lit.int .i64 x).wf = true)
    (A1 : Option Addr) (c1 : Nat) (l1 : List Int) (n1 : Nat) (e1 : l1.length = n1) (hr1 : ReadsInt W .u64 A1 n1 l1) (hc1 : n1 ≤ c1) (a2 : Int) (hw2 : (Lit.int .i64 a2).wf = true)
    (N : Nat) (hN : (N = n1 ∧ (n1 : Int) < (n0 : Int)) ∨ (N = n0 ∧ ¬ ((n1 : Int) < (n0 : Int)))) (hN0 : 0 < N) (hs : n0 ≤ 100) :
    Calls Try.prog 6 #[.slice A0 n0 c0, .slice A1 n1 c1, .int .i64 a2] W fun e w' => e = .returned (.bool true) ∧ Below W.heap.size W w' := by
  have l0n : N ≤ n0 := by omega
  have l1n : N ≤ n1 := by omega
  have HS := Aside0.mk (shown_true W)
  obtain ⟨r, hr, hp⟩ := pick_some a2 N hw2 hN0
  have HP := Aside0.mk (fun (w : World) => postroomlaw15_pick.calls a2 (N : Int) (r : Int) w hp)
  have hl0 : (n0 : Int) ≤ 100 := by omega
  have hN1 : (0 : Int) < (N : Int) := by omega
  have hN2 : (N : Int) ≤ 100 := by omega
  obtain ⟨x0, rfl, _⟩ := hr0.at_ 0 (by omega) (by omega)
  obtain ⟨x1, rfl, _⟩ := hr1.at_ 0 (by omega) (by omega)
  have HK := Aside0.mk (fun (w : World) (hb : Below W.heap.size W w) (i : Nat) (hi : i < N) => (by
    obtain ⟨ad, ha, hc⟩ := (hr0.below hb).at_ (i : Int) (by omega) (by omega)
    cases ha
    simpa using hc : w.cell? (x0.add i) = some (.int .i64 (rd l0 i))))
  have HT := Aside0.mk (fun (w : World) (hb : Below W.heap.size W w) (i : Nat) (hi : i < N) => (by
    obtain ⟨ad, ha, hc⟩ := (hr1.below hb).at_ (i : Int) (by omega) (by omega)
    cases ha
    simpa using hc : w.cell? (x1.add i) = some (.int .u64 (rd l1 i))))
  have HW := Aside0.mk (fun (i : Nat) (hi : i < N) => (by
    have h : i < l0.length := by omega
    have : rd l0 i = l0[i] := by unfold rd; simp [h]
    rw [this]
    exact hw0 _ (List.getElem_mem h) : (Lit.int .i64 (rd l0 i)).wf = true))
  have HE := Aside0.mk (And.intro e0 e1)
  have hr' : (r : Int) < (n0 : Int) := by omega
  have hr0' : (0 : Int) ≤ (r : Int) := by omega
  have hnz : ¬ ((N : Int) = 0) := by omega
  have HL0 := Aside0.mk (fun (i : Nat) (h : i < N) => (by omega : (i : Int) < (n0 : Int)))
  have HL1 := Aside0.mk (fun (i : Nat) (h : i < N) => (by omega : (i : Int) < (n1 : Int)))
  have HL := Aside0.mk (And.intro l0n l1n)
  clear hp hr0 hr1 hw0 e0 e1 l0n l1n hc0 hc1 hs hN0
  rcases hN with ⟨hnN, hlt⟩ | ⟨hnN, hlt⟩
  all_goals
    subst hnN
    go_enter Try.func6, Try.ntmps6
    go_wp2_with (first
      | (go_at_call 8; refine HS.out.mono ?_; rintro e w1 ⟨rfl, hb1⟩)
      | (go_at_call 9; refine (solo_new (by assumption)).mono ?_; rintro e w2 ⟨D, rfl, hd2⟩)
      | (go_at_call 9; refine (duo_new (by assumption)).mono ?_; rintro e w3 ⟨E, rfl, hd3⟩)
      | (go_at_call 10; refine (HP.out _).mono ?_; rintro e w4 ⟨rfl, hd4⟩; replace hd4 := duo_below hd3 hd4.below; have ck := HK.out w4 hd4.below r hr))
    · go_ret
      exact ⟨rfl, hd3.below⟩
    obtain ⟨key, hkey⟩ : ∃ k, k = rd l0 r := ⟨_, rfl⟩
    rw [← hkey] at ck
    have HKEY := Aside0.mk hkey
    have H4 := Aside0.mk hd4
    clear hd2 hd3 hd4 ck
    rw [← hkey]
    clear hkey
    go_loopg [12] (N + 1) (fun k v wr => ∃ i : Nat, v = .int .i64 (i : Int) ∧ N - i < k ∧ i ≤ N ∧ Duo D (puts ((both l0 l1).take i) []) E (puts (((both l0 l1).take i).filter fun p => !(p.1 == key)) []) W wr)
    case atStart => exact ⟨0, rfl, by omega, by omega, H4.out⟩
    case round =>
      obtain ⟨i, rfl, hik, hiN, hd⟩ := hrel
      by_cases hi : i < N
      · have hi' : (i : Int) < (N : Int) := by omega
        have hin := HL0.out i hi
        have hin1 := HL1.out i hi
        have hi0 : (0 : Int) ≤ (i : Int) := by omega
        obtain ⟨kk, hkk⟩ : ∃ k, k = rd l0 i := ⟨_, rfl⟩
        obtain ⟨tt, htt⟩ : ∃ k, k = rd l1 i := ⟨_, rfl⟩
        have HKI := Aside0.mk (fun (w : World) (hb : Below W.heap.size W w) => (by rw [hkk]; exact HK.out w hb i hi : w.cell? (x0.add i) = some (.int .i64 kk)))
        have HTI := Aside0.mk (fun (w : World) (hb : Below W.heap.size W w) => (by rw [htt]; exact HT.out w hb i hi : w.cell? (x1.add i) = some (.int .u64 tt)))
        have ck := HKI.out wr hd.below
        have ct := HTI.out wr hd.below
        have e01 := And.intro HE.out HL.out
        have hlen := puts_len ((both l0 l1).take i) []
        have hlen2 := puts_len (((both l0 l1).take i).filter fun p => !(p.1 == key)) []
        have hfl := List.length_filter_le (fun p : Item => !(p.1 == key)) ((both l0 l1).take i)
        rw [List.length_take] at hlen hfl
        have hwk : (Lit.int .i64 kk).wf = true := hkk ▸ HW.out i hi
        have hz := both_at (l0 := l0) (l1 := l1) (i := i) (by omega) (by omega)
        rw [← hkk, ← htt] at hz
        have HZ := Aside0.mk hz
        generalize hMA : puts ((both l0 l1).take i) [] = MA at hd hlen
        generalize hMB : puts (((both l0 l1).take i).filter fun p => !(p.1 == key)) [] = MB at hd hlen2
        have HM := Aside0.mk (And.intro hMA hMB)
        have HI := Aside0.mk (And.intro hik hi)
        have HPA := Aside0.mk (duo_put (duo_drew hd) kk tt hwk (by simp at hlen; omega))
        have HPB := Aside0.mk (fun (w : World) (h : Duo D (putM MA kk tt) E MB W w) => duo_put (duo_drew h).turn kk tt hwk (by simp at hlen2; omega))
        clear hd hlen hlen2 hfl e01 hz hMA hMB hkk htt hwk
        clear HP HS hik hiN H4
        go_wp2
        go_still_tail 9, (by kernel_rfl)
        have hkb : (kk != key) = true ∨ (kk != key) = false := by cases (kk != key) <;> simp
        rcases hkb with hkb | hkb
        · go_wp2_with (go_at_call_of 11 (Value.pointer (some (⟨D, 0, none⟩ : Addr))); refine HPA.out.mono ?_; rintro e w5 ⟨rfl, hd5⟩; have ck5 := HKI.out w5 hd5.below; have ct5 := HTI.out w5 hd5.below)
          go_still_tail 9, (by kernel_rfl)
          have HPC := Aside0.mk (HPB.out _ hd5)
          clear hd5
          go_wp2_with (go_at_call_of 11 (Value.pointer (some (⟨E, 0, none⟩ : Addr))); refine HPC.out.mono ?_; rintro e w6 ⟨rfl, hd6⟩)
          go_roundg (N - i)
          case measure => have := HI.out; omega
          case rel =>
            have h1 := HI.out
            refine ⟨i + 1, by go_num, by omega, by omega, ?_⟩
            rw [HZ.out, puts_snoc, HM.out.1, List.filter_append, List.filter_cons_of_pos (by simpa using hkb), List.filter_nil, puts_snoc, HM.out.2]
            exact hd6.turn
        · go_wp2_with (go_at_call_of 11 (Value.pointer (some (⟨D, 0, none⟩ : Addr))); refine HPA.out.mono ?_; rintro e w5 ⟨rfl, hd5⟩; have ck5 := HKI.out w5 hd5.below)
          go_roundg (N - i)
          case measure => have := HI.out; omega
          case rel =>
            have h1 := HI.out
            refine ⟨i + 1, by go_num, by omega, by omega, ?_⟩
            rw [HZ.out, puts_snoc, HM.out.1, List.filter_append, List.filter_cons_of_neg (by simpa using hkb), List.filter_nil, List.append_nil, HM.out.2]
            exact hd5
      · obtain rfl : i = N := by omega
        have e01 := And.intro HE.out HL.out
        have hZl := both_len (l0 := l0) (l1 := l1) (n := i) (by omega) (by omega)
        have hkeyin := both_has (l0 := l0) (l1 := l1) (r := r) (n := i) (by omega) (by omega) hr
        rw [← HKEY.out] at hkeyin
        clear e01
        have hlen := puts_len ((both l0 l1).take i) []
        have hlen2 := puts_len (((both l0 l1).take i).filter fun p => !(p.1 == key)) []
        have hfl := List.length_filter_le (fun p : Item => !(p.1 == key)) ((both l0 l1).take i)
        rw [hZl] at hlen hfl
        have hhas : hasM (puts ((both l0 l1).take i) []) key = true := by rw [has_puts, hkeyin]; rfl
        have hdr : dropM (puts ((both l0 l1).take i) []) key = puts (((both l0 l1).take i).filter fun p => !(p.1 == key)) [] := drop_puts key _ []
        have hhas2 := has_drop (puts ((both l0 l1).take i) []) key
        have hdr2 := drop_twice (puts ((both l0 l1).take i) []) key
        rw [hdr] at hhas2 hdr2
        generalize hMA : puts ((both l0 l1).take i) [] = MA at hd hlen hhas hdr hdr2
        generalize hMB : puts (((both l0 l1).take i).filter fun p => !(p.1 == key)) [] = MB at hd hlen2 hdr hhas2 hdr2
        have hMA9 : MA.length < 900000 := by simp at hlen; omega
        have hMB9 : MB.length < 900000 := by simp at hlen2; omega
        have hwk : (Lit.int .i64 key).wf = true := HKEY.out ▸ HW.out r hr
        have H1 := Aside0.mk (by have h := duo_drop hd key hwk hMA9; rw [hhas, hdr] at h; exact h)
        have H2 := Aside0.mk (fun (w : World) (h : Duo D MB E MB W w) => (by have h := duo_drop h key hwk hMB9; rw [hhas2, hdr2] at h; exact h))
        have H3 := Aside0.mk (fun (w : World) (h : Duo D MB E MB W w) => (by have h := duo_drop h.turn key hwk hMB9; rw [hhas2, hdr2] at h; exact h))
        have H5 := Aside0.mk (fun (w : World) (h : Duo E MB D MB W w) => duo_len h.turn)
        have H6 := Aside0.mk (fun (w : World) (h : Duo D MB E MB W w) => duo_len h.turn)
        have hMBi : MB.length ≤ i := by simp at hlen2; omega
        clear hd hlen hlen2 hfl hhas hdr hhas2 hdr2 hMA hMB hMA9 hwk hkeyin hZl H4 HP HS HW HK HT hik hiN
        go_wp2_with (first
          | (go_at_call_of 13 (Value.pointer (some (⟨D, 0, none⟩ : Addr))); refine H1.out.mono ?_; rintro e v1 ⟨rfl, hv1⟩)
          | (go_at_call_of 13 (Value.pointer (some (⟨D, 0, none⟩ : Addr))); refine (H2.out _ (by assumption)).mono ?_; rintro e v2 ⟨rfl, hv2⟩; clear hv1)
          | (go_at_call_of 13 (Value.pointer (some (⟨E, 0, none⟩ : Addr))); refine (H3.out _ (by assumption)).mono ?_; rintro e v3 ⟨rfl, hv3⟩; clear hv2)
          | (go_at_call_of 19 (Value.pointer (some (⟨D, 0, none⟩ : Addr))); refine (H5.out _ (by assumption)).mono ?_; rintro e v4 ⟨rfl, hv4⟩; clear hv3)
          | (go_at_call_of 19 (Value.pointer (some (⟨E, 0, none⟩ : Addr))); refine (H6.out _ (by assumption)).mono ?_; rintro e v5 ⟨rfl, hv5⟩; clear hv4))
        clear H1 H2 H3 H5 H6
        have H4 := Aside0.mk (And.intro hv5 hMBi)
        clear hv5 hMBi hnz
        go_loopg [13] (i + 2) (fun k v wr => ∃ (j : Nat) (M : List Item), v = .int .i64 (j : Int) ∧ i + 1 - j < k ∧ j ≤ i + 1 ∧ M.length ≤ i ∧ Duo E M D M W wr)
        case atStart => exact ⟨0, MB, rfl, by omega, by omega, H4.out.2, H4.out.1⟩
        case round =>
          obtain ⟨j, M, rfl, hjk, hj, hM, hd⟩ := hrel
          have hi100 : (i : Int) ≤ 100 := by omega
          have HB := Aside0.mk (And.intro hjk hM)
          have HD := Aside0.mk hd
          by_cases hji : j ≤ i
          · have hji' : (j : Int) ≤ (i : Int) := by omega
            have htl := take_len M 18446744073709551615
            have H1 := Aside0.mk (duo_take (hd.turn) 18446744073709551615 (by omega))
            have H2 := Aside0.mk (fun (w : World) (h : Duo D (takeM M 18446744073709551615).2 E M W w) => duo_take h.turn 18446744073709551615 (by omega))
            generalize (takeM M 18446744073709551615).2 = M' at H1 H2 htl
            generalize (takeM M 18446744073709551615).1.1 = kx at H1 H2
            generalize (takeM M 18446744073709551615).1.2 = bx at H1 H2
            have HM := Aside0.mk htl
            clear hd htl hM hjk H4
            go_wp2_with (first
              | (go_at_call_of 15 (Value.pointer (some (⟨D, 0, none⟩ : Addr))); refine H1.out.mono ?_; rintro e v1 ⟨rfl, hv1⟩)
              | (go_at_call_of 15 (Value.pointer (some (⟨E, 0, none⟩ : Addr))); refine (H2.out _ (by assumption)).mono ?_; rintro e v2 ⟨rfl, hv2⟩))
            go_roundg (i + 1 - j)
            case measure => have := HB.out; omega
            case rel =>
              have h1 := HB.out
              have h2 := HM.out
              exact ⟨j + 1, M', by go_num, by omega, by omega, by omega, hv2⟩
          · have hji' : ¬ (j : Int) ≤ (i : Int) := by omega
            clear hd hM hjk H4
            go_wp2
            go_ret
            exact ⟨rfl, HD.out.below⟩
set_option maxRecDepth 100000 in
set_option maxHeartbeats 3200000 in
theorem walk_drops0 (W : World) (A0 : Option Addr) (c0 : Nat) (n0 : Nat) (A1 : Option Addr) (c1 : Nat) (n1 : Nat) (a2 : Int)
    (N : Nat) (hN : (N = n1 ∧ (n1 : Int) < (n0 : Int)) ∨ (N = n0 ∧ ¬ ((n1 : Int) < (n0 : Int)))) (hs : 100 < n0 ∨ N = 0) :
    Calls Try.prog 6 #[.slice A0 n0 c0, .slice A1 n1 c1, .int .i64 a2] W fun e w' => e = .returned (.bool true) ∧ Below W.heap.size W w' := by
  have HS := Aside0.mk (shown_true W)
  have hs' : (100 : Int) < (n0 : Int) ∨ ((¬ (100 : Int) < (n0 : Int)) ∧ N = 0) := by omega
  clear hs
  rcases hs' with hs | ⟨hs, hs0⟩
  all_goals rcases hN with ⟨hnN, hlt⟩ | ⟨hnN, hlt⟩
  all_goals try subst hs0
  all_goals subst hnN
  all_goals
    go_enter Try.func6, Try.ntmps6
    go_wp2_with (first
      | (go_at_call 8; refine HS.out.mono ?_; rintro e w1 ⟨rfl, hb1⟩)
      | (go_at_call 9; refine (solo_new (by assumption)).mono ?_; rintro e w2 ⟨D, rfl, hd2⟩)
      | (go_at_call 9; refine (duo_new (by assumption)).mono ?_; rintro e w3 ⟨E, rfl, hd3⟩))
    go_ret
    exact ⟨rfl, hd3.below⟩
/-- DueDrops, walked whole. -/
theorem DueDropsW (W : World) (A0 : Option Addr) (c0 : Nat) (l0 : List Int) (hr0 : ReadsInt W .i64 A0 l0.length l0) (hc0 : l0.length ≤ c0) (hw0 : ∀ x ∈ l0, (Lit.int .i64 x).wf = true)
    (A1 : Option Addr) (c1 : Nat) (l1 : List Int) (hr1 : ReadsInt W .u64 A1 l1.length l1) (hc1 : l1.length ≤ c1) (_hw1 : ∀ x ∈ l1, (Lit.int .u64 x).wf = true) (a2 : Int) (hw2 : (Lit.int .i64 a2).wf = true) :
    Calls Try.prog 6 #[.slice A0 l0.length c0, .slice A1 l1.length c1, .int .i64 a2] W fun e w' => e = .returned (.bool true) ∧ Below W.heap.size W w' := by
  by_cases hlt : (l1.length : Int) < (l0.length : Int)
  · by_cases hs : 100 < l0.length ∨ l1.length = 0
    · exact walk_drops0 W A0 c0 _ A1 c1 _ a2 l1.length (.inl ⟨rfl, hlt⟩) hs
    · exact walk_drops W A0 c0 l0 _ rfl hr0 hc0 hw0 A1 c1 l1 _ rfl hr1 hc1 a2 hw2 l1.length (.inl ⟨rfl, hlt⟩) (by omega) (by omega)
  · by_cases hs : 100 < l0.length ∨ l0.length = 0
    · exact walk_drops0 W A0 c0 _ A1 c1 _ a2 l0.length (.inr ⟨rfl, hlt⟩) hs
    · exact walk_drops W A0 c0 l0 _ rfl hr0 hc0 hw0 A1 c1 l1 _ rfl hr1 hc1 a2 hw2 l0.length (.inr ⟨rfl, hlt⟩) (by omega) (by omega)

end Go.Proofs.Ytlkcekldddpjbaa.Due
