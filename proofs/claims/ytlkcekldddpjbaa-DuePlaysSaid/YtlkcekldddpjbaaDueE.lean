/- What down of the heap does. -/
import Derived.Test.YtlkcekldddpjbaaDueU
import Derived.Deep.RegionHeld3
import Derived.Deep.RegionLaw
import Derived.Deep.AppendLies
import Derived.RegionTactic
import Derived.ChangeAlike
import Derived.BigRegion
import Derived.Outline
import Derived.Deep.DeepCutAuto
import Derived.Maps.Keyed
import Derived.WideKeyEntry
import Derived.Deep.LoopGhost
import Derived.StillTailTactics
namespace Go.Proofs.Ytlkcekldddpjbaa.Due
open Go.RowKit Go.Proofs.YtlkcekldddpjbaaW.PrintWords Go.Proofs.YtlkcekldddpjbaaW.PrintLast Go.Proofs.YtlkcekldddpjbaaW.PrintMore
open Go.MapKept (Stamped)
open Go.ChangeMaps (setBlock)
open Go.Maps (Keyed int_keyed keyOf_int_mk)
set_option linter.unusedVariables false
set_option linter.unusedSimpArgs false

/-- One child is the least. -/
theorem min_one {L : List Item} {n i c : Nat} (hc : c = 2 * i + 1) (h2 : ¬ 2 * i + 2 < n) : ∀ j, 0 < j → j < n → (j - 1) / 2 = i → lessB (it L j) (it L c) = false := fun j h0 hj hp => by
  have : j = c := by omega
  rw [this]
  exact less_self _
theorem min_two {L : List Item} {n i c : Nat} (b : Bool) (hb : lessB (it L (2 * i + 2)) (it L (2 * i + 1)) = b) (hc : c = if b then 2 * i + 2 else 2 * i + 1) : ∀ j, 0 < j → j < n → (j - 1) / 2 = i → lessB (it L j) (it L c) = false := fun j h0 hj hp => by
  have : j = 2 * i + 1 ∨ j = 2 * i + 2 := by omega
  cases b
  · rw [if_neg (by simp)] at hc
    subst hc
    rcases this with rfl | rfl
    · exact less_self _
    · exact hb
  · rw [if_pos rfl] at hc
    subst hc
    rcases this with rfl | rfl
    · exact less_not hb
    · exact less_self _
/-- What down tells. -/
def DownOut (ok : Nat → Prop) (R n i0 : Nat) (L : List Item) (W : World) (e : Ending) (w' : World) : Prop :=
  ∃ (b : Bool) (L' : List Item), e = .returned (.bool b) ∧ Moved ok W w' ∧ RowAt w' ok R L' ∧ Same L' L ∧ (if b = true then HeapTo L' n else UpI L' n i0) ∧ ∀ k, n ≤ k → it L' k = it L k
theorem down_out {ok : Nat → Prop} {R n i0 i : Nat} {L L' : List Item} {W w : World} (hi : i0 ≤ i) (hM : Moved ok W w) (hR : RowAt w ok R L') (hS : Same L' L) (hK : ∀ k, n ≤ k → it L' k = it L k) (hD : DownI L' n i0 i)
    (he : ∀ j, 0 < j → j < n → (j - 1) / 2 = i → lessB (it L' j) (it L' i) = false) : DownOut ok R n i0 L W (.returned (.bool (decide (i0 < i)))) w := by
  have := down_end hD he
  refine ⟨_, L', rfl, hM, hR, hS, ?_, hK⟩
  by_cases h : i0 < i
  · rw [if_pos h] at this
    rw [if_pos (by simpa using h)]
    exact this
  · rw [if_neg h] at this
    rw [if_neg (by simpa using h)]
    exact this (by omega)
theorem down_next {ok : Nat → Prop} {R n i0 i c : Nat} {L L' : List Item} {W w : World} (hn : n ≤ L.length) (hi : i0 ≤ i) (hS : Same L' L) (hK : ∀ k, n ≤ k → it L' k = it L k) (hD : DownI L' n i0 i) (hc : c < n) (hc0 : 0 < c) (hp : (c - 1) / 2 = i)
    (hl : lessB (it L' c) (it L' i) = true) (hmin : ∀ j, 0 < j → j < n → (j - 1) / 2 = i → lessB (it L' j) (it L' c) = false) :
    Same (sw L' i c) L ∧ DownI (sw L' i c) n i0 c ∧ ∀ k, n ≤ k → it (sw L' i c) k = it L k := by
  have hl' := hS.1
  refine ⟨(sw_same (by omega) (by omega)).trans hS, down_step hD (by omega) hi hc hc0 hp hl hmin, fun k hk => ?_⟩
  rw [it_sw (by omega) (by omega), if_neg (by omega), if_neg (by omega)]
  exact hK k hk
set_option maxRecDepth 100000 in
set_option maxHeartbeats 6400000 in
theorem down_row (W : World) (ok : Nat → Prop) (R : Nat) (L : List Item) (n i0 : Nat) (h : RowAt W ok R L) (hD : DownI L n i0 i0) (hn : n ≤ L.length) (hi0 : i0 < n) (hlen : L.length < 1000000) :
    Calls Try.prog 26 #[.iface 56 (.agg #[.pointer (some ⟨R, 0, none⟩)]), .int .i64 (i0 : Int), .int .i64 (n : Int)] W fun e w' => DownOut ok R n i0 L W e w' := by
  generalize hQ : (fun e w' => DownOut ok R n i0 L W e w') = Q
  have HQ := Aside0.mk hQ
  clear hQ
  go_enter Try.func26, Try.ntmps26
  go_wp2
  go_loopg [7] (n - i0) (fun k v wr => ∃ (i : Nat) (L' : List Item), v = .int .i64 (i : Int) ∧ n - i ≤ k ∧ i < n ∧ i0 ≤ i ∧ Moved ok W wr ∧ RowAt wr ok R L' ∧ Same L' L ∧ DownI L' n i0 i ∧ ∀ k, n ≤ k → it L' k = it L k)
  case atStart => exact ⟨i0, L, rfl, by omega, hi0, Nat.le_refl _, Moved.refl _ _, h, Same.refl L, hD, fun _ _ => rfl⟩
  case round =>
    obtain ⟨i, L', rfl, hik, hin, hi, hM, hR, hS, hI, hK⟩ := hrel
    have hl' : L'.length = L.length := hS.1
    clear hD h
    have HI := Aside0.mk (And.intro hI (And.intro hM (And.intro hS (And.intro hK hR))))
    obtain ⟨c1, hc1⟩ : ∃ c, c = 2 * i + 1 := ⟨_, rfl⟩
    have hq1 : 2 * (i : Int) + 1 = (c1 : Int) := by omega
    have bc1 : (c1 : Int) ≤ 9000000 := by omega
    have bc0 : 0 ≤ (c1 : Int) := by omega
    have HC := Aside0.mk hc1
    by_cases h1 : n ≤ c1
    · have h1' : (n : Int) ≤ (c1 : Int) := by omega
      clear hI hM hS hK hR hc1
      go_wp2
      have hc1 := HC.out
      obtain ⟨hI, hM, hS, hK, hR⟩ := HI.out
      rw [← HQ.out]
      exact down_out hi hM hR hS hK hI (fun j h0 hj hp => by omega)
    · have h1' : ¬ (n : Int) ≤ (c1 : Int) := by omega
      obtain ⟨c2, hc2⟩ : ∃ c, c = 2 * i + 2 := ⟨_, rfl⟩
      have hq2 : (c1 : Int) + 1 = (c2 : Int) := by omega
      have bc2 : (c2 : Int) ≤ 9000001 := by omega
      have bc3 : 0 ≤ (c2 : Int) := by omega
      have i0' := it_at (L := L') (k := i) (by omega)
      have i1 := it_at (L := L') (k := c1) (by omega)
      have ml := method_less R
      have ms := method_swap R
      by_cases h2 : c2 < n
      · have h2' : (c2 : Int) < (n : Int) := by omega
        have i2 := it_at (L := L') (k := c2) (by omega)
        have HA := Aside0.mk (less_row wr ok R L' c2 c1 _ _ hR i2 i1)
        have HC2 := Aside0.mk hc2
        generalize hA : lessB (it L' c2) (it L' c1) = a at HA
        have HA' := Aside0.mk hA
        clear hA
        cases a
        · have HL := Aside0.mk (fun (w1 : World) (hb : Below wr.heap.size wr w1) => less_row w1 ok R L' c1 i _ _ (row_below hR hb) i1 i0')
          have HS := Aside0.mk (fun (w1 w2 : World) (hb : Below wr.heap.size wr w1) (hb2 : Below w1.heap.size w1 w2) => swap_row w2 ok R L' i c1 _ _ (row_below (row_below hR hb) hb2) i0' i1 (by omega))
          clear hI hM hS hK hR i0' i1 i2 hc1 hc2
          generalize hB : lessB (it L' c1) (it L' i) = b at HL
          have HB := Aside0.mk hB
          clear hB
          cases b
          · go_wp2_with (first | (go_at_call_of 43 (Value.int .i64 (c2 : Int)); refine HA.out.mono ?_; rintro e w1 ⟨rfl, hb⟩) | (go_at_call_of 43 (Value.int .i64 (i : Int)); refine (HL.out _ (by assumption)).mono ?_; rintro e w2 ⟨rfl, hb2⟩))
            have hc1 := HC.out
            have hc2 := HC2.out
            obtain ⟨hI, hM, hS, hK, hR⟩ := HI.out
            rw [← HQ.out]
            exact down_out hi ((hM.trans (moved_below hb)).trans (moved_below hb2)) (row_below (row_below hR hb) hb2) hS hK hI (fun j h0 hj hp => by
              have : j = c1 ∨ j = c2 := by omega
              rcases this with rfl | rfl
              · exact HB.out
              · exact less_trans HB.out HA'.out)
          · go_wp2_with (first | (go_at_call_of 43 (Value.int .i64 (c2 : Int)); refine HA.out.mono ?_; rintro e w1 ⟨rfl, hb⟩) | (go_at_call_of 43 (Value.int .i64 (i : Int)); refine (HL.out _ (by assumption)).mono ?_; rintro e w2 ⟨rfl, hb2⟩) | (go_at_call 44; refine (HS.out _ _ (by assumption) (by assumption)).mono ?_; rintro e w3 ⟨rfl, hr3, hm3⟩))
            have hc1 := HC.out
            have hc2 := HC2.out
            obtain ⟨hI, hM, hS, hK, hR⟩ := HI.out
            have hA' := HA'.out
            subst hc1 hc2
            obtain ⟨n1, n2, n3⟩ := down_next (W := W) (w := w3) (ok := ok) (R := R) hn hi hS hK hI (by omega) (by omega) (by omega) HB.out (min_two false hA' rfl)
            go_roundg (n - (2 * i + 1))
            case measure => omega
            case rel => exact ⟨2 * i + 1, sw L' i (2 * i + 1), rfl, Nat.le_refl _, by omega, by omega, ((hM.trans (moved_below hb)).trans (moved_below hb2)).trans hm3, hr3, n1, n2, n3⟩
        · have HL := Aside0.mk (fun (w1 : World) (hb : Below wr.heap.size wr w1) => less_row w1 ok R L' c2 i _ _ (row_below hR hb) i2 i0')
          have HS := Aside0.mk (fun (w1 w2 : World) (hb : Below wr.heap.size wr w1) (hb2 : Below w1.heap.size w1 w2) => swap_row w2 ok R L' i c2 _ _ (row_below (row_below hR hb) hb2) i0' i2 (by omega))
          clear hI hM hS hK hR i0' i1 i2 hc1 hc2
          generalize hB : lessB (it L' c2) (it L' i) = b at HL
          have HB := Aside0.mk hB
          clear hB
          cases b
          · go_wp2_with (first | (go_at_call_of 43 (Value.int .i64 (c1 : Int)); refine HA.out.mono ?_; rintro e w1 ⟨rfl, hb⟩) | (go_at_call_of 43 (Value.int .i64 (i : Int)); refine (HL.out _ (by assumption)).mono ?_; rintro e w2 ⟨rfl, hb2⟩))
            have hc1 := HC.out
            have hc2 := HC2.out
            obtain ⟨hI, hM, hS, hK, hR⟩ := HI.out
            rw [← HQ.out]
            exact down_out hi ((hM.trans (moved_below hb)).trans (moved_below hb2)) (row_below (row_below hR hb) hb2) hS hK hI (fun j h0 hj hp => by
              have : j = c1 ∨ j = c2 := by omega
              rcases this with rfl | rfl
              · exact less_trans HB.out (less_not HA'.out)
              · exact HB.out)
          · go_wp2_with (first | (go_at_call_of 43 (Value.int .i64 (c1 : Int)); refine HA.out.mono ?_; rintro e w1 ⟨rfl, hb⟩) | (go_at_call_of 43 (Value.int .i64 (i : Int)); refine (HL.out _ (by assumption)).mono ?_; rintro e w2 ⟨rfl, hb2⟩) | (go_at_call 44; refine (HS.out _ _ (by assumption) (by assumption)).mono ?_; rintro e w3 ⟨rfl, hr3, hm3⟩))
            have hc1 := HC.out
            have hc2 := HC2.out
            obtain ⟨hI, hM, hS, hK, hR⟩ := HI.out
            have hA' := HA'.out
            subst hc1 hc2
            obtain ⟨n1, n2, n3⟩ := down_next (W := W) (w := w3) (ok := ok) (R := R) hn hi hS hK hI (by omega) (by omega) (by omega) HB.out (min_two true hA' rfl)
            go_roundg (n - (2 * i + 2))
            case measure => omega
            case rel => exact ⟨2 * i + 2, sw L' i (2 * i + 2), rfl, Nat.le_refl _, by omega, by omega, ((hM.trans (moved_below hb)).trans (moved_below hb2)).trans hm3, hr3, n1, n2, n3⟩
      · have h2' : ¬ (c2 : Int) < (n : Int) := by omega
        have HL := Aside0.mk (less_row wr ok R L' c1 i _ _ hR i1 i0')
        have HS := Aside0.mk (fun (w1 : World) (hb : Below wr.heap.size wr w1) => swap_row w1 ok R L' i c1 _ _ (row_below hR hb) i0' i1 (by omega))
        have HC2 := Aside0.mk hc2
        clear hI hM hS hK hR i0' i1 hc1 hc2
        generalize hB : lessB (it L' c1) (it L' i) = b at HL
        have HB := Aside0.mk hB
        clear hB
        cases b
        · go_wp2_with (go_at_call 43; refine HL.out.mono ?_; rintro e w1 ⟨rfl, hb⟩)
          have hc1 := HC.out
          have hc2 := HC2.out
          obtain ⟨hI, hM, hS, hK, hR⟩ := HI.out
          rw [← HQ.out]
          exact down_out hi (hM.trans (moved_below hb)) (row_below hR hb) hS hK hI (fun j h0 hj hp => by
            have : j = c1 := by omega
            rw [this]; exact HB.out)
        · go_wp2_with (first | (go_at_call 43; refine HL.out.mono ?_; rintro e w1 ⟨rfl, hb⟩) | (go_at_call 44; refine (HS.out _ (by assumption)).mono ?_; rintro e w2 ⟨rfl, hr2, hm2⟩))
          have hc1 := HC.out
          have hc2 := HC2.out
          obtain ⟨hI, hM, hS, hK, hR⟩ := HI.out
          obtain ⟨n1, n2, n3⟩ := down_next (W := W) (w := w2) (ok := ok) (R := R) hn hi hS hK hI (by omega) (by omega) (by omega) HB.out (min_one hc1 (by omega))
          go_roundg (n - c1)
          case measure => omega
          case rel => exact ⟨c1, sw L' i c1, rfl, Nat.le_refl _, by omega, by omega, (hM.trans (moved_below hb)).trans hm2, hr2, n1, n2, n3⟩

end Go.Proofs.Ytlkcekldddpjbaa.Due
