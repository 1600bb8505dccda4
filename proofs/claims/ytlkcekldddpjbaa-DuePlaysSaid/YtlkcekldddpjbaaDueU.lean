/- What up of the heap does. -/
import Derived.Test.YtlkcekldddpjbaaDueH
import Derived.Test.YtlkcekldddpjbaaDueB
import Derived.Test.YtlkcekldddpjbaaDueC
import Derived.Deep.RegionHeld3
import Derived.Deep.RegionLaw
import Derived.Deep.AppendLies
import Derived.RegionTactic
import Derived.ChangeAlike
import Derived.BigRegion
import Derived.Outline
import Derived.Deep.DeepCutAuto
import Derived.Maps.Keyed
import Derived.WideKeyEntry
import Derived.Deep.LoopGhost
import Derived.StillTailTactics
namespace Go.Proofs.Ytlkcekldddpjbaa.Due
open Go.RowKit Go.Proofs.YtlkcekldddpjbaaW.PrintWords Go.Proofs.YtlkcekldddpjbaaW.PrintLast Go.Proofs.YtlkcekldddpjbaaW.PrintMore
open Go.MapKept (Stamped)
open Go.ChangeMaps (setBlock)
open Go.Maps (Keyed int_keyed keyOf_int_mk)
set_option linter.unusedVariables false
set_option linter.unusedSimpArgs false

theorem row_below {W W' : World} {ok : Nat → Prop} {R : Nat} {L : List Item} (h : RowAt W ok R L) (hb : Below W.heap.size W W') : RowAt W' ok R L := by
  obtain ⟨iv, Mb, hR, hI, ⟨es, clock, hm, hr⟩, ho⟩ := h
  exact ⟨iv, Mb, (hb.block R (blk_lt hR)).trans hR, own_move hI (fun k hk => by
    obtain ⟨cells, hc⟩ := own_typed hI k hk
    exact hb.block k (blk_lt hc)), ⟨es, clock, (hb.block Mb (blk_lt hm)).trans hm, hr⟩, ho⟩
theorem moved_below {W W' : World} {ok : Nat → Prop} (hb : Below W.heap.size W W') : Moved ok W W' := Moved.of_below hb
theorem method_less (R : Nat) (w : World) : (method 188 56 (.agg #[.pointer (some ⟨R, 0, none⟩)]) "Less").run Try.prog w = .ok (43, .pointer (some ⟨R, 0, none⟩)) w := by kernel_rfl
theorem method_swap (R : Nat) (w : World) : (method 188 56 (.agg #[.pointer (some ⟨R, 0, none⟩)]) "Swap").run Try.prog w = .ok (44, .pointer (some ⟨R, 0, none⟩)) w := by kernel_rfl
set_option maxRecDepth 100000 in
set_option maxHeartbeats 3200000 in
theorem up_row (W : World) (ok : Nat → Prop) (R : Nat) (L : List Item) (n j : Nat) (h : RowAt W ok R L) (hU : UpI L n j) (hn : n ≤ L.length) (hj : j < n) (hlen : L.length < 1000000) :
    Calls Try.prog 25 #[.iface 56 (.agg #[.pointer (some ⟨R, 0, none⟩)]), .int .i64 (j : Int)] W fun e w' => e = .returned (.tuple #[]) ∧ Moved ok W w' ∧
      ∃ L', RowAt w' ok R L' ∧ Same L' L ∧ HeapTo L' n ∧ ∀ k, n ≤ k → it L' k = it L k := by
  go_enter Try.func25, Try.ntmps25
  go_wp2
  go_loopg [1] (j + 1) (fun k v wr => ∃ (j' : Nat) (L' : List Item), v = .int .i64 (j' : Int) ∧ j' < k ∧ j' < n ∧ Moved ok W wr ∧ RowAt wr ok R L' ∧ Same L' L ∧ UpI L' n j' ∧ ∀ k, n ≤ k → it L' k = it L k)
  case atStart => exact ⟨j, L, rfl, by omega, hj, Moved.refl _ _, h, Same.refl L, hU, fun _ _ => rfl⟩
  case round =>
    obtain ⟨j', L', rfl, hjk, hjn, hM, hR, hS, hI, hK⟩ := hrel
    have hl' : L'.length = L.length := hS.1
    rcases Nat.eq_zero_or_pos j' with rfl | hpos
    · have hend := Aside0.mk (up_end hI (.inl rfl))
      clear hI
      have hq : ((0 : Nat) : Int) = 0 := rfl
      go_wp2
      go_end0
      exact ⟨rfl, hM, L', hR, hS, hend.out, hK⟩
    · obtain ⟨p, hp⟩ : ∃ p, p = (j' - 1) / 2 := ⟨_, rfl⟩
      have hq : ((j' : Int) - 1).tdiv 2 = (p : Int) := by rw [hp, Int.tdiv_eq_ediv_of_nonneg (by omega)]; omega
      have hpj : p < j' := by omega
      have hne : ¬ (p : Int) = (j' : Int) := by omega
      have ij := it_at (L := L') (k := j') (by omega)
      have ip := it_at (L := L') (k := p) (by omega)
      have HL := Aside0.mk (less_row wr ok R L' j' p _ _ hR ij ip)
      have HS := Aside0.mk (fun (w1 : World) (hb : Below wr.heap.size wr w1) => swap_row w1 ok R L' p j' _ _ (row_below hR hb) ip ij (by omega))
      have HI := Aside0.mk (And.intro hI (And.intro hp (And.intro hM (And.intro hS (And.intro hK hR)))))
      have ml := method_less R
      have ms := method_swap R
      clear hI hp hM hS hK hR ij ip hU hj
      generalize hB : lessB (it L' j') (it L' p) = b at HL
      have HB := Aside0.mk hB
      clear hB
      cases b
      · go_wp2_with (go_at_call 43; refine HL.out.mono ?_; rintro e w1 ⟨rfl, hb⟩)
        go_end0
        obtain ⟨hI, hp, hM, hS, hK, hR⟩ := HI.out
        exact ⟨rfl, hM.trans (moved_below hb), L', row_below hR hb, hS, up_end hI (.inr (hp ▸ HB.out)), hK⟩
      · go_wp2_with (first | (go_at_call 43; refine HL.out.mono ?_; rintro e w1 ⟨rfl, hb⟩) | (go_at_call 44; refine (HS.out _ (by assumption)).mono ?_; rintro e w2 ⟨rfl, hr2, hm2⟩))
        obtain ⟨hI, hp, hM, hS, hK, hR⟩ := HI.out
        go_roundg (p + 1)
        case measure => omega
        case rel =>
          refine ⟨p, sw L' p j', rfl, by omega, by omega, (hM.trans (moved_below hb)).trans hm2, hr2, (sw_same (by omega) (by omega)).trans hS, ?_, fun k hk => ?_⟩
          · subst hp
            exact up_step hI (by omega) hjn hpos HB.out
          · rw [it_sw (by omega) (by omega), if_neg (by omega), if_neg (by omega)]
            exact hK k hk

end Go.Proofs.Ytlkcekldddpjbaa.Due
