/- SenderRuns: what lies in memory, and what an act comes to. -/
import Derived.Test.YtieimafoacdefaaRunsA
import Derived.Deep.RegionHeld3
import Derived.Deep.RegionLaw
import Derived.RegionTactic
import Derived.BigRegion
import Derived.BigQuiet
import Derived.Outline
import Derived.Deep.DeepCutAuto
import Derived.Deep.LoopGhost
import Derived.StillTailTactics
namespace Go.Proofs.Ytieimafoacdefaa.Runs
open Go.RowKit Go.Proofs.Ytieimafoacdefaa.QSenderRuns Go.Proofs.YtieimafoacdefaaW.PrintWords Go.Proofs.YtieimafoacdefaaW.PrintLast Go.Proofs.YtieimafoacdefaaW.PrintMore
set_option linter.unusedVariables false
set_option linter.unusedSimpArgs false
theorem cell_lasts {w wx : World} {a : Addr} {v : Value} (hb : Below w.heap.size w wx) (h : w.cell? a = some v) : wx.cell? a = some v := by
  rw [World.cell?_of_block (hb.block a.block (World.block_lt_of_cell? w a h)), h]
theorem blk_after {w w' : World} {g : Nat} {o : Obj} (h : w.heap[g]? = some o) (hb : Below w.heap.size w w') : w'.heap[g]? = some o := (hb.block g (blk_lt h)).trans h
theorem cell6 {w : World} {g : Nat} {a b c d e f : Value} {t : TypeId} (h : w.heap[g]? = some (.cells #[a, b, c, d, e, f] t (0, 0))) : w.cell? ⟨g, 0, none⟩ = some a ∧ w.cell? ⟨g, 1, none⟩ = some b ∧ w.cell? ⟨g, 2, none⟩ = some c ∧ w.cell? ⟨g, 3, none⟩ = some d ∧ w.cell? ⟨g, 4, none⟩ = some e ∧ w.cell? ⟨g, 5, none⟩ = some f :=
  ⟨(blk_cell h 0).trans rfl, (blk_cell h 1).trans rfl, (blk_cell h 2).trans rfl, (blk_cell h 3).trans rfl, (blk_cell h 4).trans rfl, (blk_cell h 5).trans rfl⟩
theorem cell4 {w : World} {g : Nat} {a b c d : Value} {t : TypeId} (h : w.heap[g]? = some (.cells #[a, b, c, d] t (0, 0))) : w.cell? ⟨g, 0, none⟩ = some a ∧ w.cell? ⟨g, 1, none⟩ = some b ∧ w.cell? ⟨g, 2, none⟩ = some c ∧ w.cell? ⟨g, 3, none⟩ = some d :=
  ⟨(blk_cell h 0).trans rfl, (blk_cell h 1).trans rfl, (blk_cell h 2).trans rfl, (blk_cell h 3).trans rfl⟩
theorem cell5 {w : World} {g : Nat} {a b c d e : Value} {t : TypeId} (h : w.heap[g]? = some (.cells #[a, b, c, d, e] t (0, 0))) : w.cell? ⟨g, 0, none⟩ = some a ∧ w.cell? ⟨g, 1, none⟩ = some b ∧ w.cell? ⟨g, 2, none⟩ = some c ∧ w.cell? ⟨g, 3, none⟩ = some d ∧ w.cell? ⟨g, 4, none⟩ = some e :=
  ⟨(blk_cell h 0).trans rfl, (blk_cell h 1).trans rfl, (blk_cell h 2).trans rfl, (blk_cell h 3).trans rfl, (blk_cell h 4).trans rfl⟩
theorem drawn_b {w w' : World} (hd : Drawn0 w w') : Below w.heap.size w w' := by
  obtain ⟨k, rfl⟩ := hd
  exact ⟨rfl, rfl, rfl, Nat.le_refl _, fun _ _ => rfl⟩
theorem drawn_below {B : Nat} {a w w' : World} (h : Below B a w) (hd : Drawn0 w w') : Below B a w' := by
  obtain ⟨k, rfl⟩ := hd
  exact h.trans ⟨rfl, rfl, rfl, Nat.le_refl _, fun _ _ => rfl⟩
/-- The config and the sender of the law's own, in memory. -/
def Mem (W0 w : World) (cB sB : Nat) (ba ti b m id : Int) (fl : List Int) (since tries til : Int) : Prop :=
  ∃ A cap, w.heap[cB]? = some (.cells #[.int .i64 ba, .int .u64 ti, .int .u64 b, .int .u64 m] 27 (0, 0)) ∧ w.heap[sB]? = some (.cells #[.int .u64 id, .slice A fl.length cap, .int .u64 since, .int .i64 tries, .int .u64 til] 29 (0, 0)) ∧
    Kd.C (Kd.int .u64) w A fl.length fl ∧ fl.length ≤ cap ∧ (∀ x, A = some x → 0 < fl.length → x.block ≠ sB) ∧ W0.heap.size ≤ cB ∧ W0.heap.size ≤ sB ∧ Below W0.heap.size W0 w
theorem Mem.below {W0 w : World} {cB sB : Nat} {ba ti b m id since tries til : Int} {fl : List Int} (h : Mem W0 w cB sB ba ti b m id fl since tries til) : Below W0.heap.size W0 w := by
  obtain ⟨_, _, _, _, _, _, _, _, _, h⟩ := h
  exact h
theorem Mem.later {W0 w w' : World} {cB sB : Nat} {ba ti b m id since tries til : Int} {fl : List Int} (h : Mem W0 w cB sB ba ti b m id fl since tries til) (hb : Below w.heap.size w w') : Mem W0 w' cB sB ba ti b m id fl since tries til := by
  obtain ⟨A, cap, h1, h2, h3, h4, h5, h6, h7, h8⟩ := h
  exact ⟨A, cap, (hb.block cB (blk_lt h1)).trans h1, (hb.block sB (blk_lt h2)).trans h2, Kd.C_below h3 hb, h4, h5, h6, h7, h8.trans (hb.mono h8.size)⟩
theorem rowL_take (n : Int) (d k : Nat) : (rowL n d).take k = rowL n (min k d) := by
  unfold rowL
  rw [← List.map_take, List.take_range]
theorem start_goes (ba ti b m id since tries til now next : Int) (e2 : Nat) (fl : List Int) (h1 : fl = []) (hu : til ≤ now) (he : 0 < e2) (he2 : e2 < 20) (hb : 1 ≤ ba) (h0 : 0 ≤ id) (h9 : id ≤ 1000000) :
    ∃ q : Nat, 0 < q ∧ (q : Int) ≤ ba ∧ q ≤ e2 ∧ mn ba (e2 : Int) = (q : Int) ∧ sender_Start.f ba ti b m id fl since tries til (rowL next e2) now = some (id + 1, rowL next q, now, tries, til, 0) := by
  subst h1
  refine ⟨min ba.toNat e2, by omega, by omega, by omega, ?_, ?_⟩
  · unfold mn; split <;> omega
  · have hl : rowL next e2 ≠ [] := by
      intro h
      have := congrArg List.length h
      rw [rowL_len] at this
      simp at this
      omega
    rw [start_yes ba ti b m id since tries til now (rowL next e2) hu hl (by rw [rowL_len]; omega), wu (by omega) (by omega), rowL_len, rowL_take]
    have : min (mn (mx ba 0) (e2 : Int)).toNat e2 = min ba.toNat e2 := by
      unfold mn mx; split <;> split <;> omega
    rw [this]
theorem rowL_head (n : Int) (q : Nat) (h : 0 < q) : (rowL n q).getD 0 0 = n := by
  obtain ⟨q, rfl⟩ : ∃ x, q = x + 1 := ⟨q - 1, by omega⟩
  unfold rowL
  rw [List.range_succ_eq_map]
  simp
/-- A struct's five cells, stored. -/
def set5 (w : World) (g : Nat) (a b c d e : Value) : World := ((((w.setCell ⟨g, 0, none⟩ a).setCell ⟨g, 1, none⟩ b).setCell ⟨g, 2, none⟩ c).setCell ⟨g, 3, none⟩ d).setCell ⟨g, 4, none⟩ e
theorem set5_keep (w : World) (g : Nat) (a b c d e : Value) : KeepBut w (set5 w g a b c d e) g none :=
  (((((KeepBut.refl w g none).set_ 0 a).set_ 1 b).set_ 2 c).set_ 3 d).set_ 4 e
theorem Mem.set {W0 w : World} {cB sB : Nat} {ba ti b m id since tries til : Int} {fl : List Int} (h : Mem W0 w cB sB ba ti b m id fl since tries til) {id2 since2 tries2 til2 : Int} {fl2 : List Int} {A2 : Option Addr} {cap2 : Nat}
    (h1 : Kd.C (Kd.int .u64) w A2 fl2.length fl2) (h2 : fl2.length ≤ cap2) (h3 : ∀ x, A2 = some x → 0 < fl2.length → x.block ≠ sB) :
    Mem W0 (set5 w sB (.int .u64 id2) (.slice A2 fl2.length cap2) (.int .u64 since2) (.int .i64 tries2) (.int .u64 til2)) cB sB ba ti b m id2 fl2 since2 tries2 til2 := by
  obtain ⟨A, cap, q1, q2, q3, q4, q5, q6, q7, q8⟩ := h
  have hk := set5_keep w sB (.int .u64 id2) (.slice A2 fl2.length cap2) (.int .u64 since2) (.int .i64 tries2) (.int .u64 til2)
  have hcs : cB ≠ sB := by
    rintro rfl
    rw [q1] at q2
    cases q2
  refine ⟨A2, cap2, hk.blk q1 hcs (by simp), ?_, Kd.C_keep 0 h1 hk h3, h2, h3, q6, q7, ?_⟩
  · unfold set5
    refine blk_put (cs := #[.int .u64 id2, .slice A2 fl2.length cap2, .int .u64 since2, .int .i64 tries2, .int .u64 til]) ?_ 4 _ rfl
    refine blk_put (cs := #[.int .u64 id2, .slice A2 fl2.length cap2, .int .u64 since2, .int .i64 tries, .int .u64 til]) ?_ 3 _ rfl
    refine blk_put (cs := #[.int .u64 id2, .slice A2 fl2.length cap2, .int .u64 since, .int .i64 tries, .int .u64 til]) ?_ 2 _ rfl
    refine blk_put (cs := #[.int .u64 id2, .slice A fl.length cap, .int .u64 since, .int .i64 tries, .int .u64 til]) ?_ 1 _ rfl
    exact blk_put q2 0 _ rfl
  · unfold set5
    exact below_set (below_set (below_set (below_set (below_set q8 q7) q7) q7) q7) q7
set_option maxHeartbeats 8000000 in
set_option maxRecDepth 100000 in
theorem pick_same (a0 : Int) (a1 : Int) (r : Int) (w : World) (h : postroomlaw16_pick.f a0 a1 = some r) :
    Calls Try.prog 8 #[.int .i64 a0, .int .i64 a1] w fun e w' => e = .returned (.int .i64 r) ∧ w' = w := by
  unfold postroomlaw16_pick.f at h
  by_cases c3 : a0 < 0
  · rw [if_pos c3] at h
    have c3b0 : decide (a0 < 0) = true := decide_eq_true c3
    clear c3
    by_cases c4 : a1 = 0
    · rw [if_pos c4] at h
      cases h
    · rw [if_neg c4] at h
      have c4b0 : (a1 == 0) = false := beq_eq_false_iff_ne.mpr c4
      have c4b1 : (a1 != 0) = true := bne_iff_ne.mpr c4
      obtain rfl := Option.some.inj h
      go_enter Try.func8, Try.ntmps8
      go_wp2
      go_ret
      exact ⟨rfl, rfl⟩
  · rw [if_neg c3] at h
    have c3b0 : decide (a0 < 0) = false := decide_eq_false c3
    clear c3
    by_cases c5 : a1 = 0
    · rw [if_pos c5] at h
      cases h
    · rw [if_neg c5] at h
      have c5b0 : (a1 == 0) = false := beq_eq_false_iff_ne.mpr c5
      have c5b1 : (a1 != 0) = true := bne_iff_ne.mpr c5
      obtain rfl := Option.some.inj h
      go_enter Try.func8, Try.ntmps8
      go_wp2
      go_ret
      exact ⟨rfl, rfl⟩
theorem reply_not (ba ti b m id other since tries til now jit : Int) (fl : List Int) (e4 : Nat) (he4 : e4 < 3) (h : other ≠ id ∨ fl = []) :
    sender_Reply.f 1000 ba ti b m id fl since tries til other (1 + (e4 : Int)) now jit = some (0, [], 0, 0, 0, [], 13) := by
  rcases h with h | h
  · exact reply_old ba ti b m id other since tries til _ now jit fl h (by omega) 1000 (by omega)
  · subst h
    exact reply_none ba ti b m id since tries til _ now jit other (by omega) 1000 (by omega)
theorem reply_yes (ba ti b m id since tries til now jit : Int) (fl : List Int) (e4 : Nat) (he4 : e4 < 3) (h : fl ≠ []) (hn : fl.length < 17592186044416) (hb : 1 ≤ b) (hbm : b ≤ m) (hm : m ≤ 2000) (hn0 : 0 ≤ now) (hn1 : now ≤ 1000000) (ht0 : 0 ≤ tries) (ht1 : tries ≤ 500) (hj : 0 ≤ jit) :
    ∃ (tr tl : Int) (ls : List Int), sender_Reply.f 1000 ba ti b m id fl since tries til id (1 + (e4 : Int)) now jit = some (id, [], since, tr, tl, ls, 0) ∧ postroomlaw16_replied.f 1000 ba ti b m id fl since tries til id [] since tr tl ls ((e4 : Int) == 2) now = some true ∧
      0 ≤ tr ∧ tr ≤ tries + 1 ∧ 0 ≤ tl ∧ tl ≤ now + m ∧ ls.length ≤ fl.length := by
  have hbw : (Lit.int .u64 b).wf = true := by simp [Lit.wf, IntKind.min, IntKind.max, IntKind.signed, IntKind.bits]; omega
  have hmw : (Lit.int .u64 m).wf = true := by simp [Lit.wf, IntKind.min, IntKind.max, IntKind.signed, IntKind.bits]; omega
  rcases Nat.lt_or_ge e4 2 with h2 | h2
  · refine ⟨0, now, fl, reply_tells ba ti b m id since tries til _ now jit fl h hn (by omega) 1000 (by omega), ?_, by omega, by omega, by omega, by omega, Nat.le_refl _⟩
    have e : ((e4 : Int) == 2) = false := by rw [beq_eq_false_iff_ne]; omega
    rw [e]
    exact replied_takes ba ti b m id since tries til id since now fl fl h rfl 1000 (by omega)
  · have e4 : e4 = 2 := by omega
    subst e4
    have hD := D_rng b m tries.toNat jit (by omega) (by omega)
    have hS := S_le b m tries.toNat
    have hmn : mn b m = b := by unfold mn; rw [if_neg (by omega)]
    rw [hmn] at hD
    refine ⟨tries + 1, now + D b m tries.toNat jit, [], reply_fails ba ti b m id since tries til now jit fl h hbw hmw (by omega) hj hn0 (by omega) (by omega) ht0 (by omega) 1000 (by omega), ?_, by omega, by omega, by omega, by omega, by simp⟩
    exact replied_fails ba ti b m id since tries til id since _ now fl hn0 (by omega) hbm (by omega) (by omega) (by omega) (by omega) 1000 (by omega)
theorem pick_nat (c : Int) (N : Nat) (hw : (Lit.int .i64 c).wf = true) (hN : 0 < N) : ∃ r : Nat, r < N ∧ postroomlaw16_pick.f c (N : Int) = some (r : Int) := by
  obtain ⟨r, h1, h2, h3⟩ := pick_tells c (N : Int) (i64_rng hw) (by omega)
  exact ⟨r.toNat, by omega, by rw [h1]; congr 1; omega⟩
theorem blk_new_at {w : World} {o : Obj} {k : Nat} (hk : k = w.heap.size) : (w.alloc o).heap[k]? = some o := by subst hk; exact blk_new w o
theorem keep_al {w : World} {a : Addr} {v : Value} (h : w.cell? a = some v) (o : Obj) : (w.alloc o).cell? a = some v := cell_lasts (below_alloc (Below.refl _ _) o) h
theorem keep_st {w : World} {a p : Addr} {v : Value} (h : w.cell? a = some v) (hne : a.block ≠ p.block) (u : Value) : (w.setCell p u).cell? a = some v := (cell_far hne u).trans h
theorem drew_c {w : World} {a : Addr} {v : Value} (h : w.cell? a = some v) : w.drew.cell? a = some v := h
/-- Two rows that a call hands back. -/
def Two (B : Nat) (w : World) (tA : Option Addr) (tc : Nat) (lA : Option Addr) (lc : Nat) (r2 r6 : List Int) : Prop :=
  Kd.C (Kd.int .u64) w tA r2.length r2 ∧ r2.length ≤ tc ∧ Kd.C (Kd.int .u64) w lA r6.length r6 ∧ r6.length ≤ lc ∧ (∀ x, tA = some x → B ≤ x.block) ∧ (∀ x, lA = some x → B ≤ x.block)
/-- What lies behind the statement that takes a reply. -/
def Got (v4 : World) (r1 : Int) (r2 : List Int) (r3 r4 r5 : Int) (r6 : List Int) (r7 : Int) (v26 v27 v28 : Value) (w : World) : Prop :=
  ∃ (g : Nat) (tA : Option Addr) (tc : Nat) (lA : Option Addr) (lc : Nat), v26 = .pointer (some ⟨g, 0, none⟩) ∧ v27 = .slice lA r6.length lc ∧ v28 = .int .i64 r7 ∧
    w.heap[g]? = some (.cells #[.int .u64 r1, .slice tA r2.length tc, .int .u64 r3, .int .i64 r4, .int .u64 r5] 29 (0, 0)) ∧ v4.heap.size ≤ g ∧ Below v4.heap.size v4 w ∧ Two v4.heap.size w tA tc lA lc r2 r6
theorem Two.mono {B B' : Nat} {w : World} {tA : Option Addr} {tc : Nat} {lA : Option Addr} {lc : Nat} {r2 r6 : List Int} (h : Two B w tA tc lA lc r2 r6) (hB : B' ≤ B) : Two B' w tA tc lA lc r2 r6 :=
  ⟨h.1, h.2.1, h.2.2.1, h.2.2.2.1, fun x hx => Nat.le_trans hB (h.2.2.2.2.1 x hx), fun x hx => Nat.le_trans hB (h.2.2.2.2.2 x hx)⟩
theorem Two.set {B g : Nat} {w : World} {tA : Option Addr} {tc : Nat} {lA : Option Addr} {lc : Nat} {r2 r6 : List Int} (h : Two B w tA tc lA lc r2 r6) (hg : g < B) (a b c d e : Value) : Two B (set5 w g a b c d e) tA tc lA lc r2 r6 :=
  ⟨Kd.C_keep 0 h.1 (set5_keep w g a b c d e) (fun x hx _ => by have := h.2.2.2.2.1 x hx; omega), h.2.1, Kd.C_keep 0 h.2.2.1 (set5_keep w g a b c d e) (fun x hx _ => by have := h.2.2.2.2.2 x hx; omega), h.2.2.2.1, h.2.2.2.2.1, h.2.2.2.2.2⟩
theorem set5_blk {w : World} {g : Nat} {t : TypeId} {a0 b0 c0 d0 e0 : Value} (h : w.heap[g]? = some (.cells #[a0, b0, c0, d0, e0] t (0, 0))) (a b c d e : Value) : (set5 w g a b c d e).heap[g]? = some (.cells #[a, b, c, d, e] t (0, 0)) := by
  unfold set5
  exact blk_put (cs := #[a, b, c, d, e0]) (blk_put (cs := #[a, b, c, d0, e0]) (blk_put (cs := #[a, b, c0, d0, e0]) (blk_put (cs := #[a, b0, c0, d0, e0]) (blk_put (cs := #[a0, b0, c0, d0, e0]) h 0 _ rfl) 1 _ rfl) 2 _ rfl) 3 _ rfl) 4 _ rfl
theorem got_alloc {v4 w5 : World} {B : Nat} {r1 r3 r4 r5 r7 : Int} {r2 r6 : List Int} {tA : Option Addr} {tc : Nat} {lA : Option Addr} {lc : Nat} (h4 : Below v4.heap.size v4 w5) (hp : Two B w5 tA tc lA lc r2 r6) (hB : v4.heap.size ≤ B) :
    Got v4 r1 r2 r3 r4 r5 r6 r7 (.pointer (some ⟨w5.heap.size, 0, none⟩)) (.slice lA r6.length lc) (.int .i64 r7) (w5.alloc (.cells #[.int .u64 r1, .slice tA r2.length tc, .int .u64 r3, .int .i64 r4, .int .u64 r5] 29 (0, 0))) :=
  ⟨_, tA, tc, lA, lc, rfl, rfl, rfl, blk_new _ _, h4.size, below_alloc h4 _, Kd.C_alloc (hp.mono hB).1 _, hp.2.1, Kd.C_alloc (hp.mono hB).2.2.1 _, hp.2.2.2.1, (hp.mono hB).2.2.2.2.1, (hp.mono hB).2.2.2.2.2⟩
theorem got_set {v4 w5 : World} {r1 r3 r4 r5 r7 : Int} {r2 r6 : List Int} {tA : Option Addr} {tc : Nat} {lA : Option Addr} {lc : Nat} {a0 b0 c0 d0 e0 : Value} (h4 : Below v4.heap.size v4 w5) (hp : Two (v4.heap.size + 1) w5 tA tc lA lc r2 r6) (hz : w5.heap[v4.heap.size]? = some (.cells #[a0, b0, c0, d0, e0] 29 (0, 0))) :
    Got v4 r1 r2 r3 r4 r5 r6 r7 (.pointer (some ⟨v4.heap.size, 0, none⟩)) (.slice lA r6.length lc) (.int .i64 r7) (set5 w5 v4.heap.size (.int .u64 r1) (.slice tA r2.length tc) (.int .u64 r3) (.int .i64 r4) (.int .u64 r5)) := by
  refine ⟨_, tA, tc, lA, lc, rfl, rfl, rfl, set5_blk hz _ _ _ _ _, Nat.le_refl _, ?_, (hp.set (Nat.lt_succ_self _) _ _ _ _ _).mono (Nat.le_succ _)⟩
  unfold set5
  exact below_set (below_set (below_set (below_set (below_set h4 (Nat.le_refl _)) (Nat.le_refl _)) (Nat.le_refl _)) (Nat.le_refl _)) (Nat.le_refl _)
theorem two_of {w w' : World} {tv lv : Value} {r2 r6 : List Int} {ok1 ok2 : Nat → Prop} (hR : Kd.R (Kd.int .u64) 23 w' w.heap.size ok1 tv r2) (hL : Kd.R (Kd.int .u64) 23 w' w.heap.size ok2 lv r6) :
    ∃ (tA : Option Addr) (tc : Nat) (lA : Option Addr) (lc : Nat), tv = .slice tA r2.length tc ∧ lv = .slice lA r6.length lc ∧ Two w.heap.size w' tA tc lA lc r2 r6 := by
  obtain ⟨tA, tc, htv⟩ := Kd.R_slice hR
  obtain ⟨lA, lc, hlv⟩ := Kd.R_slice hL
  subst htv hlv
  refine ⟨tA, tc, lA, lc, rfl, rfl, (Kd.R_reads' hR).2.2, (Kd.R_reads' hR).2.1, (Kd.R_reads' hL).2.2, (Kd.R_reads' hL).2.1, fun x hx => Kd.R_base hR x.block (by rw [hx]; rfl), fun x hx => Kd.R_base hL x.block (by rw [hx]; rfl)⟩
theorem got_raw {v4 w5 : World} {r1 r3 r4 r5 r7 : Int} {r2 r6 : List Int} {tA : Option Addr} {tc : Nat} {lA : Option Addr} {lc : Nat} {a0 b0 c0 d0 e0 : Value} (h4 : Below v4.heap.size v4 w5) (hp : Two (v4.heap.size + 1) w5 tA tc lA lc r2 r6) (hz : w5.heap[v4.heap.size]? = some (.cells #[a0, b0, c0, d0, e0] 29 (0, 0))) :
    Got v4 r1 r2 r3 r4 r5 r6 r7 (.pointer (some ⟨v4.heap.size, 0, none⟩)) (.slice lA r6.length lc) (.int .i64 r7)
      (((((w5.setCell ⟨v4.heap.size, 0, none⟩ (.int .u64 r1)).setCell ⟨v4.heap.size, 1, none⟩ (.slice tA r2.length tc)).setCell ⟨v4.heap.size, 2, none⟩ (.int .u64 r3)).setCell ⟨v4.heap.size, 3, none⟩ (.int .i64 r4)).setCell ⟨v4.heap.size, 4, none⟩ (.int .u64 r5)) :=
  got_set h4 hp hz
theorem tick_goes (ba ti b m id since tries til now jit : Int) (fl : List Int) (hfl : fl ≠ []) (ht : ti ≤ now - since) (h0 : 0 ≤ since) (h1 : since ≤ now) (hb : 1 ≤ b) (hbm : b ≤ m) (hm : m ≤ 2000) (hn1 : now ≤ 1000000) (ht0 : 0 ≤ tries) (ht1 : tries ≤ 500) (hj : 0 ≤ jit) :
    ∃ tl : Int, sender_Tick.f 1000 ba ti b m id fl since tries til now jit = some (id, [], since, tries + 1, tl, true) ∧ now + b ≤ tl ∧ tl ≤ now + m := by
  have hbw : (Lit.int .u64 b).wf = true := by simp [Lit.wf, IntKind.min, IntKind.max, IntKind.signed, IntKind.bits]; omega
  have hmw : (Lit.int .u64 m).wf = true := by simp [Lit.wf, IntKind.min, IntKind.max, IntKind.signed, IntKind.bits]; omega
  have hp : 0 < fl.length := List.length_pos_iff.2 hfl
  have hD := D_rng b m tries.toNat jit (by omega) (by omega)
  have hS := S_le b m tries.toNat
  have hmn : mn b m = b := by unfold mn; rw [if_neg (by omega)]
  rw [hmn] at hD
  refine ⟨now + D b m tries.toNat jit, tick_late ba ti b m id since tries til now jit fl h0 h1 ?_ hbw hmw hj (by omega) (by omega) ht0 (by omega) 1000 (by omega), by omega, by omega⟩
  rw [decide_eq_true (by omega : 0 < (fl.length : Int)), decide_eq_true ht]
  rfl
theorem tick_stays (ba ti b m id since tries til now jit : Int) (fl : List Int) (hn : fl.length < 17592186044416) (hl : fl = [] ∨ ¬ ti ≤ now - since) (h0 : 0 ≤ since) (h1 : since ≤ now) (hn1 : now ≤ 1000000) :
    sender_Tick.f 1000 ba ti b m id fl since tries til now jit = some (id, fl, since, tries, til, false) := by
  refine tick_not ba ti b m id since tries til now jit fl h0 h1 (by omega) hn ?_ 1000
  rcases hl with rfl | hl
  · simp
  · rw [decide_eq_false hl, Bool.and_false]
end Go.Proofs.Ytieimafoacdefaa.Runs
