-- Printed by a program of this session (wip/tools/myprint.sh) in the form of print.sh: Clone's contract is proved by hand
import Derived.WalkSpells
import Derived.Lib.SliceRun
import Derived.Test.YtemjjhpdpdlbnaaQShardOnex0
namespace Go.Proofs.Ytemjjhpdpdlbnaa.QShardOne
open Go.RowKit Go.Proofs.YtemjjhpdpdlbnaaW.PrintWords Go.Proofs.YtemjjhpdpdlbnaaW.PrintLast Go.Proofs.YtemjjhpdpdlbnaaW.PrintMore
attribute [local go_sem] max2_int min2_int max_two min_two max_three min_three max_four min_four   -- for this text's walks alone
set_option linter.unusedVariables false
set_option linter.unusedSimpArgs false

/-! ### shard_Hash: function 10 -/
def shard_Hash.l0 : Nat → ByteArray → Int → Int → Int → Option (Int)
  | 0, _, _, _, _ => none
  | k + 1, x0, x3, x6, x7 => if x7 < x6 then (if 0 ≤ x7 then (if x7 < (x0.size : Int) then (shard_Hash.l0 k x0 (IntKind.u64.wrap ((Go.bits .xor .u64 x3 (IntKind.u64.wrap (bt x0 x7))) * 1099511628211)) x6 (wrap64 (x7 + 1))) else (none)) else (none)) else (some x3)
def shard_Hash.f (k : Nat) (a0 : ByteArray) : Option (Int) := shard_Hash.l0 k a0 14695981039346656037 (a0.size : Int) 0
theorem shard_Hash.mono_l : ∀ k, (∀ y0 y1 y2 y3, LeO (shard_Hash.l0 k y0 y1 y2 y3) (shard_Hash.l0 (k + 1) y0 y1 y2 y3))
  | 0 => fun _ _ _ _ r h => by simp [shard_Hash.l0] at h
  | k + 1 => by
    have ih0 := shard_Hash.mono_l k
    · intro y0 y1 y2 y3
      unfold shard_Hash.l0
      repeat' first
      | (with_reducible exact ih0 _ _ _ _)
      | (with_reducible exact LeO.refl _)
      | (with_reducible exact LeO.none _)
      | (with_reducible refine LeO.ite ?_ ?_)
      | (with_reducible refine LeO.bind ?_ (fun _ => ?_))
      | exact ih0 _ _ _ _
      | exact LeO.none _
      | refine LeO.ite ?_ ?_
      | refine LeO.bind ?_ (fun _ => ?_)
theorem shard_Hash.mono : ∀ a0 k, LeO (shard_Hash.f k a0) (shard_Hash.f (k + 1) a0) := by
  intro a0 k
  have ih0 := shard_Hash.mono_l k
  unfold shard_Hash.f
  repeat' first
      | (with_reducible exact ih0 _ _ _ _)
      | (with_reducible exact LeO.refl _)
      | (with_reducible exact LeO.none _)
      | (with_reducible refine LeO.ite ?_ ?_)
      | (with_reducible refine LeO.bind ?_ (fun _ => ?_))
      | exact ih0 _ _ _ _
      | exact LeO.none _
      | refine LeO.ite ?_ ?_
      | refine LeO.bind ?_ (fun _ => ?_)
set_option maxHeartbeats 8000000 in
set_option maxRecDepth 100000 in
theorem shard_Hash.calls (k : Nat) (a0 : ByteArray) (r : Int) (w : World) (h : shard_Hash.f k a0 = some r) :
    Calls Try.prog 10 #[.string a0] w fun e w' => e = .returned (.int .u64 r) ∧ Drawn0 w w' := by
  have H : (shard_Hash.l0 k a0 14695981039346656037 (a0.size : Int) 0) = some r := h
  clear h
  have H' := Aside0.mk H
  clear H
  go_enter Try.func10, Try.ntmps10
  go_wp2
  go_loopg [3, 7] k (fun kq v3 v7 w' => ∃ (x3_1 : Int) (x7_1 : Int), v3 = .int .u64 x3_1 ∧ v7 = .int .i64 x7_1 ∧ Aside0 (shard_Hash.l0 kq a0 x3_1 (a0.size : Int) x7_1 = some r) ∧ Aside0 (kq ≤ k) ∧ Drawn0 w w')
  case atStart => exact ⟨(14695981039346656037), (0), (by first | rfl | (simp; done) | (simp [*]; done)), (by first | rfl | (simp; done) | (simp [*]; done)), H', ⟨Nat.le_refl _⟩, by repeat (first | exact Drawn0.refl _ | apply Drawn0.step)⟩
  case round =>
    clear H'
    try clear c1
    obtain ⟨x3_1, x7_1, rfl, rfl, HA, HK1, ⟨m1, rfl⟩⟩ := hrel
    cases gk with
    | zero => exact absurd HA.out (by simp [shard_Hash.l0])
    | succ k1 =>
      have H := HA.out
      clear HA
      simp only [shard_Hash.l0] at H
      by_cases c2 : x7_1 < (a0.size : Int)
      · rw [if_pos c2] at H
        have c2b0 : decide (x7_1 < (a0.size : Int)) = true := decide_eq_true c2
        clear c2
        by_cases c3 : 0 ≤ x7_1
        · rw [if_pos c3] at H
          have c3b0 : decide (0 ≤ x7_1) = true := decide_eq_true c3
          clear c3
          by_cases c4 : x7_1 < (a0.size : Int)
          · rw [if_pos c4] at H
            have c4b0 : decide (x7_1 < (a0.size : Int)) = true := decide_eq_true c4
            clear c4
            have H' := Aside0.mk H
            clear H
            have p5 : 0 ≤ (x7_1 : Int) := of_decide_eq_true (by first | (with_reducible assumption) | assumption)
            have q5 : x7_1 < (a0.size : Int) := of_decide_eq_true (by first | (with_reducible assumption) | assumption)
            have hx5 := bt_at a0 x7_1
            replace p5 := eq_true p5
            replace q5 := eq_true q5
            go_wp2
            go_roundg k1
            case measure => have := HK1.out; omega
            case rel => exact ⟨(IntKind.u64.wrap ((Go.bits .xor .u64 x3_1 (IntKind.u64.wrap (bt a0 x7_1))) * 1099511628211)), (wrap64 (x7_1 + 1)), (by first | rfl | (simp; done) | (simp [*]; done)), (by first | rfl | (simp; done) | (simp [*]; done)), H', ⟨by have := HK1.out; omega⟩, by repeat (first | exact Drawn0.refl _ | apply Drawn0.step)⟩
          · rw [if_neg c4] at H
            exact absurd H (by simp)
        · rw [if_neg c3] at H
          exact absurd H (by simp)
      · rw [if_neg c2] at H
        have c2b0 : decide (x7_1 < (a0.size : Int)) = false := decide_eq_false c2
        clear c2
        obtain rfl := Option.some.inj H
        go_wp2
        go_ret
        exact ⟨by first | rfl | (simp; done) | (simp [*]; done), by repeat (first | exact Drawn0.refl _ | apply Drawn0.step)⟩

/-! ### shard_Of: function 12 -/
def shard_Of.f (k : Nat) (a0 : ByteArray) (a1 : Int) : Option (Int) := if a1 < 1 then (some 0) else (if a1 > 8 then (some 0) else ((shard_Hash.f k a0).bind fun t101 => (if (IntKind.u64.wrap (a1)) = 0 then (none) else (some (wrap64 (Int.tmod t101 (IntKind.u64.wrap (a1))))))))
theorem shard_Of.mono : ∀ a0 a1 k, LeO (shard_Of.f k a0 a1) (shard_Of.f (k + 1) a0 a1) := by
  intro a0 a1 k
  unfold shard_Of.f
  repeat' first
      | (with_reducible exact shard_Hash.mono _ _)
      | (with_reducible exact LeO.refl _)
      | (with_reducible exact LeO.none _)
      | (with_reducible refine LeO.ite ?_ ?_)
      | (with_reducible refine LeO.bind ?_ (fun _ => ?_))
      | exact shard_Hash.mono _ _
      | exact LeO.none _
      | refine LeO.ite ?_ ?_
      | refine LeO.bind ?_ (fun _ => ?_)
set_option maxHeartbeats 8000000 in
set_option maxRecDepth 100000 in
theorem shard_Of.calls (k : Nat) (a0 : ByteArray) (a1 : Int) (r : Int) (w : World) (h : shard_Of.f k a0 a1 = some r) :
    Calls Try.prog 12 #[.string a0, .int .i64 a1] w fun e w' => e = .returned (.int .i64 r) ∧ Drawn0 w w' := by
  have H : (if a1 < 1 then (some 0) else (if a1 > 8 then (some 0) else ((shard_Hash.f k a0).bind fun t101 => (if (IntKind.u64.wrap (a1)) = 0 then (none) else (some (wrap64 (Int.tmod t101 (IntKind.u64.wrap (a1))))))))) = some r := h
  clear h
  by_cases c3 : a1 < 1
  · rw [if_pos c3] at H
    have c3b0 : decide (a1 < 1) = true := decide_eq_true c3
    clear c3
    obtain rfl := Option.some.inj H
    go_enter Try.func12, Try.ntmps12
    go_wp2
    go_ret
    exact ⟨by first | rfl | (simp; done) | (simp [*]; done), by repeat (first | exact Drawn0.refl _ | apply Drawn0.step)⟩
  · rw [if_neg c3] at H
    have c3b0 : decide (a1 < 1) = false := decide_eq_false c3
    clear c3
    by_cases c4 : a1 > 8
    · rw [if_pos c4] at H
      have c4b0 : decide (8 < a1) = true := decide_eq_true c4
      clear c4
      obtain rfl := Option.some.inj H
      go_enter Try.func12, Try.ntmps12
      go_wp2
      go_ret
      exact ⟨by first | rfl | (simp; done) | (simp [*]; done), by repeat (first | exact Drawn0.refl _ | apply Drawn0.step)⟩
    · rw [if_neg c4] at H
      have c4b0 : decide (8 < a1) = false := decide_eq_false c4
      clear c4
      replace H := Option.bind_eq_some_iff.mp H
      obtain ⟨t101, A50, H⟩ := H
      replace H : (if (IntKind.u64.wrap (a1)) = 0 then (none) else (some (wrap64 (Int.tmod t101 (IntKind.u64.wrap (a1)))))) = some r := H
      have A5 := Aside0.mk A50
      clear A50
      by_cases c6 : (IntKind.u64.wrap (a1)) = 0
      · rw [if_pos c6] at H
        exact absurd H (by simp)
      · rw [if_neg c6] at H
        have c6b0 : ((IntKind.u64.wrap (a1)) == 0) = false := beq_eq_false_iff_ne.mpr c6
        have c6b1 : ((IntKind.u64.wrap (a1)) != 0) = true := bne_iff_ne.mpr c6
        obtain rfl := Option.some.inj H
        go_enter Try.func12, Try.ntmps12
        go_wp2_with (first | ((with_reducible refine gate_callee (f := 10) rfl ?_); refine goesL_ (some 12) rfl rfl Try.func10 (by kernel_rfl) rfl #[.string a0] rfl (by (try simp only [List.map_toArray, List.map_cons, List.map_nil]); first | done | rfl | (simp only [List.length_drop, List.length_take]; rfl)) ?_; (with_reducible refine (shard_Hash.calls k a0 t101 _ A5.out).mono ?_); rintro e w' ⟨rfl, ⟨nd, rfl⟩⟩; refine ⟨_, rfl, ?_⟩))
        go_ret
        exact ⟨by first | rfl | (simp; done) | (simp [*]; done), by repeat (first | exact Drawn0.refl _ | apply Drawn0.step)⟩

/-! ### slices_Clone_int_int: function 18 -/
def slices_Clone_int_int.f (l0 : List (List Int)) : Option ((List (List Int))) := (some (([] : List (List Int)) : List (List Int))).bind fun y102 => (if y102.length + l0.length < 5864062014805 then (some (y102 ++ l0)) else (none))
set_option maxHeartbeats 8000000 in
set_option maxRecDepth 100000 in
theorem slices_Clone_int_int.calls (P0_ : Nat → Prop) (A0 : Option Addr) (c0 : Nat) (l0 : List (List Int)) (r : List (List Int)) (w : World) (hs0 : Kd.V (Kd.slice 3 (Kd.int .i64)) 31 w w.heap.size (fun k_ => P0_ k_) (.slice A0 l0.length c0) l0) (h : slices_Clone_int_int.f l0 = some r) :
    Calls Try.prog 18 #[.slice A0 l0.length c0] w fun e w' => ∃ v0_ : Value, e = .returned (v0_) ∧ Kd.N (Kd.slice 3 (Kd.int .i64)) 31 w' w.heap.size (fun k_ => (P0_ k_ ∨ w.heap.size ≤ k_)) v0_ r ∧ Below w.heap.size w w' := by
  have HO0 := Aside0.mk (show Kd.V (Kd.slice 3 (Kd.int .i64)) 31 w w.heap.size (fun k_ => (P0_ k_ ∨ w.heap.size ≤ k_)) (.slice A0 l0.length c0) l0 from Kd.V_mono hs0 (fun k_ hk => .inl hk))
  have HB := Aside0.mk (Below.refl w.heap.size w)
  have H : ((some (([] : List (List Int)) : List (List Int))).bind fun y102 => (if y102.length + l0.length < 5864062014805 then (some (y102 ++ l0)) else (none))) = some r := h
  clear h
  obtain ⟨y102, hy102⟩ : ∃ y_ : List (List Int), y_ = (([] : List (List Int))) := ⟨_, rfl⟩
  replace H : (if y102.length + l0.length < 5864062014805 then (some (y102 ++ l0)) else (none)) = some r := by first | (rw [hy102]; with_reducible exact H) | (have H2_ := (Option.bind_some _ _).symm.trans H; rw [hy102]; with_reducible exact H2_) | (have H2_ := (Option.bind_some _ _).symm.trans H; with_reducible exact H2_) | with_reducible exact H | (rw [hy102]; exact H) | exact H
  have Ny102 := Aside0.mk hy102
  clear hy102
  by_cases c2 : y102.length + l0.length < 5864062014805
  · rw [if_pos c2] at H
    have LMc2 := Aside0.mk c2
    clear c2
    obtain ⟨y105, hy105⟩ : ∃ y_ : List (List Int), y_ = (y102 ++ l0) := ⟨_, rfl⟩
    replace H : (some y105) = some r := by first | (rw [hy105]; with_reducible exact H) | (have H2_ := (Option.bind_some _ _).symm.trans H; rw [hy105]; with_reducible exact H2_) | (have H2_ := (Option.bind_some _ _).symm.trans H; with_reducible exact H2_) | with_reducible exact H | (rw [hy105]; exact H) | exact H
    have Ny105 := Aside0.mk hy105
    clear hy105
    obtain rfl := Option.some.inj H
    cases A0 with
    | none =>
      have hl0 : l0 = [] := by
        rcases Nat.eq_zero_or_pos l0.length with hz | hz
        · exact List.eq_nil_of_length_eq_zero hz
        · obtain ⟨_, hx, _⟩ := (Kd.F_now (Kd.V_F HO0.out)).2.2 hz; cases hx
      have hy_ := Ny105.out
      rw [Ny102.out, hl0] at hy_
      have HY := Aside0.mk hy_
      clear hy_ hl0
      have heq_ := fun w : World => Lib.run_eql_slice_nil (P := Try.prog) w 28 31 none l0.length c0 0 0 Try.underlying28
      go_enter Try.func18, Try.ntmps18
      go_wp2
      go_ret
      refine ⟨_, rfl, ?_, HB.out⟩
      rw [HY.out]
      exact Kd.N_nil _ _ _ _ _
    | some ad_ =>
      have heq_ := fun w : World => Lib.run_eql_slice_nil (P := Try.prog) w 28 31 (some ad_) l0.length c0 0 0 Try.underlying28
      go_enter Try.func18, Try.ntmps18
      go_wp2_with (first | ((with_reducible refine gate_dst (N := 5) rfl ?_); refine Kd.N_lit (Kd.slice 3 (Kd.int .i64)) _ 31 ?hg (N' := 5) ?hd (xs := ([] : List (List Int))) (inner := []) (ok := (fun k_ => (P0_ k_ ∨ w.heap.size ≤ k_))) (okp := (fun k_ => (P0_ k_ ∨ w.heap.size ≤ k_))) ?hr ?hp (fun _ hk => hk) ((show ∀ k_, w.heap.size ≤ k_ → (fun k_ => (P0_ k_ ∨ w.heap.size ≤ k_)) k_ from fun k_ hk => (.inr (Nat.le_trans (below_size (by repeat (first | (with_reducible first | exact HB.out | apply below_alloc | apply pw_below_drewN | apply below_drew1) | exact HB.out))) hk))) _ (Nat.le_refl _)) (Below.refl _ _) (Nat.le_refl _) (by simp) ?_; (case hd => rfl); (case hg => rfl); (case hr => first | (go_simp; done) | (go_simp; rfl)); (case hp => exact (Reps.none _ _)); intro v103 w3 ho4 hb hg_ hnew_; clear hg_ hnew_; (first | rw [← Ny102.out] at ho4 | (simp only [Int.reduceToNat] at ho4; rw [← Ny102.out] at ho4)); have n0_ := Aside0.mk (Kd.V_elder' (by (with_reducible repeat (first | apply Kd.V_alloc | apply Kd.V_drewN | apply Kd.V_drew)); exact HO0.out) (Kd.N_base ho4) hb); have n1_ := Aside0.mk (Kd.N_lower ho4 (below_size (by repeat (first | (with_reducible first | exact HB.out | apply below_alloc | apply pw_below_drewN | apply below_drew1) | exact HB.out)))); have n2_ := Aside0.mk (below_step (by repeat (first | (with_reducible first | exact HB.out | apply below_alloc | apply pw_below_drewN | apply below_drew1) | exact HB.out)) hb); clear HO0; clear HB; have HO0 := n0_; have HO104 := n1_; have HB := n2_; clear n0_ n1_ n2_; clear hb ho4) | ((with_reducible refine gate_builtin (b := .append) (xs := #[.tmp 5, .tmp 6]) rfl ?_); at_builtin; refine Kd.N_append_rows (Kd.slice 3 (Kd.int .i64)) (w0 := w) w.heap.size rfl (.tmp 5) (.tmp 6) 28 31 (.slice none 0 0) 24 rfl Try.underlying28 info31 rfl (by decide) (by omega) v103 y102 l0 _ _ _ (fun k_ => (P0_ k_ ∨ w.heap.size ≤ k_)) (fun k_ => ((fun k_ => (P0_ k_ ∨ w.heap.size ≤ k_))) k_ ∧ some k_ ≠ (v103 : Value).ownBlock) rfl rfl ?aO ?aR (fun _ hk => hk) ?aF ?aB ?aS ?aL ?_; (case aR => exact (by skip; exact Kd.V_F (Kd.V_mono (ok' := (fun k_ => ((fun k_ => (P0_ k_ ∨ w.heap.size ≤ k_))) k_ ∧ some k_ ≠ (v103 : Value).ownBlock)) (HO0.out) (fun k_ hk => ⟨hk.1, hk.2⟩)))); (case aB => exact (by repeat (first | (with_reducible first | exact HB.out | apply below_alloc | apply pw_below_drewN | apply below_drew1) | exact HB.out))); (case aF => exact (fun k_ hk => (.inr (Nat.le_trans (below_size (by repeat (first | (with_reducible first | exact HB.out | apply below_alloc | apply pw_below_drewN | apply below_drew1) | exact HB.out))) hk)))); (case aO => exact (by (with_reducible repeat (first | apply Kd.N_alloc | apply Kd.N_drewN | apply Kd.N_drew)); exact HO104.out)); (case aS => exact (below_size (by repeat (first | (with_reducible first | exact HB.out | apply below_alloc | apply pw_below_drewN | apply below_drew1) | exact HB.out)))); (case aL => have := LMc2.out; omega); intro v106 w5 ho hb hg hat; rw [← Ny105.out] at ho; have n0_ := Aside0.mk (Kd.V_afterv (ok := (fun k_ => (P0_ k_ ∨ w.heap.size ≤ k_))) (by (with_reducible repeat (first | apply Kd.V_alloc | apply Kd.V_drewN | apply Kd.V_drew)); exact HO0.out) hg hat); have n1_ := Aside0.mk (hb); have n2_ := Aside0.mk (ho); clear HO0; clear HB; clear HO104; have HO0 := n0_; have HB := n1_; have HO107 := n2_; clear n0_ n1_ n2_; clear ho hb hg hat))
      go_ret
      exact ⟨_, by first | rfl | (simp [errW_none, errW_some] <;> rfl) | (simp [*, errW_none, errW_some] <;> rfl), by (with_reducible repeat (first | apply Kd.N_alloc | apply Kd.N_drewN | apply Kd.N_drew)); exact HO107.out, by repeat (first | (with_reducible first | exact HB.out | apply below_alloc | apply pw_below_drewN | apply below_drew1) | exact HB.out)⟩
  · rw [if_neg c2] at H
    exact absurd H (by simp)

/-! ### shard_Split: function 14 (its function and its proof by hand: its rows lie in an array) -/
theorem sp_info3 : (Try.prog.info? 3).map (fun i => (i.zero, i.size, i.bytes)) = some (some (.int .i64 0), 1, 8) := by kernel_rfl
/-- The hash of the bytes of s from i on, so many of them, begun with h. -/
def hashFrom (s : ByteArray) : Nat → Nat → Int → Int
  | 0, _, h => h
  | d + 1, i, h => hashFrom s d (i + 1) (IntKind.u64.wrap ((Go.bits .xor .u64 h (IntKind.u64.wrap (bt s (i : Int)))) * 1099511628211))
def hashN (s : ByteArray) : Int := hashFrom s s.size 0 14695981039346656037
/-- Which shard a text is of. -/
def ofN (s : ByteArray) (n : Int) : Int := if n < 1 then 0 else if n > 8 then 0 else wrap64 (Int.tmod (hashN s) (IntKind.u64.wrap n))
/-- Of the first i texts the places of those of shard j. -/
def rowN (l : List ByteArray) (n : Int) (i : Nat) (j : Nat) : List Int := ((List.range i).filter (fun q : Nat => ofN (rdOf ByteArray.empty l (q : Int)) n == (j : Int))).map (fun q : Nat => (q : Int))
def splitN (l : List ByteArray) (n : Int) : List (List Int) := if 1 ≤ n ∧ n ≤ 8 then (List.range n.toNat).map (rowN l n l.length) else []
def shard_Split.f (l0 : List ByteArray) (a1 : Int) : Option ((List (List Int))) := if l0.length < 1000000 ∧ (l0.all fun s => decide (s.size ≤ 1000000)) = true then some (splitN l0 a1) else none

theorem hash_from (s : ByteArray) (hs : s.size ≤ 1000000) (d : Nat) : ∀ (k i : Nat) (h : Int), i + d = s.size → d < k → shard_Hash.l0 k s h (s.size : Int) (i : Int) = some (hashFrom s d i h) := by
  induction d with
  | zero =>
    intro k i h hi hk
    obtain ⟨k, rfl⟩ : ∃ m, k = m + 1 := ⟨k - 1, by omega⟩
    simp only [shard_Hash.l0]
    rw [if_neg (by omega)]; rfl
  | succ d ih =>
    intro k i h hi hk
    obtain ⟨k, rfl⟩ : ∃ m, k = m + 1 := ⟨k - 1, by omega⟩
    simp only [shard_Hash.l0]
    have e : wrap64 ((i : Int) + 1) = ((i + 1 : Nat) : Int) := by unfold wrap64; omega
    rw [if_pos (by omega), if_pos (by omega), if_pos (by omega), e, ih k (i + 1) _ (by omega) (by omega)]
    rfl
theorem hash_tells (s : ByteArray) (hs : s.size ≤ 1000000) (k : Nat) (hk : s.size < k) : shard_Hash.f k s = some (hashN s) := by
  unfold shard_Hash.f
  exact hash_from s hs s.size k 0 _ (by omega) hk
theorem wrap_u64_rng (n : Int) : 0 ≤ IntKind.u64.wrap n ∧ IntKind.u64.wrap n ≤ 18446744073709551615 := by rw [IntKind.wrap_u64]; omega
theorem hashFrom_rng (s : ByteArray) (d : Nat) : ∀ (i : Nat) (h : Int), 0 ≤ h → h ≤ 18446744073709551615 → 0 ≤ hashFrom s d i h ∧ hashFrom s d i h ≤ 18446744073709551615 := by
  induction d with
  | zero => intro i h h0 h1; exact ⟨h0, h1⟩
  | succ d ih => intro i h _ _; have := wrap_u64_rng ((Go.bits .xor .u64 h (IntKind.u64.wrap (bt s (i : Int)))) * 1099511628211); exact ih _ _ this.1 this.2
theorem hashN_rng (s : ByteArray) : 0 ≤ hashN s ∧ hashN s ≤ 18446744073709551615 := hashFrom_rng s _ _ _ (by omega) (by omega)
theorem of_tells (s : ByteArray) (n : Int) (hs : s.size ≤ 1000000) (k : Nat) (hk : s.size < k) : shard_Of.f k s n = some (ofN s n) := by
  unfold shard_Of.f ofN
  by_cases h1 : n < 1
  · rw [if_pos h1, if_pos h1]
  · rw [if_neg h1, if_neg h1]
    by_cases h8 : n > 8
    · rw [if_pos h8, if_pos h8]
    · rw [if_neg h8, if_neg h8, hash_tells s hs k hk]
      simp only [Option.bind_some]
      rw [if_neg (by rw [IntKind.wrap_u64]; omega)]
theorem ofN_eq (s : ByteArray) (n : Int) (h1 : 1 ≤ n) (h8 : n ≤ 8) : ofN s n = hashN s % n := by
  have hr := hashN_rng s
  have hw : IntKind.u64.wrap n = n := by rw [IntKind.wrap_u64]; omega
  unfold ofN
  rw [if_neg (by omega), if_neg (by omega), hw, Int.tmod_eq_emod_of_nonneg hr.1]
  have := Int.emod_nonneg (hashN s) (show n ≠ 0 by omega)
  have := Int.emod_lt_of_pos (hashN s) (show 0 < n by omega)
  unfold wrap64; omega
theorem ofN_rng (s : ByteArray) (n : Int) (h1 : 1 ≤ n) (h8 : n ≤ 8) : 0 ≤ ofN s n ∧ ofN s n < n := by
  rw [ofN_eq s n h1 h8]
  exact ⟨Int.emod_nonneg _ (by omega), Int.emod_lt_of_pos _ (by omega)⟩
theorem rowN_zero (l : List ByteArray) (n : Int) (j : Nat) : rowN l n 0 j = [] := rfl
theorem rowN_hit (l : List ByteArray) (n : Int) (i j : Nat) (h : ofN (rdOf ByteArray.empty l (i : Int)) n = (j : Int)) : rowN l n (i + 1) j = rowN l n i j ++ [(i : Int)] := by
  unfold rowN
  rw [List.range_succ, List.filter_append, List.map_append]
  simp [h]
theorem rowN_miss (l : List ByteArray) (n : Int) (i j : Nat) (h : ofN (rdOf ByteArray.empty l (i : Int)) n ≠ (j : Int)) : rowN l n (i + 1) j = rowN l n i j := by
  unfold rowN
  rw [List.range_succ, List.filter_append, List.map_append]
  simp [h]
theorem rowN_length (l : List ByteArray) (n : Int) (i j : Nat) : (rowN l n i j).length ≤ i := by
  unfold rowN
  rw [List.length_map]
  exact Nat.le_trans (List.length_filter_le _ _) (by simp)

/-- Eight values in line. -/
def arr8 (vs : Nat → Value) : Array Value := #[vs 0, vs 1, vs 2, vs 3, vs 4, vs 5, vs 6, vs 7]
theorem arr8_get (vs : Nat → Value) (j : Nat) (h : j < 8) : (arr8 vs)[j]? = some (vs j) := by
  match j, h with
  | 0, _ => rfl
  | 1, _ => rfl
  | 2, _ => rfl
  | 3, _ => rfl
  | 4, _ => rfl
  | 5, _ => rfl
  | 6, _ => rfl
  | 7, _ => rfl
theorem arr8_set (vs : Nat → Value) (v : Value) (j : Nat) (h : j < 8) : (arr8 vs).setIfInBounds j v = arr8 (fun q => if q = j then v else vs q) := by
  match j, h with
  | 0, _ => rfl
  | 1, _ => rfl
  | 2, _ => rfl
  | 3, _ => rfl
  | 4, _ => rfl
  | 5, _ => rfl
  | 6, _ => rfl
  | 7, _ => rfl
/-- The array at G holds eight rows, of the first i texts; no two of them lie in one block. -/
def SInv (l : List ByteArray) (n : Int) (base G i : Nat) (W : World) : Prop := ∃ (vs : Nat → Value) (f : Nat → Nat), W.heap[G]? = some (.cells (arr8 vs) 39 (0, 0)) ∧ ∀ j, j < 8 → Kd.R (Kd.int .i64) 3 W base (fun k => f k = j) (vs j) (rowN l n i j)
theorem SInv_start (l : List ByteArray) (n : Int) (base : Nat) (W : World) : SInv l n base W.heap.size 0 (W.alloc (.cells (arr8 fun _ => .slice none 0 0) 39 (0, 0))) :=
  ⟨fun _ => .slice none 0 0, fun _ => 0, blk_new W _, fun j _ => by rw [rowN_zero]; exact Kd.R_nil _ _ _ _ _⟩
/-- One text more: its row is another one, or longer in its place. -/
theorem SInv_step (l : List ByteArray) (n : Int) (base G i kk : Nat) (W w5 : World) (vs : Nat → Value) (f : Nat → Nat) (v5 : Value) (hb : W.heap[G]? = some (.cells (arr8 vs) 39 (0, 0)))
    (hrows : ∀ j, j < 8 → Kd.R (Kd.int .i64) 3 W base (fun k => f k = j) (vs j) (rowN l n i j)) (hk : kk < 8) (hit : ofN (rdOf ByteArray.empty l (i : Int)) n = (kk : Int))
    (hg : W.grownBy w5 (vs kk).ownBlock) (ho : Kd.R (Kd.int .i64) 3 w5 base (fun k => (if k < W.heap.size then f k else kk) = kk) v5 (rowN l n i kk ++ [(i : Int)])) :
    w5.heap[G]? = some (.cells (arr8 vs) 39 (0, 0)) ∧ SInv l n base G (i + 1) (w5.setCell ⟨G, kk, none⟩ v5) := by
  have hb5 : w5.heap[G]? = some (.cells (arr8 vs) 39 (0, 0)) := blk_grown hb hg (Kd.R_ne (hrows kk hk) hb (by decide))
  refine ⟨hb5, fun q => if q = kk then v5 else vs q, fun k => if k < W.heap.size then f k else kk, blk_put hb5 kk v5 (arr8_set vs v5 kk hk), fun j hj => ?_⟩
  by_cases hjk : j = kk
  · subst hjk
    rw [rowN_hit l n i j hit]
    simp only [if_true]
    exact Kd.R_mono (Kd.R_far (p := ⟨G, j, none⟩) (Kd.R_types ho hb5 (by decide)) (fun _ h => h.2) v5) (fun _ h => h.1)
  · rw [rowN_miss l n i j (by rw [hit]; omega)]
    simp only [if_neg hjk]
    have h1 := Kd.R_mono (ok' := fun k => f k = j ∧ k < W.heap.size) (Kd.R_bound (hrows j hj)) (fun _ h => ⟨h.1, h.2.2.1⟩)
    have h2 := Kd.R_grown h1 hg (fun k hk' he => hjk (by have := (hrows kk hk).1 k he.symm; omega))
    have h3 := Kd.R_mono (Kd.R_far (p := ⟨G, kk, none⟩) (Kd.R_types h2 hb5 (by decide)) (fun _ h => h.2) v5) (fun _ h => h.1)
    exact Kd.R_mono h3 (fun k h => by rw [if_pos h.2]; exact h.1)
theorem splitN_length (l : List ByteArray) (n : Int) (h1 : 1 ≤ n) (h8 : n ≤ 8) : (splitN l n).length = n.toNat := by
  unfold splitN; rw [if_pos ⟨h1, h8⟩]; simp
theorem splitN_get (l : List ByteArray) (n : Int) (h1 : 1 ≤ n) (h8 : n ≤ 8) (j : Nat) (hj : j < n.toNat) : (splitN l n)[j]? = some (rowN l n l.length j) := by
  unfold splitN; rw [if_pos ⟨h1, h8⟩, List.getElem?_map, List.getElem?_range hj]; rfl
/-- What the array's first rows lead to. -/
theorem SInv_F (l : List ByteArray) (n : Int) (base G : Nat) (W : World) (h1 : 1 ≤ n) (h8 : n ≤ 8) (h : SInv l n base G l.length W) (hG : base ≤ G) :
    Kd.F (Kd.slice 3 (Kd.int .i64)) W (fun k => base ≤ k) (some ⟨G, 0, none⟩) (splitN l n).length (splitN l n) := by
  obtain ⟨vs, f, hb, hrows⟩ := h
  intro W' hW'
  have hb' : W'.heap[G]? = some (.cells (arr8 vs) 39 (0, 0)) := (hW' G hG (blk_lt hb)).trans hb
  have hl := splitN_length l n h1 h8
  refine ⟨rfl, by omega, fun _ => ⟨_, rfl, fun j p hj => ?_⟩⟩
  have hjl : j < n.toNat := by rw [← hl]; exact (List.getElem?_eq_some_iff.1 hj).1
  rw [splitN_get l n h1 h8 j hjl] at hj
  injection hj with hj
  subst hj
  have hR' : Kd.R (Kd.int .i64) 3 W' base (fun k => f k = j ∧ base ≤ k ∧ k < W.heap.size ∧ ∃ q, q ∈ 3 :: (Kd.int .i64).E ∧ ∃ cells, W.heap[k]? = some (.cells cells q (0, 0))) (vs j) (rowN l n l.length j) :=
    Kd.R_move (Kd.R_bound (hrows j (by omega))) (fun k hk => hW' k hk.2.1 hk.2.2.1)
  obtain ⟨A, c, hv, hlc, hC⟩ := Kd.R_reads hR'
  refine ⟨[vs j], rfl, ⟨A, c, by rw [hv], hlc, hC⟩, fun i u hu => ?_⟩
  have hi : i = 0 := by
    have := (List.getElem?_eq_some_iff.1 hu).1
    simpa using this
  subst hi
  injection hu with hu
  subst hu
  show W'.cell? ((⟨G, 0, none⟩ : Addr).add (j * 1 + 0)) = _
  rw [Nat.mul_one, Nat.add_zero, add_plain]
  exact (blk_cell hb' j).trans (arr8_get vs j (by omega))
set_option maxHeartbeats 8000000 in
set_option maxRecDepth 100000 in
theorem split_main (A0 : Option Addr) (c0 : Nat) (l0 : List ByteArray) (a1 : Int) (w : World) (hr0 : Kd.C Kd.string w A0 l0.length l0) (hlen : l0.length < 1000000) (hsz : ∀ s ∈ l0, s.size ≤ 1000000) (h1 : 1 ≤ a1) (h8 : a1 ≤ 8) :
    Calls Try.prog 14 #[.slice A0 l0.length c0, .int .i64 a1] w fun e w' => ∃ v0_ : Value, e = .returned (v0_) ∧ Kd.N (Kd.slice 3 (Kd.int .i64)) 31 w' w.heap.size (fun k_ => (w.heap.size ≤ k_)) v0_ (splitN l0 a1) ∧ Below w.heap.size w w' := by
  have HR0 := Aside0.mk hr0
  have HSZ := Aside0.mk hsz
  clear hr0 hsz
  have t1 : decide (a1 < 1) = false := decide_eq_false (by omega)
  have t2 : decide (8 < a1) = false := decide_eq_false (by omega)
  go_enter Try.func14, Try.ntmps14
  go_wp2
  go_loopg [17] l0.length (fun kq v17 w' => ∃ i : Nat, v17 = .int .i64 i ∧ Aside0 (i + kq = l0.length) ∧ Aside0 (SInv l0 a1 w.heap.size w.heap.size i w') ∧ Aside0 (Below w.heap.size w w'))
  case atStart => exact ⟨0, rfl, ⟨by omega⟩, ⟨SInv_start l0 a1 w.heap.size w⟩, ⟨below_alloc (Below.refl _ _) _⟩⟩
  case round =>
    obtain ⟨i, rfl, HI, HS, HB⟩ := hrel
    by_cases hlt : i < l0.length
    · obtain ⟨k1, rfl⟩ : ∃ x, gk = x + 1 := ⟨gk - 1, by have := HI.out; omega⟩
      have p1 : 0 ≤ (i : Int) := by omega
      have q1 : (i : Int) < (l0.length : Int) := by omega
      obtain ⟨ad, e1, hx⟩ := Kd.at_string HR0.out (i : Int) p1 q1
      cases e1
      replace hx := (HB.out.cell (World.block_lt_of_cell? w _ hx)).trans hx
      rw [Int.toNat_natCast] at hx
      have hmem : rdOf ByteArray.empty l0 (i : Int) ∈ l0 := by
        unfold rdOf; rw [Int.toNat_natCast, List.getD_eq_getElem?_getD, List.getElem?_eq_getElem hlt, Option.getD_some]; exact List.getElem_mem hlt
      have hof := ofN_rng (rdOf ByteArray.empty l0 (i : Int)) a1 h1 h8
      obtain ⟨kk, hkk⟩ := Int.eq_ofNat_of_zero_le hof.1
      have A6 := Aside0.mk (of_tells (rdOf ByteArray.empty l0 (i : Int)) a1 (HSZ.out _ hmem) 1000001 (by have := HSZ.out _ hmem; omega))
      rw [hkk] at A6 hof
      have HIT := Aside0.mk hkk
      clear hkk hmem
      generalize rdOf ByteArray.empty l0 (i : Int) = s at hx A6
      have hk8 : kk < 8 := by omega
      have k0 : 0 ≤ (kk : Int) := by omega
      have k8 : (kk : Int) < 8 := by omega
      obtain ⟨vs, f, hblk, hrows⟩ := HS.out
      have BK := Aside0.mk hblk
      have HRW := Aside0.mk hrows
      clear HS hrows
      have hcell : wr.cell? ⟨w.heap.size, kk, none⟩ = some (vs kk) := (blk_cell hblk kk).trans (arr8_get vs kk hk8)
      have hfz : wr.frozen? ⟨w.heap.size, kk, none⟩ = false := blk_frozen hblk kk
      clear hblk hof
      have hlim : ((rowN l0 a1 i kk).length + 1) * 8 ≤ 140737488355328 := by have := rowN_length l0 a1 i kk; omega
      have HLIM := Aside0.mk hlim
      clear hlim
      have HO := Aside0.mk (Kd.R_mono (ok' := fun k => (if k < wr.heap.size then f k else kk) = kk) (Kd.R_bound (HRW.out kk hk8)) (fun k hk => by rw [if_pos hk.2.2.1]; exact hk.1))
      obtain ⟨row, hrow⟩ : ∃ x, rowN l0 a1 i kk = x := ⟨_, rfl⟩
      have HROW := Aside0.mk hrow
      rw [hrow] at HLIM HO
      clear hrow
      go_wp2_with (first | (go_at_call 12; refine (shard_Of.calls 1000001 s a1 (kk : Int) _ A6.out).mono ?_; rintro e w' ⟨rfl, ⟨nd, rfl⟩⟩) | ((with_reducible refine gate_builtin (b := .append) (xs := #[.tmp 28, .tmp 30]) rfl ?_); at_builtin; refine Kd.R_append (Kd.int .i64) (w0 := w) w.heap.size rfl (.tmp 28) (.tmp 30) 31 3 (.int .i64 0) 8 rfl Try.underlying31 sp_info3 rfl (by decide) (by omega) (vs kk) row (i : Int) [.int .i64 (i : Int)] (fun k => (if k < wr.heap.size then f k else kk) = kk) (fun _ => False) rfl rfl ?aP (fun _ hk => hk.elim) ?aF ?aO ?aB ?aS ?aL ?_; (case aP => exact rfl); (case aB => exact (by repeat (first | (with_reducible first | exact HB.out | apply below_alloc | apply pw_below_drewN | apply below_drew1) | exact HB.out))); (case aF => (intro k hk; exact if_neg (Nat.not_lt.2 hk))); (case aO => exact (by (with_reducible repeat (first | apply Kd.R_alloc | apply Kd.R_drewN | apply Kd.R_drew)); exact HO.out)); (case aS => exact HB.out.size); (case aL => exact HLIM.out); intro v126 w5 ho hb hg hat; rw [← HROW.out] at ho; obtain ⟨Ao, co, eo⟩ := Kd.R_slice ho; obtain ⟨nl, hnl⟩ : ∃ x, (rowN l0 a1 i kk ++ [(i : Int)]).length = x := ⟨_, rfl⟩; rw [hnl] at eo; subst eo; clear hnl; have hs_ := SInv_step l0 a1 w.heap.size w.heap.size i kk (wr.drewN nd) w5 vs f _ BK.out (fun j hj => Kd.R_drewN (HRW.out j hj) nd) hk8 HIT.out hg ho; have hc5 := (blk_cell hs_.1 kk).trans (arr8_get vs kk hk8); have hf5 := blk_frozen hs_.1 kk; have HS5 := Aside0.mk hs_.2; have HB5 := Aside0.mk hb; clear hs_ hat hg ho hb))
      go_roundg k1
      case measure => have := HI.out; omega
      case rel => exact ⟨i + 1, by go_num, ⟨by have := HI.out; omega⟩, HS5, ⟨below_set HB5.out (Nat.le_refl _)⟩⟩
    · obtain rfl : i = l0.length := by have := HI.out; omega
      obtain ⟨nn, rfl⟩ := Int.eq_ofNat_of_zero_le (show 0 ≤ a1 by omega)
      have n0 : 0 ≤ (nn : Int) := by omega
      have n8 : (nn : Int) ≤ 8 := h8
      have hV := Kd.V_mk (d := Kd.slice 3 (Kd.int .i64)) (e := 31) (base := wr.heap.size) (c := 8) (by rw [splitN_length l0 (nn : Int) h1 h8]; omega) (SInv_F l0 (nn : Int) w.heap.size w.heap.size wr h1 h8 HS.out (Nat.le_refl _))
      rw [splitN_length l0 (nn : Int) h1 h8, Int.toNat_natCast] at hV
      have HV := Aside0.mk hV
      clear hV
      have hcl : slices_Clone_int_int.f (splitN l0 (nn : Int)) = some (splitN l0 (nn : Int)) := by
        unfold slices_Clone_int_int.f
        simp only [Option.bind_some, List.length_nil, Nat.zero_add, List.nil_append]
        rw [if_pos (by rw [splitN_length l0 (nn : Int) h1 h8]; omega)]
      have CL := slices_Clone_int_int.calls (fun k => w.heap.size ≤ k) (some ⟨w.heap.size, 0, none⟩) 8 (splitN l0 (nn : Int)) (splitN l0 (nn : Int)) wr
      rw [splitN_length l0 (nn : Int) h1 h8, Int.toNat_natCast] at CL
      have CC := Aside0.mk (CL HV.out hcl)
      clear CL hcl
      go_wp2_with fail
      refine CC.out.mono ?_
      rintro e w' ⟨v, rfl, hN, hb⟩
      have HN := Aside0.mk hN
      have HB2 := Aside0.mk (below_step HB.out hb)
      clear hN hb
      go_wp2
      go_ret
      exact ⟨_, rfl, Kd.N_mono (Kd.N_lower HN.out HB.out.size) (fun k hk => hk.elim id (fun h => Nat.le_trans HB.out.size h)), HB2.out⟩
set_option maxHeartbeats 8000000 in
set_option maxRecDepth 100000 in
theorem split_none (A0 : Option Addr) (c0 : Nat) (l0 : List ByteArray) (a1 : Int) (w : World) (h : a1 < 1 ∨ 8 < a1) :
    Calls Try.prog 14 #[.slice A0 l0.length c0, .int .i64 a1] w fun e w' => ∃ v0_ : Value, e = .returned (v0_) ∧ Kd.N (Kd.slice 3 (Kd.int .i64)) 31 w' w.heap.size (fun k_ => (w.heap.size ≤ k_)) v0_ (splitN l0 a1) ∧ Below w.heap.size w w' := by
  have hs : splitN l0 a1 = [] := by unfold splitN; rw [if_neg (by omega)]
  have HS := Aside0.mk hs
  clear hs
  have HB := Aside0.mk (Below.refl w.heap.size w)
  by_cases t0 : a1 < 1
  · have t1 : decide (a1 < 1) = true := decide_eq_true t0
    clear h t0
    go_enter Try.func14, Try.ntmps14
    go_wp2
    go_ret
    exact ⟨_, rfl, by rw [HS.out]; exact Kd.N_nil _ _ _ _ _, HB.out⟩
  · have t1 : decide (a1 < 1) = false := decide_eq_false t0
    have t2 : decide (8 < a1) = true := decide_eq_true (by omega)
    clear h t0
    go_enter Try.func14, Try.ntmps14
    go_wp2
    go_ret
    exact ⟨_, rfl, by rw [HS.out]; exact Kd.N_nil _ _ _ _ _, HB.out⟩
theorem shard_Split.calls (A0 : Option Addr) (c0 : Nat) (l0 : List ByteArray) (a1 : Int) (r : List (List Int)) (w : World) (hr0 : Kd.C Kd.string w A0 l0.length l0) (hc0 : l0.length ≤ c0) (h : shard_Split.f l0 a1 = some r) :
    Calls Try.prog 14 #[.slice A0 l0.length c0, .int .i64 a1] w fun e w' => ∃ v0_ : Value, e = .returned (v0_) ∧ Kd.N (Kd.slice 3 (Kd.int .i64)) 31 w' w.heap.size (fun k_ => (w.heap.size ≤ k_)) v0_ r ∧ Below w.heap.size w w' := by
  unfold shard_Split.f at h
  split at h
  · rename_i hc
    injection h with h
    subst h
    by_cases hn : 1 ≤ a1 ∧ a1 ≤ 8
    · exact split_main A0 c0 l0 a1 w hr0 hc.1 (fun s hs => of_decide_eq_true (List.all_eq_true.1 hc.2 s hs)) hn.1 hn.2
    · exact split_none A0 c0 l0 a1 w (by omega)
  · cases h

/-! ### postroomlaw13_shown: function 8 -/
def postroomlaw13_shown.f (k : Nat)  : Option (Bool) := (shard_Hash.f k (⟨#[97]⟩ : ByteArray)).bind fun t114 => (if t114 = 12638187200555641996 then ((shard_Of.f k (⟨#[97]⟩ : ByteArray) 0).bind fun t115 => (if t115 = 0 then ((shard_Split.f ([] : List ByteArray) 2).bind fun t116 => (some ((t116.length : Int) == 2))) else (some false))) else (some false))
theorem postroomlaw13_shown.mono : ∀ k, LeO (postroomlaw13_shown.f k ) (postroomlaw13_shown.f (k + 1) ) := by
  intro  k
  unfold postroomlaw13_shown.f
  repeat' first
      | (with_reducible exact shard_Hash.mono _ _)
      | (with_reducible exact shard_Of.mono _ _ _)
      | (with_reducible exact LeO.refl _)
      | (with_reducible exact LeO.none _)
      | (with_reducible refine LeO.ite ?_ ?_)
      | (with_reducible refine LeO.bind ?_ (fun _ => ?_))
      | exact shard_Hash.mono _ _
      | exact shard_Of.mono _ _ _
      | exact LeO.none _
      | refine LeO.ite ?_ ?_
      | refine LeO.bind ?_ (fun _ => ?_)
set_option maxHeartbeats 8000000 in
set_option maxRecDepth 100000 in
theorem postroomlaw13_shown.calls (k : Nat)  (r : Bool) (w : World) (h : postroomlaw13_shown.f k  = some r) :
    Calls Try.prog 8 #[] w fun e w' => e = .returned (.bool r) ∧ Below w.heap.size w w' := by
  have HB := Aside0.mk (Below.refl w.heap.size w)
  have H : ((shard_Hash.f k (⟨#[97]⟩ : ByteArray)).bind fun t114 => (if t114 = 12638187200555641996 then ((shard_Of.f k (⟨#[97]⟩ : ByteArray) 0).bind fun t115 => (if t115 = 0 then ((shard_Split.f ([] : List ByteArray) 2).bind fun t116 => (some ((t116.length : Int) == 2))) else (some false))) else (some false))) = some r := h
  clear h
  replace H := Option.bind_eq_some_iff.mp H
  obtain ⟨t114, A10, H⟩ := H
  replace H : (if t114 = 12638187200555641996 then ((shard_Of.f k (⟨#[97]⟩ : ByteArray) 0).bind fun t115 => (if t115 = 0 then ((shard_Split.f ([] : List ByteArray) 2).bind fun t116 => (some ((t116.length : Int) == 2))) else (some false))) else (some false)) = some r := H
  have A1 := Aside0.mk A10
  clear A10
  by_cases c2 : t114 = 12638187200555641996
  · rw [if_pos c2] at H
    have c2b0 : (t114 == 12638187200555641996) = true := beq_iff_eq.mpr c2
    have c2b1 : (t114 != 12638187200555641996) = false := bne_eq_false_iff_eq.mpr c2
    clear c2
    replace H := Option.bind_eq_some_iff.mp H
    obtain ⟨t115, A30, H⟩ := H
    replace H : (if t115 = 0 then ((shard_Split.f ([] : List ByteArray) 2).bind fun t116 => (some ((t116.length : Int) == 2))) else (some false)) = some r := H
    have A3 := Aside0.mk A30
    clear A30
    by_cases c4 : t115 = 0
    · rw [if_pos c4] at H
      have c4b0 : (t115 == 0) = true := beq_iff_eq.mpr c4
      have c4b1 : (t115 != 0) = false := bne_eq_false_iff_eq.mpr c4
      clear c4
      replace H := Option.bind_eq_some_iff.mp H
      obtain ⟨t116, A50, H⟩ := H
      replace H : (some ((t116.length : Int) == 2)) = some r := H
      have A5 := Aside0.mk A50
      clear A50
      obtain rfl := Option.some.inj H
      go_enter Try.func8, Try.ntmps8
      go_wp2_with (first | ((with_reducible refine gate_callee (f := 10) rfl ?_); refine goesL_ (some 1) rfl rfl Try.func10 (by kernel_rfl) rfl #[.string (⟨#[97]⟩ : ByteArray)] rfl (by (try simp only [List.map_toArray, List.map_cons, List.map_nil]); first | done | rfl | (simp only [List.length_drop, List.length_take]; rfl)) ?_; (with_reducible refine (shard_Hash.calls k (⟨#[97]⟩ : ByteArray) t114 _ A1.out).mono ?_); rintro e w' ⟨rfl, ⟨nd, rfl⟩⟩; refine ⟨_, rfl, ?_⟩) | (go_at_call 12; (with_reducible refine (shard_Of.calls k (⟨#[97]⟩ : ByteArray) 0 t115 _ A3.out).mono ?_); rintro e w' ⟨rfl, ⟨nd, rfl⟩⟩) | (go_at_call 14; (refine (shard_Split.calls _ _ ([] : List ByteArray) 2 t116 _ ?side1 ?side2 A5.out).mono ?_); (case side1 => exact Kd.C_nil _ _); (case side2 => exact Nat.le_refl _); rintro e w6 ⟨v117, rfl, ho0, hb⟩; have n0_ := Aside0.mk (Kd.N_lower (Kd.N_mono (ok' := fun k_ => True) ho0 (fun k_ hk_ => trivial)) (below_size (by repeat (first | (with_reducible first | exact HB.out | apply below_alloc | apply pw_below_drewN | apply below_drew1) | exact HB.out)))); have n1_ := Aside0.mk (below_step (by repeat (first | (with_reducible first | exact HB.out | apply below_alloc | apply pw_below_drewN | apply below_drew1) | exact HB.out)) hb); clear HB; have HO118 := n0_; have HB := n1_; clear n0_ n1_; (try clear hb); (try clear hb2); (try clear hk); (try clear hi); (try clear ho0); obtain ⟨Ao7, co7, eo7⟩ := Kd.N_slice HO118.out; subst eo7))
      go_ret
      exact ⟨by first | rfl | (simp [errW_none, errW_some] <;> rfl) | (simp [*, errW_none, errW_some] <;> rfl), by repeat (first | (with_reducible first | exact HB.out | apply below_alloc | apply pw_below_drewN | apply below_drew1) | exact HB.out)⟩
    · rw [if_neg c4] at H
      have c4b0 : (t115 == 0) = false := beq_eq_false_iff_ne.mpr c4
      have c4b1 : (t115 != 0) = true := bne_iff_ne.mpr c4
      obtain rfl := Option.some.inj H
      go_enter Try.func8, Try.ntmps8
      go_wp2_with (first | ((with_reducible refine gate_callee (f := 10) rfl ?_); refine goesL_ (some 1) rfl rfl Try.func10 (by kernel_rfl) rfl #[.string (⟨#[97]⟩ : ByteArray)] rfl (by (try simp only [List.map_toArray, List.map_cons, List.map_nil]); first | done | rfl | (simp only [List.length_drop, List.length_take]; rfl)) ?_; (with_reducible refine (shard_Hash.calls k (⟨#[97]⟩ : ByteArray) t114 _ A1.out).mono ?_); rintro e w' ⟨rfl, ⟨nd, rfl⟩⟩; refine ⟨_, rfl, ?_⟩) | (go_at_call 12; (with_reducible refine (shard_Of.calls k (⟨#[97]⟩ : ByteArray) 0 t115 _ A3.out).mono ?_); rintro e w' ⟨rfl, ⟨nd, rfl⟩⟩))
      go_ret
      exact ⟨by first | rfl | (simp [errW_none, errW_some] <;> rfl) | (simp [*, errW_none, errW_some] <;> rfl), by repeat (first | (with_reducible first | exact HB.out | apply below_alloc | apply pw_below_drewN | apply below_drew1) | exact HB.out)⟩
  · rw [if_neg c2] at H
    have c2b0 : (t114 == 12638187200555641996) = false := beq_eq_false_iff_ne.mpr c2
    have c2b1 : (t114 != 12638187200555641996) = true := bne_iff_ne.mpr c2
    obtain rfl := Option.some.inj H
    go_enter Try.func8, Try.ntmps8
    go_wp2_with (first | ((with_reducible refine gate_callee (f := 10) rfl ?_); refine goesL_ (some 1) rfl rfl Try.func10 (by kernel_rfl) rfl #[.string (⟨#[97]⟩ : ByteArray)] rfl (by (try simp only [List.map_toArray, List.map_cons, List.map_nil]); first | done | rfl | (simp only [List.length_drop, List.length_take]; rfl)) ?_; (with_reducible refine (shard_Hash.calls k (⟨#[97]⟩ : ByteArray) t114 _ A1.out).mono ?_); rintro e w' ⟨rfl, ⟨nd, rfl⟩⟩; refine ⟨_, rfl, ?_⟩))
    go_ret
    exact ⟨by first | rfl | (simp [errW_none, errW_some] <;> rfl) | (simp [*, errW_none, errW_some] <;> rfl), by repeat (first | (with_reducible first | exact HB.out | apply below_alloc | apply pw_below_drewN | apply below_drew1) | exact HB.out)⟩

/-! ### postroomlaw13_few: function 9 -/
def postroomlaw13_few.l0 : Nat → List ByteArray → Int → Int → Option (Bool)
  | 0, _, _, _ => none
  | k + 1, x0, x3, x4 => if x4 < (x0.length : Int) then (if 0 ≤ x4 then (postroomlaw13_few.l0 k x0 (wrap64 (x3 + ((rdOf ByteArray.empty x0 x4).size : Int))) (wrap64 (x4 + 1))) else (none)) else (if (x0.length : Int) ≤ 50 then (some (decide (x3 ≤ 2000))) else (some false))
def postroomlaw13_few.f (k : Nat) (l0 : List ByteArray) : Option (Bool) := postroomlaw13_few.l0 k l0 0 0
theorem postroomlaw13_few.mono_l : ∀ k, (∀ y0 y1 y2, LeO (postroomlaw13_few.l0 k y0 y1 y2) (postroomlaw13_few.l0 (k + 1) y0 y1 y2))
  | 0 => fun _ _ _ r h => by simp [postroomlaw13_few.l0] at h
  | k + 1 => by
    have ih0 := postroomlaw13_few.mono_l k
    · intro y0 y1 y2
      unfold postroomlaw13_few.l0
      repeat' first
      | (with_reducible exact ih0 _ _ _)
      | (with_reducible exact LeO.refl _)
      | (with_reducible exact LeO.none _)
      | (with_reducible refine LeO.ite ?_ ?_)
      | (with_reducible refine LeO.bind ?_ (fun _ => ?_))
      | exact ih0 _ _ _
      | exact LeO.none _
      | refine LeO.ite ?_ ?_
      | refine LeO.bind ?_ (fun _ => ?_)
theorem postroomlaw13_few.mono : ∀ a0 k, LeO (postroomlaw13_few.f k a0) (postroomlaw13_few.f (k + 1) a0) := by
  intro a0 k
  have ih0 := postroomlaw13_few.mono_l k
  unfold postroomlaw13_few.f
  repeat' first
      | (with_reducible exact ih0 _ _ _)
      | (with_reducible exact LeO.refl _)
      | (with_reducible exact LeO.none _)
      | (with_reducible refine LeO.ite ?_ ?_)
      | (with_reducible refine LeO.bind ?_ (fun _ => ?_))
      | exact ih0 _ _ _
      | exact LeO.none _
      | refine LeO.ite ?_ ?_
      | refine LeO.bind ?_ (fun _ => ?_)
set_option maxHeartbeats 8000000 in
set_option maxRecDepth 100000 in
theorem postroomlaw13_few.calls (k : Nat) (A0 : Option Addr) (c0 : Nat) (l0 : List ByteArray) (r : Bool) (w : World) (hr0 : Kd.C Kd.string w A0 l0.length l0) (hc0 : l0.length ≤ c0) (h : postroomlaw13_few.f k l0 = some r) :
    Calls Try.prog 9 #[.slice A0 l0.length c0] w fun e w' => e = .returned (.bool r) ∧ Drawn0 w w' := by
  have HR0 := Aside0.mk hr0
  have HC0 := Aside0.mk hc0
  clear hr0 hc0
  have H : (postroomlaw13_few.l0 k l0 0 0) = some r := h
  clear h
  have H' := Aside0.mk H
  clear H
  go_enter Try.func9, Try.ntmps9
  go_wp2
  go_loopg [3, 4] k (fun kq v3 v4 w' => ∃ (x3_1 : Int) (x4_1 : Int), v3 = .int .i64 x3_1 ∧ v4 = .int .i64 x4_1 ∧ Aside0 (postroomlaw13_few.l0 kq l0 x3_1 x4_1 = some r) ∧ Aside0 (kq ≤ k) ∧ Drawn0 w w')
  case atStart => exact ⟨(0), (0), (by first | rfl | (simp; done) | (simp [*]; done)), (by first | rfl | (simp; done) | (simp [*]; done)), H', ⟨Nat.le_refl _⟩, by repeat (first | exact Drawn0.refl _ | apply Drawn0.step)⟩
  case round =>
    clear H'
    obtain ⟨x3_1, x4_1, rfl, rfl, HA, HK1, ⟨m1, rfl⟩⟩ := hrel
    cases gk with
    | zero => exact absurd HA.out (by simp [postroomlaw13_few.l0])
    | succ k1 =>
      have H := HA.out
      clear HA
      simp only [postroomlaw13_few.l0] at H
      by_cases c2 : x4_1 < (l0.length : Int)
      · rw [if_pos c2] at H
        have c2b0 : decide (x4_1 < (l0.length : Int)) = true := decide_eq_true c2
        clear c2
        by_cases c3 : 0 ≤ x4_1
        · rw [if_pos c3] at H
          have c3b0 : decide (0 ≤ x4_1) = true := decide_eq_true c3
          clear c3
          have H' := Aside0.mk H
          clear H
          have p119 : 0 ≤ (x4_1 : Int) := of_decide_eq_true (by first | (with_reducible assumption) | assumption)
          have q119 : x4_1 < (l0.length : Int) := of_decide_eq_true (by first | (with_reducible assumption) | assumption)
          obtain ⟨ad119, e119, hx119_0⟩ := Kd.at_string HR0.out x4_1 p119 q119
          cases e119
          replace p119 := eq_true p119
          replace q119 := eq_true q119
          go_wp2
          go_roundg k1
          case measure => have := HK1.out; omega
          case rel => exact ⟨(wrap64 (x3_1 + ((rdOf ByteArray.empty l0 x4_1).size : Int))), (wrap64 (x4_1 + 1)), (by first | rfl | (simp; done) | (simp [*]; done)), (by first | rfl | (simp; done) | (simp [*]; done)), H', ⟨by have := HK1.out; omega⟩, by repeat (first | exact Drawn0.refl _ | apply Drawn0.step)⟩
        · rw [if_neg c3] at H
          exact absurd H (by simp)
      · rw [if_neg c2] at H
        have c2b0 : decide (x4_1 < (l0.length : Int)) = false := decide_eq_false c2
        clear c2
        by_cases c4 : (l0.length : Int) ≤ 50
        · rw [if_pos c4] at H
          have c4b0 : decide ((l0.length : Int) ≤ 50) = true := decide_eq_true c4
          have c4b1 : decide (l0.length ≤ 50) = true := decide_eq_true (by omega)
          clear c4
          obtain rfl := Option.some.inj H
          go_wp2
          go_ret
          exact ⟨by first | rfl | (simp; done) | (simp [*]; done), by repeat (first | exact Drawn0.refl _ | apply Drawn0.step)⟩
        · rw [if_neg c4] at H
          have c4b0 : decide ((l0.length : Int) ≤ 50) = false := decide_eq_false c4
          have c4b1 : decide (l0.length ≤ 50) = false := decide_eq_false (by omega)
          clear c4
          obtain rfl := Option.some.inj H
          go_wp2
          go_ret
          exact ⟨by first | rfl | (simp; done) | (simp [*]; done), by repeat (first | exact Drawn0.refl _ | apply Drawn0.step)⟩

/-! ### postroomlaw13_pick: function 17 -/
def postroomlaw13_pick.f (a0 : Int) (a1 : Int) : Option (Int) := if a0 < 0 then (if a1 = 0 then (none) else (some (Int.tmod (wrap64 (-(wrap64 (a0 + 1)))) a1))) else (if a1 = 0 then (none) else (some (Int.tmod a0 a1)))
set_option maxHeartbeats 8000000 in
set_option maxRecDepth 100000 in
theorem postroomlaw13_pick.calls (a0 : Int) (a1 : Int) (r : Int) (w : World) (h : postroomlaw13_pick.f a0 a1 = some r) :
    Calls Try.prog 17 #[.int .i64 a0, .int .i64 a1] w fun e w' => e = .returned (.int .i64 r) ∧ Drawn0 w w' := by
  have H : (if a0 < 0 then (if a1 = 0 then (none) else (some (Int.tmod (wrap64 (-(wrap64 (a0 + 1)))) a1))) else (if a1 = 0 then (none) else (some (Int.tmod a0 a1)))) = some r := h
  clear h
  by_cases c3 : a0 < 0
  · rw [if_pos c3] at H
    have c3b0 : decide (a0 < 0) = true := decide_eq_true c3
    clear c3
    by_cases c4 : a1 = 0
    · rw [if_pos c4] at H
      exact absurd H (by simp)
    · rw [if_neg c4] at H
      have c4b0 : (a1 == 0) = false := beq_eq_false_iff_ne.mpr c4
      have c4b1 : (a1 != 0) = true := bne_iff_ne.mpr c4
      obtain rfl := Option.some.inj H
      go_enter Try.func17, Try.ntmps17
      go_wp2
      go_ret
      exact ⟨by first | rfl | (simp; done) | (simp [*]; done), by repeat (first | exact Drawn0.refl _ | apply Drawn0.step)⟩
  · rw [if_neg c3] at H
    have c3b0 : decide (a0 < 0) = false := decide_eq_false c3
    clear c3
    by_cases c5 : a1 = 0
    · rw [if_pos c5] at H
      exact absurd H (by simp)
    · rw [if_neg c5] at H
      have c5b0 : (a1 == 0) = false := beq_eq_false_iff_ne.mpr c5
      have c5b1 : (a1 != 0) = true := bne_iff_ne.mpr c5
      obtain rfl := Option.some.inj H
      go_enter Try.func17, Try.ntmps17
      go_wp2
      go_ret
      exact ⟨by first | rfl | (simp; done) | (simp [*]; done), by repeat (first | exact Drawn0.refl _ | apply Drawn0.step)⟩

end Go.Proofs.Ytemjjhpdpdlbnaa.QShardOne
