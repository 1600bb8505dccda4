-- Printed by a program of this session (wip/tools/myprint.sh) in the form of print.sh: Clone's contract is proved by hand
import Derived.Test.YtemjjhpdpdlbnaaQShardOnex0
import Derived.Test.YtemjjhpdpdlbnaaQShardOnex1
namespace Go.Proofs.Ytemjjhpdpdlbnaa.QShardOne
open Go.RowKit Go.Proofs.YtemjjhpdpdlbnaaW.PrintWords Go.Proofs.YtemjjhpdpdlbnaaW.PrintLast Go.Proofs.YtemjjhpdpdlbnaaW.PrintMore
attribute [local go_sem] max2_int min2_int max_two min_two max_three min_three max_four min_four   -- for this text's walks alone
set_option linter.unusedVariables false
set_option linter.unusedSimpArgs false

/-! ### postroomlaw13_ShardOne: function 4 -/
mutual
def postroomlaw13_ShardOne.j0 : Nat → List ByteArray → List ByteArray → Int → Bool → Bool → Option (Bool)
  | 0, _, _, _, _, _ => none
  | k + 1, x0, x1, x2, x7, x34 => if x34 = true then (some x7) else ((postroomlaw13_pick.f x2 8).bind fun t123 => ((shard_Split.f x0 (wrap64 (1 + t123))).bind fun t124 => ((some (([] : List ByteArray) : List ByteArray)).bind fun y127 => (if y127.length + x1.length < 8796093022208 then ((some (y127 ++ x1 : List ByteArray)).bind fun y130 => (if y130.length + x0.length < 8796093022208 then ((shard_Split.f (y130 ++ x0) (wrap64 (1 + t123))).bind fun t136 => (if (t124.length : Int) = (wrap64 (1 + t123)) then (postroomlaw13_ShardOne.j1 k x0 x1 (wrap64 (1 + t123)) t124 t136 ((t136.length : Int) != (wrap64 (1 + t123)))) else (postroomlaw13_ShardOne.j1 k x0 x1 (wrap64 (1 + t123)) t124 t136 true))) else (none))) else (none)))))
def postroomlaw13_ShardOne.j1 : Nat → List ByteArray → List ByteArray → Int → List (List Int) → List (List Int) → Bool → Option (Bool)
  | 0, _, _, _, _, _, _ => none
  | k + 1, x0, x1, x10, x11, x12, x58 => if x58 = true then (some false) else (if 0 ≤ (x0.length : Int) then (if ((x0.length : Int) : Int).toNat ≤ 35184372088832 then (postroomlaw13_ShardOne.l0 k x0 x1 x10 x11 x12 (List.replicate ((x0.length : Int) : Int).toNat 0) 0) else (none)) else (none))
def postroomlaw13_ShardOne.l0 : Nat → List ByteArray → List ByteArray → Int → List (List Int) → List (List Int) → List Int → Int → Option (Bool)
  | 0, _, _, _, _, _, _, _ => none
  | k + 1, x0, x1, x10, x11, x12, x13, x14 => if x14 < x10 then (postroomlaw13_ShardOne.l1 k x0 x1 x10 x11 x12 x13 x14 0) else (postroomlaw13_ShardOne.l3 k x0 x13 0)
def postroomlaw13_ShardOne.l1 : Nat → List ByteArray → List ByteArray → Int → List (List Int) → List (List Int) → List Int → Int → Int → Option (Bool)
  | 0, _, _, _, _, _, _, _, _ => none
  | k + 1, x0, x1, x10, x11, x12, x13, x14, x15 => if 0 ≤ x14 then (if x14 < (x11.length : Int) then (if x15 < ((rd_L1 x11 x14).length : Int) then (if 0 ≤ x15 then (if (rd (rd_L1 x11 x14) x15) < 0 then (postroomlaw13_ShardOne.j4 k x0 x1 x10 x11 x12 x13 x14 x15 (rd (rd_L1 x11 x14) x15) true) else (if (rd (rd_L1 x11 x14) x15) ≥ (x0.length : Int) then (postroomlaw13_ShardOne.j4 k x0 x1 x10 x11 x12 x13 x14 x15 (rd (rd_L1 x11 x14) x15) true) else (if x15 > 0 then (if 0 ≤ (wrap64 (x15 - 1)) then (if (wrap64 (x15 - 1)) < ((rd_L1 x11 x14).length : Int) then (if (rd (rd_L1 x11 x14) x15) ≤ (rd (rd_L1 x11 x14) (wrap64 (x15 - 1))) then (postroomlaw13_ShardOne.j4 k x0 x1 x10 x11 x12 x13 x14 x15 (rd (rd_L1 x11 x14) x15) true) else (if 0 ≤ (rd (rd_L1 x11 x14) x15) then (if (rd (rd_L1 x11 x14) x15) < (x0.length : Int) then ((shard_Of.f k (rdOf ByteArray.empty x0 (rd (rd_L1 x11 x14) x15)) x10).bind fun t148 => (postroomlaw13_ShardOne.j4 k x0 x1 x10 x11 x12 x13 x14 x15 (rd (rd_L1 x11 x14) x15) (t148 != x14))) else (none)) else (none))) else (none)) else (none)) else (if 0 ≤ (rd (rd_L1 x11 x14) x15) then (if (rd (rd_L1 x11 x14) x15) < (x0.length : Int) then ((shard_Of.f k (rdOf ByteArray.empty x0 (rd (rd_L1 x11 x14) x15)) x10).bind fun t150 => (postroomlaw13_ShardOne.j4 k x0 x1 x10 x11 x12 x13 x14 x15 (rd (rd_L1 x11 x14) x15) (t150 != x14))) else (none)) else (none))))) else (none)) else (postroomlaw13_ShardOne.l0 k x0 x1 x10 x11 x12 x13 (wrap64 (x14 + 1)))) else (none)) else (none)
def postroomlaw13_ShardOne.j4 : Nat → List ByteArray → List ByteArray → Int → List (List Int) → List (List Int) → List Int → Int → Int → Int → Bool → Option (Bool)
  | 0, _, _, _, _, _, _, _, _, _, _ => none
  | k + 1, x0, x1, x10, x11, x12, x13, x14, x15, x16, x116 => if x116 = true then (some false) else (if 0 ≤ x16 then (if x16 < (x13.length : Int) then (postroomlaw13_ShardOne.l2 k x0 x1 x10 x11 x12 (x13.set (x16 : Int).toNat (wrap64 ((rd x13 x16) + 1))) x14 x15 x16 false 0) else (none)) else (none))
def postroomlaw13_ShardOne.l2 : Nat → List ByteArray → List ByteArray → Int → List (List Int) → List (List Int) → List Int → Int → Int → Int → Bool → Int → Option (Bool)
  | 0, _, _, _, _, _, _, _, _, _, _, _ => none
  | k + 1, x0, x1, x10, x11, x12, x13, x14, x15, x16, x17, x18 => if 0 ≤ x14 then (if x14 < (x12.length : Int) then (if x18 < ((rd_L1 x12 x14).length : Int) then (if x17 = true then (postroomlaw13_ShardOne.l2 k x0 x1 x10 x11 x12 x13 x14 x15 x16 true (wrap64 (x18 + 1))) else (if 0 ≤ x18 then (postroomlaw13_ShardOne.l2 k x0 x1 x10 x11 x12 x13 x14 x15 x16 ((rd (rd_L1 x12 x14) x18) == (wrap64 (x16 + (x1.length : Int)))) (wrap64 (x18 + 1))) else (none))) else (if x17 = true then (postroomlaw13_ShardOne.l1 k x0 x1 x10 x11 x12 x13 x14 (wrap64 (x15 + 1))) else (some false))) else (none)) else (none)
def postroomlaw13_ShardOne.l3 : Nat → List ByteArray → List Int → Int → Option (Bool)
  | 0, _, _, _ => none
  | k + 1, x0, x13, x19 => if x19 < (x0.length : Int) then (if 0 ≤ x19 then (if x19 < (x13.length : Int) then (if (rd x13 x19) = 1 then (postroomlaw13_ShardOne.l3 k x0 x13 (wrap64 (x19 + 1))) else (some false)) else (none)) else (none)) else (some true)
end
def postroomlaw13_ShardOne.f (k : Nat) (l0 : List ByteArray) (l1 : List ByteArray) (a2 : Int) : Option (Bool) := (postroomlaw13_shown.f k).bind fun t120 => ((postroomlaw13_few.f k l0).bind fun t121 => ((postroomlaw13_few.f k l1).bind fun t122 => (if t120 = true then (if t121 = true then (postroomlaw13_ShardOne.j0 k l0 l1 a2 t120 (!t122)) else (postroomlaw13_ShardOne.j0 k l0 l1 a2 t120 true)) else (postroomlaw13_ShardOne.j0 k l0 l1 a2 t120 true))))
theorem postroomlaw13_ShardOne.mono_l : ∀ k, (∀ y0 y1 y2 y3 y4, LeO (postroomlaw13_ShardOne.j0 k y0 y1 y2 y3 y4) (postroomlaw13_ShardOne.j0 (k + 1) y0 y1 y2 y3 y4)) ∧ (∀ y0 y1 y2 y3 y4 y5, LeO (postroomlaw13_ShardOne.j1 k y0 y1 y2 y3 y4 y5) (postroomlaw13_ShardOne.j1 (k + 1) y0 y1 y2 y3 y4 y5)) ∧ (∀ y0 y1 y2 y3 y4 y5 y6, LeO (postroomlaw13_ShardOne.l0 k y0 y1 y2 y3 y4 y5 y6) (postroomlaw13_ShardOne.l0 (k + 1) y0 y1 y2 y3 y4 y5 y6)) ∧ (∀ y0 y1 y2 y3 y4 y5 y6 y7, LeO (postroomlaw13_ShardOne.l1 k y0 y1 y2 y3 y4 y5 y6 y7) (postroomlaw13_ShardOne.l1 (k + 1) y0 y1 y2 y3 y4 y5 y6 y7)) ∧ (∀ y0 y1 y2 y3 y4 y5 y6 y7 y8 y9, LeO (postroomlaw13_ShardOne.j4 k y0 y1 y2 y3 y4 y5 y6 y7 y8 y9) (postroomlaw13_ShardOne.j4 (k + 1) y0 y1 y2 y3 y4 y5 y6 y7 y8 y9)) ∧ (∀ y0 y1 y2 y3 y4 y5 y6 y7 y8 y9 y10, LeO (postroomlaw13_ShardOne.l2 k y0 y1 y2 y3 y4 y5 y6 y7 y8 y9 y10) (postroomlaw13_ShardOne.l2 (k + 1) y0 y1 y2 y3 y4 y5 y6 y7 y8 y9 y10)) ∧ (∀ y0 y1 y2, LeO (postroomlaw13_ShardOne.l3 k y0 y1 y2) (postroomlaw13_ShardOne.l3 (k + 1) y0 y1 y2))
  | 0 => ⟨fun _ _ _ _ _ r h => by simp [postroomlaw13_ShardOne.j0] at h, fun _ _ _ _ _ _ r h => by simp [postroomlaw13_ShardOne.j1] at h, fun _ _ _ _ _ _ _ r h => by simp [postroomlaw13_ShardOne.l0] at h, fun _ _ _ _ _ _ _ _ r h => by simp [postroomlaw13_ShardOne.l1] at h, fun _ _ _ _ _ _ _ _ _ _ r h => by simp [postroomlaw13_ShardOne.j4] at h, fun _ _ _ _ _ _ _ _ _ _ _ r h => by simp [postroomlaw13_ShardOne.l2] at h, fun _ _ _ r h => by simp [postroomlaw13_ShardOne.l3] at h⟩
  | k + 1 => by
    obtain ⟨ih0, ih1, ih2, ih3, ih4, ih5, ih6⟩ := postroomlaw13_ShardOne.mono_l k
    refine ⟨?_, ?_, ?_, ?_, ?_, ?_, ?_⟩
    · intro y0 y1 y2 y3 y4
      unfold postroomlaw13_ShardOne.j0
      repeat' first
      | (with_reducible exact ih0 _ _ _ _ _)
      | (with_reducible exact ih1 _ _ _ _ _ _)
      | (with_reducible exact ih2 _ _ _ _ _ _ _)
      | (with_reducible exact ih3 _ _ _ _ _ _ _ _)
      | (with_reducible exact ih4 _ _ _ _ _ _ _ _ _ _)
      | (with_reducible exact ih5 _ _ _ _ _ _ _ _ _ _ _)
      | (with_reducible exact ih6 _ _ _)
      | (with_reducible exact postroomlaw13_few.mono _ _)
      | (with_reducible exact postroomlaw13_shown.mono _)
      | (with_reducible exact shard_Of.mono _ _ _)
      | (with_reducible exact LeO.refl _)
      | (with_reducible exact LeO.none _)
      | (with_reducible refine LeO.ite ?_ ?_)
      | (with_reducible refine LeO.bind ?_ (fun _ => ?_))
      | exact ih0 _ _ _ _ _
      | exact ih1 _ _ _ _ _ _
      | exact ih2 _ _ _ _ _ _ _
      | exact ih3 _ _ _ _ _ _ _ _
      | exact ih4 _ _ _ _ _ _ _ _ _ _
      | exact ih5 _ _ _ _ _ _ _ _ _ _ _
      | exact ih6 _ _ _
      | exact postroomlaw13_few.mono _ _
      | exact postroomlaw13_shown.mono _
      | exact shard_Of.mono _ _ _
      | exact LeO.none _
      | refine LeO.ite ?_ ?_
      | refine LeO.bind ?_ (fun _ => ?_)
    · intro y0 y1 y2 y3 y4 y5
      unfold postroomlaw13_ShardOne.j1
      repeat' first
      | (with_reducible exact ih0 _ _ _ _ _)
      | (with_reducible exact ih1 _ _ _ _ _ _)
      | (with_reducible exact ih2 _ _ _ _ _ _ _)
      | (with_reducible exact ih3 _ _ _ _ _ _ _ _)
      | (with_reducible exact ih4 _ _ _ _ _ _ _ _ _ _)
      | (with_reducible exact ih5 _ _ _ _ _ _ _ _ _ _ _)
      | (with_reducible exact ih6 _ _ _)
      | (with_reducible exact postroomlaw13_few.mono _ _)
      | (with_reducible exact postroomlaw13_shown.mono _)
      | (with_reducible exact shard_Of.mono _ _ _)
      | (with_reducible exact LeO.refl _)
      | (with_reducible exact LeO.none _)
      | (with_reducible refine LeO.ite ?_ ?_)
      | (with_reducible refine LeO.bind ?_ (fun _ => ?_))
      | exact ih0 _ _ _ _ _
      | exact ih1 _ _ _ _ _ _
      | exact ih2 _ _ _ _ _ _ _
      | exact ih3 _ _ _ _ _ _ _ _
      | exact ih4 _ _ _ _ _ _ _ _ _ _
      | exact ih5 _ _ _ _ _ _ _ _ _ _ _
      | exact ih6 _ _ _
      | exact postroomlaw13_few.mono _ _
      | exact postroomlaw13_shown.mono _
      | exact shard_Of.mono _ _ _
      | exact LeO.none _
      | refine LeO.ite ?_ ?_
      | refine LeO.bind ?_ (fun _ => ?_)
    · intro y0 y1 y2 y3 y4 y5 y6
      unfold postroomlaw13_ShardOne.l0
      repeat' first
      | (with_reducible exact ih0 _ _ _ _ _)
      | (with_reducible exact ih1 _ _ _ _ _ _)
      | (with_reducible exact ih2 _ _ _ _ _ _ _)
      | (with_reducible exact ih3 _ _ _ _ _ _ _ _)
      | (with_reducible exact ih4 _ _ _ _ _ _ _ _ _ _)
      | (with_reducible exact ih5 _ _ _ _ _ _ _ _ _ _ _)
      | (with_reducible exact ih6 _ _ _)
      | (with_reducible exact postroomlaw13_few.mono _ _)
      | (with_reducible exact postroomlaw13_shown.mono _)
      | (with_reducible exact shard_Of.mono _ _ _)
      | (with_reducible exact LeO.refl _)
      | (with_reducible exact LeO.none _)
      | (with_reducible refine LeO.ite ?_ ?_)
      | (with_reducible refine LeO.bind ?_ (fun _ => ?_))
      | exact ih0 _ _ _ _ _
      | exact ih1 _ _ _ _ _ _
      | exact ih2 _ _ _ _ _ _ _
      | exact ih3 _ _ _ _ _ _ _ _
      | exact ih4 _ _ _ _ _ _ _ _ _ _
      | exact ih5 _ _ _ _ _ _ _ _ _ _ _
      | exact ih6 _ _ _
      | exact postroomlaw13_few.mono _ _
      | exact postroomlaw13_shown.mono _
      | exact shard_Of.mono _ _ _
      | exact LeO.none _
      | refine LeO.ite ?_ ?_
      | refine LeO.bind ?_ (fun _ => ?_)
    · intro y0 y1 y2 y3 y4 y5 y6 y7
      unfold postroomlaw13_ShardOne.l1
      repeat' first
      | (with_reducible exact ih0 _ _ _ _ _)
      | (with_reducible exact ih1 _ _ _ _ _ _)
      | (with_reducible exact ih2 _ _ _ _ _ _ _)
      | (with_reducible exact ih3 _ _ _ _ _ _ _ _)
      | (with_reducible exact ih4 _ _ _ _ _ _ _ _ _ _)
      | (with_reducible exact ih5 _ _ _ _ _ _ _ _ _ _ _)
      | (with_reducible exact ih6 _ _ _)
      | (with_reducible exact postroomlaw13_few.mono _ _)
      | (with_reducible exact postroomlaw13_shown.mono _)
      | (with_reducible exact shard_Of.mono _ _ _)
      | (with_reducible exact LeO.refl _)
      | (with_reducible exact LeO.none _)
      | (with_reducible refine LeO.ite ?_ ?_)
      | (with_reducible refine LeO.bind ?_ (fun _ => ?_))
      | exact ih0 _ _ _ _ _
      | exact ih1 _ _ _ _ _ _
      | exact ih2 _ _ _ _ _ _ _
      | exact ih3 _ _ _ _ _ _ _ _
      | exact ih4 _ _ _ _ _ _ _ _ _ _
      | exact ih5 _ _ _ _ _ _ _ _ _ _ _
      | exact ih6 _ _ _
      | exact postroomlaw13_few.mono _ _
      | exact postroomlaw13_shown.mono _
      | exact shard_Of.mono _ _ _
      | exact LeO.none _
      | refine LeO.ite ?_ ?_
      | refine LeO.bind ?_ (fun _ => ?_)
    · intro y0 y1 y2 y3 y4 y5 y6 y7 y8 y9
      unfold postroomlaw13_ShardOne.j4
      repeat' first
      | (with_reducible exact ih0 _ _ _ _ _)
      | (with_reducible exact ih1 _ _ _ _ _ _)
      | (with_reducible exact ih2 _ _ _ _ _ _ _)
      | (with_reducible exact ih3 _ _ _ _ _ _ _ _)
      | (with_reducible exact ih4 _ _ _ _ _ _ _ _ _ _)
      | (with_reducible exact ih5 _ _ _ _ _ _ _ _ _ _ _)
      | (with_reducible exact ih6 _ _ _)
      | (with_reducible exact postroomlaw13_few.mono _ _)
      | (with_reducible exact postroomlaw13_shown.mono _)
      | (with_reducible exact shard_Of.mono _ _ _)
      | (with_reducible exact LeO.refl _)
      | (with_reducible exact LeO.none _)
      | (with_reducible refine LeO.ite ?_ ?_)
      | (with_reducible refine LeO.bind ?_ (fun _ => ?_))
      | exact ih0 _ _ _ _ _
      | exact ih1 _ _ _ _ _ _
      | exact ih2 _ _ _ _ _ _ _
      | exact ih3 _ _ _ _ _ _ _ _
      | exact ih4 _ _ _ _ _ _ _ _ _ _
      | exact ih5 _ _ _ _ _ _ _ _ _ _ _
      | exact ih6 _ _ _
      | exact postroomlaw13_few.mono _ _
      | exact postroomlaw13_shown.mono _
      | exact shard_Of.mono _ _ _
      | exact LeO.none _
      | refine LeO.ite ?_ ?_
      | refine LeO.bind ?_ (fun _ => ?_)
    · intro y0 y1 y2 y3 y4 y5 y6 y7 y8 y9 y10
      unfold postroomlaw13_ShardOne.l2
      repeat' first
      | (with_reducible exact ih0 _ _ _ _ _)
      | (with_reducible exact ih1 _ _ _ _ _ _)
      | (with_reducible exact ih2 _ _ _ _ _ _ _)
      | (with_reducible exact ih3 _ _ _ _ _ _ _ _)
      | (with_reducible exact ih4 _ _ _ _ _ _ _ _ _ _)
      | (with_reducible exact ih5 _ _ _ _ _ _ _ _ _ _ _)
      | (with_reducible exact ih6 _ _ _)
      | (with_reducible exact postroomlaw13_few.mono _ _)
      | (with_reducible exact postroomlaw13_shown.mono _)
      | (with_reducible exact shard_Of.mono _ _ _)
      | (with_reducible exact LeO.refl _)
      | (with_reducible exact LeO.none _)
      | (with_reducible refine LeO.ite ?_ ?_)
      | (with_reducible refine LeO.bind ?_ (fun _ => ?_))
      | exact ih0 _ _ _ _ _
      | exact ih1 _ _ _ _ _ _
      | exact ih2 _ _ _ _ _ _ _
      | exact ih3 _ _ _ _ _ _ _ _
      | exact ih4 _ _ _ _ _ _ _ _ _ _
      | exact ih5 _ _ _ _ _ _ _ _ _ _ _
      | exact ih6 _ _ _
      | exact postroomlaw13_few.mono _ _
      | exact postroomlaw13_shown.mono _
      | exact shard_Of.mono _ _ _
      | exact LeO.none _
      | refine LeO.ite ?_ ?_
      | refine LeO.bind ?_ (fun _ => ?_)
    · intro y0 y1 y2
      unfold postroomlaw13_ShardOne.l3
      repeat' first
      | (with_reducible exact ih0 _ _ _ _ _)
      | (with_reducible exact ih1 _ _ _ _ _ _)
      | (with_reducible exact ih2 _ _ _ _ _ _ _)
      | (with_reducible exact ih3 _ _ _ _ _ _ _ _)
      | (with_reducible exact ih4 _ _ _ _ _ _ _ _ _ _)
      | (with_reducible exact ih5 _ _ _ _ _ _ _ _ _ _ _)
      | (with_reducible exact ih6 _ _ _)
      | (with_reducible exact postroomlaw13_few.mono _ _)
      | (with_reducible exact postroomlaw13_shown.mono _)
      | (with_reducible exact shard_Of.mono _ _ _)
      | (with_reducible exact LeO.refl _)
      | (with_reducible exact LeO.none _)
      | (with_reducible refine LeO.ite ?_ ?_)
      | (with_reducible refine LeO.bind ?_ (fun _ => ?_))
      | exact ih0 _ _ _ _ _
      | exact ih1 _ _ _ _ _ _
      | exact ih2 _ _ _ _ _ _ _
      | exact ih3 _ _ _ _ _ _ _ _
      | exact ih4 _ _ _ _ _ _ _ _ _ _
      | exact ih5 _ _ _ _ _ _ _ _ _ _ _
      | exact ih6 _ _ _
      | exact postroomlaw13_few.mono _ _
      | exact postroomlaw13_shown.mono _
      | exact shard_Of.mono _ _ _
      | exact LeO.none _
      | refine LeO.ite ?_ ?_
      | refine LeO.bind ?_ (fun _ => ?_)
theorem postroomlaw13_ShardOne.mono : ∀ a0 a1 a2 k, LeO (postroomlaw13_ShardOne.f k a0 a1 a2) (postroomlaw13_ShardOne.f (k + 1) a0 a1 a2) := by
  intro a0 a1 a2 k
  obtain ⟨ih0, ih1, ih2, ih3, ih4, ih5, ih6⟩ := postroomlaw13_ShardOne.mono_l k
  unfold postroomlaw13_ShardOne.f
  repeat' first
      | (with_reducible exact ih0 _ _ _ _ _)
      | (with_reducible exact ih1 _ _ _ _ _ _)
      | (with_reducible exact ih2 _ _ _ _ _ _ _)
      | (with_reducible exact ih3 _ _ _ _ _ _ _ _)
      | (with_reducible exact ih4 _ _ _ _ _ _ _ _ _ _)
      | (with_reducible exact ih5 _ _ _ _ _ _ _ _ _ _ _)
      | (with_reducible exact ih6 _ _ _)
      | (with_reducible exact postroomlaw13_few.mono _ _)
      | (with_reducible exact postroomlaw13_shown.mono _)
      | (with_reducible exact shard_Of.mono _ _ _)
      | (with_reducible exact LeO.refl _)
      | (with_reducible exact LeO.none _)
      | (with_reducible refine LeO.ite ?_ ?_)
      | (with_reducible refine LeO.bind ?_ (fun _ => ?_))
      | exact ih0 _ _ _ _ _
      | exact ih1 _ _ _ _ _ _
      | exact ih2 _ _ _ _ _ _ _
      | exact ih3 _ _ _ _ _ _ _ _
      | exact ih4 _ _ _ _ _ _ _ _ _ _
      | exact ih5 _ _ _ _ _ _ _ _ _ _ _
      | exact ih6 _ _ _
      | exact postroomlaw13_few.mono _ _
      | exact postroomlaw13_shown.mono _
      | exact shard_Of.mono _ _ _
      | exact LeO.none _
      | refine LeO.ite ?_ ?_
      | refine LeO.bind ?_ (fun _ => ?_)
set_option maxHeartbeats 8000000 in
set_option maxRecDepth 100000 in
theorem postroomlaw13_ShardOne.calls (k : Nat) (A0 : Option Addr) (c0 : Nat) (l0 : List ByteArray) (A1 : Option Addr) (c1 : Nat) (l1 : List ByteArray) (a2 : Int) (r : Bool) (w : World) (hr0 : Kd.C Kd.string w A0 l0.length l0) (hc0 : l0.length ≤ c0) (hr1 : Kd.C Kd.string w A1 l1.length l1) (hc1 : l1.length ≤ c1) (h : postroomlaw13_ShardOne.f k l0 l1 a2 = some r) (hrt : r = true) :
    Calls Try.prog 4 #[.slice A0 l0.length c0, .slice A1 l1.length c1, .int .i64 a2] w fun e w' => e = .returned (.bool r) ∧ Below w.heap.size w w' := by
  have HRT := Aside0.mk hrt
  clear hrt
  have HR0 := Aside0.mk hr0
  have HC0 := Aside0.mk hc0
  clear hr0 hc0
  have HR1 := Aside0.mk hr1
  have HC1 := Aside0.mk hc1
  clear hr1 hc1
  have HB := Aside0.mk (Below.refl w.heap.size w)
  have H : ((postroomlaw13_shown.f k).bind fun t120 => ((postroomlaw13_few.f k l0).bind fun t121 => ((postroomlaw13_few.f k l1).bind fun t122 => (if t120 = true then (if t121 = true then (postroomlaw13_ShardOne.j0 k l0 l1 a2 t120 (!t122)) else (postroomlaw13_ShardOne.j0 k l0 l1 a2 t120 true)) else (postroomlaw13_ShardOne.j0 k l0 l1 a2 t120 true))))) = some r := h
  clear h
  replace H := Option.bind_eq_some_iff.mp H
  obtain ⟨t120, A40, H⟩ := H
  replace H : ((postroomlaw13_few.f k l0).bind fun t121 => ((postroomlaw13_few.f k l1).bind fun t122 => (if t120 = true then (if t121 = true then (postroomlaw13_ShardOne.j0 k l0 l1 a2 t120 (!t122)) else (postroomlaw13_ShardOne.j0 k l0 l1 a2 t120 true)) else (postroomlaw13_ShardOne.j0 k l0 l1 a2 t120 true)))) = some r := H
  have A4 := Aside0.mk A40
  clear A40
  replace H := Option.bind_eq_some_iff.mp H
  obtain ⟨t121, A50, H⟩ := H
  replace H : ((postroomlaw13_few.f k l1).bind fun t122 => (if t120 = true then (if t121 = true then (postroomlaw13_ShardOne.j0 k l0 l1 a2 t120 (!t122)) else (postroomlaw13_ShardOne.j0 k l0 l1 a2 t120 true)) else (postroomlaw13_ShardOne.j0 k l0 l1 a2 t120 true))) = some r := H
  have A5 := Aside0.mk A50
  clear A50
  replace H := Option.bind_eq_some_iff.mp H
  obtain ⟨t122, A60, H⟩ := H
  replace H : (if t120 = true then (if t121 = true then (postroomlaw13_ShardOne.j0 k l0 l1 a2 t120 (!t122)) else (postroomlaw13_ShardOne.j0 k l0 l1 a2 t120 true)) else (postroomlaw13_ShardOne.j0 k l0 l1 a2 t120 true)) = some r := H
  have A6 := Aside0.mk A60
  clear A60
  have HC7 := Aside0.mk H
  clear H
  go_enter Try.func4, Try.ntmps4
  go_upto_region 4 with (first | ((with_reducible refine gate_callee (f := 8) rfl ?_); refine goesL_ (some 20) rfl rfl Try.func8 (by kernel_rfl) rfl #[] rfl (by (try simp only [List.map_toArray, List.map_cons, List.map_nil]); first | done | rfl | (simp only [List.length_drop, List.length_take]; rfl)) ?_; (with_reducible refine (postroomlaw13_shown.calls k  t120 _ A4.out).mono ?_); rintro e w8 ⟨rfl, hb⟩; refine ⟨_, rfl, ?_⟩; have n0_ := Aside0.mk (below_step (by repeat (first | (with_reducible first | exact HB.out | apply below_alloc | apply pw_below_drewN | apply below_drew1) | exact HB.out)) hb); clear HB; have HB := n0_; clear n0_; (try clear hb); (try clear hb2); (try clear hk); (try clear hi)) | ((with_reducible refine gate_callee (f := 9) rfl ?_); refine goesL_ (some 22) rfl rfl Try.func9 (by kernel_rfl) rfl #[.slice A0 l0.length c0] rfl (by (try simp only [List.map_toArray, List.map_cons, List.map_nil]); first | done | rfl | (simp only [List.length_drop, List.length_take]; rfl)) ?_; (with_reducible refine (postroomlaw13_few.calls k _ _ l0 t121 _ ?side1 ?side2 A5.out).mono ?_); (case side1 => repeat (first | exact (Kd.C_below HR0.out HB.out) | (with_reducible refine Kd.C_alloc ?_ _) | (with_reducible refine Kd.C_drewN ?_ _) | (with_reducible refine Kd.C_drew ?_))); (case side2 => exact HC0.out); rintro e w' ⟨rfl, ⟨nd, rfl⟩⟩; refine ⟨_, rfl, ?_⟩) | ((with_reducible refine gate_callee (f := 9) rfl ?_); refine goesL_ (some 24) rfl rfl Try.func9 (by kernel_rfl) rfl #[.slice A1 l1.length c1] rfl (by (try simp only [List.map_toArray, List.map_cons, List.map_nil]); first | done | rfl | (simp only [List.length_drop, List.length_take]; rfl)) ?_; (with_reducible refine (postroomlaw13_few.calls k _ _ l1 t122 _ ?side1 ?side2 A6.out).mono ?_); (case side1 => repeat (first | exact (Kd.C_below HR1.out (by repeat (first | (with_reducible first | exact HB.out | apply below_alloc | apply pw_below_drewN | apply below_drew1) | exact HB.out))) | (with_reducible refine Kd.C_alloc ?_ _) | (with_reducible refine Kd.C_drewN ?_ _) | (with_reducible refine Kd.C_drew ?_))); (case side2 => exact HC1.out); rintro e w' ⟨rfl, ⟨nd, rfl⟩⟩; refine ⟨_, rfl, ?_⟩))
  (try simp only [Act.put, List.setIfInBounds_toArray, List.set_cons_zero, List.set_cons_succ])
  go_cut [34] (fun v34 wc => ∃ (kq : Nat) (x34_6 : Bool), v34 = .bool x34_6 ∧ Aside0 (postroomlaw13_ShardOne.j0 kq l0 l1 a2 t120 x34_6 = some r) ∧ Aside0 (kq ≤ k) ∧ Aside0 (Below w.heap.size w wc))
  case first =>
    have H := HC7.out
    clear HC7
    by_cases c9 : t120 = true
    · subst c9
      have H1 : (if t121 = true then (postroomlaw13_ShardOne.j0 k l0 l1 a2 true (!t122)) else (postroomlaw13_ShardOne.j0 k l0 l1 a2 true true)) = some r := by rw [if_pos rfl] at H; exact H
      clear H
      have H := H1
      clear H1
      by_cases c10 : t121 = true
      · subst c10
        have H1 : (postroomlaw13_ShardOne.j0 k l0 l1 a2 true (!t122)) = some r := by rw [if_pos rfl] at H; exact H
        clear H
        have H := H1
        clear H1
        have H' := Aside0.mk H
        clear H
        go_wp2
        go_meet
        case rel => exact ⟨_, (!t122), (by first | rfl | (simp; done) | (simp [*]; done)), H', ⟨by first | omega | exact Nat.le_refl _⟩, ⟨by repeat (first | (with_reducible first | exact HB.out | apply below_alloc | apply pw_below_drewN | apply below_drew1) | exact HB.out)⟩⟩
      · replace c10 := Bool.eq_false_iff.mpr c10
        subst c10
        have H1 : (postroomlaw13_ShardOne.j0 k l0 l1 a2 true true) = some r := by rw [if_neg (show ¬ (false = true) by decide)] at H; exact H
        clear H
        have H := H1
        clear H1
        have H' := Aside0.mk H
        clear H
        go_wp2
        go_meet
        case rel => exact ⟨_, (true), (by first | rfl | (simp; done) | (simp [*]; done)), H', ⟨by first | omega | exact Nat.le_refl _⟩, ⟨by repeat (first | (with_reducible first | exact HB.out | apply below_alloc | apply pw_below_drewN | apply below_drew1) | exact HB.out)⟩⟩
    · replace c9 := Bool.eq_false_iff.mpr c9
      subst c9
      have H1 : (postroomlaw13_ShardOne.j0 k l0 l1 a2 false true) = some r := by rw [if_neg (show ¬ (false = true) by decide)] at H; exact H
      clear H
      have H := H1
      clear H1
      have H' := Aside0.mk H
      clear H
      go_wp2
      go_meet
      case rel => exact ⟨_, (true), (by first | rfl | (simp; done) | (simp [*]; done)), H', ⟨by first | omega | exact Nat.le_refl _⟩, ⟨by repeat (first | (with_reducible first | exact HB.out | apply below_alloc | apply pw_below_drewN | apply below_drew1) | exact HB.out)⟩⟩
  case rest =>
    clear HC7
    try clear c1
    try clear p2
    try clear c4
    try clear c8
    try clear c9
    try clear c10
    obtain ⟨kq, x34_6, rfl, HA, HJ6, HB⟩ := hcut
    cases kq with
    | zero => exact absurd HA.out (by simp [postroomlaw13_ShardOne.j0])
    | succ kj6 =>
      have H := HA.out
      clear HA
      simp only [postroomlaw13_ShardOne.j0] at H
      by_cases c11 : x34_6 = true
      · subst c11
        have H1 : (some t120) = some r := by rw [if_pos rfl] at H; exact H
        clear H
        have H := H1
        clear H1
        obtain rfl := Option.some.inj H
        go_wp2
        go_ret
        exact ⟨by first | rfl | (simp [errW_none, errW_some] <;> rfl) | (simp [*, errW_none, errW_some] <;> rfl), by repeat (first | (with_reducible first | exact HB.out | apply below_alloc | apply pw_below_drewN | apply below_drew1) | exact HB.out)⟩
      · replace c11 := Bool.eq_false_iff.mpr c11
        subst c11
        have H1 : ((postroomlaw13_pick.f a2 8).bind fun t123 => ((shard_Split.f l0 (wrap64 (1 + t123))).bind fun t124 => ((some (([] : List ByteArray) : List ByteArray)).bind fun y127 => (if y127.length + l1.length < 8796093022208 then ((some (y127 ++ l1 : List ByteArray)).bind fun y130 => (if y130.length + l0.length < 8796093022208 then ((shard_Split.f (y130 ++ l0) (wrap64 (1 + t123))).bind fun t136 => (if (t124.length : Int) = (wrap64 (1 + t123)) then (postroomlaw13_ShardOne.j1 kj6 l0 l1 (wrap64 (1 + t123)) t124 t136 ((t136.length : Int) != (wrap64 (1 + t123)))) else (postroomlaw13_ShardOne.j1 kj6 l0 l1 (wrap64 (1 + t123)) t124 t136 true))) else (none))) else (none))))) = some r := by rw [if_neg (show ¬ (false = true) by decide)] at H; exact H
        clear H
        have H := H1
        clear H1
        replace H := Option.bind_eq_some_iff.mp H
        obtain ⟨t123, A120, H⟩ := H
        replace H : ((shard_Split.f l0 (wrap64 (1 + t123))).bind fun t124 => ((some (([] : List ByteArray) : List ByteArray)).bind fun y127 => (if y127.length + l1.length < 8796093022208 then ((some (y127 ++ l1 : List ByteArray)).bind fun y130 => (if y130.length + l0.length < 8796093022208 then ((shard_Split.f (y130 ++ l0) (wrap64 (1 + t123))).bind fun t136 => (if (t124.length : Int) = (wrap64 (1 + t123)) then (postroomlaw13_ShardOne.j1 kj6 l0 l1 (wrap64 (1 + t123)) t124 t136 ((t136.length : Int) != (wrap64 (1 + t123)))) else (postroomlaw13_ShardOne.j1 kj6 l0 l1 (wrap64 (1 + t123)) t124 t136 true))) else (none))) else (none)))) = some r := H
        have A12 := Aside0.mk A120
        clear A120
        replace H := Option.bind_eq_some_iff.mp H
        obtain ⟨t124, A130, H⟩ := H
        replace H : ((some (([] : List ByteArray) : List ByteArray)).bind fun y127 => (if y127.length + l1.length < 8796093022208 then ((some (y127 ++ l1 : List ByteArray)).bind fun y130 => (if y130.length + l0.length < 8796093022208 then ((shard_Split.f (y130 ++ l0) (wrap64 (1 + t123))).bind fun t136 => (if (t124.length : Int) = (wrap64 (1 + t123)) then (postroomlaw13_ShardOne.j1 kj6 l0 l1 (wrap64 (1 + t123)) t124 t136 ((t136.length : Int) != (wrap64 (1 + t123)))) else (postroomlaw13_ShardOne.j1 kj6 l0 l1 (wrap64 (1 + t123)) t124 t136 true))) else (none))) else (none))) = some r := H
        have A13 := Aside0.mk A130
        clear A130
        obtain ⟨y127, hy127⟩ : ∃ y_ : List ByteArray, y_ = (([] : List ByteArray)) := ⟨_, rfl⟩
        replace H : (if y127.length + l1.length < 8796093022208 then ((some (y127 ++ l1 : List ByteArray)).bind fun y130 => (if y130.length + l0.length < 8796093022208 then ((shard_Split.f (y130 ++ l0) (wrap64 (1 + t123))).bind fun t136 => (if (t124.length : Int) = (wrap64 (1 + t123)) then (postroomlaw13_ShardOne.j1 kj6 l0 l1 (wrap64 (1 + t123)) t124 t136 ((t136.length : Int) != (wrap64 (1 + t123)))) else (postroomlaw13_ShardOne.j1 kj6 l0 l1 (wrap64 (1 + t123)) t124 t136 true))) else (none))) else (none)) = some r := by first | (rw [hy127]; with_reducible exact H) | (have H2_ := (Option.bind_some _ _).symm.trans H; rw [hy127]; with_reducible exact H2_) | (have H2_ := (Option.bind_some _ _).symm.trans H; with_reducible exact H2_) | with_reducible exact H | (rw [hy127]; exact H) | exact H
        have Ny127 := Aside0.mk hy127
        clear hy127
        by_cases c14 : y127.length + l1.length < 8796093022208
        · rw [if_pos c14] at H
          have LMc14 := Aside0.mk c14
          clear c14
          obtain ⟨y130, hy130⟩ : ∃ y_ : List ByteArray, y_ = (y127 ++ l1) := ⟨_, rfl⟩
          replace H : (if y130.length + l0.length < 8796093022208 then ((shard_Split.f (y130 ++ l0) (wrap64 (1 + t123))).bind fun t136 => (if (t124.length : Int) = (wrap64 (1 + t123)) then (postroomlaw13_ShardOne.j1 kj6 l0 l1 (wrap64 (1 + t123)) t124 t136 ((t136.length : Int) != (wrap64 (1 + t123)))) else (postroomlaw13_ShardOne.j1 kj6 l0 l1 (wrap64 (1 + t123)) t124 t136 true))) else (none)) = some r := by first | (rw [hy130]; with_reducible exact H) | (have H2_ := (Option.bind_some _ _).symm.trans H; rw [hy130]; with_reducible exact H2_) | (have H2_ := (Option.bind_some _ _).symm.trans H; with_reducible exact H2_) | with_reducible exact H | (rw [hy130]; exact H) | exact H
          have Ny130 := Aside0.mk hy130
          clear hy130
          by_cases c15 : y130.length + l0.length < 8796093022208
          · rw [if_pos c15] at H
            have LMc15 := Aside0.mk c15
            clear c15
            obtain ⟨y133, hy133⟩ : ∃ y_ : List ByteArray, y_ = (y130 ++ l0) := ⟨_, rfl⟩
            replace H : ((shard_Split.f y133 (wrap64 (1 + t123))).bind fun t136 => (if (t124.length : Int) = (wrap64 (1 + t123)) then (postroomlaw13_ShardOne.j1 kj6 l0 l1 (wrap64 (1 + t123)) t124 t136 ((t136.length : Int) != (wrap64 (1 + t123)))) else (postroomlaw13_ShardOne.j1 kj6 l0 l1 (wrap64 (1 + t123)) t124 t136 true))) = some r := by first | (rw [hy133]; with_reducible exact H) | (have H2_ := (Option.bind_some _ _).symm.trans H; rw [hy133]; with_reducible exact H2_) | (have H2_ := (Option.bind_some _ _).symm.trans H; with_reducible exact H2_) | with_reducible exact H | (rw [hy133]; exact H) | exact H
            have Ny133 := Aside0.mk hy133
            clear hy133
            replace H := Option.bind_eq_some_iff.mp H
            obtain ⟨t136, A160, H⟩ := H
            replace H : (if (t124.length : Int) = (wrap64 (1 + t123)) then (postroomlaw13_ShardOne.j1 kj6 l0 l1 (wrap64 (1 + t123)) t124 t136 ((t136.length : Int) != (wrap64 (1 + t123)))) else (postroomlaw13_ShardOne.j1 kj6 l0 l1 (wrap64 (1 + t123)) t124 t136 true)) = some r := H
            have A16 := Aside0.mk A160
            clear A160
            have HC17 := Aside0.mk H
            clear H
            go_upto_region 9 with (first | ((with_reducible refine gate_callee (f := 17) rfl ?_); refine goesL_ (some 37) rfl rfl Try.func17 (by kernel_rfl) rfl #[.int .i64 a2, .int .i64 8] rfl (by (try simp only [List.map_toArray, List.map_cons, List.map_nil]); first | done | rfl | (simp only [List.length_drop, List.length_take]; rfl)) ?_; (with_reducible refine (postroomlaw13_pick.calls a2 8 t123 _ A12.out).mono ?_); rintro e w' ⟨rfl, ⟨nd, rfl⟩⟩; refine ⟨_, rfl, ?_⟩) | ((with_reducible refine gate_callee (f := 14) rfl ?_); refine goesL_ (some 41) rfl rfl Try.func14 (by kernel_rfl) rfl #[.slice A0 l0.length c0, .int .i64 (wrap64 (1 + t123))] rfl (by (try simp only [List.map_toArray, List.map_cons, List.map_nil]); first | done | rfl | (simp only [List.length_drop, List.length_take]; rfl)) ?_; (with_reducible refine (shard_Split.calls _ _ l0 (wrap64 (1 + t123)) t124 _ ?side1 ?side2 A13.out).mono ?_); (case side1 => repeat (first | exact (Kd.C_below HR0.out (by repeat (first | (with_reducible first | exact HB.out | apply below_alloc | apply pw_below_drewN | apply below_drew1) | exact HB.out))) | (with_reducible refine Kd.C_alloc ?_ _) | (with_reducible refine Kd.C_drewN ?_ _) | (with_reducible refine Kd.C_drew ?_))); (case side2 => exact HC0.out); rintro e w18 ⟨v125, rfl, ho0, hb⟩; refine ⟨_, rfl, ?_⟩; have n0_ := Aside0.mk (Kd.N_lower (Kd.N_mono (ok' := fun k_ => True) ho0 (fun k_ hk_ => trivial)) (below_size (by repeat (first | (with_reducible first | exact HB.out | apply below_alloc | apply pw_below_drewN | apply below_drew1) | exact HB.out)))); have n1_ := Aside0.mk (below_step (by repeat (first | (with_reducible first | exact HB.out | apply below_alloc | apply pw_below_drewN | apply below_drew1) | exact HB.out)) hb); clear HB; have HO126 := n0_; have HB := n1_; clear n0_ n1_; (try clear hb); (try clear hb2); (try clear hk); (try clear hi); (try clear ho0)) | ((with_reducible refine gate_dst (N := 42) rfl ?_); (try (refine gate_guard (by rfl) ?_; dsimp only)); refine Kd.R_lit Kd.string _ 9 ?hg (N := 42) ?hd (xs := ([] : List ByteArray)) (inner := []) (ok := fun _ => True) (okp := fun _ => True) ?hr ?hp (fun _ hk => hk) trivial (Below.refl _ _) (Nat.le_refl _) (by simp) ?_; (case hd => rfl); (case hg => rfl); (case hr => first | (go_simp; done) | (go_simp; rfl)); (case hp => exact (Reps.none _ _)); intro v128 w19 ho20 hb hg_ hnew_; clear hg_ hnew_; (first | rw [← Ny127.out] at ho20 | (simp only [Int.reduceToNat] at ho20; rw [← Ny127.out] at ho20)); have n0_ := Aside0.mk (Kd.N_elder' (by (with_reducible repeat (first | apply Kd.N_alloc | apply Kd.N_drewN | apply Kd.N_drew)); exact HO126.out) (Kd.R_base ho20) hb); have n1_ := Aside0.mk (Kd.R_lower ho20 (below_size (by repeat (first | (with_reducible first | exact HB.out | apply below_alloc | apply pw_below_drewN | apply below_drew1) | exact HB.out)))); have n2_ := Aside0.mk (below_step (by repeat (first | (with_reducible first | exact HB.out | apply below_alloc | apply pw_below_drewN | apply below_drew1) | exact HB.out)) hb); clear HO126; clear HB; have HO126 := n0_; have HO129 := n1_; have HB := n2_; clear n0_ n1_ n2_; clear hb ho20) | ((with_reducible refine gate_builtin (b := .append) (xs := #[.tmp 42, .tmp 43]) rfl ?_); (try (refine gate_guard (by rfl) ?_; dsimp only)); at_builtin; refine Kd.R_append_rows Kd.string (w0 := w) w.heap.size rfl (.tmp 42) (.tmp 43) 22 9 (.string ⟨#[]⟩) 16 rfl Try.underlying22 info9 rfl (by decide) (by omega) v128 y127 l1 _ _ _ (fun _ => True) (fun _ => False) rfl rfl ?aO ?aR (fun _ _ h => h) (fun _ h => h.elim) ?aF ?aB ?aS ?aL ?_; (case aR => repeat (first | exact (Kd.C_below HR1.out HB.out) | (with_reducible refine Kd.C_alloc ?_ _) | (with_reducible refine Kd.C_drewN ?_ _) | (with_reducible refine Kd.C_drew ?_))); (case aB => exact (by repeat (first | (with_reducible first | exact HB.out | apply below_alloc | apply pw_below_drewN | apply below_drew1) | exact HB.out))); (case aF => exact (fun _ _ => trivial)); (case aO => exact (by (with_reducible repeat (first | apply Kd.R_alloc | apply Kd.R_drewN | apply Kd.R_drew)); exact HO129.out)); (case aS => exact (below_size (by repeat (first | (with_reducible first | exact HB.out | apply below_alloc | apply pw_below_drewN | apply below_drew1) | exact HB.out)))); (case aL => have := LMc14.out; omega); intro v131 w21 ho hb hg hat; rw [← Ny130.out] at ho; have n0_ := Aside0.mk (Kd.N_afterv (ok := (fun _ => True)) (by (with_reducible repeat (first | apply Kd.N_alloc | apply Kd.N_drewN | apply Kd.N_drew)); exact HO126.out) hg hat); have n1_ := Aside0.mk (hb); have n2_ := Aside0.mk (ho); clear HO126; clear HB; clear HO129; have HO126 := n0_; have HB := n1_; have HO132 := n2_; clear n0_ n1_ n2_; clear ho hb hg hat) | ((with_reducible refine gate_builtin (b := .append) (xs := #[.tmp 44, .tmp 45]) rfl ?_); (try (refine gate_guard (by rfl) ?_; dsimp only)); at_builtin; refine Kd.R_append_rows Kd.string (w0 := w) w.heap.size rfl (.tmp 44) (.tmp 45) 22 9 (.string ⟨#[]⟩) 16 rfl Try.underlying22 info9 rfl (by decide) (by omega) v131 y130 l0 _ _ _ (fun _ => True) (fun _ => False) rfl rfl ?aO ?aR (fun _ _ h => h) (fun _ h => h.elim) ?aF ?aB ?aS ?aL ?_; (case aR => repeat (first | exact (Kd.C_below HR0.out HB.out) | (with_reducible refine Kd.C_alloc ?_ _) | (with_reducible refine Kd.C_drewN ?_ _) | (with_reducible refine Kd.C_drew ?_))); (case aB => exact (by repeat (first | (with_reducible first | exact HB.out | apply below_alloc | apply pw_below_drewN | apply below_drew1) | exact HB.out))); (case aF => exact (fun _ _ => trivial)); (case aO => exact (by (with_reducible repeat (first | apply Kd.R_alloc | apply Kd.R_drewN | apply Kd.R_drew)); exact HO132.out)); (case aS => exact (below_size (by repeat (first | (with_reducible first | exact HB.out | apply below_alloc | apply pw_below_drewN | apply below_drew1) | exact HB.out)))); (case aL => have := LMc15.out; omega); intro v134 w22 ho hb hg hat; rw [← Ny133.out] at ho; have n0_ := Aside0.mk (Kd.N_afterv (ok := (fun _ => True)) (by (with_reducible repeat (first | apply Kd.N_alloc | apply Kd.N_drewN | apply Kd.N_drew)); exact HO126.out) hg hat); have n1_ := Aside0.mk (hb); have n2_ := Aside0.mk (ho); clear HO126; clear HB; clear HO132; have HO126 := n0_; have HB := n1_; have HO135 := n2_; clear n0_ n1_ n2_; clear ho hb hg hat; obtain ⟨Ao23, co23, eo23⟩ := Kd.R_slice HO135.out; subst eo23) | ((with_reducible refine gate_callee (f := 14) rfl ?_); refine goesL_ (some 48) rfl rfl Try.func14 (by kernel_rfl) rfl #[.slice Ao23 y133.length co23, .int .i64 (wrap64 (1 + t123))] rfl (by (try simp only [List.map_toArray, List.map_cons, List.map_nil]); first | done | rfl | (simp only [List.length_drop, List.length_take]; rfl)) ?_; (with_reducible refine (shard_Split.calls _ _ y133 (wrap64 (1 + t123)) t136 _ ?side1 ?side2 A16.out).mono ?_); (case side1 => repeat (first | exact (Kd.R_reads' HO135.out).2.2 | (with_reducible refine Kd.C_alloc ?_ _) | (with_reducible refine Kd.C_drewN ?_ _) | (with_reducible refine Kd.C_drew ?_))); (case side2 => exact (Kd.R_reads' HO135.out).2.1); rintro e w24 ⟨v137, rfl, ho0, hb⟩; refine ⟨_, rfl, ?_⟩; have n0_ := Aside0.mk (Kd.N_elder' (by (with_reducible repeat (first | apply Kd.N_alloc | apply Kd.N_drewN | apply Kd.N_drew)); exact HO126.out) (Kd.N_base ho0) hb); have n1_ := Aside0.mk (Kd.R_below (by (with_reducible repeat (first | apply Kd.R_alloc | apply Kd.R_drewN | apply Kd.R_drew)); exact HO135.out) hb); have n2_ := Aside0.mk (Kd.N_lower (Kd.N_mono (ok' := fun k_ => some k_ ≠ (v125 : Value).ownBlock ∧ some k_ ≠ (.slice Ao23 y133.length co23 : Value).ownBlock) ho0 (fun k_ hk_ => ⟨(Kd.fresh' (Kd.N_lt (by (with_reducible repeat (first | apply Kd.N_alloc | apply Kd.N_drewN | apply Kd.N_drew)); exact HO126.out)) k_ hk_), (Kd.fresh' (Kd.R_lt (by (with_reducible repeat (first | apply Kd.R_alloc | apply Kd.R_drewN | apply Kd.R_drew)); exact HO135.out)) k_ hk_)⟩)) (below_size (by repeat (first | (with_reducible first | exact HB.out | apply below_alloc | apply pw_below_drewN | apply below_drew1) | exact HB.out)))); have n3_ := Aside0.mk (below_step (by repeat (first | (with_reducible first | exact HB.out | apply below_alloc | apply pw_below_drewN | apply below_drew1) | exact HB.out)) hb); clear HO126; clear HO135; clear HB; have HO126 := n0_; have HO135 := n1_; have HO138 := n2_; have HB := n3_; clear n0_ n1_ n2_ n3_; (try clear hb); (try clear hb2); (try clear hk); (try clear hi); (try clear ho0)))
            (try simp only [Act.put, List.setIfInBounds_toArray, List.set_cons_zero, List.set_cons_succ])
            go_cut [58] (fun v58 wc => ∃ (kq : Nat) (x58_16 : Bool), v58 = .bool x58_16 ∧ Aside0 (postroomlaw13_ShardOne.j1 kq l0 l1 (wrap64 (1 + t123)) t124 t136 x58_16 = some r) ∧ Aside0 (kq ≤ kj6) ∧ Aside0 (Kd.N (Kd.slice 3 (Kd.int .i64)) 31 wc w.heap.size (fun k_ => some k_ ≠ (v137 : Value).ownBlock) v125 t124) ∧ Aside0 (Kd.N (Kd.slice 3 (Kd.int .i64)) 31 wc w.heap.size (fun k_ => some k_ ≠ (v125 : Value).ownBlock) v137 t136) ∧ Aside0 (Below w.heap.size w wc))
            case first =>
              have H := HC17.out
              clear HC17
              by_cases c25 : (t124.length : Int) = (wrap64 (1 + t123))
              · rw [if_pos c25] at H
                have c25b0 : ((t124.length : Int) == (wrap64 (1 + t123))) = true := beq_iff_eq.mpr c25
                have c25b1 : ((t124.length : Int) != (wrap64 (1 + t123))) = false := bne_eq_false_iff_eq.mpr c25
                clear c25
                (first | rw [c25b0] | (simp only [i64_w, i32_w]; rw [c25b0]) | skip)
                have H' := Aside0.mk H
                clear H
                obtain ⟨Ao26, co26, eo26⟩ := Kd.N_slice HO126.out
                subst eo26
                obtain ⟨Ao27, co27, eo27⟩ := Kd.N_slice HO138.out
                subst eo27
                go_wp2
                go_meet
                case rel => exact ⟨_, (((t136.length : Int) != (wrap64 (1 + t123)))), (by first | rfl | (simp; done) | (simp [*]; done)), H', ⟨by have := HJ6.out; first | omega | exact Nat.le_refl _⟩, ⟨by (with_reducible repeat (first | apply Kd.N_alloc | apply Kd.N_drewN | apply Kd.N_drew)); exact Kd.N_mono HO126.out (fun _ hk => hk.2)⟩, ⟨by (with_reducible repeat (first | apply Kd.N_alloc | apply Kd.N_drewN | apply Kd.N_drew)); exact Kd.N_mono HO138.out (fun _ hk => hk.1)⟩, ⟨by repeat (first | (with_reducible first | exact HB.out | apply below_alloc | apply pw_below_drewN | apply below_drew1) | exact HB.out)⟩⟩
              · rw [if_neg c25] at H
                have c25b0 : ((t124.length : Int) == (wrap64 (1 + t123))) = false := beq_eq_false_iff_ne.mpr c25
                have c25b1 : ((t124.length : Int) != (wrap64 (1 + t123))) = true := bne_iff_ne.mpr c25
                (first | rw [c25b0] | (simp only [i64_w, i32_w]; rw [c25b0]) | skip)
                have H' := Aside0.mk H
                clear H
                obtain ⟨Ao28, co28, eo28⟩ := Kd.N_slice HO126.out
                subst eo28
                go_wp2
                go_meet
                case rel => exact ⟨_, (true), (by first | rfl | (simp; done) | (simp [*]; done)), H', ⟨by have := HJ6.out; first | omega | exact Nat.le_refl _⟩, ⟨by (with_reducible repeat (first | apply Kd.N_alloc | apply Kd.N_drewN | apply Kd.N_drew)); exact Kd.N_mono HO126.out (fun _ hk => hk.2)⟩, ⟨by (with_reducible repeat (first | apply Kd.N_alloc | apply Kd.N_drewN | apply Kd.N_drew)); exact Kd.N_mono HO138.out (fun _ hk => hk.1)⟩, ⟨by repeat (first | (with_reducible first | exact HB.out | apply below_alloc | apply pw_below_drewN | apply below_drew1) | exact HB.out)⟩⟩
            case rest =>
              clear HC17
              try clear c1
              try clear c2
              try clear p2
              try clear c4
              try clear p6
              try clear c8
              try clear c9
              try clear c10
              try clear c11
              try clear c14
              try clear c15
              try clear c17
              try clear c25
              try clear c25b0
              try clear c25b1
              try clear p2
              obtain ⟨kq, x58_16, rfl, HA, HJ16, HO_11, HO_12, HB⟩ := hcut
              cases kq with
              | zero => exact absurd HA.out (by simp [postroomlaw13_ShardOne.j1])
              | succ kj16 =>
                have H := HA.out
                clear HA
                simp only [postroomlaw13_ShardOne.j1] at H
                by_cases c29 : x58_16 = true
                · subst c29
                  have H1 : (some false) = some r := by rw [if_pos rfl] at H; exact H
                  clear H
                  have H := H1
                  clear H1
                  exact absurd (H.trans (congrArg some HRT.out)) (by simp)
                · replace c29 := Bool.eq_false_iff.mpr c29
                  subst c29
                  have H1 : (if 0 ≤ (l0.length : Int) then (if ((l0.length : Int) : Int).toNat ≤ 35184372088832 then (postroomlaw13_ShardOne.l0 kj16 l0 l1 (wrap64 (1 + t123)) t124 t136 (List.replicate ((l0.length : Int) : Int).toNat 0) 0) else (none)) else (none)) = some r := by rw [if_neg (show ¬ (false = true) by decide)] at H; exact H
                  clear H
                  have H := H1
                  clear H1
                  by_cases c30 : 0 ≤ (l0.length : Int)
                  · rw [if_pos c30] at H
                    have c30b0 := eq_true c30
                    have c30b1 : decide (0 ≤ (l0.length : Int)) = true := decide_eq_true c30
                    clear c30
                    by_cases c31 : ((l0.length : Int) : Int).toNat ≤ 35184372088832
                    · rw [if_pos c31] at H
                      have c31b0 := eq_true c31
                      have c31b1 : decide (((l0.length : Int) : Int).toNat ≤ 35184372088832) = true := decide_eq_true c31
                      clear c31
                      obtain ⟨y139, hy139⟩ : ∃ y_ : List Int, y_ = (List.replicate ((l0.length : Int) : Int).toNat 0) := ⟨_, rfl⟩
                      replace H : (postroomlaw13_ShardOne.l0 kj16 l0 l1 (wrap64 (1 + t123)) t124 t136 y139 0) = some r := by first | (rw [hy139]; with_reducible exact H) | (have H2_ := (Option.bind_some _ _).symm.trans H; rw [hy139]; with_reducible exact H2_) | (have H2_ := (Option.bind_some _ _).symm.trans H; with_reducible exact H2_) | with_reducible exact H | (rw [hy139]; exact H) | exact H
                      have Ny139 := Aside0.mk hy139
                      clear hy139
                      have H' := Aside0.mk H
                      clear H
                      go_wp2_with (first | ((with_reducible refine gate_dst (N := 61) rfl ?_); (try (refine gate_guard (by rfl) ?_; dsimp only)); refine Kd.R_make (Kd.int .i64) _ 3 rfl (N := 61) rfl 31 _ _ rfl (l0.length : Int) rfl rfl Try.underlying31 (.int .i64 0) 8 info3 rfl (by decide) (by omega) 0 (ok := fun _ => True) (okp := fun _ => True) rfl (fun _ hk => hk) trivial (of_decide_eq_true (by first | (with_reducible assumption) | assumption)) (Nat.le_trans (Nat.mul_le_mul_right _ (of_decide_eq_true (by first | (with_reducible assumption) | assumption) : (l0.length : Int).toNat ≤ 35184372088832)) (by omega)) (Below.refl _ _) (Nat.le_refl _) ?_; intro v140 w32 ho33 hb hg_ hnew_; clear hg_ hnew_; (first | rw [← Ny139.out] at ho33 | (simp only [Int.reduceToNat] at ho33; rw [← Ny139.out] at ho33)); have n0_ := Aside0.mk (Kd.N_elder' (by (with_reducible repeat (first | apply Kd.N_alloc | apply Kd.N_drewN | apply Kd.N_drew)); exact HO_11.out) (Kd.R_base ho33) hb); have n1_ := Aside0.mk (Kd.N_elder' (by (with_reducible repeat (first | apply Kd.N_alloc | apply Kd.N_drewN | apply Kd.N_drew)); exact HO_12.out) (Kd.R_base ho33) hb); have n2_ := Aside0.mk (Kd.R_lower ho33 (below_size (by repeat (first | (with_reducible first | exact HB.out | apply below_alloc | apply pw_below_drewN | apply below_drew1) | exact HB.out)))); have n3_ := Aside0.mk (below_step (by repeat (first | (with_reducible first | exact HB.out | apply below_alloc | apply pw_below_drewN | apply below_drew1) | exact HB.out)) hb); clear HO_11; clear HO_12; clear HB; have HO_11 := n0_; have HO_12 := n1_; have HO141 := n2_; have HB := n3_; clear n0_ n1_ n2_ n3_; clear hb ho33))
                      go_loopg [14] kj16 (fun kq v14 w' => ∃ (x13_3 : List Int) (x14_3 : Int), v14 = .int .i64 x14_3 ∧ Aside0 (postroomlaw13_ShardOne.l0 kq l0 l1 (wrap64 (1 + t123)) t124 t136 x13_3 x14_3 = some r) ∧ Aside0 (kq ≤ kj16) ∧ Aside0 (Kd.N (Kd.slice 3 (Kd.int .i64)) 31 w' w.heap.size (fun k_ => some k_ ≠ (v137 : Value).ownBlock ∧ some k_ ≠ (v140 : Value).ownBlock) v125 t124) ∧ Aside0 (Kd.N (Kd.slice 3 (Kd.int .i64)) 31 w' w.heap.size (fun k_ => some k_ ≠ (v125 : Value).ownBlock ∧ some k_ ≠ (v140 : Value).ownBlock) v137 t136) ∧ Aside0 (Kd.R (Kd.int .i64) 3 w' w.heap.size (fun _ => True) v140 x13_3) ∧ Aside0 (Below w.heap.size w w'))
                      case atStart => exact ⟨(y139), (0), (by first | rfl | (simp; done) | (simp [*]; done)), H', ⟨Nat.le_refl _⟩, ⟨by (with_reducible repeat (first | apply Kd.N_alloc | apply Kd.N_drewN | apply Kd.N_drew)); exact HO_11.out⟩, ⟨by (with_reducible repeat (first | apply Kd.N_alloc | apply Kd.N_drewN | apply Kd.N_drew)); exact HO_12.out⟩, ⟨by (with_reducible repeat (first | apply Kd.R_alloc | apply Kd.R_drewN | apply Kd.R_drew)); exact HO141.out⟩, ⟨by repeat (first | (with_reducible first | exact HB.out | apply below_alloc | apply pw_below_drewN | apply below_drew1) | exact HB.out)⟩⟩
                      case round =>
                        clear H'
                        try clear c1
                        try clear c2
                        try clear p2
                        try clear c3
                        try clear c4
                        try clear p6
                        try clear c8
                        try clear c9
                        try clear c10
                        try clear c11
                        try clear c14
                        try clear c15
                        try clear c17
                        try clear c25
                        try clear c25b0
                        try clear c25b1
                        try clear c29
                        try clear c30
                        try clear c30b0
                        try clear c30b1
                        try clear c31
                        try clear c31b0
                        try clear c31b1
                        try clear p2
                        try clear p6
                        obtain ⟨x13_3, x14_3, rfl, HA, HK3, HO_11, HO_12, HO_13, HB⟩ := hrel
                        cases gk with
                        | zero => exact absurd HA.out (by simp [postroomlaw13_ShardOne.l0])
                        | succ k3 =>
                          have H := HA.out
                          clear HA
                          simp only [postroomlaw13_ShardOne.l0] at H
                          by_cases c34 : x14_3 < (wrap64 (1 + t123))
                          · rw [if_pos c34] at H
                            have c34b0 : decide (x14_3 < (wrap64 (1 + t123))) = true := decide_eq_true c34
                            clear c34
                            have H' := Aside0.mk H
                            clear H
                            go_wp2
                            go_loopg [15] k3 (fun kq v15 w' => ∃ (x13_4 : List Int) (x15_4 : Int), v15 = .int .i64 x15_4 ∧ Aside0 (postroomlaw13_ShardOne.l1 kq l0 l1 (wrap64 (1 + t123)) t124 t136 x13_4 x14_3 x15_4 = some r) ∧ Aside0 (kq ≤ k3) ∧ Aside0 (Kd.N (Kd.slice 3 (Kd.int .i64)) 31 w' w.heap.size (fun k_ => some k_ ≠ (v137 : Value).ownBlock ∧ some k_ ≠ (v140 : Value).ownBlock) v125 t124) ∧ Aside0 (Kd.N (Kd.slice 3 (Kd.int .i64)) 31 w' w.heap.size (fun k_ => some k_ ≠ (v125 : Value).ownBlock ∧ some k_ ≠ (v140 : Value).ownBlock) v137 t136) ∧ Aside0 (Kd.R (Kd.int .i64) 3 w' w.heap.size (fun _ => True) v140 x13_4) ∧ Aside0 (Below w.heap.size w w'))
                            case atStart => exact ⟨(x13_3), (0), (by first | rfl | (simp; done) | (simp [*]; done)), H', ⟨Nat.le_refl _⟩, ⟨by (with_reducible repeat (first | apply Kd.N_alloc | apply Kd.N_drewN | apply Kd.N_drew)); exact HO_11.out⟩, ⟨by (with_reducible repeat (first | apply Kd.N_alloc | apply Kd.N_drewN | apply Kd.N_drew)); exact HO_12.out⟩, ⟨by (with_reducible repeat (first | apply Kd.R_alloc | apply Kd.R_drewN | apply Kd.R_drew)); exact HO_13.out⟩, ⟨by repeat (first | (with_reducible first | exact HB.out | apply below_alloc | apply pw_below_drewN | apply below_drew1) | exact HB.out)⟩⟩
                            case round =>
                              clear H'
                              try clear c1
                              try clear c2
                              try clear p2
                              try clear c3
                              try clear c4
                              try clear p6
                              try clear c8
                              try clear c9
                              try clear c10
                              try clear c11
                              try clear c14
                              try clear c15
                              try clear c17
                              try clear c25
                              try clear c25b0
                              try clear c25b1
                              try clear c29
                              try clear c30
                              try clear c30b0
                              try clear c30b1
                              try clear c31
                              try clear c31b0
                              try clear c31b1
                              try clear c34
                              try clear c34b0
                              try clear p2
                              try clear p6
                              obtain ⟨x13_4, x15_4, rfl, HA, HK4, HO_11, HO_12, HO_13, HB⟩ := hrel
                              cases gk with
                              | zero => exact absurd HA.out (by simp [postroomlaw13_ShardOne.l1])
                              | succ k4 =>
                                have H := HA.out
                                clear HA
                                simp only [postroomlaw13_ShardOne.l1] at H
                                by_cases c35 : 0 ≤ x14_3
                                · rw [if_pos c35] at H
                                  have c35b0 : decide (0 ≤ x14_3) = true := decide_eq_true c35
                                  clear c35
                                  by_cases c36 : x14_3 < (t124.length : Int)
                                  · rw [if_pos c36] at H
                                    have c36b0 : decide (x14_3 < (t124.length : Int)) = true := decide_eq_true c36
                                    clear c36
                                    by_cases c37 : x15_4 < ((rd_L1 t124 x14_3).length : Int)
                                    · rw [if_pos c37] at H
                                      have c37b0 : decide (x15_4 < ((rd_L1 t124 x14_3).length : Int)) = true := decide_eq_true c37
                                      clear c37
                                      by_cases c38 : 0 ≤ x15_4
                                      · rw [if_pos c38] at H
                                        have c38b0 : decide (0 ≤ x15_4) = true := decide_eq_true c38
                                        clear c38
                                        have HC39 := Aside0.mk H
                                        clear H
                                        obtain ⟨Ao40, co40, eo40⟩ := Kd.N_slice HO_11.out
                                        subst eo40
                                        have p142 : 0 ≤ (x14_3 : Int) := of_decide_eq_true (by first | (with_reducible assumption) | assumption)
                                        have q142 : x14_3 < (t124.length : Int) := of_decide_eq_true (by first | (with_reducible assumption) | assumption)
                                        obtain ⟨ad142, A142_0, c142_0, e142, hx142_0, hl142_0, hi142_0⟩ := at_L1 (Kd.N_reads' HO_11.out).2.2 x14_3 p142 q142
                                        cases e142
                                        obtain ⟨ce142, hce142, hMe142, hcc142⟩ := Kd.N_get HO_11.out [] x14_3 p142 (by first | exact q142 | exact of_decide_eq_true (by first | (with_reducible assumption) | assumption) | (have e_ := (Kd.N_reads' HO_11.out).1; omega))
                                        obtain ⟨ua142_0, uc142_0, rfl, ul142_0, ge142_0⟩ := Kd.FK_slice_open hMe142
                                        have hv142_0 := hcc142 0 _ rfl
                                        rw [Nat.add_zero, show ((Kd.slice 3 (Kd.int .i64))).sz = 1 from rfl, Nat.mul_one] at hv142_0
                                        replace hv142_0 := Option.some.inj (hv142_0.symm.trans hx142_0)
                                        injection hv142_0 with hva_ hvn_ hvc_
                                        rw [hva_] at ge142_0
                                        rw [hvc_] at ul142_0
                                        have HL142_0 := Aside0.mk (show Kd.V (Kd.int .i64) 3 _ w.heap.size _ _ (rd_L1 t124 x14_3) from Kd.V_mk ul142_0 ge142_0)
                                        clear hva_ hvn_ hvc_ ge142_0 ul142_0
                                        clear hcc142 hce142
                                        have HR142_0 := Aside0.mk hi142_0
                                        have HC142_0 := Aside0.mk hl142_0
                                        clear hi142_0 hl142_0
                                        replace p142 := eq_true p142
                                        replace q142 := eq_true q142
                                        have p143 : 0 ≤ (x14_3 : Int) := of_decide_eq_true (by first | (with_reducible assumption) | assumption)
                                        have q143 : x14_3 < (t124.length : Int) := of_decide_eq_true (by first | (with_reducible assumption) | assumption)
                                        obtain ⟨ad143, A143_0, c143_0, e143, hx143_0, hl143_0, hi143_0⟩ := at_L1 (Kd.N_reads' HO_11.out).2.2 x14_3 p143 q143
                                        obtain rfl : ad142 = ad143 := (by injection e143)
                                        obtain ⟨ce143, hce143, hMe143, hcc143⟩ := Kd.N_get HO_11.out [] x14_3 p143 (by first | exact q143 | exact of_decide_eq_true (by first | (with_reducible assumption) | assumption) | (have e_ := (Kd.N_reads' HO_11.out).1; omega))
                                        obtain ⟨ua143_0, uc143_0, rfl, ul143_0, ge143_0⟩ := Kd.FK_slice_open hMe143
                                        have hv143_0 := hcc143 0 _ rfl
                                        rw [Nat.add_zero, show ((Kd.slice 3 (Kd.int .i64))).sz = 1 from rfl, Nat.mul_one] at hv143_0
                                        replace hv143_0 := Option.some.inj (hv143_0.symm.trans hx143_0)
                                        injection hv143_0 with hva_ hvn_ hvc_
                                        rw [hva_] at ge143_0
                                        rw [hvc_] at ul143_0
                                        have HL143_0 := Aside0.mk (show Kd.V (Kd.int .i64) 3 _ w.heap.size _ _ (rd_L1 t124 x14_3) from Kd.V_mk ul143_0 ge143_0)
                                        clear hva_ hvn_ hvc_ ge143_0 ul143_0
                                        clear hcc143 hce143
                                        have HR143_0 := Aside0.mk hi143_0
                                        have HC143_0 := Aside0.mk hl143_0
                                        clear hi143_0 hl143_0
                                        replace p143 := eq_true p143
                                        replace q143 := eq_true q143
                                        have ea_ := Option.some.inj (hx142_0.symm.trans hx143_0)
                                        injection ea_ with ea_ en_ ec_
                                        subst ea_
                                        subst ec_
                                        clear en_
                                        have p144 : 0 ≤ (x15_4 : Int) := of_decide_eq_true (by first | (with_reducible assumption) | assumption)
                                        have q144 : x15_4 < ((rd_L1 t124 x14_3).length : Int) := of_decide_eq_true (by first | (with_reducible assumption) | assumption)
                                        obtain ⟨ad144, e144, hx144_0⟩ := Kd.at_int (by repeat (first | (with_reducible exact HR143_0.out) | (with_reducible refine Kd.C_alloc ?_ _) | (with_reducible refine Kd.C_drewN ?_ _) | (with_reducible refine Kd.C_drew ?_) | exact HR143_0.out)) x15_4 p144 q144
                                        cases e144
                                        (first | (have hun_ := Option.some.inj (hx142_0.symm.trans hx143_0); injection hun_ with hu1_ hu2_ hu3_; injection hu1_ with hu1_; subst hu1_; subst hu3_; clear hu2_) | skip)
                                        replace p144 := eq_true p144
                                        replace q144 := eq_true q144
                                        go_upto_region 19 with (fail)
                                        go_cut [116] (fun v116 wc => ∃ (kq : Nat) (x116_38 : Bool), v116 = .bool x116_38 ∧ Aside0 (postroomlaw13_ShardOne.j4 kq l0 l1 (wrap64 (1 + t123)) t124 t136 x13_4 x14_3 x15_4 (rd (rd_L1 t124 x14_3) x15_4) x116_38 = some r) ∧ Aside0 (kq ≤ k4) ∧ Aside0 (Kd.N (Kd.slice 3 (Kd.int .i64)) 31 wc w.heap.size (fun k_ => some k_ ≠ (v137 : Value).ownBlock ∧ some k_ ≠ (v140 : Value).ownBlock) (.slice (some ad142) t124.length co40) t124) ∧ Aside0 (Kd.N (Kd.slice 3 (Kd.int .i64)) 31 wc w.heap.size (fun k_ => some k_ ≠ ((.slice (some ad142) t124.length co40) : Value).ownBlock ∧ some k_ ≠ (v140 : Value).ownBlock) v137 t136) ∧ Aside0 (Kd.R (Kd.int .i64) 3 wc w.heap.size (fun _ => True) v140 x13_4) ∧ Aside0 (Kd.C (Kd.int .i64) wc (some ad144) (rd_L1 t124 x14_3).length (rd_L1 t124 x14_3)) ∧ Aside0 (Kd.C (Kd.int .i64) wc (some ad144) (rd_L1 t124 x14_3).length (rd_L1 t124 x14_3)) ∧ Aside0 (Below w.heap.size w wc))
                                        case first =>
                                          have H := HC39.out
                                          clear HC39
                                          by_cases c41 : (rd (rd_L1 t124 x14_3) x15_4) < 0
                                          · rw [if_pos c41] at H
                                            have c41b0 : decide ((rd (rd_L1 t124 x14_3) x15_4) < 0) = true := decide_eq_true c41
                                            clear c41
                                            (first | rw [c41b0] | (simp only [i64_w, i32_w]; rw [c41b0]) | skip)
                                            have H' := Aside0.mk H
                                            clear H
                                            go_wp2
                                            go_meet
                                            case rel => exact ⟨_, (true), (by first | rfl | (simp; done) | (simp [*]; done)), H', ⟨by have := HJ6.out; have := HJ16.out; have := HK3.out; have := HK4.out; first | omega | exact Nat.le_refl _⟩, ⟨by (with_reducible repeat (first | apply Kd.N_alloc | apply Kd.N_drewN | apply Kd.N_drew)); exact HO_11.out⟩, ⟨by (with_reducible repeat (first | apply Kd.N_alloc | apply Kd.N_drewN | apply Kd.N_drew)); exact HO_12.out⟩, ⟨by (with_reducible repeat (first | apply Kd.R_alloc | apply Kd.R_drewN | apply Kd.R_drew)); exact HO_13.out⟩, ⟨by repeat (first | (with_reducible exact HR142_0.out) | (with_reducible refine Kd.C_alloc ?_ _) | (with_reducible refine Kd.C_drewN ?_ _) | (with_reducible refine Kd.C_drew ?_) | exact HR142_0.out)⟩, ⟨by repeat (first | (with_reducible exact HR143_0.out) | (with_reducible refine Kd.C_alloc ?_ _) | (with_reducible refine Kd.C_drewN ?_ _) | (with_reducible refine Kd.C_drew ?_) | exact HR143_0.out)⟩, ⟨by repeat (first | (with_reducible first | exact HB.out | apply below_alloc | apply pw_below_drewN | apply below_drew1) | exact HB.out)⟩⟩
                                          · rw [if_neg c41] at H
                                            have c41b0 : decide ((rd (rd_L1 t124 x14_3) x15_4) < 0) = false := decide_eq_false c41
                                            clear c41
                                            (first | rw [c41b0] | (simp only [i64_w, i32_w]; rw [c41b0]) | skip)
                                            by_cases c42 : (rd (rd_L1 t124 x14_3) x15_4) ≥ (l0.length : Int)
                                            · rw [if_pos c42] at H
                                              have c42b0 : decide ((l0.length : Int) ≤ (rd (rd_L1 t124 x14_3) x15_4)) = true := decide_eq_true c42
                                              clear c42
                                              have H' := Aside0.mk H
                                              clear H
                                              go_wp2
                                              go_meet
                                              case rel => exact ⟨_, (true), (by first | rfl | (simp; done) | (simp [*]; done)), H', ⟨by have := HJ6.out; have := HJ16.out; have := HK3.out; have := HK4.out; first | omega | exact Nat.le_refl _⟩, ⟨by (with_reducible repeat (first | apply Kd.N_alloc | apply Kd.N_drewN | apply Kd.N_drew)); exact HO_11.out⟩, ⟨by (with_reducible repeat (first | apply Kd.N_alloc | apply Kd.N_drewN | apply Kd.N_drew)); exact HO_12.out⟩, ⟨by (with_reducible repeat (first | apply Kd.R_alloc | apply Kd.R_drewN | apply Kd.R_drew)); exact HO_13.out⟩, ⟨by repeat (first | (with_reducible exact HR142_0.out) | (with_reducible refine Kd.C_alloc ?_ _) | (with_reducible refine Kd.C_drewN ?_ _) | (with_reducible refine Kd.C_drew ?_) | exact HR142_0.out)⟩, ⟨by repeat (first | (with_reducible exact HR143_0.out) | (with_reducible refine Kd.C_alloc ?_ _) | (with_reducible refine Kd.C_drewN ?_ _) | (with_reducible refine Kd.C_drew ?_) | exact HR143_0.out)⟩, ⟨by repeat (first | (with_reducible first | exact HB.out | apply below_alloc | apply pw_below_drewN | apply below_drew1) | exact HB.out)⟩⟩
                                            · rw [if_neg c42] at H
                                              have c42b0 : decide ((l0.length : Int) ≤ (rd (rd_L1 t124 x14_3) x15_4)) = false := decide_eq_false c42
                                              clear c42
                                              by_cases c43 : x15_4 > 0
                                              · rw [if_pos c43] at H
                                                have c43b0 : decide (0 < x15_4) = true := decide_eq_true c43
                                                clear c43
                                                obtain ⟨ji44, hji44⟩ : ∃ j_ : Int, (wrap64 (x15_4 - 1)) = j_ := ⟨_, rfl⟩
                                                replace H : (if 0 ≤ (ji44) then (if (ji44) < ((rd_L1 t124 x14_3).length : Int) then (if (rd (rd_L1 t124 x14_3) x15_4) ≤ (rd (rd_L1 t124 x14_3) (ji44)) then (postroomlaw13_ShardOne.j4 k4 l0 l1 (wrap64 (1 + t123)) t124 t136 x13_4 x14_3 x15_4 (rd (rd_L1 t124 x14_3) x15_4) true) else (if 0 ≤ (rd (rd_L1 t124 x14_3) x15_4) then (if (rd (rd_L1 t124 x14_3) x15_4) < (l0.length : Int) then ((shard_Of.f k4 (rdOf ByteArray.empty l0 (rd (rd_L1 t124 x14_3) x15_4)) (wrap64 (1 + t123))).bind fun t148 => (postroomlaw13_ShardOne.j4 k4 l0 l1 (wrap64 (1 + t123)) t124 t136 x13_4 x14_3 x15_4 (rd (rd_L1 t124 x14_3) x15_4) (t148 != x14_3))) else (none)) else (none))) else (none)) else (none)) = some r := by first | (rw [hji44] at H; exact H) | (simp only [hji44] at H ⊢; exact H)
                                                have hji44w : (IntKind.i64.wrap (x15_4 - 1)) = ji44 := (i64_w _).trans hji44
                                                by_cases c45 : 0 ≤ (ji44)
                                                · rw [if_pos c45] at H
                                                  have c45b0 : decide (0 ≤ (ji44)) = true := decide_eq_true c45
                                                  clear c45
                                                  by_cases c46 : (ji44) < ((rd_L1 t124 x14_3).length : Int)
                                                  · rw [if_pos c46] at H
                                                    have c46b0 : decide ((ji44) < ((rd_L1 t124 x14_3).length : Int)) = true := decide_eq_true c46
                                                    clear c46
                                                    by_cases c47 : (rd (rd_L1 t124 x14_3) x15_4) ≤ (rd (rd_L1 t124 x14_3) (ji44))
                                                    · rw [if_pos c47] at H
                                                      have c47b0 : decide ((rd (rd_L1 t124 x14_3) x15_4) ≤ (rd (rd_L1 t124 x14_3) (ji44))) = true := decide_eq_true c47
                                                      clear c47
                                                      have H' := Aside0.mk H
                                                      clear H
                                                      have p145 : 0 ≤ (x14_3 : Int) := of_decide_eq_true (by first | (with_reducible assumption) | assumption)
                                                      have q145 : x14_3 < (t124.length : Int) := of_decide_eq_true (by first | (with_reducible assumption) | assumption)
                                                      obtain ⟨ad145, A145_0, c145_0, e145, hx145_0, hl145_0, hi145_0⟩ := at_L1 (Kd.N_reads' HO_11.out).2.2 x14_3 p145 q145
                                                      obtain rfl : ad142 = ad145 := (by injection e145)
                                                      obtain ⟨ce145, hce145, hMe145, hcc145⟩ := Kd.N_get HO_11.out [] x14_3 p145 (by first | exact q145 | exact of_decide_eq_true (by first | (with_reducible assumption) | assumption) | (have e_ := (Kd.N_reads' HO_11.out).1; omega))
                                                      obtain ⟨ua145_0, uc145_0, rfl, ul145_0, ge145_0⟩ := Kd.FK_slice_open hMe145
                                                      have hv145_0 := hcc145 0 _ rfl
                                                      rw [Nat.add_zero, show ((Kd.slice 3 (Kd.int .i64))).sz = 1 from rfl, Nat.mul_one] at hv145_0
                                                      replace hv145_0 := Option.some.inj (hv145_0.symm.trans hx145_0)
                                                      injection hv145_0 with hva_ hvn_ hvc_
                                                      rw [hva_] at ge145_0
                                                      rw [hvc_] at ul145_0
                                                      have HL145_0 := Aside0.mk (show Kd.V (Kd.int .i64) 3 _ w.heap.size _ _ (rd_L1 t124 x14_3) from Kd.V_mk ul145_0 ge145_0)
                                                      clear hva_ hvn_ hvc_ ge145_0 ul145_0
                                                      clear hcc145 hce145
                                                      have HR145_0 := Aside0.mk hi145_0
                                                      have HC145_0 := Aside0.mk hl145_0
                                                      clear hi145_0 hl145_0
                                                      replace p145 := eq_true p145
                                                      replace q145 := eq_true q145
                                                      have p146 : 0 ≤ ((ji44) : Int) := of_decide_eq_true (by first | (with_reducible assumption) | assumption)
                                                      have q146 : (ji44) < ((rd_L1 t124 x14_3).length : Int) := of_decide_eq_true (by first | (with_reducible assumption) | assumption)
                                                      obtain ⟨ad146, e146, hx146_0⟩ := Kd.at_int (by repeat (first | (with_reducible exact HR145_0.out) | (with_reducible refine Kd.C_alloc ?_ _) | (with_reducible refine Kd.C_drewN ?_ _) | (with_reducible refine Kd.C_drew ?_) | exact HR145_0.out)) (ji44) p146 q146
                                                      cases e146
                                                      (first | (have hun_ := Option.some.inj (hx142_0.symm.trans hx145_0); injection hun_ with hu1_ hu2_ hu3_; injection hu1_ with hu1_; subst hu1_; subst hu3_; clear hu2_) | (have hun_ := Option.some.inj (hx143_0.symm.trans hx145_0); injection hun_ with hu1_ hu2_ hu3_; injection hu1_ with hu1_; subst hu1_; subst hu3_; clear hu2_) | skip)
                                                      replace p146 := eq_true p146
                                                      replace q146 := eq_true q146
                                                      go_wp2
                                                      go_meet
                                                      case rel => exact ⟨_, (true), (by first | rfl | (simp; done) | (simp [*]; done)), H', ⟨by have := HJ6.out; have := HJ16.out; have := HK3.out; have := HK4.out; first | omega | exact Nat.le_refl _⟩, ⟨by (with_reducible repeat (first | apply Kd.N_alloc | apply Kd.N_drewN | apply Kd.N_drew)); exact HO_11.out⟩, ⟨by (with_reducible repeat (first | apply Kd.N_alloc | apply Kd.N_drewN | apply Kd.N_drew)); exact HO_12.out⟩, ⟨by (with_reducible repeat (first | apply Kd.R_alloc | apply Kd.R_drewN | apply Kd.R_drew)); exact HO_13.out⟩, ⟨by repeat (first | (with_reducible exact HR142_0.out) | (with_reducible refine Kd.C_alloc ?_ _) | (with_reducible refine Kd.C_drewN ?_ _) | (with_reducible refine Kd.C_drew ?_) | exact HR142_0.out)⟩, ⟨by repeat (first | (with_reducible exact HR143_0.out) | (with_reducible refine Kd.C_alloc ?_ _) | (with_reducible refine Kd.C_drewN ?_ _) | (with_reducible refine Kd.C_drew ?_) | exact HR143_0.out)⟩, ⟨by repeat (first | (with_reducible first | exact HB.out | apply below_alloc | apply pw_below_drewN | apply below_drew1) | exact HB.out)⟩⟩
                                                    · rw [if_neg c47] at H
                                                      have c47b0 : decide ((rd (rd_L1 t124 x14_3) x15_4) ≤ (rd (rd_L1 t124 x14_3) (ji44))) = false := decide_eq_false c47
                                                      clear c47
                                                      by_cases c48 : 0 ≤ (rd (rd_L1 t124 x14_3) x15_4)
                                                      · rw [if_pos c48] at H
                                                        have c48b0 : decide (0 ≤ (rd (rd_L1 t124 x14_3) x15_4)) = true := decide_eq_true c48
                                                        clear c48
                                                        by_cases c49 : (rd (rd_L1 t124 x14_3) x15_4) < (l0.length : Int)
                                                        · rw [if_pos c49] at H
                                                          have c49b0 : decide ((rd (rd_L1 t124 x14_3) x15_4) < (l0.length : Int)) = true := decide_eq_true c49
                                                          clear c49
                                                          replace H := Option.bind_eq_some_iff.mp H
                                                          obtain ⟨t148, A500, H⟩ := H
                                                          replace H : (postroomlaw13_ShardOne.j4 k4 l0 l1 (wrap64 (1 + t123)) t124 t136 x13_4 x14_3 x15_4 (rd (rd_L1 t124 x14_3) x15_4) (t148 != x14_3)) = some r := H
                                                          have A50 := Aside0.mk A500
                                                          clear A500
                                                          have H' := Aside0.mk H
                                                          clear H
                                                          have p145 : 0 ≤ (x14_3 : Int) := of_decide_eq_true (by first | (with_reducible assumption) | assumption)
                                                          have q145 : x14_3 < (t124.length : Int) := of_decide_eq_true (by first | (with_reducible assumption) | assumption)
                                                          obtain ⟨ad145, A145_0, c145_0, e145, hx145_0, hl145_0, hi145_0⟩ := at_L1 (Kd.N_reads' HO_11.out).2.2 x14_3 p145 q145
                                                          obtain rfl : ad142 = ad145 := (by injection e145)
                                                          obtain ⟨ce145, hce145, hMe145, hcc145⟩ := Kd.N_get HO_11.out [] x14_3 p145 (by first | exact q145 | exact of_decide_eq_true (by first | (with_reducible assumption) | assumption) | (have e_ := (Kd.N_reads' HO_11.out).1; omega))
                                                          obtain ⟨ua145_0, uc145_0, rfl, ul145_0, ge145_0⟩ := Kd.FK_slice_open hMe145
                                                          have hv145_0 := hcc145 0 _ rfl
                                                          rw [Nat.add_zero, show ((Kd.slice 3 (Kd.int .i64))).sz = 1 from rfl, Nat.mul_one] at hv145_0
                                                          replace hv145_0 := Option.some.inj (hv145_0.symm.trans hx145_0)
                                                          injection hv145_0 with hva_ hvn_ hvc_
                                                          rw [hva_] at ge145_0
                                                          rw [hvc_] at ul145_0
                                                          have HL145_0 := Aside0.mk (show Kd.V (Kd.int .i64) 3 _ w.heap.size _ _ (rd_L1 t124 x14_3) from Kd.V_mk ul145_0 ge145_0)
                                                          clear hva_ hvn_ hvc_ ge145_0 ul145_0
                                                          clear hcc145 hce145
                                                          have HR145_0 := Aside0.mk hi145_0
                                                          have HC145_0 := Aside0.mk hl145_0
                                                          clear hi145_0 hl145_0
                                                          replace p145 := eq_true p145
                                                          replace q145 := eq_true q145
                                                          have p146 : 0 ≤ ((ji44) : Int) := of_decide_eq_true (by first | (with_reducible assumption) | assumption)
                                                          have q146 : (ji44) < ((rd_L1 t124 x14_3).length : Int) := of_decide_eq_true (by first | (with_reducible assumption) | assumption)
                                                          obtain ⟨ad146, e146, hx146_0⟩ := Kd.at_int (by repeat (first | (with_reducible exact HR145_0.out) | (with_reducible refine Kd.C_alloc ?_ _) | (with_reducible refine Kd.C_drewN ?_ _) | (with_reducible refine Kd.C_drew ?_) | exact HR145_0.out)) (ji44) p146 q146
                                                          cases e146
                                                          (first | (have hun_ := Option.some.inj (hx142_0.symm.trans hx145_0); injection hun_ with hu1_ hu2_ hu3_; injection hu1_ with hu1_; subst hu1_; subst hu3_; clear hu2_) | (have hun_ := Option.some.inj (hx143_0.symm.trans hx145_0); injection hun_ with hu1_ hu2_ hu3_; injection hu1_ with hu1_; subst hu1_; subst hu3_; clear hu2_) | (have hun_ := Option.some.inj (hx145_0.symm.trans hx145_0); injection hun_ with hu1_ hu2_ hu3_; injection hu1_ with hu1_; subst hu1_; subst hu3_; clear hu2_) | skip)
                                                          replace p146 := eq_true p146
                                                          replace q146 := eq_true q146
                                                          have p147 : 0 ≤ ((rd (rd_L1 t124 x14_3) x15_4) : Int) := of_decide_eq_true (by first | (with_reducible assumption) | assumption)
                                                          have q147 : (rd (rd_L1 t124 x14_3) x15_4) < (l0.length : Int) := of_decide_eq_true (by first | (with_reducible assumption) | assumption)
                                                          obtain ⟨ad147, e147, hx147_0⟩ := Kd.at_string HR0.out (rd (rd_L1 t124 x14_3) x15_4) p147 q147
                                                          cases e147
                                                          replace hx147_0 := (HB.out.cell (World.block_lt_of_cell? w _ hx147_0)).trans hx147_0
                                                          replace p147 := eq_true p147
                                                          replace q147 := eq_true q147
                                                          go_wp2_with (first | (go_at_call 12; (with_reducible refine (shard_Of.calls k4 (rdOf ByteArray.empty l0 (rd (rd_L1 t124 x14_3) x15_4)) (wrap64 (1 + t123)) t148 _ A50.out).mono ?_); rintro e w' ⟨rfl, ⟨nd, rfl⟩⟩))
                                                          go_meet
                                                          case rel => exact ⟨_, ((t148 != x14_3)), (by first | rfl | (simp; done) | (simp [*]; done)), H', ⟨by have := HJ6.out; have := HJ16.out; have := HK3.out; have := HK4.out; first | omega | exact Nat.le_refl _⟩, ⟨by (with_reducible repeat (first | apply Kd.N_alloc | apply Kd.N_drewN | apply Kd.N_drew)); exact HO_11.out⟩, ⟨by (with_reducible repeat (first | apply Kd.N_alloc | apply Kd.N_drewN | apply Kd.N_drew)); exact HO_12.out⟩, ⟨by (with_reducible repeat (first | apply Kd.R_alloc | apply Kd.R_drewN | apply Kd.R_drew)); exact HO_13.out⟩, ⟨by repeat (first | (with_reducible exact HR142_0.out) | (with_reducible refine Kd.C_alloc ?_ _) | (with_reducible refine Kd.C_drewN ?_ _) | (with_reducible refine Kd.C_drew ?_) | exact HR142_0.out)⟩, ⟨by repeat (first | (with_reducible exact HR143_0.out) | (with_reducible refine Kd.C_alloc ?_ _) | (with_reducible refine Kd.C_drewN ?_ _) | (with_reducible refine Kd.C_drew ?_) | exact HR143_0.out)⟩, ⟨by repeat (first | (with_reducible first | exact HB.out | apply below_alloc | apply pw_below_drewN | apply below_drew1) | exact HB.out)⟩⟩
                                                        · rw [if_neg c49] at H
                                                          exact absurd H (by simp)
                                                      · rw [if_neg c48] at H
                                                        exact absurd H (by simp)
                                                  · rw [if_neg c46] at H
                                                    exact absurd H (by simp)
                                                · rw [if_neg c45] at H
                                                  exact absurd H (by simp)
                                              · rw [if_neg c43] at H
                                                have c43b0 : decide (0 < x15_4) = false := decide_eq_false c43
                                                clear c43
                                                by_cases c51 : 0 ≤ (rd (rd_L1 t124 x14_3) x15_4)
                                                · rw [if_pos c51] at H
                                                  have c51b0 : decide (0 ≤ (rd (rd_L1 t124 x14_3) x15_4)) = true := decide_eq_true c51
                                                  clear c51
                                                  by_cases c52 : (rd (rd_L1 t124 x14_3) x15_4) < (l0.length : Int)
                                                  · rw [if_pos c52] at H
                                                    have c52b0 : decide ((rd (rd_L1 t124 x14_3) x15_4) < (l0.length : Int)) = true := decide_eq_true c52
                                                    clear c52
                                                    replace H := Option.bind_eq_some_iff.mp H
                                                    obtain ⟨t150, A530, H⟩ := H
                                                    replace H : (postroomlaw13_ShardOne.j4 k4 l0 l1 (wrap64 (1 + t123)) t124 t136 x13_4 x14_3 x15_4 (rd (rd_L1 t124 x14_3) x15_4) (t150 != x14_3)) = some r := H
                                                    have A53 := Aside0.mk A530
                                                    clear A530
                                                    have H' := Aside0.mk H
                                                    clear H
                                                    have p149 : 0 ≤ ((rd (rd_L1 t124 x14_3) x15_4) : Int) := of_decide_eq_true (by first | (with_reducible assumption) | assumption)
                                                    have q149 : (rd (rd_L1 t124 x14_3) x15_4) < (l0.length : Int) := of_decide_eq_true (by first | (with_reducible assumption) | assumption)
                                                    obtain ⟨ad149, e149, hx149_0⟩ := Kd.at_string HR0.out (rd (rd_L1 t124 x14_3) x15_4) p149 q149
                                                    cases e149
                                                    replace hx149_0 := (HB.out.cell (World.block_lt_of_cell? w _ hx149_0)).trans hx149_0
                                                    replace p149 := eq_true p149
                                                    replace q149 := eq_true q149
                                                    go_wp2_with (first | (go_at_call 12; (with_reducible refine (shard_Of.calls k4 (rdOf ByteArray.empty l0 (rd (rd_L1 t124 x14_3) x15_4)) (wrap64 (1 + t123)) t150 _ A53.out).mono ?_); rintro e w' ⟨rfl, ⟨nd, rfl⟩⟩))
                                                    go_meet
                                                    case rel => exact ⟨_, ((t150 != x14_3)), (by first | rfl | (simp; done) | (simp [*]; done)), H', ⟨by have := HJ6.out; have := HJ16.out; have := HK3.out; have := HK4.out; first | omega | exact Nat.le_refl _⟩, ⟨by (with_reducible repeat (first | apply Kd.N_alloc | apply Kd.N_drewN | apply Kd.N_drew)); exact HO_11.out⟩, ⟨by (with_reducible repeat (first | apply Kd.N_alloc | apply Kd.N_drewN | apply Kd.N_drew)); exact HO_12.out⟩, ⟨by (with_reducible repeat (first | apply Kd.R_alloc | apply Kd.R_drewN | apply Kd.R_drew)); exact HO_13.out⟩, ⟨by repeat (first | (with_reducible exact HR142_0.out) | (with_reducible refine Kd.C_alloc ?_ _) | (with_reducible refine Kd.C_drewN ?_ _) | (with_reducible refine Kd.C_drew ?_) | exact HR142_0.out)⟩, ⟨by repeat (first | (with_reducible exact HR143_0.out) | (with_reducible refine Kd.C_alloc ?_ _) | (with_reducible refine Kd.C_drewN ?_ _) | (with_reducible refine Kd.C_drew ?_) | exact HR143_0.out)⟩, ⟨by repeat (first | (with_reducible first | exact HB.out | apply below_alloc | apply pw_below_drewN | apply below_drew1) | exact HB.out)⟩⟩
                                                  · rw [if_neg c52] at H
                                                    exact absurd H (by simp)
                                                · rw [if_neg c51] at H
                                                  exact absurd H (by simp)
                                        case rest =>
                                          clear HC39
                                          try clear c1
                                          try clear p1
                                          try clear q1
                                          try clear hx1
                                          try clear c2
                                          try clear p2
                                          try clear c3
                                          try clear c4
                                          try clear c5
                                          try clear p6
                                          try clear c8
                                          try clear c9
                                          try clear c10
                                          try clear c11
                                          try clear c14
                                          try clear p14
                                          try clear q14
                                          try clear hx14
                                          try clear c15
                                          try clear c17
                                          try clear c25
                                          try clear c25b0
                                          try clear c25b1
                                          try clear c29
                                          try clear c30
                                          try clear c30b0
                                          try clear c30b1
                                          try clear c31
                                          try clear c31b0
                                          try clear c31b1
                                          try clear c34
                                          try clear c34b0
                                          try clear c35
                                          try clear c35b0
                                          try clear c36
                                          try clear c36b0
                                          try clear c37
                                          try clear c37b0
                                          try clear c38
                                          try clear c38b0
                                          try clear c41
                                          try clear c41b0
                                          try clear c42
                                          try clear c42b0
                                          try clear c43
                                          try clear c43b0
                                          try clear c45
                                          try clear c45b0
                                          try clear c46
                                          try clear c46b0
                                          try clear c47
                                          try clear c47b0
                                          try clear c48
                                          try clear c48b0
                                          try clear c49
                                          try clear c49b0
                                          try clear c51
                                          try clear c51b0
                                          try clear c52
                                          try clear c52b0
                                          try clear hx142_0
                                          try clear hx143_0
                                          try clear hx144_0
                                          try clear hx145_0
                                          try clear hx146_0
                                          try clear hx147_0
                                          try clear hx149_0
                                          try clear p142
                                          try clear p143
                                          try clear p144
                                          try clear p145
                                          try clear p146
                                          try clear p147
                                          try clear p149
                                          try clear p2
                                          try clear p6
                                          try clear q142
                                          try clear q143
                                          try clear q144
                                          try clear q145
                                          try clear q146
                                          try clear q147
                                          try clear q149
                                          obtain ⟨kq, x116_38, rfl, HA, HJ38, HO_11, HO_12, HO_13, HR142_0, HR143_0, HB⟩ := hcut
                                          cases kq with
                                          | zero => exact absurd HA.out (by simp [postroomlaw13_ShardOne.j4])
                                          | succ kj38 =>
                                            have H := HA.out
                                            clear HA
                                            simp only [postroomlaw13_ShardOne.j4] at H
                                            by_cases c54 : x116_38 = true
                                            · subst c54
                                              have H1 : (some false) = some r := by rw [if_pos rfl] at H; exact H
                                              clear H
                                              have H := H1
                                              clear H1
                                              exact absurd (H.trans (congrArg some HRT.out)) (by simp)
                                            · replace c54 := Bool.eq_false_iff.mpr c54
                                              subst c54
                                              have H1 : (if 0 ≤ (rd (rd_L1 t124 x14_3) x15_4) then (if (rd (rd_L1 t124 x14_3) x15_4) < (x13_4.length : Int) then (postroomlaw13_ShardOne.l2 kj38 l0 l1 (wrap64 (1 + t123)) t124 t136 (x13_4.set ((rd (rd_L1 t124 x14_3) x15_4) : Int).toNat (wrap64 ((rd x13_4 (rd (rd_L1 t124 x14_3) x15_4)) + 1))) x14_3 x15_4 (rd (rd_L1 t124 x14_3) x15_4) false 0) else (none)) else (none)) = some r := by rw [if_neg (show ¬ (false = true) by decide)] at H; exact H
                                              clear H
                                              have H := H1
                                              clear H1
                                              by_cases c55 : 0 ≤ (rd (rd_L1 t124 x14_3) x15_4)
                                              · rw [if_pos c55] at H
                                                have c55b0 : decide (0 ≤ (rd (rd_L1 t124 x14_3) x15_4)) = true := decide_eq_true c55
                                                clear c55
                                                by_cases c56 : (rd (rd_L1 t124 x14_3) x15_4) < (x13_4.length : Int)
                                                · rw [if_pos c56] at H
                                                  have c56b0 : decide ((rd (rd_L1 t124 x14_3) x15_4) < (x13_4.length : Int)) = true := decide_eq_true c56
                                                  clear c56
                                                  obtain ⟨y152, hy152⟩ : ∃ y_ : List Int, y_ = (x13_4.set ((rd (rd_L1 t124 x14_3) x15_4) : Int).toNat (wrap64 ((rd x13_4 (rd (rd_L1 t124 x14_3) x15_4)) + 1))) := ⟨_, rfl⟩
                                                  replace H : (postroomlaw13_ShardOne.l2 kj38 l0 l1 (wrap64 (1 + t123)) t124 t136 y152 x14_3 x15_4 (rd (rd_L1 t124 x14_3) x15_4) false 0) = some r := by first | (rw [hy152]; with_reducible exact H) | (have H2_ := (Option.bind_some _ _).symm.trans H; rw [hy152]; with_reducible exact H2_) | (have H2_ := (Option.bind_some _ _).symm.trans H; with_reducible exact H2_) | with_reducible exact H | (rw [hy152]; exact H) | exact H
                                                  have Ny152 := Aside0.mk hy152
                                                  clear hy152
                                                  have H' := Aside0.mk H
                                                  clear H
                                                  obtain ⟨Ao58, co58, eo58⟩ := Kd.R_slice HO_13.out
                                                  subst eo58
                                                  have p151 : 0 ≤ ((rd (rd_L1 t124 x14_3) x15_4) : Int) := of_decide_eq_true (by first | (with_reducible assumption) | assumption)
                                                  have q151 : (rd (rd_L1 t124 x14_3) x15_4) < (x13_4.length : Int) := of_decide_eq_true (by first | (with_reducible assumption) | assumption)
                                                  obtain ⟨ad151, e151, hx151_0⟩ := Kd.at_int (Kd.R_reads' HO_13.out).2.2 (rd (rd_L1 t124 x14_3) x15_4) p151 q151
                                                  cases e151
                                                  replace p151 := eq_true p151
                                                  replace q151 := eq_true q151
                                                  have p57 : 0 ≤ ((rd (rd_L1 t124 x14_3) x15_4) : Int) := of_decide_eq_true (by first | (with_reducible assumption) | assumption)
                                                  have q57 : ((rd (rd_L1 t124 x14_3) x15_4) : Int) < ((x13_4.length : Int) : Int) := of_decide_eq_true (by first | (with_reducible assumption) | assumption)
                                                  obtain ⟨go57, co57, eo57, gb57, gl57, cl57, HG57⟩ := Kd.R_form HO_13.out (by omega)
                                                  (first | cases eo57 | (injection eo57 with ea_ en_ ec_; (first | subst ea_ | (injection ea_ with ea_; subst ea_)); subst ec_; clear en_))
                                                  have GB57 := Aside0.mk gb57
                                                  have GG57 := Aside0.mk HG57
                                                  clear gb57 gl57 HG57
                                                  (first | simp only [add_plain] at hx151_0 | skip)
                                                  obtain ⟨hx57_0, hf57_0⟩ := Kd.R_celln 0 HO_13.out ((rd (rd_L1 t124 x14_3) x15_4) : Int) p57 q57
                                                  replace p57 := eq_true p57
                                                  replace q57 := eq_true q57
                                                  have HP59 := Kd.R_putg HO_13.out ((rd (rd_L1 t124 x14_3) x15_4) : Int) (wrap64 ((rd x13_4 (rd (rd_L1 t124 x14_3) x15_4)) + 1))
                                                  go_wp2_with (first | ((with_reducible refine gate_store (t := 3) (p := 122) rfl ?_); refine store_event (t := 3) (p := 122) (v := ?vo_w60) (w1 := (wc.setCell ⟨go57, ((rd (rd_L1 t124 x14_3) x15_4) : Int).toNat, none⟩ (.int .i64 (wrap64 ((rd x13_4 (rd (rd_L1 t124 x14_3) x15_4)) + 1))))) ?hg ?ho ?hn ?hr ?_; (case ho => rfl); (case hg => rfl); (case hn => rfl); (case hr => first | (go_simp; done) | (go_simp; rfl)); intro w60 hw; have hg : wc.grownBy w60 (some go57) := (by rw [hw]; exact HP59.2); have hp_ : Kd.R (Kd.int .i64) 3 w60 w.heap.size (fun _ => True) (.slice (some ⟨go57, 0, none⟩) x13_4.length co58) y152 := (by rw [hw, Ny152.out]; exact HP59.1); clear HP59; have n0_ := Aside0.mk (Kd.N_afterv (v := (.slice (some ⟨go57, 0, none⟩) x13_4.length co58)) (v1 := (.slice (some ⟨go57, 0, none⟩) x13_4.length co58)) (ok := (fun k_ => some k_ ≠ (v137 : Value).ownBlock)) (by (with_reducible repeat (first | apply Kd.N_alloc | apply Kd.N_drewN | apply Kd.N_drew)); exact HO_11.out) hg (.inl rfl)); have n1_ := Aside0.mk (Kd.N_afterv (v := (.slice (some ⟨go57, 0, none⟩) x13_4.length co58)) (v1 := (.slice (some ⟨go57, 0, none⟩) x13_4.length co58)) (ok := (fun k_ => some k_ ≠ (.slice (some ad142) t124.length co40 : Value).ownBlock)) (by (with_reducible repeat (first | apply Kd.N_alloc | apply Kd.N_drewN | apply Kd.N_drew)); exact HO_12.out) hg (.inl rfl)); have n2_ := Aside0.mk (hp_); have n3_ := Aside0.mk ((by rw [hw]; exact below_set (HB.out) GB57.out : Below w.heap.size w w60)); clear HO_11; clear HO_12; clear HO_13; clear HB; have HO_11 := n0_; have HO_12 := n1_; have HO_13 := n2_; have HB := n3_; clear n0_ n1_ n2_ n3_; clear hg hw hp_))
                                                  go_loopg [17, 18] kj38 (fun kq v17 v18 w' => ∃ (x17_6 : Bool) (x18_6 : Int), v17 = .bool x17_6 ∧ v18 = .int .i64 x18_6 ∧ Aside0 (postroomlaw13_ShardOne.l2 kq l0 l1 (wrap64 (1 + t123)) t124 t136 y152 x14_3 x15_4 (rd (rd_L1 t124 x14_3) x15_4) x17_6 x18_6 = some r) ∧ Aside0 (kq ≤ kj38) ∧ Aside0 (Kd.N (Kd.slice 3 (Kd.int .i64)) 31 w' w.heap.size (fun k_ => some k_ ≠ (v137 : Value).ownBlock ∧ some k_ ≠ ((.slice (some ⟨go57, 0, none⟩) x13_4.length co58) : Value).ownBlock) (.slice (some ad142) t124.length co40) t124) ∧ Aside0 (Kd.N (Kd.slice 3 (Kd.int .i64)) 31 w' w.heap.size (fun k_ => some k_ ≠ ((.slice (some ad142) t124.length co40) : Value).ownBlock ∧ some k_ ≠ ((.slice (some ⟨go57, 0, none⟩) x13_4.length co58) : Value).ownBlock) v137 t136) ∧ Aside0 (Kd.R (Kd.int .i64) 3 w' w.heap.size (fun _ => True) (.slice (some ⟨go57, 0, none⟩) x13_4.length co58) y152) ∧ Aside0 (Below w.heap.size w w'))
                                                  case atStart => exact ⟨(false), (0), (by first | rfl | (simp; done) | (simp [*]; done)), (by first | rfl | (simp; done) | (simp [*]; done)), H', ⟨Nat.le_refl _⟩, ⟨by (with_reducible repeat (first | apply Kd.N_alloc | apply Kd.N_drewN | apply Kd.N_drew)); exact HO_11.out⟩, ⟨by (with_reducible repeat (first | apply Kd.N_alloc | apply Kd.N_drewN | apply Kd.N_drew)); exact HO_12.out⟩, ⟨by (with_reducible repeat (first | apply Kd.R_alloc | apply Kd.R_drewN | apply Kd.R_drew)); exact HO_13.out⟩, ⟨by repeat (first | (with_reducible first | exact HB.out | apply below_alloc | apply pw_below_drewN | apply below_drew1) | exact HB.out)⟩⟩
                                                  case round =>
                                                    clear H'
                                                    try clear c1
                                                    try clear p1
                                                    try clear q1
                                                    try clear hx1
                                                    try clear c2
                                                    try clear p2
                                                    try clear c3
                                                    try clear c4
                                                    try clear c5
                                                    try clear p5
                                                    try clear q5
                                                    try clear hx5
                                                    try clear hf5
                                                    try clear p6
                                                    try clear c8
                                                    try clear c9
                                                    try clear c10
                                                    try clear c11
                                                    try clear c14
                                                    try clear p14
                                                    try clear q14
                                                    try clear hx14
                                                    try clear c15
                                                    try clear p15
                                                    try clear q15
                                                    try clear hx15
                                                    try clear c17
                                                    try clear c25
                                                    try clear c25b0
                                                    try clear c25b1
                                                    try clear c29
                                                    try clear c30
                                                    try clear c30b0
                                                    try clear c30b1
                                                    try clear c31
                                                    try clear c31b0
                                                    try clear c31b1
                                                    try clear c34
                                                    try clear c34b0
                                                    try clear c35
                                                    try clear c35b0
                                                    try clear c36
                                                    try clear c36b0
                                                    try clear c37
                                                    try clear c37b0
                                                    try clear c38
                                                    try clear c38b0
                                                    try clear c41
                                                    try clear c41b0
                                                    try clear c42
                                                    try clear c42b0
                                                    try clear c43
                                                    try clear c43b0
                                                    try clear c45
                                                    try clear c45b0
                                                    try clear c46
                                                    try clear c46b0
                                                    try clear c47
                                                    try clear c47b0
                                                    try clear c48
                                                    try clear c48b0
                                                    try clear c49
                                                    try clear c49b0
                                                    try clear c51
                                                    try clear c51b0
                                                    try clear c52
                                                    try clear c52b0
                                                    try clear c54
                                                    try clear c55
                                                    try clear c55b0
                                                    try clear c56
                                                    try clear c56b0
                                                    try clear p57
                                                    try clear q57
                                                    try clear hx57
                                                    try clear hf57
                                                    try clear hx142_0
                                                    try clear hx143_0
                                                    try clear hx144_0
                                                    try clear hx145_0
                                                    try clear hx146_0
                                                    try clear hx147_0
                                                    try clear hx149_0
                                                    try clear hx151_0
                                                    try clear hx57_0
                                                    try clear p1
                                                    try clear p14
                                                    try clear p142
                                                    try clear p143
                                                    try clear p144
                                                    try clear p145
                                                    try clear p146
                                                    try clear p147
                                                    try clear p149
                                                    try clear p151
                                                    try clear p2
                                                    try clear p57
                                                    try clear p6
                                                    try clear q1
                                                    try clear q14
                                                    try clear q142
                                                    try clear q143
                                                    try clear q144
                                                    try clear q145
                                                    try clear q146
                                                    try clear q147
                                                    try clear q149
                                                    try clear q151
                                                    try clear q57
                                                    obtain ⟨x17_6, x18_6, rfl, rfl, HA, HK6, HO_11, HO_12, HO_13, HB⟩ := hrel
                                                    have hl13_6 := (Kd.R_reads' HO_13.out).1
                                                    rw [hl13_6] at HO_13
                                                    (try simp only [hl13_6])
                                                    (try simp only [hl13_6] at HO_11)
                                                    (try simp only [hl13_6] at HO_12)
                                                    cases gk with
                                                    | zero => exact absurd HA.out (by simp [postroomlaw13_ShardOne.l2])
                                                    | succ k6 =>
                                                      have H := HA.out
                                                      clear HA
                                                      simp only [postroomlaw13_ShardOne.l2] at H
                                                      by_cases c61 : 0 ≤ x14_3
                                                      · rw [if_pos c61] at H
                                                        have c61b0 : decide (0 ≤ x14_3) = true := decide_eq_true c61
                                                        clear c61
                                                        by_cases c62 : x14_3 < (t136.length : Int)
                                                        · rw [if_pos c62] at H
                                                          have c62b0 : decide (x14_3 < (t136.length : Int)) = true := decide_eq_true c62
                                                          clear c62
                                                          by_cases c63 : x18_6 < ((rd_L1 t136 x14_3).length : Int)
                                                          · rw [if_pos c63] at H
                                                            have c63b0 : decide (x18_6 < ((rd_L1 t136 x14_3).length : Int)) = true := decide_eq_true c63
                                                            clear c63
                                                            by_cases c64 : x17_6 = true
                                                            · subst c64
                                                              have H1 : (postroomlaw13_ShardOne.l2 k6 l0 l1 (wrap64 (1 + t123)) t124 t136 y152 x14_3 x15_4 (rd (rd_L1 t124 x14_3) x15_4) true (wrap64 (x18_6 + 1))) = some r := by rw [if_pos rfl] at H; exact H
                                                              clear H
                                                              have H := H1
                                                              clear H1
                                                              have H' := Aside0.mk H
                                                              clear H
                                                              obtain ⟨Ao65, co65, eo65⟩ := Kd.N_slice HO_12.out
                                                              subst eo65
                                                              have p153 : 0 ≤ (x14_3 : Int) := of_decide_eq_true (by first | (with_reducible assumption) | assumption)
                                                              have q153 : x14_3 < (t136.length : Int) := of_decide_eq_true (by first | (with_reducible assumption) | assumption)
                                                              obtain ⟨ad153, A153_0, c153_0, e153, hx153_0, hl153_0, hi153_0⟩ := at_L1 (Kd.N_reads' HO_12.out).2.2 x14_3 p153 q153
                                                              cases e153
                                                              obtain ⟨ce153, hce153, hMe153, hcc153⟩ := Kd.N_get HO_12.out [] x14_3 p153 (by first | exact q153 | exact of_decide_eq_true (by first | (with_reducible assumption) | assumption) | (have e_ := (Kd.N_reads' HO_12.out).1; omega))
                                                              obtain ⟨ua153_0, uc153_0, rfl, ul153_0, ge153_0⟩ := Kd.FK_slice_open hMe153
                                                              have hv153_0 := hcc153 0 _ rfl
                                                              rw [Nat.add_zero, show ((Kd.slice 3 (Kd.int .i64))).sz = 1 from rfl, Nat.mul_one] at hv153_0
                                                              replace hv153_0 := Option.some.inj (hv153_0.symm.trans hx153_0)
                                                              injection hv153_0 with hva_ hvn_ hvc_
                                                              rw [hva_] at ge153_0
                                                              rw [hvc_] at ul153_0
                                                              have HL153_0 := Aside0.mk (show Kd.V (Kd.int .i64) 3 _ w.heap.size _ _ (rd_L1 t136 x14_3) from Kd.V_mk ul153_0 ge153_0)
                                                              clear hva_ hvn_ hvc_ ge153_0 ul153_0
                                                              clear hcc153 hce153
                                                              have HR153_0 := Aside0.mk hi153_0
                                                              have HC153_0 := Aside0.mk hl153_0
                                                              clear hi153_0 hl153_0
                                                              replace p153 := eq_true p153
                                                              replace q153 := eq_true q153
                                                              go_wp2
                                                              (try simp only [← hl13_6])
                                                              go_roundg k6
                                                              case measure => have := HJ6.out; have := HJ16.out; have := HK3.out; have := HK4.out; have := HJ38.out; have := HK6.out; omega
                                                              case rel => exact ⟨(true), (wrap64 (x18_6 + 1)), (by first | rfl | (simp; done) | (simp [*]; done)), (by first | rfl | (simp; done) | (simp [*]; done)), H', ⟨by have := HJ6.out; have := HJ16.out; have := HK3.out; have := HK4.out; have := HJ38.out; have := HK6.out; omega⟩, ⟨by (try simp only [hl13_6]); (with_reducible repeat (first | apply Kd.N_alloc | apply Kd.N_drewN | apply Kd.N_drew)); exact HO_11.out⟩, ⟨by (try simp only [hl13_6]); (with_reducible repeat (first | apply Kd.N_alloc | apply Kd.N_drewN | apply Kd.N_drew)); exact HO_12.out⟩, ⟨by (try simp only [hl13_6]); (with_reducible repeat (first | apply Kd.R_alloc | apply Kd.R_drewN | apply Kd.R_drew)); exact HO_13.out⟩, ⟨by repeat (first | (with_reducible first | exact HB.out | apply below_alloc | apply pw_below_drewN | apply below_drew1) | exact HB.out)⟩⟩
                                                            · replace c64 := Bool.eq_false_iff.mpr c64
                                                              subst c64
                                                              have H1 : (if 0 ≤ x18_6 then (postroomlaw13_ShardOne.l2 k6 l0 l1 (wrap64 (1 + t123)) t124 t136 y152 x14_3 x15_4 (rd (rd_L1 t124 x14_3) x15_4) ((rd (rd_L1 t136 x14_3) x18_6) == (wrap64 ((rd (rd_L1 t124 x14_3) x15_4) + (l1.length : Int)))) (wrap64 (x18_6 + 1))) else (none)) = some r := by rw [if_neg (show ¬ (false = true) by decide)] at H; exact H
                                                              clear H
                                                              have H := H1
                                                              clear H1
                                                              by_cases c66 : 0 ≤ x18_6
                                                              · rw [if_pos c66] at H
                                                                have c66b0 : decide (0 ≤ x18_6) = true := decide_eq_true c66
                                                                clear c66
                                                                have H' := Aside0.mk H
                                                                clear H
                                                                obtain ⟨Ao67, co67, eo67⟩ := Kd.N_slice HO_12.out
                                                                subst eo67
                                                                have p153 : 0 ≤ (x14_3 : Int) := of_decide_eq_true (by first | (with_reducible assumption) | assumption)
                                                                have q153 : x14_3 < (t136.length : Int) := of_decide_eq_true (by first | (with_reducible assumption) | assumption)
                                                                obtain ⟨ad153, A153_0, c153_0, e153, hx153_0, hl153_0, hi153_0⟩ := at_L1 (Kd.N_reads' HO_12.out).2.2 x14_3 p153 q153
                                                                cases e153
                                                                obtain ⟨ce153, hce153, hMe153, hcc153⟩ := Kd.N_get HO_12.out [] x14_3 p153 (by first | exact q153 | exact of_decide_eq_true (by first | (with_reducible assumption) | assumption) | (have e_ := (Kd.N_reads' HO_12.out).1; omega))
                                                                obtain ⟨ua153_0, uc153_0, rfl, ul153_0, ge153_0⟩ := Kd.FK_slice_open hMe153
                                                                have hv153_0 := hcc153 0 _ rfl
                                                                rw [Nat.add_zero, show ((Kd.slice 3 (Kd.int .i64))).sz = 1 from rfl, Nat.mul_one] at hv153_0
                                                                replace hv153_0 := Option.some.inj (hv153_0.symm.trans hx153_0)
                                                                injection hv153_0 with hva_ hvn_ hvc_
                                                                rw [hva_] at ge153_0
                                                                rw [hvc_] at ul153_0
                                                                have HL153_0 := Aside0.mk (show Kd.V (Kd.int .i64) 3 _ w.heap.size _ _ (rd_L1 t136 x14_3) from Kd.V_mk ul153_0 ge153_0)
                                                                clear hva_ hvn_ hvc_ ge153_0 ul153_0
                                                                clear hcc153 hce153
                                                                have HR153_0 := Aside0.mk hi153_0
                                                                have HC153_0 := Aside0.mk hl153_0
                                                                clear hi153_0 hl153_0
                                                                replace p153 := eq_true p153
                                                                replace q153 := eq_true q153
                                                                have p154 : 0 ≤ (x14_3 : Int) := of_decide_eq_true (by first | (with_reducible assumption) | assumption)
                                                                have q154 : x14_3 < (t136.length : Int) := of_decide_eq_true (by first | (with_reducible assumption) | assumption)
                                                                obtain ⟨ad154, A154_0, c154_0, e154, hx154_0, hl154_0, hi154_0⟩ := at_L1 (Kd.N_reads' HO_12.out).2.2 x14_3 p154 q154
                                                                obtain rfl : ad153 = ad154 := (by injection e154)
                                                                obtain ⟨ce154, hce154, hMe154, hcc154⟩ := Kd.N_get HO_12.out [] x14_3 p154 (by first | exact q154 | exact of_decide_eq_true (by first | (with_reducible assumption) | assumption) | (have e_ := (Kd.N_reads' HO_12.out).1; omega))
                                                                obtain ⟨ua154_0, uc154_0, rfl, ul154_0, ge154_0⟩ := Kd.FK_slice_open hMe154
                                                                have hv154_0 := hcc154 0 _ rfl
                                                                rw [Nat.add_zero, show ((Kd.slice 3 (Kd.int .i64))).sz = 1 from rfl, Nat.mul_one] at hv154_0
                                                                replace hv154_0 := Option.some.inj (hv154_0.symm.trans hx154_0)
                                                                injection hv154_0 with hva_ hvn_ hvc_
                                                                rw [hva_] at ge154_0
                                                                rw [hvc_] at ul154_0
                                                                have HL154_0 := Aside0.mk (show Kd.V (Kd.int .i64) 3 _ w.heap.size _ _ (rd_L1 t136 x14_3) from Kd.V_mk ul154_0 ge154_0)
                                                                clear hva_ hvn_ hvc_ ge154_0 ul154_0
                                                                clear hcc154 hce154
                                                                have HR154_0 := Aside0.mk hi154_0
                                                                have HC154_0 := Aside0.mk hl154_0
                                                                clear hi154_0 hl154_0
                                                                replace p154 := eq_true p154
                                                                replace q154 := eq_true q154
                                                                have ea_ := Option.some.inj (hx153_0.symm.trans hx154_0)
                                                                injection ea_ with ea_ en_ ec_
                                                                subst ea_
                                                                subst ec_
                                                                clear en_
                                                                have p155 : 0 ≤ (x18_6 : Int) := of_decide_eq_true (by first | (with_reducible assumption) | assumption)
                                                                have q155 : x18_6 < ((rd_L1 t136 x14_3).length : Int) := of_decide_eq_true (by first | (with_reducible assumption) | assumption)
                                                                obtain ⟨ad155, e155, hx155_0⟩ := Kd.at_int (by repeat (first | (with_reducible exact HR154_0.out) | (with_reducible refine Kd.C_alloc ?_ _) | (with_reducible refine Kd.C_drewN ?_ _) | (with_reducible refine Kd.C_drew ?_) | exact HR154_0.out)) x18_6 p155 q155
                                                                cases e155
                                                                (first | (have hun_ := Option.some.inj (hx142_0.symm.trans hx154_0); injection hun_ with hu1_ hu2_ hu3_; injection hu1_ with hu1_; subst hu1_; subst hu3_; clear hu2_) | (have hun_ := Option.some.inj (hx143_0.symm.trans hx154_0); injection hun_ with hu1_ hu2_ hu3_; injection hu1_ with hu1_; subst hu1_; subst hu3_; clear hu2_) | (have hun_ := Option.some.inj (hx145_0.symm.trans hx154_0); injection hun_ with hu1_ hu2_ hu3_; injection hu1_ with hu1_; subst hu1_; subst hu3_; clear hu2_) | (have hun_ := Option.some.inj (hx153_0.symm.trans hx154_0); injection hun_ with hu1_ hu2_ hu3_; injection hu1_ with hu1_; subst hu1_; subst hu3_; clear hu2_) | skip)
                                                                replace p155 := eq_true p155
                                                                replace q155 := eq_true q155
                                                                go_wp2
                                                                (try simp only [← hl13_6])
                                                                go_roundg k6
                                                                case measure => have := HJ6.out; have := HJ16.out; have := HK3.out; have := HK4.out; have := HJ38.out; have := HK6.out; omega
                                                                case rel => exact ⟨(((rd (rd_L1 t136 x14_3) x18_6) == (wrap64 ((rd (rd_L1 t124 x14_3) x15_4) + (l1.length : Int))))), (wrap64 (x18_6 + 1)), (by first | rfl | (simp; done) | (simp [*]; done)), (by first | rfl | (simp; done) | (simp [*]; done)), H', ⟨by have := HJ6.out; have := HJ16.out; have := HK3.out; have := HK4.out; have := HJ38.out; have := HK6.out; omega⟩, ⟨by (try simp only [hl13_6]); (with_reducible repeat (first | apply Kd.N_alloc | apply Kd.N_drewN | apply Kd.N_drew)); exact HO_11.out⟩, ⟨by (try simp only [hl13_6]); (with_reducible repeat (first | apply Kd.N_alloc | apply Kd.N_drewN | apply Kd.N_drew)); exact HO_12.out⟩, ⟨by (try simp only [hl13_6]); (with_reducible repeat (first | apply Kd.R_alloc | apply Kd.R_drewN | apply Kd.R_drew)); exact HO_13.out⟩, ⟨by repeat (first | (with_reducible first | exact HB.out | apply below_alloc | apply pw_below_drewN | apply below_drew1) | exact HB.out)⟩⟩
                                                              · rw [if_neg c66] at H
                                                                exact absurd H (by simp)
                                                          · rw [if_neg c63] at H
                                                            have c63b0 : decide (x18_6 < ((rd_L1 t136 x14_3).length : Int)) = false := decide_eq_false c63
                                                            clear c63
                                                            by_cases c68 : x17_6 = true
                                                            · subst c68
                                                              have H1 : (postroomlaw13_ShardOne.l1 k6 l0 l1 (wrap64 (1 + t123)) t124 t136 y152 x14_3 (wrap64 (x15_4 + 1))) = some r := by rw [if_pos rfl] at H; exact H
                                                              clear H
                                                              have H := H1
                                                              clear H1
                                                              have H' := Aside0.mk H
                                                              clear H
                                                              obtain ⟨Ao69, co69, eo69⟩ := Kd.N_slice HO_12.out
                                                              subst eo69
                                                              have p153 : 0 ≤ (x14_3 : Int) := of_decide_eq_true (by first | (with_reducible assumption) | assumption)
                                                              have q153 : x14_3 < (t136.length : Int) := of_decide_eq_true (by first | (with_reducible assumption) | assumption)
                                                              obtain ⟨ad153, A153_0, c153_0, e153, hx153_0, hl153_0, hi153_0⟩ := at_L1 (Kd.N_reads' HO_12.out).2.2 x14_3 p153 q153
                                                              cases e153
                                                              obtain ⟨ce153, hce153, hMe153, hcc153⟩ := Kd.N_get HO_12.out [] x14_3 p153 (by first | exact q153 | exact of_decide_eq_true (by first | (with_reducible assumption) | assumption) | (have e_ := (Kd.N_reads' HO_12.out).1; omega))
                                                              obtain ⟨ua153_0, uc153_0, rfl, ul153_0, ge153_0⟩ := Kd.FK_slice_open hMe153
                                                              have hv153_0 := hcc153 0 _ rfl
                                                              rw [Nat.add_zero, show ((Kd.slice 3 (Kd.int .i64))).sz = 1 from rfl, Nat.mul_one] at hv153_0
                                                              replace hv153_0 := Option.some.inj (hv153_0.symm.trans hx153_0)
                                                              injection hv153_0 with hva_ hvn_ hvc_
                                                              rw [hva_] at ge153_0
                                                              rw [hvc_] at ul153_0
                                                              have HL153_0 := Aside0.mk (show Kd.V (Kd.int .i64) 3 _ w.heap.size _ _ (rd_L1 t136 x14_3) from Kd.V_mk ul153_0 ge153_0)
                                                              clear hva_ hvn_ hvc_ ge153_0 ul153_0
                                                              clear hcc153 hce153
                                                              have HR153_0 := Aside0.mk hi153_0
                                                              have HC153_0 := Aside0.mk hl153_0
                                                              clear hi153_0 hl153_0
                                                              replace p153 := eq_true p153
                                                              replace q153 := eq_true q153
                                                              go_wp2
                                                              (try simp only [← hl13_6])
                                                              go_roundg k6
                                                              case measure => have := HJ6.out; have := HJ16.out; have := HK3.out; have := HK4.out; have := HJ38.out; have := HK6.out; omega
                                                              case rel => exact ⟨(y152), (wrap64 (x15_4 + 1)), (by first | rfl | (simp; done) | (simp [*]; done)), H', ⟨by have := HJ6.out; have := HJ16.out; have := HK3.out; have := HK4.out; have := HJ38.out; have := HK6.out; omega⟩, ⟨by (try simp only [hl13_6]); (with_reducible repeat (first | apply Kd.N_alloc | apply Kd.N_drewN | apply Kd.N_drew)); exact HO_11.out⟩, ⟨by (try simp only [hl13_6]); (with_reducible repeat (first | apply Kd.N_alloc | apply Kd.N_drewN | apply Kd.N_drew)); exact HO_12.out⟩, ⟨by (try simp only [hl13_6]); (with_reducible repeat (first | apply Kd.R_alloc | apply Kd.R_drewN | apply Kd.R_drew)); exact HO_13.out⟩, ⟨by repeat (first | (with_reducible first | exact HB.out | apply below_alloc | apply pw_below_drewN | apply below_drew1) | exact HB.out)⟩⟩
                                                            · replace c68 := Bool.eq_false_iff.mpr c68
                                                              subst c68
                                                              have H1 : (some false) = some r := by rw [if_neg (show ¬ (false = true) by decide)] at H; exact H
                                                              clear H
                                                              have H := H1
                                                              clear H1
                                                              exact absurd (H.trans (congrArg some HRT.out)) (by simp)
                                                        · rw [if_neg c62] at H
                                                          exact absurd H (by simp)
                                                      · rw [if_neg c61] at H
                                                        exact absurd H (by simp)
                                                · rw [if_neg c56] at H
                                                  exact absurd H (by simp)
                                              · rw [if_neg c55] at H
                                                exact absurd H (by simp)
                                      · rw [if_neg c38] at H
                                        exact absurd H (by simp)
                                    · rw [if_neg c37] at H
                                      have c37b0 : decide (x15_4 < ((rd_L1 t124 x14_3).length : Int)) = false := decide_eq_false c37
                                      clear c37
                                      have H' := Aside0.mk H
                                      clear H
                                      obtain ⟨Ao70, co70, eo70⟩ := Kd.N_slice HO_11.out
                                      subst eo70
                                      have p142 : 0 ≤ (x14_3 : Int) := of_decide_eq_true (by first | (with_reducible assumption) | assumption)
                                      have q142 : x14_3 < (t124.length : Int) := of_decide_eq_true (by first | (with_reducible assumption) | assumption)
                                      obtain ⟨ad142, A142_0, c142_0, e142, hx142_0, hl142_0, hi142_0⟩ := at_L1 (Kd.N_reads' HO_11.out).2.2 x14_3 p142 q142
                                      cases e142
                                      obtain ⟨ce142, hce142, hMe142, hcc142⟩ := Kd.N_get HO_11.out [] x14_3 p142 (by first | exact q142 | exact of_decide_eq_true (by first | (with_reducible assumption) | assumption) | (have e_ := (Kd.N_reads' HO_11.out).1; omega))
                                      obtain ⟨ua142_0, uc142_0, rfl, ul142_0, ge142_0⟩ := Kd.FK_slice_open hMe142
                                      have hv142_0 := hcc142 0 _ rfl
                                      rw [Nat.add_zero, show ((Kd.slice 3 (Kd.int .i64))).sz = 1 from rfl, Nat.mul_one] at hv142_0
                                      replace hv142_0 := Option.some.inj (hv142_0.symm.trans hx142_0)
                                      injection hv142_0 with hva_ hvn_ hvc_
                                      rw [hva_] at ge142_0
                                      rw [hvc_] at ul142_0
                                      have HL142_0 := Aside0.mk (show Kd.V (Kd.int .i64) 3 _ w.heap.size _ _ (rd_L1 t124 x14_3) from Kd.V_mk ul142_0 ge142_0)
                                      clear hva_ hvn_ hvc_ ge142_0 ul142_0
                                      clear hcc142 hce142
                                      have HR142_0 := Aside0.mk hi142_0
                                      have HC142_0 := Aside0.mk hl142_0
                                      clear hi142_0 hl142_0
                                      replace p142 := eq_true p142
                                      replace q142 := eq_true q142
                                      go_wp2
                                      go_roundg k4
                                      case measure => have := HJ6.out; have := HJ16.out; have := HK3.out; have := HK4.out; omega
                                      case rel => exact ⟨(x13_4), (wrap64 (x14_3 + 1)), (by first | rfl | (simp; done) | (simp [*]; done)), H', ⟨by have := HJ6.out; have := HJ16.out; have := HK3.out; have := HK4.out; omega⟩, ⟨by (with_reducible repeat (first | apply Kd.N_alloc | apply Kd.N_drewN | apply Kd.N_drew)); exact HO_11.out⟩, ⟨by (with_reducible repeat (first | apply Kd.N_alloc | apply Kd.N_drewN | apply Kd.N_drew)); exact HO_12.out⟩, ⟨by (with_reducible repeat (first | apply Kd.R_alloc | apply Kd.R_drewN | apply Kd.R_drew)); exact HO_13.out⟩, ⟨by repeat (first | (with_reducible first | exact HB.out | apply below_alloc | apply pw_below_drewN | apply below_drew1) | exact HB.out)⟩⟩
                                  · rw [if_neg c36] at H
                                    exact absurd H (by simp)
                                · rw [if_neg c35] at H
                                  exact absurd H (by simp)
                          · rw [if_neg c34] at H
                            have c34b0 : decide (x14_3 < (wrap64 (1 + t123))) = false := decide_eq_false c34
                            clear c34
                            have H' := Aside0.mk H
                            clear H
                            go_wp2
                            go_loopg [19] k3 (fun kq v19 w' => ∃ (x19_4 : Int), v19 = .int .i64 x19_4 ∧ Aside0 (postroomlaw13_ShardOne.l3 kq l0 x13_3 x19_4 = some r) ∧ Aside0 (kq ≤ k3) ∧ Aside0 (Kd.R (Kd.int .i64) 3 w' w.heap.size (fun _ => True) v140 x13_3) ∧ Aside0 (Below w.heap.size w w'))
                            case atStart => exact ⟨(0), (by first | rfl | (simp; done) | (simp [*]; done)), H', ⟨Nat.le_refl _⟩, ⟨by (with_reducible repeat (first | apply Kd.R_alloc | apply Kd.R_drewN | apply Kd.R_drew)); exact HO_13.out⟩, ⟨by repeat (first | (with_reducible first | exact HB.out | apply below_alloc | apply pw_below_drewN | apply below_drew1) | exact HB.out)⟩⟩
                            case round =>
                              clear H'
                              try clear c1
                              try clear p1
                              try clear q1
                              try clear hx1
                              try clear c2
                              try clear p2
                              try clear c3
                              try clear c4
                              try clear c5
                              try clear p5
                              try clear q5
                              try clear hx5
                              try clear hf5
                              try clear c6
                              try clear p6
                              try clear c8
                              try clear c9
                              try clear c10
                              try clear c11
                              try clear c14
                              try clear p14
                              try clear q14
                              try clear hx14
                              try clear c15
                              try clear p15
                              try clear q15
                              try clear hx15
                              try clear c17
                              try clear c25
                              try clear c25b0
                              try clear c25b1
                              try clear c29
                              try clear c30
                              try clear c30b0
                              try clear c30b1
                              try clear c31
                              try clear c31b0
                              try clear c31b1
                              try clear c34
                              try clear c34b0
                              try clear c35
                              try clear c35b0
                              try clear c36
                              try clear c36b0
                              try clear c37
                              try clear c37b0
                              try clear c38
                              try clear c38b0
                              try clear c41
                              try clear c41b0
                              try clear c42
                              try clear c42b0
                              try clear c43
                              try clear c43b0
                              try clear c45
                              try clear c45b0
                              try clear c46
                              try clear c46b0
                              try clear c47
                              try clear c47b0
                              try clear c48
                              try clear c48b0
                              try clear c49
                              try clear c49b0
                              try clear c51
                              try clear c51b0
                              try clear c52
                              try clear c52b0
                              try clear c54
                              try clear c55
                              try clear c55b0
                              try clear c56
                              try clear c56b0
                              try clear p57
                              try clear q57
                              try clear hx57
                              try clear hf57
                              try clear c61
                              try clear c61b0
                              try clear c62
                              try clear c62b0
                              try clear c63
                              try clear c63b0
                              try clear c64
                              try clear p64
                              try clear c66
                              try clear c66b0
                              try clear c68
                              try clear hx142_0
                              try clear hx143_0
                              try clear hx144_0
                              try clear hx145_0
                              try clear hx146_0
                              try clear hx147_0
                              try clear hx149_0
                              try clear hx151_0
                              try clear hx153_0
                              try clear hx154_0
                              try clear hx155_0
                              try clear hx57_0
                              try clear p1
                              try clear p14
                              try clear p142
                              try clear p143
                              try clear p144
                              try clear p145
                              try clear p146
                              try clear p147
                              try clear p149
                              try clear p15
                              try clear p151
                              try clear p153
                              try clear p154
                              try clear p155
                              try clear p2
                              try clear p5
                              try clear p57
                              try clear p6
                              try clear q1
                              try clear q14
                              try clear q142
                              try clear q143
                              try clear q144
                              try clear q145
                              try clear q146
                              try clear q147
                              try clear q149
                              try clear q15
                              try clear q151
                              try clear q153
                              try clear q154
                              try clear q155
                              try clear q5
                              try clear q57
                              obtain ⟨x19_4, rfl, HA, HK4, HO_13, HB⟩ := hrel
                              cases gk with
                              | zero => exact absurd HA.out (by simp [postroomlaw13_ShardOne.l3])
                              | succ k4 =>
                                have H := HA.out
                                clear HA
                                simp only [postroomlaw13_ShardOne.l3] at H
                                by_cases c71 : x19_4 < (l0.length : Int)
                                · rw [if_pos c71] at H
                                  have c71b0 : decide (x19_4 < (l0.length : Int)) = true := decide_eq_true c71
                                  clear c71
                                  by_cases c72 : 0 ≤ x19_4
                                  · rw [if_pos c72] at H
                                    have c72b0 : decide (0 ≤ x19_4) = true := decide_eq_true c72
                                    clear c72
                                    by_cases c73 : x19_4 < (x13_3.length : Int)
                                    · rw [if_pos c73] at H
                                      have c73b0 : decide (x19_4 < (x13_3.length : Int)) = true := decide_eq_true c73
                                      clear c73
                                      by_cases c74 : (rd x13_3 x19_4) = 1
                                      · rw [if_pos c74] at H
                                        have c74b0 : ((rd x13_3 x19_4) == 1) = true := beq_iff_eq.mpr c74
                                        have c74b1 : ((rd x13_3 x19_4) != 1) = false := bne_eq_false_iff_eq.mpr c74
                                        clear c74
                                        have H' := Aside0.mk H
                                        clear H
                                        obtain ⟨Ao75, co75, eo75⟩ := Kd.R_slice HO_13.out
                                        subst eo75
                                        have p156 : 0 ≤ (x19_4 : Int) := of_decide_eq_true (by first | (with_reducible assumption) | assumption)
                                        have q156 : x19_4 < (x13_3.length : Int) := of_decide_eq_true (by first | (with_reducible assumption) | assumption)
                                        obtain ⟨ad156, e156, hx156_0⟩ := Kd.at_int (Kd.R_reads' HO_13.out).2.2 x19_4 p156 q156
                                        cases e156
                                        replace p156 := eq_true p156
                                        replace q156 := eq_true q156
                                        go_wp2
                                        go_roundg k4
                                        case measure => have := HJ6.out; have := HJ16.out; have := HK3.out; have := HK4.out; omega
                                        case rel => exact ⟨(wrap64 (x19_4 + 1)), (by first | rfl | (simp; done) | (simp [*]; done)), H', ⟨by have := HJ6.out; have := HJ16.out; have := HK3.out; have := HK4.out; omega⟩, ⟨by (with_reducible repeat (first | apply Kd.R_alloc | apply Kd.R_drewN | apply Kd.R_drew)); exact HO_13.out⟩, ⟨by repeat (first | (with_reducible first | exact HB.out | apply below_alloc | apply pw_below_drewN | apply below_drew1) | exact HB.out)⟩⟩
                                      · rw [if_neg c74] at H
                                        have c74b0 : ((rd x13_3 x19_4) == 1) = false := beq_eq_false_iff_ne.mpr c74
                                        have c74b1 : ((rd x13_3 x19_4) != 1) = true := bne_iff_ne.mpr c74
                                        exact absurd (H.trans (congrArg some HRT.out)) (by simp)
                                    · rw [if_neg c73] at H
                                      exact absurd H (by simp)
                                  · rw [if_neg c72] at H
                                    exact absurd H (by simp)
                                · rw [if_neg c71] at H
                                  have c71b0 : decide (x19_4 < (l0.length : Int)) = false := decide_eq_false c71
                                  clear c71
                                  obtain rfl := Option.some.inj H
                                  go_wp2
                                  go_ret
                                  exact ⟨by first | rfl | (simp [errW_none, errW_some] <;> rfl) | (simp [*, errW_none, errW_some] <;> rfl), by repeat (first | (with_reducible first | exact HB.out | apply below_alloc | apply pw_below_drewN | apply below_drew1) | exact HB.out)⟩
                    · rw [if_neg c31] at H
                      exact absurd H (by simp)
                  · rw [if_neg c30] at H
                    exact absurd H (by simp)
          · rw [if_neg c15] at H
            exact absurd H (by simp)
        · rw [if_neg c14] at H
          exact absurd H (by simp)

end Go.Proofs.Ytemjjhpdpdlbnaa.QShardOne
