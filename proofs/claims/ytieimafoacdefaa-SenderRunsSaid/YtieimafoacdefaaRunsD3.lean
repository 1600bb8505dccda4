/- SenderRuns: one case of a round. -/
import Derived.Test.YtieimafoacdefaaRunsC
import Derived.Deep.RegionHeld3
import Derived.Deep.RegionLaw
import Derived.RegionTactic
import Derived.BigRegion
import Derived.BigQuiet
import Derived.Outline
import Derived.Deep.DeepCutAuto
import Derived.Deep.LoopGhost
import Derived.StillTailTactics
namespace Go.Proofs.Ytieimafoacdefaa.Runs
open Go.RowKit Go.Proofs.Ytieimafoacdefaa.QSenderRuns Go.Proofs.YtieimafoacdefaaW.PrintWords Go.Proofs.YtieimafoacdefaaW.PrintLast Go.Proofs.YtieimafoacdefaaW.PrintMore
set_option linter.unusedVariables false
set_option linter.unusedSimpArgs false
set_option maxRecDepth 1000000 in
set_option maxHeartbeats 6400000 in
theorem round_reply (W wr : World) (cB sB : Nat) (ba ti b m : Int) (A : Option Addr) (c0 : Nat) (l : List S41) (n i : Nat) (now next id since tries til : Int) (fl : List Int) (e1 e2 e3 e4 : Nat)
    (K : Act → World → Prop) (Q : Exit → Act → World → Prop) (kk0 kk1 kk2 kk3 kk5 kk6 kk7 kk8 kk9 kk11 kk12 kk33 kk34 kk35 kk36 kk37 kk38 kk39 kk40 kk41 kk42 kk43 kk44 kk45 kk46 kk47 kk48 kk49 kk50 kk51 kk52 kk53 kk54 kk55 kk56 kk57 kk58 kk59 kk60 u10 u18 u19 u20 u21 u22 u23 u24 u25 u26 u27 u28 u29 u30 u31 u32 u61 u62 u63 u64 u65 u66 u67 u68 u69 u70 u71 u72 u73 u74 u75 u76 u77 u78 u79 u80 u81 u82 u83 u84 u85 u86 u87 u88 u89 u90 u91 u92 u93 u94 u95 u96 u97 u98 u99 u100 u101 u102 u103 u104 u105 u106 u107 u108 u109 u110 u111 u112 u113 u114 u115 u116 u117 u118 u119 u120 u121 u122 u123 u124 u125 u126 u127 u128 u129 u130 u131 u132 u133 u134 u135 u136 u137 u138 u139 u140 u141 u142 u143 u144 u145 u146 u147 u148 u149 u150 u151 u152 u153 u154 u155 u156 u157 u158 u159 u160 u161 u162 u163 u164 u165 u166 u167 u168 u169 u170 u171 u172 u173 u174 u175 u176 u177 u178 u179 u180 u181 u182 u183 u184 u185 u186 u187 u188 u189 u190 u191 u192 u193 u194 u195 u196 u197 u198 u199 u200 u201 u202 u203 u204 u205 u206 u207 u208 u209 u210 u211 u212 u213 u214 u215 u216 u217 u218 u219 u220 u221 u222 u223 u224 u225 u226 u227 u228 u229 u230 u231 u232 u233 u234 u235 u236 u237 u238 u239 u240 u241 u242 u243 u244 u245 u246 u247 u248 u249 u250 u251 u252 u253 u254 u255 u256 u257 u258 u259 u260 u261 u262 u263 u264 u265 u266 u267 u268 u269 u270 u271 u272 u273 u274 u275 u276 u277 u278 u279 u280 : Value)
    (hn : n ≤ 200) (hr : Kd.C k41 W A n l) (hwl : ∀ i : Nat, i < n → (Lit.int .i64 (rd_T41 l i).f0).wf = true ∧ (Lit.int .i64 (rd_T41 l i).f1).wf = true ∧ (Lit.int .i64 (rd_T41 l i).f2).wf = true ∧ (Lit.int .i64 (rd_T41 l i).f3).wf = true ∧ (Lit.int .u64 (rd_T41 l i).f4).wf = true)
    (hcon : 1 ≤ ba ∧ ba ≤ 100 ∧ 1 ≤ ti ∧ ti ≤ 100 ∧ 1 ≤ b ∧ b ≤ m ∧ m ≤ 2000) (hil : i < n)
    (hinv : 0 ≤ now ∧ now ≤ 49 * i ∧ 1 ≤ next ∧ next ≤ 1 + 100 * i ∧ 0 ≤ id ∧ id ≤ i ∧ 0 ≤ since ∧ since ≤ now ∧ 0 ≤ tries ∧ tries ≤ i ∧ 0 ≤ til ∧ til ≤ now + m ∧ (fl.length : Int) ≤ ba)
    (hmem : Mem W wr cB sB ba ti b m id fl since tries til)
    (he1 : e1 < 50) (he2 : e2 < 20) (he3 : e3 < 8) (he4 : e4 < 3) (pe1 : postroomlaw16_pick.f (rd_T41 l (i : Int)).f1 50 = some (e1 : Int)) (pe2 : postroomlaw16_pick.f (rd_T41 l (i : Int)).f2 20 = some (e2 : Int)) (pe3 : postroomlaw16_pick.f (rd_T41 l (i : Int)).f0 8 = some (e3 : Int)) (pe4 : postroomlaw16_pick.f (rd_T41 l (i : Int)).f3 3 = some (e4 : Int))
    (hc : ¬ (e3 : Int) < 3) (hc7 : (e3 : Int) < 7)
    (hK : ∀ (u10' u15' u16' u17' u18' u19' u20' u21' u22' u23' u24' u25' u26' u27' u28' u29' u30' u31' u32' u61' u62' u63' u64' u65' u66' u67' u68' u69' u70' u71' u72' u73' u74' u75' u76' u77' u78' u79' u80' u81' u82' u83' u84' u85' u86' u87' u88' u89' u90' u91' u92' u93' u94' u95' u96' u97' u98' u99' u100' u101' u102' u103' u104' u105' u106' u107' u108' u109' u110' u111' u112' u113' u114' u115' u116' u117' u118' u119' u120' u121' u122' u123' u124' u125' u126' u127' u128' u129' u130' u131' u132' u133' u134' u135' u136' u137' u138' u139' u140' u141' u142' u143' u144' u145' u146' u147' u148' u149' u150' u151' u152' u153' u154' u155' u156' u157' u158' u159' u160' u161' u162' u163' u164' u165' u166' u167' u168' u169' u170' u171' u172' u173' u174' u175' u176' u177' u178' u179' u180' u181' u182' u183' u184' u185' u186' u187' u188' u189' u190' u191' u192' u193' u194' u195' u196' u197' u198' u199' u200' u201' u202' u203' u204' u205' u206' u207' u208' u209' u210' u211' u212' u213' u214' u215' u216' u217' u218' u219' u220' u221' u222' u223' u224' u225' u226' u227' u228' u229' u230' u231' u232' u233' u234' u235' u236' u237' u238' u239' u240' u241' u242' u243' u244' u245' u246' u247' u248' u249' u250' u251' u252' u253' u254' u255' u256' u257' u258' u259' u260' u261' u262' u263' u264' u265' u266' u267' u268' u269' u270' u271' u272' u273' u274' u275' u276' u277' u278' u279' u280' : Value) (w' : World), Aside0 (Rel W cB sB ba ti b m (i + 1) u15' u16' u17' w') → K ⟨List.toArray (kk0 :: kk1 :: kk2 :: kk3 :: .slice A n c0 :: kk5 :: kk6 :: kk7 :: kk8 :: kk9 :: u10' :: kk11 :: kk12 :: .pointer (some ⟨cB, 0, none⟩) :: .pointer (some ⟨sB, 0, none⟩) :: u15' :: u16' :: u17' :: u18' :: u19' :: u20' :: u21' :: u22' :: u23' :: u24' :: u25' :: u26' :: u27' :: u28' :: u29' :: u30' :: u31' :: u32' :: kk33 :: kk34 :: kk35 :: kk36 :: kk37 :: kk38 :: kk39 :: kk40 :: kk41 :: kk42 :: kk43 :: kk44 :: kk45 :: kk46 :: kk47 :: kk48 :: kk49 :: kk50 :: kk51 :: kk52 :: kk53 :: kk54 :: kk55 :: kk56 :: kk57 :: kk58 :: kk59 :: kk60 :: u61' :: u62' :: u63' :: u64' :: u65' :: u66' :: u67' :: u68' :: u69' :: u70' :: u71' :: u72' :: u73' :: u74' :: u75' :: u76' :: u77' :: u78' :: u79' :: u80' :: u81' :: u82' :: u83' :: u84' :: u85' :: u86' :: u87' :: u88' :: u89' :: u90' :: u91' :: u92' :: u93' :: u94' :: u95' :: u96' :: u97' :: u98' :: u99' :: u100' :: u101' :: u102' :: u103' :: u104' :: u105' :: u106' :: u107' :: u108' :: u109' :: u110' :: u111' :: u112' :: u113' :: u114' :: u115' :: u116' :: u117' :: u118' :: u119' :: u120' :: u121' :: u122' :: u123' :: u124' :: u125' :: u126' :: u127' :: u128' :: u129' :: u130' :: u131' :: u132' :: u133' :: u134' :: u135' :: u136' :: u137' :: u138' :: u139' :: u140' :: u141' :: u142' :: u143' :: u144' :: u145' :: u146' :: u147' :: u148' :: u149' :: u150' :: u151' :: u152' :: u153' :: u154' :: u155' :: u156' :: u157' :: u158' :: u159' :: u160' :: u161' :: u162' :: u163' :: u164' :: u165' :: u166' :: u167' :: u168' :: u169' :: u170' :: u171' :: u172' :: u173' :: u174' :: u175' :: u176' :: u177' :: u178' :: u179' :: u180' :: u181' :: u182' :: u183' :: u184' :: u185' :: u186' :: u187' :: u188' :: u189' :: u190' :: u191' :: u192' :: u193' :: u194' :: u195' :: u196' :: u197' :: u198' :: u199' :: u200' :: u201' :: u202' :: u203' :: u204' :: u205' :: u206' :: u207' :: u208' :: u209' :: u210' :: u211' :: u212' :: u213' :: u214' :: u215' :: u216' :: u217' :: u218' :: u219' :: u220' :: u221' :: u222' :: u223' :: u224' :: u225' :: u226' :: u227' :: u228' :: u229' :: u230' :: u231' :: u232' :: u233' :: u234' :: u235' :: u236' :: u237' :: u238' :: u239' :: u240' :: u241' :: u242' :: u243' :: u244' :: u245' :: u246' :: u247' :: u248' :: u249' :: u250' :: u251' :: u252' :: u253' :: u254' :: u255' :: u256' :: u257' :: u258' :: u259' :: u260' :: u261' :: u262' :: u263' :: u264' :: u265' :: u266' :: u267' :: u268' :: u269' :: u270' :: u271' :: u272' :: u273' :: u274' :: u275' :: u276' :: u277' :: u278' :: u279' :: u280' :: []), []⟩ w') :
    Code.wp Try.prog ((Try.f5.body.bind firstLoop).getD .skip) (Exit.then K Q) ⟨List.toArray (kk0 :: kk1 :: kk2 :: kk3 :: .slice A n c0 :: kk5 :: kk6 :: kk7 :: kk8 :: kk9 :: u10 :: kk11 :: kk12 :: .pointer (some ⟨cB, 0, none⟩) :: .pointer (some ⟨sB, 0, none⟩) :: .int .u64 now :: .int .u64 next :: .int .i64 (i : Int) :: u18 :: u19 :: u20 :: u21 :: u22 :: u23 :: u24 :: u25 :: u26 :: u27 :: u28 :: u29 :: u30 :: u31 :: u32 :: kk33 :: kk34 :: kk35 :: kk36 :: kk37 :: kk38 :: kk39 :: kk40 :: kk41 :: kk42 :: kk43 :: kk44 :: kk45 :: kk46 :: kk47 :: kk48 :: kk49 :: kk50 :: kk51 :: kk52 :: kk53 :: kk54 :: kk55 :: kk56 :: kk57 :: kk58 :: kk59 :: kk60 :: u61 :: u62 :: u63 :: u64 :: u65 :: u66 :: u67 :: u68 :: u69 :: u70 :: u71 :: u72 :: u73 :: u74 :: u75 :: u76 :: u77 :: u78 :: u79 :: u80 :: u81 :: u82 :: u83 :: u84 :: u85 :: u86 :: u87 :: u88 :: u89 :: u90 :: u91 :: u92 :: u93 :: u94 :: u95 :: u96 :: u97 :: u98 :: u99 :: u100 :: u101 :: u102 :: u103 :: u104 :: u105 :: u106 :: u107 :: u108 :: u109 :: u110 :: u111 :: u112 :: u113 :: u114 :: u115 :: u116 :: u117 :: u118 :: u119 :: u120 :: u121 :: u122 :: u123 :: u124 :: u125 :: u126 :: u127 :: u128 :: u129 :: u130 :: u131 :: u132 :: u133 :: u134 :: u135 :: u136 :: u137 :: u138 :: u139 :: u140 :: u141 :: u142 :: u143 :: u144 :: u145 :: u146 :: u147 :: u148 :: u149 :: u150 :: u151 :: u152 :: u153 :: u154 :: u155 :: u156 :: u157 :: u158 :: u159 :: u160 :: u161 :: u162 :: u163 :: u164 :: u165 :: u166 :: u167 :: u168 :: u169 :: u170 :: u171 :: u172 :: u173 :: u174 :: u175 :: u176 :: u177 :: u178 :: u179 :: u180 :: u181 :: u182 :: u183 :: u184 :: u185 :: u186 :: u187 :: u188 :: u189 :: u190 :: u191 :: u192 :: u193 :: u194 :: u195 :: u196 :: u197 :: u198 :: u199 :: u200 :: u201 :: u202 :: u203 :: u204 :: u205 :: u206 :: u207 :: u208 :: u209 :: u210 :: u211 :: u212 :: u213 :: u214 :: u215 :: u216 :: u217 :: u218 :: u219 :: u220 :: u221 :: u222 :: u223 :: u224 :: u225 :: u226 :: u227 :: u228 :: u229 :: u230 :: u231 :: u232 :: u233 :: u234 :: u235 :: u236 :: u237 :: u238 :: u239 :: u240 :: u241 :: u242 :: u243 :: u244 :: u245 :: u246 :: u247 :: u248 :: u249 :: u250 :: u251 :: u252 :: u253 :: u254 :: u255 :: u256 :: u257 :: u258 :: u259 :: u260 :: u261 :: u262 :: u263 :: u264 :: u265 :: u266 :: u267 :: u268 :: u269 :: u270 :: u271 :: u272 :: u273 :: u274 :: u275 :: u276 :: u277 :: u278 :: u279 :: u280 :: []), []⟩ wr := by
  have hil' : (i : Int) < (n : Int) := by omega
  have hi0 : (0 : Int) ≤ (i : Int) := by omega
  obtain ⟨ad, rfl, b0, b1, b2, b3, b4, b5⟩ := at_T41 hr (i : Int) hi0 hil'
  rw [Int.toNat_natCast] at b0 b1 b2 b3 b4 b5
  have c0' := cell_lasts hmem.below b0
  have c1' := cell_lasts hmem.below b1
  have c2' := cell_lasts hmem.below b2
  have c3' := cell_lasts hmem.below b3
  have c4' := cell_lasts hmem.below b4
  have c5' := cell_lasts hmem.below b5
  clear b0 b1 b2 b3 b4 b5
  have hwf := hwl i hil
  generalize rd_T41 l (i : Int) = act at c0' c1' c2' c3' c4' c5' hwf pe1 pe2 pe3 pe4
  obtain ⟨op, later, many, kind, jit, old⟩ := act
  simp only at c0' c1' c2' c3' c4' c5' hwf pe1 pe2 pe3 pe4
  have P1 := Aside0.mk (fun (w : World) => postroomlaw16_pick.calls later 50 (e1 : Int) w pe1)
  have P2 := Aside0.mk (fun (w : World) => postroomlaw16_pick.calls many 20 (e2 : Int) w pe2)
  have P3 := Aside0.mk (fun (w : World) => postroomlaw16_pick.calls op 8 (e3 : Int) w pe3)
  have hnow : 0 ≤ now ∧ now ≤ 9800 := by omega
  have hnext : 0 ≤ next ∧ next ≤ 20001 := by omega
  have PR := Aside0.mk (fun (w : World) => postroomlaw16_row.calls 100 next (e2 : Int) (rowL next e2) w (by have h := row_tells next (e2 : Int) (by omega) (by omega) (by omega) (by omega) 100 (by omega); rw [Int.toNat_natCast] at h; exact h))
  have HINV := Aside0.mk (And.intro hinv hil)
  have HCON := Aside0.mk hcon
  have HE4 := Aside0.mk he4
  have P4 := Aside0.mk (fun (w : World) => pick_same kind 3 (e4 : Int) w pe4)
  have HMEM := Aside0.mk hmem
  obtain ⟨fA, fcap, mcB, msB, mC, mcap, mne, mc0, ms0, mbel⟩ := hmem
  have HFL := Aside0.mk (And.intro mC (And.intro mcap (And.intro mne (And.intro mc0 (And.intro ms0 mbel)))))
  have HB0 := Aside0.mk (below_alloc (Below.refl wr.heap.size wr) (.cells #[.int .i64 op, .int .i64 later, .int .i64 many, .int .i64 kind, .int .u64 jit, .bool old] 41 (0, 0)))
  have HSW := Aside0.mk (blk_lt msB)
  have HCB := Aside0.mk (fun (w : World) (hb : Below wr.heap.size wr w) => blk_after mcB hb)
  have HSF := Aside0.mk (fun (w : World) (hb : Below wr.heap.size wr w) => blk_frozen (blk_after msB hb))
  have HSB := Aside0.mk (fun (w : World) (hb : Below wr.heap.size wr w) => cell5 (blk_after msB hb))
  have HG0 := Aside0.mk (fun (w : World) (hb : Below (wr.alloc (.cells #[.int .i64 op, .int .i64 later, .int .i64 many, .int .i64 kind, .int .u64 jit, .bool old] 41 (0, 0))).heap.size (wr.alloc (.cells #[.int .i64 op, .int .i64 later, .int .i64 many, .int .i64 kind, .int .u64 jit, .bool old] 41 (0, 0))) w) => cell6 (blk_after (blk_new wr (.cells #[.int .i64 op, .int .i64 later, .int .i64 many, .int .i64 kind, .int .u64 jit, .bool old] 41 (0, 0))) hb))
  clear mcB msB mC mcap mne mc0 ms0 mbel
  have he1' : (e1 : Int) < 50 := by omega
  have he2' : (e2 : Int) < 20 := by omega
  have hn0 := hnow.1
  have hn9 := hnow.2
  have HWK := Aside0.mk hwf
  clear hinv hil pe1 pe2 pe3 pe4 he1 he2 he4 hnow hnext hwf hr hwl hcon
  conv => arg 2; whnf
  go_upto_region 16 with (first
    | (go_at_call_of 8 (Value.int IntKind.i64 later); refine (P1.out _).mono ?_; rintro e v1 ⟨rfl, hv1⟩; have k1 := drawn_b hv1; obtain ⟨g0, g1, g2, g3, g4, g5⟩ := HG0.out _ k1; clear hv1)
    | (go_at_call_of 8 (Value.int IntKind.i64 many); refine (P2.out _).mono ?_; rintro e v2 ⟨rfl, hv2⟩; have k2 := k1.trans ((drawn_b hv2).mono k1.size); clear g0 g1 g2 g3 g4 g5 hv2)
    | (go_at_call 13; refine (PR.out _).mono ?_; rintro e v3 ⟨pv, rfl, hR3, hv3⟩; have k3 := k2.trans (hv3.mono k2.size); obtain ⟨g0, g1, g2, g3, g4, g5⟩ := HG0.out _ k3; obtain ⟨s0, s1, s2, s3, s4⟩ := HSB.out _ (HB0.out.trans (k3.mono HB0.out.size)); obtain ⟨pA, pc, hpv⟩ := Kd.R_slice hR3; rw [hpv]; rw [hpv] at hR3; have HP3 := Aside0.mk (Kd.R_reads' hR3); have HK3 := Aside0.mk k3; clear hv3 hR3 hpv k1 k2 k3))
  have hgl : wr.heap.size < v3.heap.size := World.block_lt_of_cell? v3 _ g0
  have hsl : sB < v3.heap.size := World.block_lt_of_cell? v3 _ s0
  have KW := Aside0.mk (HB0.out.trans (HK3.out.mono HB0.out.size))
  have hj := (u64_rng HWK.out.2.2.2.2).1
  clear c0' c1' c2' c3' c4' c5'
  go_upto_region 32 with (first
    | (go_at_call_of 8 (Value.int IntKind.i64 op); refine (P3.out _).mono ?_; rintro e v4 ⟨rfl, hv4⟩; have k4 : Below v3.heap.size v3 v4 := (below_alloc (Below.refl _ _) _).trans ((drawn_b hv4).mono (by simp)); have kd := drawn_b hv4; clear hv4; obtain ⟨g0', g1', g2', g3', g4', g5'⟩ := HG0.out _ (HK3.out.trans (k4.mono HK3.out.size)); have kw := KW.out.trans (k4.mono KW.out.size); obtain ⟨s0', s1', s2', s3', s4'⟩ := HSB.out _ kw; obtain ⟨z0, z1, z2, z3⟩ := cell4 (HCB.out _ kw); clear g0 g1 g2 g3 g4 g5 s0 s1 s2 s3 s4))
  have HKV := Aside0.mk (And.intro k4 kw)
  have HKD := Aside0.mk kd
  have HK4 := Aside0.mk (HK3.out.trans (k4.mono HK3.out.size))
  have HWAS := Aside0.mk (fun (w : World) (hb : Below v4.heap.size v4 w) => cell5 (blk_after (blk_new v3 (.cells #[.int .u64 id, .slice fA fl.length fcap, .int .u64 since, .int .i64 tries, .int .u64 til] 29 (0, 0))) (HKD.out.trans (hb.mono HKD.out.size))))
  clear k4 kw kd
  have HI0 := Aside0.mk (by have := HINV.out; omega : 0 ≤ id ∧ id ≤ 1000000)
  go_cut [25] from 206 to 207 (fun v25 w => w = v4 ∧ v25 = .int .u64 id)
  case first =>
    go_wp2
    go_meet
    case rel => exact ⟨rfl, rfl⟩
  case rest =>
  obtain ⟨hwc, rfl⟩ := hcut
  subst wc
  go_step
  go_step
  go_cut [25] from 208 to 212 (fun v25 w => w = v4 ∧ ∃ o : Int, v25 = .int .u64 o ∧ (old = true → o ≠ id) ∧ (old = false → o = id))
  case first =>
    cases old with
    | true =>
      go_wp2
      go_meet
      case rel => exact ⟨rfl, _, rfl, fun _ => (by have := HI0.out; rw [IntKind.wrap_u64]; omega), (fun h => by cases h)⟩
    | false =>
      go_wp2
      go_meet
      case rel => exact ⟨rfl, _, rfl, (fun h => by cases h), fun _ => rfl⟩
  case rest =>
    obtain ⟨hwc, other, rfl, ho1, ho2⟩ := hcut
    subst wc
    have hres : ∃ (r1 : Int) (r2 : List Int) (r3 r4 r5 : Int) (r6 : List Int) (r7 : Int), sender_Reply.f 1000 ba ti b m id fl since tries til other (1 + (e4 : Int)) (now + e1) jit = some (r1, r2, r3, r4, r5, r6, r7) ∧
        ((r7 = 13 ∧ (old = true ∨ fl = [])) ∨ (r7 = 0 ∧ old = false ∧ fl ≠ [] ∧ r1 = id ∧ r2 = [] ∧ r3 = since ∧ postroomlaw16_replied.f 1000 ba ti b m id fl since tries til id [] since r4 r5 r6 ((e4 : Int) == 2) (now + e1) = some true ∧ 0 ≤ r4 ∧ r4 ≤ tries + 1 ∧ 0 ≤ r5 ∧ r5 ≤ now + e1 + m ∧ r6.length ≤ fl.length)) := by
      obtain ⟨⟨y1, y2, y3, y4, y5, y6, y7, y8, y9, y10, y11, y12, y13⟩, y15⟩ := HINV.out
      have hcon := HCON.out
      have he4 := HE4.out
      by_cases hn : old = true ∨ fl = []
      · refine ⟨0, [], 0, 0, 0, [], 13, reply_not ba ti b m id other since tries til (now + e1) jit fl e4 he4 ?_, .inl ⟨rfl, hn⟩⟩
        rcases hn with hn | hn
        · exact .inl (ho1 hn)
        · exact .inr hn
      · have h1 : old = false := by cases old <;> simp at hn ⊢
        have h2 : fl ≠ [] := fun h => hn (.inr h)
        have h3 := ho2 h1
        subst h3
        obtain ⟨tr, tl, ls, q1, q2, q3, q4, q5, q6, q7⟩ := reply_yes ba ti b m other since tries til (now + e1) jit fl e4 he4 h2 (by omega) (by omega) (by omega) (by omega) (by omega) (by omega) (by omega) (by omega) hj
        exact ⟨other, [], since, tr, tl, ls, 0, q1, .inr ⟨rfl, h1, h2, rfl, rfl, rfl, q2, q3, q4, q5, q6, q7⟩⟩
    obtain ⟨r1, r2, r3, r4, r5, r6, r7, hst, hres⟩ := hres
    have HRES := Aside0.mk hres
    clear hres ho1 ho2
    have HST := Aside0.mk (fun (w : World) (hb : Below v4.heap.size v4 w) => (sender_Reply.calls 1000 ba ti b m id fA fcap fl since tries til other (1 + (e4 : Int)) (now + e1) jit r1 r2 r3 r4 r5 r6 r7 w (Kd.C_below HFL.out.1 (HKV.out.2.trans (hb.mono HKV.out.2.size))) HFL.out.2.1 hst).mono
      (fun e w' h => (by
        obtain ⟨tv, lv, he, hR, hL, hv⟩ := h
        obtain ⟨tA, tc, lA, lc, rfl, rfl, htw⟩ := two_of hR hL
        have h4 := hb.trans (hv.mono hb.size)
        obtain ⟨p0, p1, p2, p3, p4, p5⟩ := HG0.out _ (HK4.out.trans (h4.mono HK4.out.size))
        have kw' := HKV.out.2.trans (h4.mono HKV.out.2.size)
        obtain ⟨t0, t1, t2, t3, t4⟩ := HSB.out _ kw'
        obtain ⟨u0, u1, u2, u3⟩ := cell4 (HCB.out _ kw')
        exact ⟨tA, tc, lA, lc, he, h4, hv, hb.size, htw, u0, u1, u2, u3, t0, t1, t2, t3, t4, p3, p4⟩ :
        ∃ (tA : Option Addr) (tc : Nat) (lA : Option Addr) (lc : Nat), e = .returned (.tuple #[.agg #[.int .u64 r1, .slice tA r2.length tc, .int .u64 r3, .int .i64 r4, .int .u64 r5], .slice lA r6.length lc, .int .i64 r7]) ∧ Below v4.heap.size v4 w' ∧ Below w.heap.size w w' ∧ v4.heap.size ≤ w.heap.size ∧ Two w.heap.size w' tA tc lA lc r2 r6 ∧ w'.cell? ⟨cB, 0, none⟩ = some (.int .i64 ba) ∧ w'.cell? ⟨cB, 1, none⟩ = some (.int .u64 ti) ∧ w'.cell? ⟨cB, 2, none⟩ = some (.int .u64 b) ∧ w'.cell? ⟨cB, 3, none⟩ = some (.int .u64 m) ∧ w'.cell? ⟨sB, 0, none⟩ = some (.int .u64 id) ∧ w'.cell? ⟨sB, 1, none⟩ = some (.slice fA fl.length fcap) ∧ w'.cell? ⟨sB, 2, none⟩ = some (.int .u64 since) ∧ w'.cell? ⟨sB, 3, none⟩ = some (.int .i64 tries) ∧ w'.cell? ⟨sB, 4, none⟩ = some (.int .u64 til) ∧ w'.cell? ⟨wr.heap.size, 3, none⟩ = some (.int .i64 kind) ∧ w'.cell? ⟨wr.heap.size, 4, none⟩ = some (.int .u64 jit))))
    have HSTA := Aside0.mk (fun (w : World) (hb : Below v4.heap.size v4 w) (hz : w.heap[v4.heap.size]? = some (.cells #[.int .u64 0, .slice none 0 0, .int .u64 0, .int .i64 0, .int .u64 0] 29 (0, 0))) => (HST.out w hb).mono
      (fun e w' h => (by
        obtain ⟨tA, tc, lA, lc, he, h4, hv, hsz, htw, hS⟩ := h
        have hz' := blk_after hz hv
        obtain ⟨n0, n1, n2, n3, n4⟩ := cell5 hz'
        exact ⟨tA, tc, lA, lc, he, h4, hz', htw.mono (blk_lt hz), hS, n0, n1, n2, n3, n4, blk_frozen hz' 0, blk_frozen hz' 1, blk_frozen hz' 2, blk_frozen hz' 3, blk_frozen hz' 4⟩ :
        ∃ (tA : Option Addr) (tc : Nat) (lA : Option Addr) (lc : Nat), e = .returned (.tuple #[.agg #[.int .u64 r1, .slice tA r2.length tc, .int .u64 r3, .int .i64 r4, .int .u64 r5], .slice lA r6.length lc, .int .i64 r7]) ∧ Below v4.heap.size v4 w' ∧
        w'.heap[v4.heap.size]? = some (.cells #[.int .u64 0, .slice none 0 0, .int .u64 0, .int .i64 0, .int .u64 0] 29 (0, 0)) ∧ Two (v4.heap.size + 1) w' tA tc lA lc r2 r6 ∧ (w'.cell? ⟨cB, 0, none⟩ = some (.int .i64 ba) ∧ w'.cell? ⟨cB, 1, none⟩ = some (.int .u64 ti) ∧ w'.cell? ⟨cB, 2, none⟩ = some (.int .u64 b) ∧ w'.cell? ⟨cB, 3, none⟩ = some (.int .u64 m) ∧ w'.cell? ⟨sB, 0, none⟩ = some (.int .u64 id) ∧ w'.cell? ⟨sB, 1, none⟩ = some (.slice fA fl.length fcap) ∧ w'.cell? ⟨sB, 2, none⟩ = some (.int .u64 since) ∧ w'.cell? ⟨sB, 3, none⟩ = some (.int .i64 tries) ∧ w'.cell? ⟨sB, 4, none⟩ = some (.int .u64 til) ∧ w'.cell? ⟨wr.heap.size, 3, none⟩ = some (.int .i64 kind) ∧ w'.cell? ⟨wr.heap.size, 4, none⟩ = some (.int .u64 jit)) ∧
        w'.cell? ⟨v4.heap.size, 0, none⟩ = some (.int .u64 0) ∧ w'.cell? ⟨v4.heap.size, 1, none⟩ = some (.slice none 0 0) ∧ w'.cell? ⟨v4.heap.size, 2, none⟩ = some (.int .u64 0) ∧ w'.cell? ⟨v4.heap.size, 3, none⟩ = some (.int .i64 0) ∧ w'.cell? ⟨v4.heap.size, 4, none⟩ = some (.int .u64 0) ∧
        w'.frozen? ⟨v4.heap.size, 0, none⟩ = false ∧ w'.frozen? ⟨v4.heap.size, 1, none⟩ = false ∧ w'.frozen? ⟨v4.heap.size, 2, none⟩ = false ∧ w'.frozen? ⟨v4.heap.size, 3, none⟩ = false ∧ w'.frozen? ⟨v4.heap.size, 4, none⟩ = false)))
    clear hst
    have hgl4 : wr.heap.size < v4.heap.size := World.block_lt_of_cell? v4 _ g0'
    have hsl4 : sB < v4.heap.size := World.block_lt_of_cell? v4 _ s0'
    have hcl4 : cB < v4.heap.size := World.block_lt_of_cell? v4 _ z0
    have hwk : IntKind.i64.wrap (1 + (e4 : Int)) = 1 + (e4 : Int) := by rw [IntKind.wrap_i64]; have := HE4.out; omega
    clear g0' g1' g2' g5'
    go_upto_region 35 with (fail)
    go_cut [26, 27, 28] from 213 to 227 (fun v26 v27 v28 w => Got v4 r1 r2 r3 r4 r5 r6 r7 v26 v27 v28 w)
    case first =>
      go_region_held3 (fun Z => Z.cell? ⟨cB, 0, none⟩ = some (.int .i64 ba) ∧ Z.cell? ⟨cB, 1, none⟩ = some (.int .u64 ti) ∧ Z.cell? ⟨cB, 2, none⟩ = some (.int .u64 b) ∧ Z.cell? ⟨cB, 3, none⟩ = some (.int .u64 m) ∧ Z.cell? ⟨sB, 0, none⟩ = some (.int .u64 id) ∧ Z.cell? ⟨sB, 1, none⟩ = some (.slice fA fl.length fcap) ∧ Z.cell? ⟨sB, 2, none⟩ = some (.int .u64 since) ∧ Z.cell? ⟨sB, 3, none⟩ = some (.int .i64 tries) ∧ Z.cell? ⟨sB, 4, none⟩ = some (.int .u64 til) ∧ Z.cell? ⟨wr.heap.size, 3, none⟩ = some (.int .i64 kind) ∧ Z.cell? ⟨wr.heap.size, 4, none⟩ = some (.int .u64 jit))
        (first | (refine ⟨?_, ?_, ?_, ?_, ?_, ?_, ?_, ?_, ?_, ?_, ?_⟩ <;> ((repeat (first | with_reducible refine drew_c ?_ | with_reducible refine keep_al ?_ _ | (with_reducible refine keep_st ?_ (by dsimp only; omega) _))); with_reducible assumption)) | go_keep)
        (first
          | (go_at_call 8; refine (P4.out _).mono ?_; rintro e v6 ⟨rfl, rfl⟩)
          | (go_at_call 11; refine (HSTA.out _ (by repeat (first | exact Below.refl _ _ | apply below_alloc | apply below_drew)) (by (with_reducible repeat (first | refine blk_drewN ?_ _ | refine blk_drew ?_)); (with_reducible refine blk_new_at ?_); rfl)).mono ?_; rintro e v5 ⟨tA, tc, lA, lc, rfl, hv45, hzz, htw, ⟨t0, t1, t2, t3, t4, t5, t6, t7, t8, t9, t10⟩, n0, n1, n2, n3, n4, m0, m1, m2, m3, m4⟩)
          | (go_at_call 11; refine (HST.out _ (by repeat (first | exact Below.refl _ _ | apply below_alloc | apply below_drew))).mono ?_; rintro e v5 ⟨tA, tc, lA, lc, rfl, hv45, hv5, hsz, htw, t0, t1, t2, t3, t4, t5, t6, t7, t8, t9, t10⟩))
      all_goals (go_step; go_step)
      all_goals go_meet
      all_goals (first | (with_reducible exact got_alloc hv45 htw hsz) | exact got_raw hv45 htw hzz)
    case rest =>
      obtain ⟨g, tA, tc, lA, lc, rfl, rfl, rfl, hgb, hgg, hgw, htw⟩ := hcut
      have kwc := HKV.out.2.trans (hgw.mono HKV.out.2.size)
      have HKW := Aside0.mk kwc
      have HGW := Aside0.mk hgw
      have HTW := Aside0.mk htw
      obtain ⟨g0, g1, g2, g3, g4, g5⟩ := HG0.out _ (HK4.out.trans (hgw.mono HK4.out.size))
      obtain ⟨s0, s1, s2, s3, s4⟩ := HSB.out _ kwc
      obtain ⟨z0, z1, z2, z3⟩ := cell4 (HCB.out _ kwc)
      obtain ⟨q0, q1, q2, q3, q4⟩ := HWAS.out wc hgw
      obtain ⟨y0, y1, y2, y3, y4⟩ := cell5 hgb
      have hbl : ¬ ba < (fl.length : Int) := by have := HINV.out.1.2.2.2.2.2.2.2.2.2.2.2.2; omega
      clear s0' s1' s2' s3' s4' g3' g4' hgb hgg hgw htw kwc hwk
      rcases HRES.out with ⟨h7, hno⟩ | ⟨h7, hold, hfl, h1, h2, h3, hrep, a1, a2, a3, a4, a5⟩
      · subst r7
        rcases hno with hno | hno
        · subst hno
          by_cases hp : 0 < fl.length
          · go_wp2
            refine Aside0.mk ⟨now + (e1 : Int), next, id, since, tries, til, fl, rfl, rfl, by simp, ?_, Mem.later HMEM.out HKW.out⟩
            obtain ⟨⟨y1, y2, y3, y4, y5, y6, y7, y8, y9, y10, y11, y12, y13⟩, y15⟩ := HINV.out
            refine ⟨?_, ?_, ?_, ?_, ?_, ?_, ?_, ?_, ?_, ?_, ?_, ?_, ?_⟩ <;> first | omega | (simp; omega)
          · go_wp2
            refine Aside0.mk ⟨now + (e1 : Int), next, id, since, tries, til, fl, rfl, rfl, by simp, ?_, Mem.later HMEM.out HKW.out⟩
            obtain ⟨⟨y1, y2, y3, y4, y5, y6, y7, y8, y9, y10, y11, y12, y13⟩, y15⟩ := HINV.out
            refine ⟨?_, ?_, ?_, ?_, ?_, ?_, ?_, ?_, ?_, ?_, ?_, ?_, ?_⟩ <;> first | omega | (simp; omega)
        · have hp : fl.length = 0 := by rw [hno]; rfl
          clear hno
          go_wp2
          refine Aside0.mk ⟨now + (e1 : Int), next, id, since, tries, til, fl, rfl, rfl, by simp, ?_, Mem.later HMEM.out HKW.out⟩
          obtain ⟨⟨y1, y2, y3, y4, y5, y6, y7, y8, y9, y10, y11, y12, y13⟩, y15⟩ := HINV.out
          refine ⟨?_, ?_, ?_, ?_, ?_, ?_, ?_, ?_, ?_, ?_, ?_, ?_, ?_⟩ <;> first | omega | (simp; omega)
      · subst r7 r1 r2 r3 hold
        have hp : 0 < fl.length := List.length_pos_iff.2 hfl
        have HREP := Aside0.mk (And.intro hrep (And.intro a1 (And.intro a2 (And.intro a3 (And.intro a4 a5)))))
        have f0 := HSF.out _ HKW.out 0
        have f1 := HSF.out _ HKW.out 1
        have f2 := HSF.out _ HKW.out 2
        have f3 := HSF.out _ HKW.out 3
        have f4 := HSF.out _ HKW.out 4
        clear hrep a1 a2 a3 a4 a5 hfl
        go_upto_region 40 with (fail)
        have hM := Mem.set (Mem.later HMEM.out HKW.out) (fl2 := []) HTW.out.1 HTW.out.2.1 (fun x _ h => absurd h (Nat.lt_irrefl 0)) (id2 := id) (since2 := since) (tries2 := r4) (til2 := r5)
        have hL := (Two.set HTW.out hsl4 (.int .u64 id) (.slice tA ([] : List Int).length tc) (.int .u64 since) (.int .i64 r4) (.int .u64 r5)).2.2.1
        have hk := set5_keep wc sB (.int .u64 id) (.slice tA ([] : List Int).length tc) (.int .u64 since) (.int .i64 r4) (.int .u64 r5)
        have w0 := keep_cell hk q0 (by show v3.heap.size ≠ sB; omega)
        have w1 := keep_cell hk q1 (by show v3.heap.size ≠ sB; omega)
        have w2 := keep_cell hk q2 (by show v3.heap.size ≠ sB; omega)
        have w3 := keep_cell hk q3 (by show v3.heap.size ≠ sB; omega)
        have w4 := keep_cell hk q4 (by show v3.heap.size ≠ sB; omega)
        have w5 := keep_cell hk g3 (by show wr.heap.size ≠ sB; have := HSW.out; omega)
        have hF := Kd.C_keep 0 (Kd.C_below HFL.out.1 HKW.out) hk (fun x hx hp => HFL.out.2.2.1 x hx hp)
        simp only [List.length_nil] at hM hL w0 w1 w2 w3 w4 w5 hF
        unfold set5 at hM hL w0 w1 w2 w3 w4 w5 hF
        generalize World.setCell _ _ _ = Y at hM hL w0 w1 w2 w3 w4 w5 hF
        have HM7 := Aside0.mk hM
        have HL7 := Aside0.mk (And.intro hL (And.intro HTW.out.2.2.2.1 hF))
        obtain ⟨A7, c7, mcB7, msB7, mC7, mcap7, mne7, mc7, ms7, mb7⟩ := hM
        have HC7 := Aside0.mk (And.intro mC7 mcap7)
        clear s0 s1 s2 s3 s4 z0 z1 z2 z3 q0 q1 q2 q3 q4 g0 g1 g2 g3 g4 g5 y0 y1 y2 y3 y4 f0 f1 f2 f3 f4 hk hL hF
        obtain ⟨s0, s1, s2, s3, s4⟩ := cell5 msB7
        simp only [List.length_nil] at s1
        obtain ⟨z0, z1, z2, z3⟩ := cell4 mcB7
        clear mcB7 msB7 mC7 mcap7 mne7 mc7 ms7 mb7
        have HRP := Aside0.mk (fun (w : World) (hb : Below Y.heap.size Y w) => postroomlaw16_replied.calls 1000 ba ti b m id fA fcap fl since tries til id A7 c7 [] since r4 r5 lA lc r6 ((e4 : Int) == 2) (now + e1) true w (Kd.C_below HL7.out.2.2 hb) HFL.out.2.1 (Kd.C_below HC7.out.1 hb) HC7.out.2 (Kd.C_below HL7.out.1 hb) HL7.out.2.1 HREP.out.1)
        have hr6 : (r6.length : Int) ≤ 100 := by
          have h1 := HREP.out.2.2.2.2.2
          have h2 := HINV.out.1.2.2.2.2.2.2.2.2.2.2.2.2
          have h3 := HCON.out
          omega
        have hnx0 : 0 ≤ next := by have := HINV.out; omega
        have hnx9 : next ≤ 20001 := by have := HINV.out; omega
        go_upto_region 41 with (fail)
        refine wp_region_still_tail 9 (by kernel_rfl) (by kernel_rfl) ?_
        simp only [List.take_succ_cons, List.take_zero, List.drop_succ_cons, List.drop_zero]
        repeat (first | still_step | still_call (P4.out _))
        try refine wpStill_nil ?_
        go_wp2_with (go_at_call 14; refine (HRP.out _ (below_drew (Below.refl _ _))).mono ?_; rintro e w6 ⟨rfl, hw6⟩; have hb6 : Below Y.heap.size Y w6 := (below_drew (Below.refl Y.heap.size Y)).trans (hw6.mono (Nat.le_refl _)); have t0 := cell_lasts hb6 s0; have t1 := cell_lasts hb6 s1; have t2 := cell_lasts hb6 z0; have t3 := cell_lasts hb6 w0; have HB6 := Aside0.mk hb6; clear hb6 hw6)
        refine Aside0.mk ⟨now + (e1 : Int), next + (r6.length : Int), id, since, r4, r5, [], rfl, rfl, by simp, ?_, Mem.later HM7.out HB6.out⟩
        obtain ⟨⟨y1, y2, y3, y4, y5, y6, y7, y8, y9, y10, y11, y12, y13⟩, y15⟩ := HINV.out
        obtain ⟨x0, x1, x2, x3, x4, x5⟩ := HREP.out
        have hcon := HCON.out
        refine ⟨?_, ?_, ?_, ?_, ?_, ?_, ?_, ?_, ?_, ?_, ?_, ?_, ?_⟩ <;> first | omega | (simp; omega)
end Go.Proofs.Ytieimafoacdefaa.Runs

