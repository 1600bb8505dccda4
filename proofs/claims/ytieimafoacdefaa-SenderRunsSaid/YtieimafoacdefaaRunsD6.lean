/- SenderRuns: one case of a round. -/
import Derived.Test.YtieimafoacdefaaRunsC
import Derived.Deep.RegionHeld3
import Derived.Deep.RegionLaw
import Derived.RegionTactic
import Derived.BigRegion
import Derived.BigQuiet
import Derived.Outline
import Derived.Deep.DeepCutAuto
import Derived.Deep.LoopGhost
import Derived.StillTailTactics
namespace Go.Proofs.Ytieimafoacdefaa.Runs
open Go.RowKit Go.Proofs.Ytieimafoacdefaa.QSenderRuns Go.Proofs.YtieimafoacdefaaW.PrintWords Go.Proofs.YtieimafoacdefaaW.PrintLast Go.Proofs.YtieimafoacdefaaW.PrintMore
set_option linter.unusedVariables false
set_option linter.unusedSimpArgs false
set_option maxRecDepth 1000000 in
set_option maxHeartbeats 6400000 in
theorem round_idle (W wr : World) (cB sB : Nat) (ba ti b m : Int) (A : Option Addr) (c0 : Nat) (l : List S41) (n i : Nat) (now next id since tries til : Int) (fl : List Int) (e1 e2 e3 e4 : Nat)
    (K : Act → World → Prop) (Q : Exit → Act → World → Prop) (kk0 kk1 kk2 kk3 kk5 kk6 kk7 kk8 kk9 kk11 kk12 kk33 kk34 kk35 kk36 kk37 kk38 kk39 kk40 kk41 kk42 kk43 kk44 kk45 kk46 kk47 kk48 kk49 kk50 kk51 kk52 kk53 kk54 kk55 kk56 kk57 kk58 kk59 kk60 u10 u18 u19 u20 u21 u22 u23 u24 u25 u26 u27 u28 u29 u30 u31 u32 u61 u62 u63 u64 u65 u66 u67 u68 u69 u70 u71 u72 u73 u74 u75 u76 u77 u78 u79 u80 u81 u82 u83 u84 u85 u86 u87 u88 u89 u90 u91 u92 u93 u94 u95 u96 u97 u98 u99 u100 u101 u102 u103 u104 u105 u106 u107 u108 u109 u110 u111 u112 u113 u114 u115 u116 u117 u118 u119 u120 u121 u122 u123 u124 u125 u126 u127 u128 u129 u130 u131 u132 u133 u134 u135 u136 u137 u138 u139 u140 u141 u142 u143 u144 u145 u146 u147 u148 u149 u150 u151 u152 u153 u154 u155 u156 u157 u158 u159 u160 u161 u162 u163 u164 u165 u166 u167 u168 u169 u170 u171 u172 u173 u174 u175 u176 u177 u178 u179 u180 u181 u182 u183 u184 u185 u186 u187 u188 u189 u190 u191 u192 u193 u194 u195 u196 u197 u198 u199 u200 u201 u202 u203 u204 u205 u206 u207 u208 u209 u210 u211 u212 u213 u214 u215 u216 u217 u218 u219 u220 u221 u222 u223 u224 u225 u226 u227 u228 u229 u230 u231 u232 u233 u234 u235 u236 u237 u238 u239 u240 u241 u242 u243 u244 u245 u246 u247 u248 u249 u250 u251 u252 u253 u254 u255 u256 u257 u258 u259 u260 u261 u262 u263 u264 u265 u266 u267 u268 u269 u270 u271 u272 u273 u274 u275 u276 u277 u278 u279 u280 : Value)
    (hn : n ≤ 200) (hr : Kd.C k41 W A n l) (hwl : ∀ i : Nat, i < n → (Lit.int .i64 (rd_T41 l i).f0).wf = true ∧ (Lit.int .i64 (rd_T41 l i).f1).wf = true ∧ (Lit.int .i64 (rd_T41 l i).f2).wf = true ∧ (Lit.int .i64 (rd_T41 l i).f3).wf = true ∧ (Lit.int .u64 (rd_T41 l i).f4).wf = true)
    (hcon : 1 ≤ ba ∧ ba ≤ 100 ∧ 1 ≤ ti ∧ ti ≤ 100 ∧ 1 ≤ b ∧ b ≤ m ∧ m ≤ 2000) (hil : i < n)
    (hinv : 0 ≤ now ∧ now ≤ 49 * i ∧ 1 ≤ next ∧ next ≤ 1 + 100 * i ∧ 0 ≤ id ∧ id ≤ i ∧ 0 ≤ since ∧ since ≤ now ∧ 0 ≤ tries ∧ tries ≤ i ∧ 0 ≤ til ∧ til ≤ now + m ∧ (fl.length : Int) ≤ ba)
    (hmem : Mem W wr cB sB ba ti b m id fl since tries til)
    (he1 : e1 < 50) (he2 : e2 < 20) (he3 : e3 < 8) (he4 : e4 < 3) (pe1 : postroomlaw16_pick.f (rd_T41 l (i : Int)).f1 50 = some (e1 : Int)) (pe2 : postroomlaw16_pick.f (rd_T41 l (i : Int)).f2 20 = some (e2 : Int)) (pe3 : postroomlaw16_pick.f (rd_T41 l (i : Int)).f0 8 = some (e3 : Int)) (pe4 : postroomlaw16_pick.f (rd_T41 l (i : Int)).f3 3 = some (e4 : Int))
    (hc : ¬ (e3 : Int) < 3) (hc7 : ¬ (e3 : Int) < 7) (hlate : Aside0 (fl = []))
    (hK : ∀ (u10' u15' u16' u17' u18' u19' u20' u21' u22' u23' u24' u25' u26' u27' u28' u29' u30' u31' u32' u61' u62' u63' u64' u65' u66' u67' u68' u69' u70' u71' u72' u73' u74' u75' u76' u77' u78' u79' u80' u81' u82' u83' u84' u85' u86' u87' u88' u89' u90' u91' u92' u93' u94' u95' u96' u97' u98' u99' u100' u101' u102' u103' u104' u105' u106' u107' u108' u109' u110' u111' u112' u113' u114' u115' u116' u117' u118' u119' u120' u121' u122' u123' u124' u125' u126' u127' u128' u129' u130' u131' u132' u133' u134' u135' u136' u137' u138' u139' u140' u141' u142' u143' u144' u145' u146' u147' u148' u149' u150' u151' u152' u153' u154' u155' u156' u157' u158' u159' u160' u161' u162' u163' u164' u165' u166' u167' u168' u169' u170' u171' u172' u173' u174' u175' u176' u177' u178' u179' u180' u181' u182' u183' u184' u185' u186' u187' u188' u189' u190' u191' u192' u193' u194' u195' u196' u197' u198' u199' u200' u201' u202' u203' u204' u205' u206' u207' u208' u209' u210' u211' u212' u213' u214' u215' u216' u217' u218' u219' u220' u221' u222' u223' u224' u225' u226' u227' u228' u229' u230' u231' u232' u233' u234' u235' u236' u237' u238' u239' u240' u241' u242' u243' u244' u245' u246' u247' u248' u249' u250' u251' u252' u253' u254' u255' u256' u257' u258' u259' u260' u261' u262' u263' u264' u265' u266' u267' u268' u269' u270' u271' u272' u273' u274' u275' u276' u277' u278' u279' u280' : Value) (w' : World), Aside0 (Rel W cB sB ba ti b m (i + 1) u15' u16' u17' w') → K ⟨List.toArray (kk0 :: kk1 :: kk2 :: kk3 :: .slice A n c0 :: kk5 :: kk6 :: kk7 :: kk8 :: kk9 :: u10' :: kk11 :: kk12 :: .pointer (some ⟨cB, 0, none⟩) :: .pointer (some ⟨sB, 0, none⟩) :: u15' :: u16' :: u17' :: u18' :: u19' :: u20' :: u21' :: u22' :: u23' :: u24' :: u25' :: u26' :: u27' :: u28' :: u29' :: u30' :: u31' :: u32' :: kk33 :: kk34 :: kk35 :: kk36 :: kk37 :: kk38 :: kk39 :: kk40 :: kk41 :: kk42 :: kk43 :: kk44 :: kk45 :: kk46 :: kk47 :: kk48 :: kk49 :: kk50 :: kk51 :: kk52 :: kk53 :: kk54 :: kk55 :: kk56 :: kk57 :: kk58 :: kk59 :: kk60 :: u61' :: u62' :: u63' :: u64' :: u65' :: u66' :: u67' :: u68' :: u69' :: u70' :: u71' :: u72' :: u73' :: u74' :: u75' :: u76' :: u77' :: u78' :: u79' :: u80' :: u81' :: u82' :: u83' :: u84' :: u85' :: u86' :: u87' :: u88' :: u89' :: u90' :: u91' :: u92' :: u93' :: u94' :: u95' :: u96' :: u97' :: u98' :: u99' :: u100' :: u101' :: u102' :: u103' :: u104' :: u105' :: u106' :: u107' :: u108' :: u109' :: u110' :: u111' :: u112' :: u113' :: u114' :: u115' :: u116' :: u117' :: u118' :: u119' :: u120' :: u121' :: u122' :: u123' :: u124' :: u125' :: u126' :: u127' :: u128' :: u129' :: u130' :: u131' :: u132' :: u133' :: u134' :: u135' :: u136' :: u137' :: u138' :: u139' :: u140' :: u141' :: u142' :: u143' :: u144' :: u145' :: u146' :: u147' :: u148' :: u149' :: u150' :: u151' :: u152' :: u153' :: u154' :: u155' :: u156' :: u157' :: u158' :: u159' :: u160' :: u161' :: u162' :: u163' :: u164' :: u165' :: u166' :: u167' :: u168' :: u169' :: u170' :: u171' :: u172' :: u173' :: u174' :: u175' :: u176' :: u177' :: u178' :: u179' :: u180' :: u181' :: u182' :: u183' :: u184' :: u185' :: u186' :: u187' :: u188' :: u189' :: u190' :: u191' :: u192' :: u193' :: u194' :: u195' :: u196' :: u197' :: u198' :: u199' :: u200' :: u201' :: u202' :: u203' :: u204' :: u205' :: u206' :: u207' :: u208' :: u209' :: u210' :: u211' :: u212' :: u213' :: u214' :: u215' :: u216' :: u217' :: u218' :: u219' :: u220' :: u221' :: u222' :: u223' :: u224' :: u225' :: u226' :: u227' :: u228' :: u229' :: u230' :: u231' :: u232' :: u233' :: u234' :: u235' :: u236' :: u237' :: u238' :: u239' :: u240' :: u241' :: u242' :: u243' :: u244' :: u245' :: u246' :: u247' :: u248' :: u249' :: u250' :: u251' :: u252' :: u253' :: u254' :: u255' :: u256' :: u257' :: u258' :: u259' :: u260' :: u261' :: u262' :: u263' :: u264' :: u265' :: u266' :: u267' :: u268' :: u269' :: u270' :: u271' :: u272' :: u273' :: u274' :: u275' :: u276' :: u277' :: u278' :: u279' :: u280' :: []), []⟩ w') :
    Code.wp Try.prog ((Try.f5.body.bind firstLoop).getD .skip) (Exit.then K Q) ⟨List.toArray (kk0 :: kk1 :: kk2 :: kk3 :: .slice A n c0 :: kk5 :: kk6 :: kk7 :: kk8 :: kk9 :: u10 :: kk11 :: kk12 :: .pointer (some ⟨cB, 0, none⟩) :: .pointer (some ⟨sB, 0, none⟩) :: .int .u64 now :: .int .u64 next :: .int .i64 (i : Int) :: u18 :: u19 :: u20 :: u21 :: u22 :: u23 :: u24 :: u25 :: u26 :: u27 :: u28 :: u29 :: u30 :: u31 :: u32 :: kk33 :: kk34 :: kk35 :: kk36 :: kk37 :: kk38 :: kk39 :: kk40 :: kk41 :: kk42 :: kk43 :: kk44 :: kk45 :: kk46 :: kk47 :: kk48 :: kk49 :: kk50 :: kk51 :: kk52 :: kk53 :: kk54 :: kk55 :: kk56 :: kk57 :: kk58 :: kk59 :: kk60 :: u61 :: u62 :: u63 :: u64 :: u65 :: u66 :: u67 :: u68 :: u69 :: u70 :: u71 :: u72 :: u73 :: u74 :: u75 :: u76 :: u77 :: u78 :: u79 :: u80 :: u81 :: u82 :: u83 :: u84 :: u85 :: u86 :: u87 :: u88 :: u89 :: u90 :: u91 :: u92 :: u93 :: u94 :: u95 :: u96 :: u97 :: u98 :: u99 :: u100 :: u101 :: u102 :: u103 :: u104 :: u105 :: u106 :: u107 :: u108 :: u109 :: u110 :: u111 :: u112 :: u113 :: u114 :: u115 :: u116 :: u117 :: u118 :: u119 :: u120 :: u121 :: u122 :: u123 :: u124 :: u125 :: u126 :: u127 :: u128 :: u129 :: u130 :: u131 :: u132 :: u133 :: u134 :: u135 :: u136 :: u137 :: u138 :: u139 :: u140 :: u141 :: u142 :: u143 :: u144 :: u145 :: u146 :: u147 :: u148 :: u149 :: u150 :: u151 :: u152 :: u153 :: u154 :: u155 :: u156 :: u157 :: u158 :: u159 :: u160 :: u161 :: u162 :: u163 :: u164 :: u165 :: u166 :: u167 :: u168 :: u169 :: u170 :: u171 :: u172 :: u173 :: u174 :: u175 :: u176 :: u177 :: u178 :: u179 :: u180 :: u181 :: u182 :: u183 :: u184 :: u185 :: u186 :: u187 :: u188 :: u189 :: u190 :: u191 :: u192 :: u193 :: u194 :: u195 :: u196 :: u197 :: u198 :: u199 :: u200 :: u201 :: u202 :: u203 :: u204 :: u205 :: u206 :: u207 :: u208 :: u209 :: u210 :: u211 :: u212 :: u213 :: u214 :: u215 :: u216 :: u217 :: u218 :: u219 :: u220 :: u221 :: u222 :: u223 :: u224 :: u225 :: u226 :: u227 :: u228 :: u229 :: u230 :: u231 :: u232 :: u233 :: u234 :: u235 :: u236 :: u237 :: u238 :: u239 :: u240 :: u241 :: u242 :: u243 :: u244 :: u245 :: u246 :: u247 :: u248 :: u249 :: u250 :: u251 :: u252 :: u253 :: u254 :: u255 :: u256 :: u257 :: u258 :: u259 :: u260 :: u261 :: u262 :: u263 :: u264 :: u265 :: u266 :: u267 :: u268 :: u269 :: u270 :: u271 :: u272 :: u273 :: u274 :: u275 :: u276 :: u277 :: u278 :: u279 :: u280 :: []), []⟩ wr := by
  have hil' : (i : Int) < (n : Int) := by omega
  have hi0 : (0 : Int) ≤ (i : Int) := by omega
  obtain ⟨ad, rfl, b0, b1, b2, b3, b4, b5⟩ := at_T41 hr (i : Int) hi0 hil'
  rw [Int.toNat_natCast] at b0 b1 b2 b3 b4 b5
  have c0' := cell_lasts hmem.below b0
  have c1' := cell_lasts hmem.below b1
  have c2' := cell_lasts hmem.below b2
  have c3' := cell_lasts hmem.below b3
  have c4' := cell_lasts hmem.below b4
  have c5' := cell_lasts hmem.below b5
  clear b0 b1 b2 b3 b4 b5
  have hwf := hwl i hil
  generalize rd_T41 l (i : Int) = act at c0' c1' c2' c3' c4' c5' hwf pe1 pe2 pe3 pe4
  obtain ⟨op, later, many, kind, jit, old⟩ := act
  simp only at c0' c1' c2' c3' c4' c5' hwf pe1 pe2 pe3 pe4
  have P1 := Aside0.mk (fun (w : World) => postroomlaw16_pick.calls later 50 (e1 : Int) w pe1)
  have P2 := Aside0.mk (fun (w : World) => postroomlaw16_pick.calls many 20 (e2 : Int) w pe2)
  have P3 := Aside0.mk (fun (w : World) => postroomlaw16_pick.calls op 8 (e3 : Int) w pe3)
  have hnow : 0 ≤ now ∧ now ≤ 9800 := by omega
  have hnext : 0 ≤ next ∧ next ≤ 20001 := by omega
  have PR := Aside0.mk (fun (w : World) => postroomlaw16_row.calls 100 next (e2 : Int) (rowL next e2) w (by have h := row_tells next (e2 : Int) (by omega) (by omega) (by omega) (by omega) 100 (by omega); rw [Int.toNat_natCast] at h; exact h))
  have HINV := Aside0.mk (And.intro hinv hil)
  have HCON := Aside0.mk hcon
  have HE4 := Aside0.mk he4
  have P4 := Aside0.mk (fun (w : World) => pick_same kind 3 (e4 : Int) w pe4)
  have HMEM := Aside0.mk hmem
  obtain ⟨fA, fcap, mcB, msB, mC, mcap, mne, mc0, ms0, mbel⟩ := hmem
  have HFL := Aside0.mk (And.intro mC (And.intro mcap (And.intro mne (And.intro mc0 (And.intro ms0 mbel)))))
  have HB0 := Aside0.mk (below_alloc (Below.refl wr.heap.size wr) (.cells #[.int .i64 op, .int .i64 later, .int .i64 many, .int .i64 kind, .int .u64 jit, .bool old] 41 (0, 0)))
  have HSW := Aside0.mk (blk_lt msB)
  have HCB := Aside0.mk (fun (w : World) (hb : Below wr.heap.size wr w) => blk_after mcB hb)
  have HSF := Aside0.mk (fun (w : World) (hb : Below wr.heap.size wr w) => blk_frozen (blk_after msB hb))
  have HSB := Aside0.mk (fun (w : World) (hb : Below wr.heap.size wr w) => cell5 (blk_after msB hb))
  have HG0 := Aside0.mk (fun (w : World) (hb : Below (wr.alloc (.cells #[.int .i64 op, .int .i64 later, .int .i64 many, .int .i64 kind, .int .u64 jit, .bool old] 41 (0, 0))).heap.size (wr.alloc (.cells #[.int .i64 op, .int .i64 later, .int .i64 many, .int .i64 kind, .int .u64 jit, .bool old] 41 (0, 0))) w) => cell6 (blk_after (blk_new wr (.cells #[.int .i64 op, .int .i64 later, .int .i64 many, .int .i64 kind, .int .u64 jit, .bool old] 41 (0, 0))) hb))
  clear mcB msB mC mcap mne mc0 ms0 mbel
  have he1' : (e1 : Int) < 50 := by omega
  have he2' : (e2 : Int) < 20 := by omega
  have hn0 := hnow.1
  have hn9 := hnow.2
  have HWK := Aside0.mk hwf
  clear hinv hil pe1 pe2 pe3 pe4 he1 he2 he4 hnow hnext hwf hr hwl hcon
  conv => arg 2; whnf
  go_upto_region 16 with (first
    | (go_at_call_of 8 (Value.int IntKind.i64 later); refine (P1.out _).mono ?_; rintro e v1 ⟨rfl, hv1⟩; have k1 := drawn_b hv1; obtain ⟨g0, g1, g2, g3, g4, g5⟩ := HG0.out _ k1; clear hv1)
    | (go_at_call_of 8 (Value.int IntKind.i64 many); refine (P2.out _).mono ?_; rintro e v2 ⟨rfl, hv2⟩; have k2 := k1.trans ((drawn_b hv2).mono k1.size); clear g0 g1 g2 g3 g4 g5 hv2)
    | (go_at_call 13; refine (PR.out _).mono ?_; rintro e v3 ⟨pv, rfl, hR3, hv3⟩; have k3 := k2.trans (hv3.mono k2.size); obtain ⟨g0, g1, g2, g3, g4, g5⟩ := HG0.out _ k3; obtain ⟨s0, s1, s2, s3, s4⟩ := HSB.out _ (HB0.out.trans (k3.mono HB0.out.size)); obtain ⟨pA, pc, hpv⟩ := Kd.R_slice hR3; rw [hpv]; rw [hpv] at hR3; have HP3 := Aside0.mk (Kd.R_reads' hR3); have HK3 := Aside0.mk k3; clear hv3 hR3 hpv k1 k2 k3))
  have hgl : wr.heap.size < v3.heap.size := World.block_lt_of_cell? v3 _ g0
  have hsl : sB < v3.heap.size := World.block_lt_of_cell? v3 _ s0
  have KW := Aside0.mk (HB0.out.trans (HK3.out.mono HB0.out.size))
  have hj := (u64_rng HWK.out.2.2.2.2).1
  clear c0' c1' c2' c3' c4' c5'
  go_upto_region 17 with (first
    | (go_at_call_of 8 (Value.int IntKind.i64 op); refine (P3.out _).mono ?_; rintro e v4 ⟨rfl, hv4⟩; have k4 : Below v3.heap.size v3 v4 := (below_alloc (Below.refl _ _) _).trans ((drawn_b hv4).mono (by simp)); have kd := drawn_b hv4; clear hv4; obtain ⟨g0', g1', g2', g3', g4', g5'⟩ := HG0.out _ (HK3.out.trans (k4.mono HK3.out.size)); have kw := KW.out.trans (k4.mono KW.out.size); obtain ⟨s0', s1', s2', s3', s4'⟩ := HSB.out _ kw; obtain ⟨z0, z1, z2, z3⟩ := cell4 (HCB.out _ kw); clear g0 g1 g2 g3 g4 g5 s0 s1 s2 s3 s4))
  have HKV := Aside0.mk (And.intro k4 kw)
  have HKD := Aside0.mk kd
  clear kd
  have HWAS := Aside0.mk (fun (w : World) (hb : Below (v3.alloc (.cells #[.int .u64 id, .slice fA fl.length fcap, .int .u64 since, .int .i64 tries, .int .u64 til] 29 (0, 0))).heap.size (v3.alloc (.cells #[.int .u64 id, .slice fA fl.length fcap, .int .u64 since, .int .i64 tries, .int .u64 til] 29 (0, 0))) w) => cell5 (blk_after (blk_new v3 (.cells #[.int .u64 id, .slice fA fl.length fcap, .int .u64 since, .int .i64 tries, .int .u64 til] 29 (0, 0))) hb))
  have hs0 : 0 ≤ since := HINV.out.1.2.2.2.2.2.2.1
  have hs1 : since ≤ now := HINV.out.1.2.2.2.2.2.2.2.1
  have hst := tick_stays ba ti b m id since tries til (now + e1) jit fl (by have := HINV.out; have := HCON.out; omega) (.inl hlate.out) hs0 (by omega) (by omega)
  replace hst : sender_Tick.f 1000 ba ti b m id fl since tries til (now + (e1 : Int)) jit = some (id, [], since, tries, til, false) := by rw [hst, hlate.out]
  have hbz : ¬ ba < 0 := by have := HCON.out; omega
  have hp : decide (0 < fl.length) = false := by rw [hlate.out]; rfl
  clear hlate
  have HST := Aside0.mk (fun (w : World) (hb : Below v3.heap.size v3 w) (hb2 : Below wr.heap.size wr w) => sender_Tick.calls 1000 ba ti b m id fA fcap fl since tries til (now + e1) jit id [] since tries til false w (Kd.C_below HFL.out.1 hb2) HFL.out.2.1 hst)
  clear hst hj
  go_upto_region 18 with (first
    | (go_at_call 15; refine (HST.out _ HKV.out.1 HKV.out.2).mono ?_; rintro e v5 ⟨tv, rfl, hR5, hv5⟩; have k5 := HKV.out.1.trans (hv5.mono HKV.out.1.size); have kw5 := HKV.out.2.trans (hv5.mono HKV.out.2.size); obtain ⟨tA, tc, htv⟩ := Kd.R_slice hR5; subst htv; clear g0' g1' g2' g3' g4' g5' s0' s1' s2' s3' s4' z0 z1 z2 z3; obtain ⟨s0, s1, s2, s3, s4⟩ := HSB.out _ kw5; obtain ⟨z0, z1, z2, z3⟩ := cell4 (HCB.out _ kw5); obtain ⟨q0, q1, q2, q3, q4⟩ := HWAS.out v5 (HKD.out.trans (hv5.mono HKD.out.size)); have HKW5 := Aside0.mk kw5; have HR5 := Aside0.mk hR5; clear k5 kw5 hv5 hR5))
  have hv3l : v3.heap.size < v5.heap.size := World.block_lt_of_cell? v5 _ q0
  have hs5l : sB < v5.heap.size := World.block_lt_of_cell? v5 _ s0
  have hc5l : cB < v5.heap.size := World.block_lt_of_cell? v5 _ z0
  have f0 := HSF.out _ HKW5.out 0
  have f1 := HSF.out _ HKW5.out 1
  have f2 := HSF.out _ HKW5.out 2
  have f3 := HSF.out _ HKW5.out 3
  have f4 := HSF.out _ HKW5.out 4
  go_upto_region 20 with (fail)
  have hM5 := Mem.later HMEM.out HKW5.out
  have hne5 : ∀ x, tA = some x → 0 < ([] : List Int).length → x.block ≠ sB := by
    intro x hx _
    have h1 := Kd.R_base HR5.out x.block (by rw [hx]; rfl)
    have h2 := HKV.out.1.size
    omega
  have hM6 := Mem.set hM5 (Kd.R_reads' HR5.out).2.2 (Kd.R_reads' HR5.out).2.1 hne5 (id2 := id) (since2 := since) (tries2 := tries) (til2 := til)
  have hM7 := Mem.later hM6 (below_alloc (Below.refl _ _) (.cells #[.int .u64 id, .slice tA ([] : List Int).length tc, .int .u64 since, .int .i64 (tries), .int .u64 (til)] 29 (0, 0)))
  have w0 := keep_cell (keep_alloc (set5_keep v5 sB (.int .u64 id) (.slice tA ([] : List Int).length tc) (.int .u64 since) (.int .i64 (tries)) (.int .u64 (til))) (.cells #[.int .u64 id, .slice tA ([] : List Int).length tc, .int .u64 since, .int .i64 (tries), .int .u64 (til)] 29 (0, 0))) q0 (by show v3.heap.size ≠ sB; omega)
  try simp only [List.length_nil] at hM7 w0
  unfold set5 at hM7 w0
  generalize World.alloc (World.setCell _ _ _) _ = Y at hM7 w0
  clear s0 s1 s2 s3 s4 z0 z1 z2 z3 q0 q1 q2 q3 q4 f0 f1 f2 f3 f4 hM5 hM6 hv3l hs5l hc5l hne5
  have HM7 := Aside0.mk hM7
  obtain ⟨A7, c7, mcB7, msB7, mC7, mcap7, mne7, mc7, ms7, mb7⟩ := hM7
  obtain ⟨s0, s1, s2, s3, s4⟩ := cell5 msB7
  try simp only [List.length_nil] at s1
  obtain ⟨z0, z1, z2, z3⟩ := cell4 mcB7
  clear mcB7 msB7 mC7 mcap7 mne7 mc7 ms7 mb7
  go_wp2
  refine Aside0.mk ⟨now + (e1 : Int), next, id, since, tries, til, [], rfl, rfl, by simp, ?_, HM7.out⟩
  obtain ⟨⟨y1, y2, y3, y4, y5, y6, y7, y8, y9, y10, y11, y12, y13⟩, y15⟩ := HINV.out
  have hcon := HCON.out
  refine ⟨?_, ?_, ?_, ?_, ?_, ?_, ?_, ?_, ?_, ?_, ?_, ?_, ?_⟩ <;> first | omega | (simp; omega)
end Go.Proofs.Ytieimafoacdefaa.Runs

