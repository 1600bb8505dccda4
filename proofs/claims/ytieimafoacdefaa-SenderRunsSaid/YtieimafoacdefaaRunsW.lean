/- SenderRuns: a round; the loop; the law's walk. -/
import Derived.Test.YtieimafoacdefaaRunsD1
import Derived.Test.YtieimafoacdefaaRunsD2
import Derived.Test.YtieimafoacdefaaRunsD3
import Derived.Test.YtieimafoacdefaaRunsD4
import Derived.Test.YtieimafoacdefaaRunsD5
import Derived.Test.YtieimafoacdefaaRunsD6
import Derived.Deep.RegionHeld3
import Derived.Deep.RegionLaw
import Derived.RegionTactic
import Derived.BigRegion
import Derived.BigQuiet
import Derived.Outline
import Derived.Deep.DeepCutAuto
import Derived.Deep.LoopGhost
import Derived.StillTailTactics
namespace Go.Proofs.Ytieimafoacdefaa.Runs
open Go.RowKit Go.Proofs.Ytieimafoacdefaa.QSenderRuns Go.Proofs.YtieimafoacdefaaW.PrintWords Go.Proofs.YtieimafoacdefaaW.PrintLast Go.Proofs.YtieimafoacdefaaW.PrintMore
set_option linter.unusedVariables false
set_option linter.unusedSimpArgs false
set_option maxRecDepth 1000000 in
set_option maxHeartbeats 6400000 in
theorem round_all {W wr : World} {cB sB : Nat} {ba ti b m : Int} {A : Option Addr} {c0 : Nat} {l : List S41} {n i : Nat} {now next id since tries til : Int} {fl : List Int}
    {K : Act → World → Prop} {Q : Exit → Act → World → Prop} {kk0 kk1 kk2 kk3 kk5 kk6 kk7 kk8 kk9 kk11 kk12 kk33 kk34 kk35 kk36 kk37 kk38 kk39 kk40 kk41 kk42 kk43 kk44 kk45 kk46 kk47 kk48 kk49 kk50 kk51 kk52 kk53 kk54 kk55 kk56 kk57 kk58 kk59 kk60 u10 u18 u19 u20 u21 u22 u23 u24 u25 u26 u27 u28 u29 u30 u31 u32 u61 u62 u63 u64 u65 u66 u67 u68 u69 u70 u71 u72 u73 u74 u75 u76 u77 u78 u79 u80 u81 u82 u83 u84 u85 u86 u87 u88 u89 u90 u91 u92 u93 u94 u95 u96 u97 u98 u99 u100 u101 u102 u103 u104 u105 u106 u107 u108 u109 u110 u111 u112 u113 u114 u115 u116 u117 u118 u119 u120 u121 u122 u123 u124 u125 u126 u127 u128 u129 u130 u131 u132 u133 u134 u135 u136 u137 u138 u139 u140 u141 u142 u143 u144 u145 u146 u147 u148 u149 u150 u151 u152 u153 u154 u155 u156 u157 u158 u159 u160 u161 u162 u163 u164 u165 u166 u167 u168 u169 u170 u171 u172 u173 u174 u175 u176 u177 u178 u179 u180 u181 u182 u183 u184 u185 u186 u187 u188 u189 u190 u191 u192 u193 u194 u195 u196 u197 u198 u199 u200 u201 u202 u203 u204 u205 u206 u207 u208 u209 u210 u211 u212 u213 u214 u215 u216 u217 u218 u219 u220 u221 u222 u223 u224 u225 u226 u227 u228 u229 u230 u231 u232 u233 u234 u235 u236 u237 u238 u239 u240 u241 u242 u243 u244 u245 u246 u247 u248 u249 u250 u251 u252 u253 u254 u255 u256 u257 u258 u259 u260 u261 u262 u263 u264 u265 u266 u267 u268 u269 u270 u271 u272 u273 u274 u275 u276 u277 u278 u279 u280 : Value}
    (hn : n ≤ 200) (hr : Kd.C k41 W A n l) (hwl : ∀ i : Nat, i < n → (Lit.int .i64 (rd_T41 l i).f0).wf = true ∧ (Lit.int .i64 (rd_T41 l i).f1).wf = true ∧ (Lit.int .i64 (rd_T41 l i).f2).wf = true ∧ (Lit.int .i64 (rd_T41 l i).f3).wf = true ∧ (Lit.int .u64 (rd_T41 l i).f4).wf = true)
    (hcon : 1 ≤ ba ∧ ba ≤ 100 ∧ 1 ≤ ti ∧ ti ≤ 100 ∧ 1 ≤ b ∧ b ≤ m ∧ m ≤ 2000) (hil : i < n)
    (hinv : 0 ≤ now ∧ now ≤ 49 * i ∧ 1 ≤ next ∧ next ≤ 1 + 100 * i ∧ 0 ≤ id ∧ id ≤ i ∧ 0 ≤ since ∧ since ≤ now ∧ 0 ≤ tries ∧ tries ≤ i ∧ 0 ≤ til ∧ til ≤ now + m ∧ (fl.length : Int) ≤ ba)
    (hmem : Mem W wr cB sB ba ti b m id fl since tries til)
    (hK : ∀ (u10' u15' u16' u17' u18' u19' u20' u21' u22' u23' u24' u25' u26' u27' u28' u29' u30' u31' u32' u61' u62' u63' u64' u65' u66' u67' u68' u69' u70' u71' u72' u73' u74' u75' u76' u77' u78' u79' u80' u81' u82' u83' u84' u85' u86' u87' u88' u89' u90' u91' u92' u93' u94' u95' u96' u97' u98' u99' u100' u101' u102' u103' u104' u105' u106' u107' u108' u109' u110' u111' u112' u113' u114' u115' u116' u117' u118' u119' u120' u121' u122' u123' u124' u125' u126' u127' u128' u129' u130' u131' u132' u133' u134' u135' u136' u137' u138' u139' u140' u141' u142' u143' u144' u145' u146' u147' u148' u149' u150' u151' u152' u153' u154' u155' u156' u157' u158' u159' u160' u161' u162' u163' u164' u165' u166' u167' u168' u169' u170' u171' u172' u173' u174' u175' u176' u177' u178' u179' u180' u181' u182' u183' u184' u185' u186' u187' u188' u189' u190' u191' u192' u193' u194' u195' u196' u197' u198' u199' u200' u201' u202' u203' u204' u205' u206' u207' u208' u209' u210' u211' u212' u213' u214' u215' u216' u217' u218' u219' u220' u221' u222' u223' u224' u225' u226' u227' u228' u229' u230' u231' u232' u233' u234' u235' u236' u237' u238' u239' u240' u241' u242' u243' u244' u245' u246' u247' u248' u249' u250' u251' u252' u253' u254' u255' u256' u257' u258' u259' u260' u261' u262' u263' u264' u265' u266' u267' u268' u269' u270' u271' u272' u273' u274' u275' u276' u277' u278' u279' u280' : Value) (w' : World), Aside0 (Rel W cB sB ba ti b m (i + 1) u15' u16' u17' w') → K ⟨List.toArray (kk0 :: kk1 :: kk2 :: kk3 :: .slice A n c0 :: kk5 :: kk6 :: kk7 :: kk8 :: kk9 :: u10' :: kk11 :: kk12 :: .pointer (some ⟨cB, 0, none⟩) :: .pointer (some ⟨sB, 0, none⟩) :: u15' :: u16' :: u17' :: u18' :: u19' :: u20' :: u21' :: u22' :: u23' :: u24' :: u25' :: u26' :: u27' :: u28' :: u29' :: u30' :: u31' :: u32' :: kk33 :: kk34 :: kk35 :: kk36 :: kk37 :: kk38 :: kk39 :: kk40 :: kk41 :: kk42 :: kk43 :: kk44 :: kk45 :: kk46 :: kk47 :: kk48 :: kk49 :: kk50 :: kk51 :: kk52 :: kk53 :: kk54 :: kk55 :: kk56 :: kk57 :: kk58 :: kk59 :: kk60 :: u61' :: u62' :: u63' :: u64' :: u65' :: u66' :: u67' :: u68' :: u69' :: u70' :: u71' :: u72' :: u73' :: u74' :: u75' :: u76' :: u77' :: u78' :: u79' :: u80' :: u81' :: u82' :: u83' :: u84' :: u85' :: u86' :: u87' :: u88' :: u89' :: u90' :: u91' :: u92' :: u93' :: u94' :: u95' :: u96' :: u97' :: u98' :: u99' :: u100' :: u101' :: u102' :: u103' :: u104' :: u105' :: u106' :: u107' :: u108' :: u109' :: u110' :: u111' :: u112' :: u113' :: u114' :: u115' :: u116' :: u117' :: u118' :: u119' :: u120' :: u121' :: u122' :: u123' :: u124' :: u125' :: u126' :: u127' :: u128' :: u129' :: u130' :: u131' :: u132' :: u133' :: u134' :: u135' :: u136' :: u137' :: u138' :: u139' :: u140' :: u141' :: u142' :: u143' :: u144' :: u145' :: u146' :: u147' :: u148' :: u149' :: u150' :: u151' :: u152' :: u153' :: u154' :: u155' :: u156' :: u157' :: u158' :: u159' :: u160' :: u161' :: u162' :: u163' :: u164' :: u165' :: u166' :: u167' :: u168' :: u169' :: u170' :: u171' :: u172' :: u173' :: u174' :: u175' :: u176' :: u177' :: u178' :: u179' :: u180' :: u181' :: u182' :: u183' :: u184' :: u185' :: u186' :: u187' :: u188' :: u189' :: u190' :: u191' :: u192' :: u193' :: u194' :: u195' :: u196' :: u197' :: u198' :: u199' :: u200' :: u201' :: u202' :: u203' :: u204' :: u205' :: u206' :: u207' :: u208' :: u209' :: u210' :: u211' :: u212' :: u213' :: u214' :: u215' :: u216' :: u217' :: u218' :: u219' :: u220' :: u221' :: u222' :: u223' :: u224' :: u225' :: u226' :: u227' :: u228' :: u229' :: u230' :: u231' :: u232' :: u233' :: u234' :: u235' :: u236' :: u237' :: u238' :: u239' :: u240' :: u241' :: u242' :: u243' :: u244' :: u245' :: u246' :: u247' :: u248' :: u249' :: u250' :: u251' :: u252' :: u253' :: u254' :: u255' :: u256' :: u257' :: u258' :: u259' :: u260' :: u261' :: u262' :: u263' :: u264' :: u265' :: u266' :: u267' :: u268' :: u269' :: u270' :: u271' :: u272' :: u273' :: u274' :: u275' :: u276' :: u277' :: u278' :: u279' :: u280' :: []), []⟩ w') :
    Code.wp Try.prog ((Try.f5.body.bind firstLoop).getD .skip) (Exit.then K Q) ⟨List.toArray (kk0 :: kk1 :: kk2 :: kk3 :: .slice A n c0 :: kk5 :: kk6 :: kk7 :: kk8 :: kk9 :: u10 :: kk11 :: kk12 :: .pointer (some ⟨cB, 0, none⟩) :: .pointer (some ⟨sB, 0, none⟩) :: .int .u64 now :: .int .u64 next :: .int .i64 (i : Int) :: u18 :: u19 :: u20 :: u21 :: u22 :: u23 :: u24 :: u25 :: u26 :: u27 :: u28 :: u29 :: u30 :: u31 :: u32 :: kk33 :: kk34 :: kk35 :: kk36 :: kk37 :: kk38 :: kk39 :: kk40 :: kk41 :: kk42 :: kk43 :: kk44 :: kk45 :: kk46 :: kk47 :: kk48 :: kk49 :: kk50 :: kk51 :: kk52 :: kk53 :: kk54 :: kk55 :: kk56 :: kk57 :: kk58 :: kk59 :: kk60 :: u61 :: u62 :: u63 :: u64 :: u65 :: u66 :: u67 :: u68 :: u69 :: u70 :: u71 :: u72 :: u73 :: u74 :: u75 :: u76 :: u77 :: u78 :: u79 :: u80 :: u81 :: u82 :: u83 :: u84 :: u85 :: u86 :: u87 :: u88 :: u89 :: u90 :: u91 :: u92 :: u93 :: u94 :: u95 :: u96 :: u97 :: u98 :: u99 :: u100 :: u101 :: u102 :: u103 :: u104 :: u105 :: u106 :: u107 :: u108 :: u109 :: u110 :: u111 :: u112 :: u113 :: u114 :: u115 :: u116 :: u117 :: u118 :: u119 :: u120 :: u121 :: u122 :: u123 :: u124 :: u125 :: u126 :: u127 :: u128 :: u129 :: u130 :: u131 :: u132 :: u133 :: u134 :: u135 :: u136 :: u137 :: u138 :: u139 :: u140 :: u141 :: u142 :: u143 :: u144 :: u145 :: u146 :: u147 :: u148 :: u149 :: u150 :: u151 :: u152 :: u153 :: u154 :: u155 :: u156 :: u157 :: u158 :: u159 :: u160 :: u161 :: u162 :: u163 :: u164 :: u165 :: u166 :: u167 :: u168 :: u169 :: u170 :: u171 :: u172 :: u173 :: u174 :: u175 :: u176 :: u177 :: u178 :: u179 :: u180 :: u181 :: u182 :: u183 :: u184 :: u185 :: u186 :: u187 :: u188 :: u189 :: u190 :: u191 :: u192 :: u193 :: u194 :: u195 :: u196 :: u197 :: u198 :: u199 :: u200 :: u201 :: u202 :: u203 :: u204 :: u205 :: u206 :: u207 :: u208 :: u209 :: u210 :: u211 :: u212 :: u213 :: u214 :: u215 :: u216 :: u217 :: u218 :: u219 :: u220 :: u221 :: u222 :: u223 :: u224 :: u225 :: u226 :: u227 :: u228 :: u229 :: u230 :: u231 :: u232 :: u233 :: u234 :: u235 :: u236 :: u237 :: u238 :: u239 :: u240 :: u241 :: u242 :: u243 :: u244 :: u245 :: u246 :: u247 :: u248 :: u249 :: u250 :: u251 :: u252 :: u253 :: u254 :: u255 :: u256 :: u257 :: u258 :: u259 :: u260 :: u261 :: u262 :: u263 :: u264 :: u265 :: u266 :: u267 :: u268 :: u269 :: u270 :: u271 :: u272 :: u273 :: u274 :: u275 :: u276 :: u277 :: u278 :: u279 :: u280 :: []), []⟩ wr := by
  have hwf := hwl i hil
  obtain ⟨e1, he1, pe1⟩ := pick_nat (rd_T41 l (i : Int)).f1 50 hwf.2.1 (by omega)
  obtain ⟨e2, he2, pe2⟩ := pick_nat (rd_T41 l (i : Int)).f2 20 hwf.2.2.1 (by omega)
  obtain ⟨e3, he3, pe3⟩ := pick_nat (rd_T41 l (i : Int)).f0 8 hwf.1 (by omega)
  obtain ⟨e4, he4, pe4⟩ := pick_nat (rd_T41 l (i : Int)).f3 3 hwf.2.2.2.1 (by omega)
  by_cases hc : (e3 : Int) < 3
  · by_cases hok : fl = [] ∧ til ≤ now + e1 ∧ 0 < e2
    · exact round_goes W wr cB sB ba ti b m A c0 l n i now next id since tries til fl e1 e2 e3 e4 K Q kk0 kk1 kk2 kk3 kk5 kk6 kk7 kk8 kk9 kk11 kk12 kk33 kk34 kk35 kk36 kk37 kk38 kk39 kk40 kk41 kk42 kk43 kk44 kk45 kk46 kk47 kk48 kk49 kk50 kk51 kk52 kk53 kk54 kk55 kk56 kk57 kk58 kk59 kk60 u10 u18 u19 u20 u21 u22 u23 u24 u25 u26 u27 u28 u29 u30 u31 u32 u61 u62 u63 u64 u65 u66 u67 u68 u69 u70 u71 u72 u73 u74 u75 u76 u77 u78 u79 u80 u81 u82 u83 u84 u85 u86 u87 u88 u89 u90 u91 u92 u93 u94 u95 u96 u97 u98 u99 u100 u101 u102 u103 u104 u105 u106 u107 u108 u109 u110 u111 u112 u113 u114 u115 u116 u117 u118 u119 u120 u121 u122 u123 u124 u125 u126 u127 u128 u129 u130 u131 u132 u133 u134 u135 u136 u137 u138 u139 u140 u141 u142 u143 u144 u145 u146 u147 u148 u149 u150 u151 u152 u153 u154 u155 u156 u157 u158 u159 u160 u161 u162 u163 u164 u165 u166 u167 u168 u169 u170 u171 u172 u173 u174 u175 u176 u177 u178 u179 u180 u181 u182 u183 u184 u185 u186 u187 u188 u189 u190 u191 u192 u193 u194 u195 u196 u197 u198 u199 u200 u201 u202 u203 u204 u205 u206 u207 u208 u209 u210 u211 u212 u213 u214 u215 u216 u217 u218 u219 u220 u221 u222 u223 u224 u225 u226 u227 u228 u229 u230 u231 u232 u233 u234 u235 u236 u237 u238 u239 u240 u241 u242 u243 u244 u245 u246 u247 u248 u249 u250 u251 u252 u253 u254 u255 u256 u257 u258 u259 u260 u261 u262 u263 u264 u265 u266 u267 u268 u269 u270 u271 u272 u273 u274 u275 u276 u277 u278 u279 u280 hn hr hwl hcon hil hinv hmem he1 he2 he3 he4 pe1 pe2 pe3 pe4 hc ⟨hok⟩ hK
    · exact round_stays W wr cB sB ba ti b m A c0 l n i now next id since tries til fl e1 e2 e3 e4 K Q kk0 kk1 kk2 kk3 kk5 kk6 kk7 kk8 kk9 kk11 kk12 kk33 kk34 kk35 kk36 kk37 kk38 kk39 kk40 kk41 kk42 kk43 kk44 kk45 kk46 kk47 kk48 kk49 kk50 kk51 kk52 kk53 kk54 kk55 kk56 kk57 kk58 kk59 kk60 u10 u18 u19 u20 u21 u22 u23 u24 u25 u26 u27 u28 u29 u30 u31 u32 u61 u62 u63 u64 u65 u66 u67 u68 u69 u70 u71 u72 u73 u74 u75 u76 u77 u78 u79 u80 u81 u82 u83 u84 u85 u86 u87 u88 u89 u90 u91 u92 u93 u94 u95 u96 u97 u98 u99 u100 u101 u102 u103 u104 u105 u106 u107 u108 u109 u110 u111 u112 u113 u114 u115 u116 u117 u118 u119 u120 u121 u122 u123 u124 u125 u126 u127 u128 u129 u130 u131 u132 u133 u134 u135 u136 u137 u138 u139 u140 u141 u142 u143 u144 u145 u146 u147 u148 u149 u150 u151 u152 u153 u154 u155 u156 u157 u158 u159 u160 u161 u162 u163 u164 u165 u166 u167 u168 u169 u170 u171 u172 u173 u174 u175 u176 u177 u178 u179 u180 u181 u182 u183 u184 u185 u186 u187 u188 u189 u190 u191 u192 u193 u194 u195 u196 u197 u198 u199 u200 u201 u202 u203 u204 u205 u206 u207 u208 u209 u210 u211 u212 u213 u214 u215 u216 u217 u218 u219 u220 u221 u222 u223 u224 u225 u226 u227 u228 u229 u230 u231 u232 u233 u234 u235 u236 u237 u238 u239 u240 u241 u242 u243 u244 u245 u246 u247 u248 u249 u250 u251 u252 u253 u254 u255 u256 u257 u258 u259 u260 u261 u262 u263 u264 u265 u266 u267 u268 u269 u270 u271 u272 u273 u274 u275 u276 u277 u278 u279 u280 hn hr hwl hcon hil hinv hmem he1 he2 he3 he4 pe1 pe2 pe3 pe4 hc ⟨hok⟩ hK
  · by_cases hc7 : (e3 : Int) < 7
    · exact round_reply W wr cB sB ba ti b m A c0 l n i now next id since tries til fl e1 e2 e3 e4 K Q kk0 kk1 kk2 kk3 kk5 kk6 kk7 kk8 kk9 kk11 kk12 kk33 kk34 kk35 kk36 kk37 kk38 kk39 kk40 kk41 kk42 kk43 kk44 kk45 kk46 kk47 kk48 kk49 kk50 kk51 kk52 kk53 kk54 kk55 kk56 kk57 kk58 kk59 kk60 u10 u18 u19 u20 u21 u22 u23 u24 u25 u26 u27 u28 u29 u30 u31 u32 u61 u62 u63 u64 u65 u66 u67 u68 u69 u70 u71 u72 u73 u74 u75 u76 u77 u78 u79 u80 u81 u82 u83 u84 u85 u86 u87 u88 u89 u90 u91 u92 u93 u94 u95 u96 u97 u98 u99 u100 u101 u102 u103 u104 u105 u106 u107 u108 u109 u110 u111 u112 u113 u114 u115 u116 u117 u118 u119 u120 u121 u122 u123 u124 u125 u126 u127 u128 u129 u130 u131 u132 u133 u134 u135 u136 u137 u138 u139 u140 u141 u142 u143 u144 u145 u146 u147 u148 u149 u150 u151 u152 u153 u154 u155 u156 u157 u158 u159 u160 u161 u162 u163 u164 u165 u166 u167 u168 u169 u170 u171 u172 u173 u174 u175 u176 u177 u178 u179 u180 u181 u182 u183 u184 u185 u186 u187 u188 u189 u190 u191 u192 u193 u194 u195 u196 u197 u198 u199 u200 u201 u202 u203 u204 u205 u206 u207 u208 u209 u210 u211 u212 u213 u214 u215 u216 u217 u218 u219 u220 u221 u222 u223 u224 u225 u226 u227 u228 u229 u230 u231 u232 u233 u234 u235 u236 u237 u238 u239 u240 u241 u242 u243 u244 u245 u246 u247 u248 u249 u250 u251 u252 u253 u254 u255 u256 u257 u258 u259 u260 u261 u262 u263 u264 u265 u266 u267 u268 u269 u270 u271 u272 u273 u274 u275 u276 u277 u278 u279 u280 hn hr hwl hcon hil hinv hmem he1 he2 he3 he4 pe1 pe2 pe3 pe4 hc hc7 hK
    · by_cases hfl : fl = []
      · exact round_idle W wr cB sB ba ti b m A c0 l n i now next id since tries til fl e1 e2 e3 e4 K Q kk0 kk1 kk2 kk3 kk5 kk6 kk7 kk8 kk9 kk11 kk12 kk33 kk34 kk35 kk36 kk37 kk38 kk39 kk40 kk41 kk42 kk43 kk44 kk45 kk46 kk47 kk48 kk49 kk50 kk51 kk52 kk53 kk54 kk55 kk56 kk57 kk58 kk59 kk60 u10 u18 u19 u20 u21 u22 u23 u24 u25 u26 u27 u28 u29 u30 u31 u32 u61 u62 u63 u64 u65 u66 u67 u68 u69 u70 u71 u72 u73 u74 u75 u76 u77 u78 u79 u80 u81 u82 u83 u84 u85 u86 u87 u88 u89 u90 u91 u92 u93 u94 u95 u96 u97 u98 u99 u100 u101 u102 u103 u104 u105 u106 u107 u108 u109 u110 u111 u112 u113 u114 u115 u116 u117 u118 u119 u120 u121 u122 u123 u124 u125 u126 u127 u128 u129 u130 u131 u132 u133 u134 u135 u136 u137 u138 u139 u140 u141 u142 u143 u144 u145 u146 u147 u148 u149 u150 u151 u152 u153 u154 u155 u156 u157 u158 u159 u160 u161 u162 u163 u164 u165 u166 u167 u168 u169 u170 u171 u172 u173 u174 u175 u176 u177 u178 u179 u180 u181 u182 u183 u184 u185 u186 u187 u188 u189 u190 u191 u192 u193 u194 u195 u196 u197 u198 u199 u200 u201 u202 u203 u204 u205 u206 u207 u208 u209 u210 u211 u212 u213 u214 u215 u216 u217 u218 u219 u220 u221 u222 u223 u224 u225 u226 u227 u228 u229 u230 u231 u232 u233 u234 u235 u236 u237 u238 u239 u240 u241 u242 u243 u244 u245 u246 u247 u248 u249 u250 u251 u252 u253 u254 u255 u256 u257 u258 u259 u260 u261 u262 u263 u264 u265 u266 u267 u268 u269 u270 u271 u272 u273 u274 u275 u276 u277 u278 u279 u280 hn hr hwl hcon hil hinv hmem he1 he2 he3 he4 pe1 pe2 pe3 pe4 hc hc7 ⟨hfl⟩ hK
      · by_cases ht : ti ≤ now + e1 - since
        · exact round_late W wr cB sB ba ti b m A c0 l n i now next id since tries til fl e1 e2 e3 e4 K Q kk0 kk1 kk2 kk3 kk5 kk6 kk7 kk8 kk9 kk11 kk12 kk33 kk34 kk35 kk36 kk37 kk38 kk39 kk40 kk41 kk42 kk43 kk44 kk45 kk46 kk47 kk48 kk49 kk50 kk51 kk52 kk53 kk54 kk55 kk56 kk57 kk58 kk59 kk60 u10 u18 u19 u20 u21 u22 u23 u24 u25 u26 u27 u28 u29 u30 u31 u32 u61 u62 u63 u64 u65 u66 u67 u68 u69 u70 u71 u72 u73 u74 u75 u76 u77 u78 u79 u80 u81 u82 u83 u84 u85 u86 u87 u88 u89 u90 u91 u92 u93 u94 u95 u96 u97 u98 u99 u100 u101 u102 u103 u104 u105 u106 u107 u108 u109 u110 u111 u112 u113 u114 u115 u116 u117 u118 u119 u120 u121 u122 u123 u124 u125 u126 u127 u128 u129 u130 u131 u132 u133 u134 u135 u136 u137 u138 u139 u140 u141 u142 u143 u144 u145 u146 u147 u148 u149 u150 u151 u152 u153 u154 u155 u156 u157 u158 u159 u160 u161 u162 u163 u164 u165 u166 u167 u168 u169 u170 u171 u172 u173 u174 u175 u176 u177 u178 u179 u180 u181 u182 u183 u184 u185 u186 u187 u188 u189 u190 u191 u192 u193 u194 u195 u196 u197 u198 u199 u200 u201 u202 u203 u204 u205 u206 u207 u208 u209 u210 u211 u212 u213 u214 u215 u216 u217 u218 u219 u220 u221 u222 u223 u224 u225 u226 u227 u228 u229 u230 u231 u232 u233 u234 u235 u236 u237 u238 u239 u240 u241 u242 u243 u244 u245 u246 u247 u248 u249 u250 u251 u252 u253 u254 u255 u256 u257 u258 u259 u260 u261 u262 u263 u264 u265 u266 u267 u268 u269 u270 u271 u272 u273 u274 u275 u276 u277 u278 u279 u280 hn hr hwl hcon hil hinv hmem he1 he2 he3 he4 pe1 pe2 pe3 pe4 hc hc7 ⟨⟨hfl, ht⟩⟩ hK
        · exact round_waits W wr cB sB ba ti b m A c0 l n i now next id since tries til fl e1 e2 e3 e4 K Q kk0 kk1 kk2 kk3 kk5 kk6 kk7 kk8 kk9 kk11 kk12 kk33 kk34 kk35 kk36 kk37 kk38 kk39 kk40 kk41 kk42 kk43 kk44 kk45 kk46 kk47 kk48 kk49 kk50 kk51 kk52 kk53 kk54 kk55 kk56 kk57 kk58 kk59 kk60 u10 u18 u19 u20 u21 u22 u23 u24 u25 u26 u27 u28 u29 u30 u31 u32 u61 u62 u63 u64 u65 u66 u67 u68 u69 u70 u71 u72 u73 u74 u75 u76 u77 u78 u79 u80 u81 u82 u83 u84 u85 u86 u87 u88 u89 u90 u91 u92 u93 u94 u95 u96 u97 u98 u99 u100 u101 u102 u103 u104 u105 u106 u107 u108 u109 u110 u111 u112 u113 u114 u115 u116 u117 u118 u119 u120 u121 u122 u123 u124 u125 u126 u127 u128 u129 u130 u131 u132 u133 u134 u135 u136 u137 u138 u139 u140 u141 u142 u143 u144 u145 u146 u147 u148 u149 u150 u151 u152 u153 u154 u155 u156 u157 u158 u159 u160 u161 u162 u163 u164 u165 u166 u167 u168 u169 u170 u171 u172 u173 u174 u175 u176 u177 u178 u179 u180 u181 u182 u183 u184 u185 u186 u187 u188 u189 u190 u191 u192 u193 u194 u195 u196 u197 u198 u199 u200 u201 u202 u203 u204 u205 u206 u207 u208 u209 u210 u211 u212 u213 u214 u215 u216 u217 u218 u219 u220 u221 u222 u223 u224 u225 u226 u227 u228 u229 u230 u231 u232 u233 u234 u235 u236 u237 u238 u239 u240 u241 u242 u243 u244 u245 u246 u247 u248 u249 u250 u251 u252 u253 u254 u255 u256 u257 u258 u259 u260 u261 u262 u263 u264 u265 u266 u267 u268 u269 u270 u271 u272 u273 u274 u275 u276 u277 u278 u279 u280 hn hr hwl hcon hil hinv hmem he1 he2 he3 he4 pe1 pe2 pe3 pe4 hc hc7 ⟨⟨hfl, ht⟩⟩ hK
set_option maxRecDepth 100000 in
set_option maxHeartbeats 6400000 in
theorem walk_runs (W : World) (x1 x2 x3 x4 : Int) (A : Option Addr) (c0 : Nat) (l : List S41) (n : Nat) (hl : l.length = n) (hn : n ≤ 200) (hw1 : (Lit.int .i64 x1).wf = true) (hw2 : (Lit.int .i64 x2).wf = true) (hw3 : (Lit.int .i64 x3).wf = true) (hw4 : (Lit.int .i64 x4).wf = true)
    (hr : Kd.C k41 W A n l) (hwl : ∀ i : Nat, i < n → (Lit.int .i64 (rd_T41 l i).f0).wf = true ∧ (Lit.int .i64 (rd_T41 l i).f1).wf = true ∧ (Lit.int .i64 (rd_T41 l i).f2).wf = true ∧ (Lit.int .i64 (rd_T41 l i).f3).wf = true ∧ (Lit.int .u64 (rd_T41 l i).f4).wf = true) :
    Calls Try.prog 5 #[.int .i64 x1, .int .i64 x2, .int .i64 x3, .int .i64 x4, .slice A n c0] W fun e w' => e = .returned (.bool true) ∧ Below W.heap.size W w' := by
  have HS := Aside0.mk (postroomlaw16_shown.calls 100 true W (shown_tells 100 (by omega)))
  obtain ⟨r1, hr1, p1⟩ := pick_nat x1 100 hw1 (by omega)
  obtain ⟨r2, hr2, p2⟩ := pick_nat x2 100 hw2 (by omega)
  obtain ⟨r3, hr3, p3⟩ := pick_nat x3 100 hw3 (by omega)
  obtain ⟨r4, hr4, p4⟩ := pick_nat x4 1000 hw4 (by omega)
  have H1 := Aside0.mk (fun (w : World) => postroomlaw16_pick.calls x1 100 (r1 : Int) w p1)
  have H2 := Aside0.mk (fun (w : World) => postroomlaw16_pick.calls x2 100 (r2 : Int) w p2)
  have H3 := Aside0.mk (fun (w : World) => postroomlaw16_pick.calls x3 100 (r3 : Int) w p3)
  have H4 := Aside0.mk (fun (w : World) => postroomlaw16_pick.calls x4 1000 (r4 : Int) w p4)
  have hn1 : (n : Int) ≤ 200 := by omega
  have b1 : (r1 : Int) < 100 := by omega
  have b2 : (r2 : Int) < 100 := by omega
  have b3 : (r3 : Int) < 100 := by omega
  have b4 : (r4 : Int) < 1000 := by omega
  have HR := Aside0.mk hr
  have HWL := Aside0.mk hwl
  clear hwl p1 p2 p3 p4 hr hr1 hr2 hr3 hr4 hl
  go_enter Try.func5, Try.ntmps5
  go_upto_region 9 with (first
    | (go_at_call 7; refine HS.out.mono ?_; rintro e w1 ⟨rfl, hb1⟩)
    | (go_at_call_of 8 (Value.int IntKind.i64 x1); refine (H1.out _).mono ?_; rintro e w2 ⟨rfl, hb2⟩)
    | (go_at_call_of 8 (Value.int IntKind.i64 x2); refine (H2.out _).mono ?_; rintro e w3 ⟨rfl, hb3⟩)
    | (go_at_call_of 8 (Value.int IntKind.i64 x3); refine (H3.out _).mono ?_; rintro e w4 ⟨rfl, hb4⟩)
    | (go_at_call_of 8 (Value.int IntKind.i64 x4); refine (H4.out _).mono ?_; rintro e w5 ⟨rfl, hb5⟩))
  obtain ⟨cB, hcB⟩ : ∃ k, k = w5.heap.size := ⟨_, rfl⟩
  obtain ⟨sB, hsB⟩ : ∃ k, k = w5.heap.size + 1 := ⟨_, rfl⟩
  obtain ⟨ba, hba⟩ : ∃ x : Int, x = 1 + (r1 : Int) := ⟨_, rfl⟩
  obtain ⟨ti, hti⟩ : ∃ x : Int, x = 1 + (r2 : Int) := ⟨_, rfl⟩
  obtain ⟨b, hb⟩ : ∃ x : Int, x = 1 + (r3 : Int) := ⟨_, rfl⟩
  obtain ⟨m, hm⟩ : ∃ x : Int, x = 1 + (r3 : Int) + (r4 : Int) := ⟨_, rfl⟩
  rw [← hm, ← hb, ← hti, ← hba]
  have hM0 : Mem W ((w5.alloc (.cells #[.int .i64 ba, .int .u64 ti, .int .u64 b, .int .u64 m] 27 (0, 0))).alloc (.cells #[.int .u64 0, .slice none 0 0, .int .u64 0, .int .i64 0, .int .u64 0] 29 (0, 0))) cB sB ba ti b m 0 [] 0 0 0 := by
    have hbel : Below W.heap.size W w5 := drawn_below (drawn_below (drawn_below (drawn_below hb1 hb4) hb2) hb3) hb5
    have hz := below_alloc hbel (.cells #[.int .i64 ba, .int .u64 ti, .int .u64 b, .int .u64 m] 27 (0, 0))
    have e0 : (w5.alloc (.cells #[.int .i64 ba, .int .u64 ti, .int .u64 b, .int .u64 m] 27 (0, 0))).heap.size = w5.heap.size + 1 := by simp
    have q1 := blk_alloc (blk_new w5 (.cells #[.int .i64 ba, .int .u64 ti, .int .u64 b, .int .u64 m] 27 (0, 0))) (.cells #[.int .u64 0, .slice none 0 0, .int .u64 0, .int .i64 0, .int .u64 0] 29 (0, 0))
    have q2 := blk_new (w5.alloc (.cells #[.int .i64 ba, .int .u64 ti, .int .u64 b, .int .u64 m] 27 (0, 0))) (.cells #[.int .u64 0, .slice none 0 0, .int .u64 0, .int .i64 0, .int .u64 0] 29 (0, 0))
    rw [e0] at q2
    rw [hcB, hsB]
    refine ⟨none, 0, q1, q2, Kd.C_nil _ _, Nat.le_refl _, ?_, hbel.size, by have := hbel.size; omega, below_alloc hz _⟩
    intro x hx _
    cases hx
  have HM0 := Aside0.mk hM0
  clear hM0
  rw [← hsB, ← hcB]
  generalize World.alloc (World.alloc w5 _) _ = w6 at HM0
  have HCB4 := Aside0.mk (And.intro b1 (And.intro b2 (And.intro b3 b4)))
  have HCON := Aside0.mk (And.intro hba (And.intro hti (And.intro hb hm)))
  clear hba hti hb hm hcB hsB
  go_wp2
  have hcon : 1 ≤ ba ∧ ba ≤ 100 ∧ 1 ≤ ti ∧ ti ≤ 100 ∧ 1 ≤ b ∧ b ≤ m ∧ m ≤ 2000 := by
    have h1 := HCON.out
    have h2 := HCB4.out
    omega
  have HCN := Aside0.mk hcon
  clear hcon
  go_loopg [15, 16, 17] (n + 1) (fun k v15 v16 v17 wr => ∃ i : Nat, n - i < k ∧ i ≤ n ∧ Rel W cB sB ba ti b m i v15 v16 v17 wr)
  case atStart => exact ⟨0, by omega, by omega, 0, 1, 0, 0, 0, 0, [], rfl, rfl, rfl, ⟨by omega, by omega, by omega, by omega, by omega, by omega, by omega, by omega, by omega, by omega, by omega, by have := HCN.out; omega, by have := HCN.out; simp; omega⟩, HM0.out⟩
  case round =>
    rename_i J K h1 h2
    obtain ⟨i, hik, hi, now, next, id, since, tries, til, fl, rfl, rfl, rfl, hinv, hmem⟩ := hrel
    by_cases hil : i < n
    · refine round_all hn HR.out HWL.out HCN.out hil hinv hmem ?_
      intros
      rename_i hR
      refine h2 _ _ (Handed.intro (n - i) hik (h1 _ _ _ ?_))
      (repeat apply Exists.intro)
      exact ⟨⟨i + 1, by omega, by omega, hR.out⟩, rfl⟩
    · have hil' : ¬ (i : Int) < (n : Int) := by omega
      have HB := Aside0.mk hmem.below
      clear hinv hmem hik hi hil HM0 H1 H2 H3 H4 HS b1 b2 b3 b4
      go_wp2
      go_ret
      exact ⟨rfl, HB.out⟩
set_option maxRecDepth 100000 in
set_option maxHeartbeats 3200000 in
theorem walk_runs9 (W : World) (x1 x2 x3 x4 : Int) (A : Option Addr) (c0 n : Nat) (hs : 200 < n) :
    Calls Try.prog 5 #[.int .i64 x1, .int .i64 x2, .int .i64 x3, .int .i64 x4, .slice A n c0] W fun e w' => e = .returned (.bool true) ∧ Below W.heap.size W w' := by
  have HS := Aside0.mk (postroomlaw16_shown.calls 100 true W (shown_tells 100 (by omega)))
  have hs' : (200 : Int) < (n : Int) := by omega
  clear hs
  go_enter Try.func5, Try.ntmps5
  go_wp2_with (go_at_call 7; refine HS.out.mono ?_; rintro e w1 ⟨rfl, hb1⟩)
  go_ret
  exact ⟨rfl, hb1⟩
/-- A row of acts that came in. -/
def ActsAt (W : World) (A : Option Addr) (n c : Nat) : Prop :=
  ∃ l : List S41, l.length = n ∧ Kd.C k41 W A n l ∧ ∀ i : Nat, i < n → (Lit.int .i64 (rd_T41 l i).f0).wf = true ∧ (Lit.int .i64 (rd_T41 l i).f1).wf = true ∧ (Lit.int .i64 (rd_T41 l i).f2).wf = true ∧ (Lit.int .i64 (rd_T41 l i).f3).wf = true ∧ (Lit.int .u64 (rd_T41 l i).f4).wf = true
/-- SenderRuns, walked whole. -/
theorem SenderRunsW (W : World) (x1 : Int) (h1 : (Lit.int .i64 x1).wf = true) (x2 : Int) (h2 : (Lit.int .i64 x2).wf = true) (x3 : Int) (h3 : (Lit.int .i64 x3).wf = true) (x4 : Int) (h4 : (Lit.int .i64 x4).wf = true) (A : Option Addr) (c0 n : Nat) (h : ActsAt W A n c0) :
    Calls Try.prog 5 #[.int .i64 x1, .int .i64 x2, .int .i64 x3, .int .i64 x4, .slice A n c0] W fun e w' => e = .returned (.bool true) ∧ Below W.heap.size W w' := by
  obtain ⟨l, hl, hc, hw⟩ := h
  by_cases h9 : 200 < n
  · exact walk_runs9 W x1 x2 x3 x4 A c0 n h9
  · exact walk_runs W x1 x2 x3 x4 A c0 l n hl (by omega) h1 h2 h3 h4 hc hw
end Go.Proofs.Ytieimafoacdefaa.Runs

