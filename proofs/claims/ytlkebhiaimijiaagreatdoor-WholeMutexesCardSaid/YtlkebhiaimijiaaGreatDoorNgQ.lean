/- Texts laid together: Shl, Row, OpenG. -/
import Derived.Shelf.Strings.Builder1
import Derived.Shelf.Small.Wraps
import Derived.Shelf.Strings.BuilderF
import Derived.Shelf.Strings.BuilderK
import Derived.Shelf.LaysM
import Derived.Shelf.Strconv.Itoa3
import Derived.Shelf.Strings.Cut
import Derived.Shelf.Strings.Prefix
import Derived.Shelf.Strings.Split
import Derived.Test.YtlkebhiaimijiaaGreatDoorBase
import Derived.ProofKit
import Derived.ChangeSame
import Derived.Test.YtlkebhiaimijiaaGreatDoorNgA
import Derived.Deep.Slices
import Derived.Deep.Fields
import Derived.SizedLaws
import Derived.Lib.SmallJoins
namespace Go.Proofs.YtlkebhiaimijiaaGreatDoor
set_option linter.unusedSimpArgs false
set_option linter.unusedVariables false
section
open Go Go.Shelf Go.RowKit Go.Sort Go.Lib
def Tryz.lays166_ren : Go.Shelf.Ren := ⟨fun | 166 => 43 | 240 => 80 | 276 => 109 | n => n, fun | 70 => 106 | 72 => 109 | 37 => 107 | 75 => 33 | 80 => 113 | 164 => 187 | 20 => 20 | n => n, fun | n => n⟩
theorem Tryz.lays166 : Go.Proofs.Lays.n166 Tryz.prog Tryz.lays166_ren := {
 mixed := by kernel_rfl
 f166 := Tryz.func43.trans (congrArg some (by kernel_rfl))
 f240 := Tryz.func80.trans (congrArg some (by kernel_rfl))
 f276 := Tryz.func109.trans (congrArg some (by kernel_rfl))
 t0 := Tryz.underlying0
 a0 := Tryz.isAgg0
 z0 := Tryz.sizeOf0
 v0 := Tryz.zeroValue0
 t3 := Tryz.underlying3
 a3 := Tryz.isAgg3
 z3 := Tryz.sizeOf3
 v3 := Tryz.zeroValue3
 t4 := Tryz.underlying4
 a4 := Tryz.isAgg4
 z4 := Tryz.sizeOf4
 v4 := Tryz.zeroValue4
 t9 := Tryz.underlying9
 a9 := Tryz.isAgg9
 z9 := Tryz.sizeOf9
 v9 := Tryz.zeroValue9
 t20 := Tryz.underlying20
 a20 := Tryz.isAgg20
 z20 := Tryz.sizeOf20
 v20 := Tryz.zeroValue20
 t37 := Tryz.underlying107
 a37 := Tryz.isAgg107
 z37 := Tryz.sizeOf107
 v37 := Tryz.zeroValue107
 t70 := Tryz.underlying106
 a70 := Tryz.isAgg106
 z70 := Tryz.sizeOf106
 v70 := Tryz.zeroValue106
 t72 := Tryz.underlying109
 a72 := Tryz.isAgg109
 z72 := Tryz.sizeOf109
 v72 := Tryz.zeroValue109
 t75 := Tryz.underlying33
 a75 := Tryz.isAgg33
 z75 := Tryz.sizeOf33
 v75 := Tryz.zeroValue33
 t164 := Tryz.underlying187
 a164 := Tryz.isAgg187
 z164 := Tryz.sizeOf187
 v164 := Tryz.zeroValue187 }
theorem Tryz.Builder_Extra_166 : Builder.Extra Tryz.prog Tryz.lays166_ren := {
 sizeBuilder := by kernel_rfl
 liesBuilder := by kernel_rfl
 t5 := Tryz.underlying5
 a5 := Tryz.isAgg5
 z5 := Tryz.sizeOf5
 v5 := Tryz.zeroValue5
 infoByte := by kernel_rfl
 cellsByte := by kernel_rfl
 sizeByte := by kernel_rfl
 neB5 := by decide }
def Tryz.lays170_ren : Go.Shelf.Ren := ⟨fun | 170 => 45 | n => n, fun | 70 => 106 | 3 => 3 | 0 => 0 | 72 => 109 | 37 => 107 | 5 => 5 | n => n, fun | n => n⟩
theorem Tryz.lays170 : Go.Proofs.Lays.n170 Tryz.prog Tryz.lays170_ren := {
 mixed := by kernel_rfl
 f170 := Tryz.func45.trans (congrArg some (by kernel_rfl))
 t0 := Tryz.underlying0
 a0 := Tryz.isAgg0
 z0 := Tryz.sizeOf0
 v0 := Tryz.zeroValue0
 t3 := Tryz.underlying3
 a3 := Tryz.isAgg3
 z3 := Tryz.sizeOf3
 v3 := Tryz.zeroValue3
 t37 := Tryz.underlying107
 a37 := Tryz.isAgg107
 z37 := Tryz.sizeOf107
 v37 := Tryz.zeroValue107
 t70 := Tryz.underlying106
 a70 := Tryz.isAgg106
 z70 := Tryz.sizeOf106
 v70 := Tryz.zeroValue106
 t72 := Tryz.underlying109
 a72 := Tryz.isAgg109
 z72 := Tryz.sizeOf109
 v72 := Tryz.zeroValue109 }
def Tryz.lays169_ren : Go.Shelf.Ren := ⟨fun | 169 => 46 | n => n, fun | 70 => 106 | 9 => 9 | 0 => 0 | 72 => 109 | 37 => 107 | 127 => 159 | 3 => 3 | 5 => 5 | n => n, fun | n => n⟩
theorem Tryz.lays169 : Go.Proofs.Lays.n169 Tryz.prog Tryz.lays169_ren := {
 mixed := by kernel_rfl
 f169 := Tryz.func46.trans (congrArg some (by kernel_rfl))
 t0 := Tryz.underlying0
 a0 := Tryz.isAgg0
 z0 := Tryz.sizeOf0
 v0 := Tryz.zeroValue0
 t3 := Tryz.underlying3
 a3 := Tryz.isAgg3
 z3 := Tryz.sizeOf3
 v3 := Tryz.zeroValue3
 t9 := Tryz.underlying9
 a9 := Tryz.isAgg9
 z9 := Tryz.sizeOf9
 v9 := Tryz.zeroValue9
 t37 := Tryz.underlying107
 a37 := Tryz.isAgg107
 z37 := Tryz.sizeOf107
 v37 := Tryz.zeroValue107
 t70 := Tryz.underlying106
 a70 := Tryz.isAgg106
 z70 := Tryz.sizeOf106
 v70 := Tryz.zeroValue106
 t72 := Tryz.underlying109
 a72 := Tryz.isAgg109
 z72 := Tryz.sizeOf109
 v72 := Tryz.zeroValue109
 t127 := Tryz.underlying159
 a127 := Tryz.isAgg159
 z127 := Tryz.sizeOf159
 v127 := Tryz.zeroValue159 }
theorem Tryz.Builder_Extra_169 : Builder.Extra Tryz.prog Tryz.lays169_ren := {
 sizeBuilder := by kernel_rfl
 liesBuilder := by kernel_rfl
 t5 := Tryz.underlying5
 a5 := Tryz.isAgg5
 z5 := Tryz.sizeOf5
 v5 := Tryz.zeroValue5
 infoByte := by kernel_rfl
 cellsByte := by kernel_rfl
 sizeByte := by kernel_rfl
 neB5 := by decide }
def Tryz.lays103_ren : Go.Shelf.Ren := ⟨fun | 103 => 83 | 210 => 114 | 206 => 145 | n => n, fun | 9 => 9 | 4 => 4 | 24 => 161 | 3 => 3 | n => n, fun | n => n⟩
theorem Tryz.lays103 : Go.Proofs.Lays.n103 Tryz.prog Tryz.lays103_ren := {
 mixed := by kernel_rfl
 f103 := Tryz.func83.trans (congrArg some (by kernel_rfl))
 f206 := Tryz.func145.trans (congrArg some (by kernel_rfl))
 f210 := Tryz.func114.trans (congrArg some (by kernel_rfl))
 t3 := Tryz.underlying3
 a3 := Tryz.isAgg3
 z3 := Tryz.sizeOf3
 v3 := Tryz.zeroValue3
 t4 := Tryz.underlying4
 a4 := Tryz.isAgg4
 z4 := Tryz.sizeOf4
 v4 := Tryz.zeroValue4
 t9 := Tryz.underlying9
 a9 := Tryz.isAgg9
 z9 := Tryz.sizeOf9
 v9 := Tryz.zeroValue9
 t24 := Tryz.underlying161
 a24 := Tryz.isAgg161
 z24 := Tryz.sizeOf161
 v24 := Tryz.zeroValue161 }
def Tryz.laysM171_ren : Go.Shelf.Ren := ⟨fun | 171 => 44 | 243 => 81 | 246 => 110 | 283 => 137 | 284 => 138 | 285 => 139 | 286 => 140 | 129 => 133 | 317 => 156 | 318 => 157 | 319 => 158 | 320 => 159 | 337 => 171 | 338 => 172 | n => n, fun | 3 => 3 | 9 => 9 | 2 => 2 | 4 => 4 | 171 => 215 | 0 => 0 | 53 => 210 | 37 => 107 | 5 => 5 | 173 => 217 | 212 => 237 | 51 => 208 | 20 => 20 | 213 => 238 | 46 => 179 | 232 => 253 | 233 => 254 | n => n, fun | 17 => 0 | 18 => 4 | 19 => 5 | n => n⟩
theorem Tryz.laysM171 : Go.Proofs.LaysM.n171 Tryz.prog Tryz.laysM171_ren := {
 mixed := by kernel_rfl
 f129 := Tryz.func133.trans (congrArg some (by kernel_rfl))
 f171 := Tryz.func44.trans (congrArg some (by kernel_rfl))
 f243 := Tryz.func81.trans (congrArg some (by kernel_rfl))
 f246 := Tryz.func110.trans (congrArg some (by kernel_rfl))
 f283 := Tryz.func137.trans (congrArg some (by kernel_rfl))
 f284 := Tryz.func138.trans (congrArg some (by kernel_rfl))
 f285 := Tryz.func139.trans (congrArg some (by kernel_rfl))
 f286 := Tryz.func140.trans (congrArg some (by kernel_rfl))
 f317 := Tryz.func156.trans (congrArg some (by kernel_rfl))
 f318 := Tryz.func157.trans (congrArg some (by kernel_rfl))
 f319 := Tryz.func158.trans (congrArg some (by kernel_rfl))
 f320 := Tryz.func159.trans (congrArg some (by kernel_rfl))
 f337 := Tryz.func171.trans (congrArg some (by kernel_rfl))
 f338 := Tryz.func172.trans (congrArg some (by kernel_rfl))
 t0 := Tryz.underlying0
 a0 := Tryz.isAgg0
 z0 := Tryz.sizeOf0
 v0 := Tryz.zeroValue0
 t2 := Tryz.underlying2
 a2 := Tryz.isAgg2
 z2 := Tryz.sizeOf2
 v2 := Tryz.zeroValue2
 t3 := Tryz.underlying3
 a3 := Tryz.isAgg3
 z3 := Tryz.sizeOf3
 v3 := Tryz.zeroValue3
 t4 := Tryz.underlying4
 a4 := Tryz.isAgg4
 z4 := Tryz.sizeOf4
 v4 := Tryz.zeroValue4
 t5 := Tryz.underlying5
 a5 := Tryz.isAgg5
 z5 := Tryz.sizeOf5
 v5 := Tryz.zeroValue5
 t9 := Tryz.underlying9
 a9 := Tryz.isAgg9
 z9 := Tryz.sizeOf9
 v9 := Tryz.zeroValue9
 t20 := Tryz.underlying20
 a20 := Tryz.isAgg20
 z20 := Tryz.sizeOf20
 v20 := Tryz.zeroValue20
 t37 := Tryz.underlying107
 a37 := Tryz.isAgg107
 z37 := Tryz.sizeOf107
 v37 := Tryz.zeroValue107
 t46 := Tryz.underlying179
 a46 := Tryz.isAgg179
 z46 := Tryz.sizeOf179
 v46 := Tryz.zeroValue179
 t51 := Tryz.underlying208
 a51 := Tryz.isAgg208
 z51 := Tryz.sizeOf208
 v51 := Tryz.zeroValue208
 t53 := Tryz.underlying210
 a53 := Tryz.isAgg210
 z53 := Tryz.sizeOf210
 v53 := Tryz.zeroValue210
 t171 := Tryz.underlying215
 a171 := Tryz.isAgg215
 z171 := Tryz.sizeOf215
 v171 := Tryz.zeroValue215
 t173 := Tryz.underlying217
 a173 := Tryz.isAgg217
 z173 := Tryz.sizeOf217
 v173 := Tryz.zeroValue217
 t212 := Tryz.underlying237
 a212 := Tryz.isAgg237
 z212 := Tryz.sizeOf237
 v212 := Tryz.zeroValue237
 t213 := Tryz.underlying238
 a213 := Tryz.isAgg238
 z213 := Tryz.sizeOf238
 t232 := Tryz.underlying253
 a232 := Tryz.isAgg253
 z232 := Tryz.sizeOf253
 v232 := Tryz.zeroValue253
 t233 := Tryz.underlying254
 a233 := Tryz.isAgg254
 z233 := Tryz.sizeOf254
 v233 := Tryz.zeroValue254
 g17 := by kernel_rfl
 g18 := by kernel_rfl
 g19 := by kernel_rfl
 i0 := by kernel_rfl
 i2 := by kernel_rfl
 i3 := by kernel_rfl
 i4 := by kernel_rfl
 i5 := by kernel_rfl
 i9 := by kernel_rfl
 i20 := by kernel_rfl
 i37 := by kernel_rfl
 i46 := by kernel_rfl
 i51 := by kernel_rfl
 i53 := by kernel_rfl
 i171 := by kernel_rfl
 i173 := by kernel_rfl
 i212 := by kernel_rfl
 i232 := by kernel_rfl
 i233 := by kernel_rfl
 m17 := by kernel_rfl
 m18 := by kernel_rfl
 m19 := by kernel_rfl }
def Tryz.lays171_ren : Go.Shelf.Ren := ⟨fun | 171 => 44 | 243 => 81 | 246 => 110 | 283 => 137 | 284 => 138 | 285 => 139 | 286 => 140 | 129 => 133 | 317 => 156 | 318 => 157 | 319 => 158 | 320 => 159 | 337 => 171 | 338 => 172 | n => n, fun | 3 => 3 | 9 => 9 | 2 => 2 | 4 => 4 | 171 => 215 | 0 => 0 | 53 => 210 | 37 => 107 | 5 => 5 | 173 => 217 | 212 => 237 | 51 => 208 | 20 => 20 | 213 => 238 | 46 => 179 | 232 => 253 | 233 => 254 | n => n, fun | 17 => 0 | 18 => 4 | 19 => 5 | n => n⟩
theorem Tryz.lays171 : Go.Proofs.Lays.n171 Tryz.prog Tryz.lays171_ren := {
 mixed := by kernel_rfl
 f129 := Tryz.func133.trans (congrArg some (by kernel_rfl))
 f171 := Tryz.func44.trans (congrArg some (by kernel_rfl))
 f243 := Tryz.func81.trans (congrArg some (by kernel_rfl))
 f246 := Tryz.func110.trans (congrArg some (by kernel_rfl))
 f283 := Tryz.func137.trans (congrArg some (by kernel_rfl))
 f284 := Tryz.func138.trans (congrArg some (by kernel_rfl))
 f285 := Tryz.func139.trans (congrArg some (by kernel_rfl))
 f286 := Tryz.func140.trans (congrArg some (by kernel_rfl))
 f317 := Tryz.func156.trans (congrArg some (by kernel_rfl))
 f318 := Tryz.func157.trans (congrArg some (by kernel_rfl))
 f319 := Tryz.func158.trans (congrArg some (by kernel_rfl))
 f320 := Tryz.func159.trans (congrArg some (by kernel_rfl))
 f337 := Tryz.func171.trans (congrArg some (by kernel_rfl))
 f338 := Tryz.func172.trans (congrArg some (by kernel_rfl))
 t0 := Tryz.underlying0
 a0 := Tryz.isAgg0
 z0 := Tryz.sizeOf0
 v0 := Tryz.zeroValue0
 t2 := Tryz.underlying2
 a2 := Tryz.isAgg2
 z2 := Tryz.sizeOf2
 v2 := Tryz.zeroValue2
 t3 := Tryz.underlying3
 a3 := Tryz.isAgg3
 z3 := Tryz.sizeOf3
 v3 := Tryz.zeroValue3
 t4 := Tryz.underlying4
 a4 := Tryz.isAgg4
 z4 := Tryz.sizeOf4
 v4 := Tryz.zeroValue4
 t5 := Tryz.underlying5
 a5 := Tryz.isAgg5
 z5 := Tryz.sizeOf5
 v5 := Tryz.zeroValue5
 t9 := Tryz.underlying9
 a9 := Tryz.isAgg9
 z9 := Tryz.sizeOf9
 v9 := Tryz.zeroValue9
 t20 := Tryz.underlying20
 a20 := Tryz.isAgg20
 z20 := Tryz.sizeOf20
 v20 := Tryz.zeroValue20
 t37 := Tryz.underlying107
 a37 := Tryz.isAgg107
 z37 := Tryz.sizeOf107
 v37 := Tryz.zeroValue107
 t46 := Tryz.underlying179
 a46 := Tryz.isAgg179
 z46 := Tryz.sizeOf179
 v46 := Tryz.zeroValue179
 t51 := Tryz.underlying208
 a51 := Tryz.isAgg208
 z51 := Tryz.sizeOf208
 v51 := Tryz.zeroValue208
 t53 := Tryz.underlying210
 a53 := Tryz.isAgg210
 z53 := Tryz.sizeOf210
 v53 := Tryz.zeroValue210
 t171 := Tryz.underlying215
 a171 := Tryz.isAgg215
 z171 := Tryz.sizeOf215
 v171 := Tryz.zeroValue215
 t173 := Tryz.underlying217
 a173 := Tryz.isAgg217
 z173 := Tryz.sizeOf217
 v173 := Tryz.zeroValue217
 t212 := Tryz.underlying237
 a212 := Tryz.isAgg237
 z212 := Tryz.sizeOf237
 v212 := Tryz.zeroValue237
 t213 := Tryz.underlying238
 a213 := Tryz.isAgg238
 z213 := Tryz.sizeOf238
 t232 := Tryz.underlying253
 a232 := Tryz.isAgg253
 z232 := Tryz.sizeOf253
 v232 := Tryz.zeroValue253
 t233 := Tryz.underlying254
 a233 := Tryz.isAgg254
 z233 := Tryz.sizeOf254
 v233 := Tryz.zeroValue254
 g17 := by kernel_rfl
 g18 := by kernel_rfl
 g19 := by kernel_rfl }
def Tryz.lays145_ren : Go.Shelf.Ren := ⟨fun | 145 => 85 | 220 => 115 | 219 => 144 | 217 => 161 | 225 => 162 | 224 => 163 | 267 => 164 | 266 => 173 | 314 => 174 | n => n, fun | 9 => 9 | 4 => 4 | 59 => 163 | 3 => 3 | 5 => 5 | 46 => 179 | 146 => 248 | 51 => 208 | n => n, fun | 1 => 1 | n => n⟩
theorem Tryz.lays145 : Go.Proofs.Lays.n145 Tryz.prog Tryz.lays145_ren := {
 mixed := by kernel_rfl
 f145 := Tryz.func85.trans (congrArg some (by kernel_rfl))
 f217 := Tryz.func161.trans (congrArg some (by kernel_rfl))
 f219 := Tryz.func144.trans (congrArg some (by kernel_rfl))
 f220 := Tryz.func115.trans (congrArg some (by kernel_rfl))
 f224 := Tryz.func163.trans (congrArg some (by kernel_rfl))
 f225 := Tryz.func162.trans (congrArg some (by kernel_rfl))
 f266 := Tryz.func173.trans (congrArg some (by kernel_rfl))
 f267 := Tryz.func164.trans (congrArg some (by kernel_rfl))
 f314 := Tryz.func174.trans (congrArg some (by kernel_rfl))
 t3 := Tryz.underlying3
 a3 := Tryz.isAgg3
 z3 := Tryz.sizeOf3
 v3 := Tryz.zeroValue3
 t4 := Tryz.underlying4
 a4 := Tryz.isAgg4
 z4 := Tryz.sizeOf4
 v4 := Tryz.zeroValue4
 t5 := Tryz.underlying5
 a5 := Tryz.isAgg5
 z5 := Tryz.sizeOf5
 v5 := Tryz.zeroValue5
 t9 := Tryz.underlying9
 a9 := Tryz.isAgg9
 z9 := Tryz.sizeOf9
 v9 := Tryz.zeroValue9
 t46 := Tryz.underlying179
 a46 := Tryz.isAgg179
 z46 := Tryz.sizeOf179
 v46 := Tryz.zeroValue179
 t51 := Tryz.underlying208
 a51 := Tryz.isAgg208
 z51 := Tryz.sizeOf208
 v51 := Tryz.zeroValue208
 t59 := Tryz.underlying163
 a59 := Tryz.isAgg163
 z59 := Tryz.sizeOf163
 v59 := Tryz.zeroValue163
 t146 := Tryz.underlying248
 a146 := Tryz.isAgg248
 z146 := Tryz.sizeOf248
 v146 := Tryz.zeroValue248
 g1 := by kernel_rfl }
def Tryz.lays146_ren : Go.Shelf.Ren := ⟨fun | 146 => 47 | 221 => 82 | 268 => 111 | 138 => 112 | 143 => 113 | 195 => 141 | 197 => 142 | 218 => 143 | 219 => 144 | 260 => 160 | 217 => 161 | 225 => 162 | 224 => 163 | 267 => 164 | 266 => 173 | 314 => 174 | n => n, fun | 9 => 9 | 31 => 114 | 3 => 3 | 4 => 4 | 0 => 0 | 105 => 220 | 21 => 21 | 5 => 5 | 46 => 179 | 119 => 244 | 139 => 247 | 138 => 246 | 146 => 248 | 51 => 208 | n => n, fun | 1 => 1 | 3 => 2 | 4 => 3 | n => n⟩
theorem Tryz.lays146 : Go.Proofs.Lays.n146 Tryz.prog Tryz.lays146_ren := {
 mixed := by kernel_rfl
 f138 := Tryz.func112.trans (congrArg some (by kernel_rfl))
 f143 := Tryz.func113.trans (congrArg some (by kernel_rfl))
 f146 := Tryz.func47.trans (congrArg some (by kernel_rfl))
 f195 := Tryz.func141.trans (congrArg some (by kernel_rfl))
 f197 := Tryz.func142.trans (congrArg some (by kernel_rfl))
 f217 := Tryz.func161.trans (congrArg some (by kernel_rfl))
 f218 := Tryz.func143.trans (congrArg some (by kernel_rfl))
 f219 := Tryz.func144.trans (congrArg some (by kernel_rfl))
 f221 := Tryz.func82.trans (congrArg some (by kernel_rfl))
 f224 := Tryz.func163.trans (congrArg some (by kernel_rfl))
 f225 := Tryz.func162.trans (congrArg some (by kernel_rfl))
 f260 := Tryz.func160.trans (congrArg some (by kernel_rfl))
 f266 := Tryz.func173.trans (congrArg some (by kernel_rfl))
 f267 := Tryz.func164.trans (congrArg some (by kernel_rfl))
 f268 := Tryz.func111.trans (congrArg some (by kernel_rfl))
 f314 := Tryz.func174.trans (congrArg some (by kernel_rfl))
 t0 := Tryz.underlying0
 a0 := Tryz.isAgg0
 z0 := Tryz.sizeOf0
 v0 := Tryz.zeroValue0
 t3 := Tryz.underlying3
 a3 := Tryz.isAgg3
 z3 := Tryz.sizeOf3
 v3 := Tryz.zeroValue3
 t4 := Tryz.underlying4
 a4 := Tryz.isAgg4
 z4 := Tryz.sizeOf4
 v4 := Tryz.zeroValue4
 t5 := Tryz.underlying5
 a5 := Tryz.isAgg5
 z5 := Tryz.sizeOf5
 v5 := Tryz.zeroValue5
 t9 := Tryz.underlying9
 a9 := Tryz.isAgg9
 z9 := Tryz.sizeOf9
 v9 := Tryz.zeroValue9
 t21 := Tryz.underlying21
 a21 := Tryz.isAgg21
 z21 := Tryz.sizeOf21
 v21 := Tryz.zeroValue21
 t31 := Tryz.underlying114
 a31 := Tryz.isAgg114
 z31 := Tryz.sizeOf114
 v31 := Tryz.zeroValue114
 t46 := Tryz.underlying179
 a46 := Tryz.isAgg179
 z46 := Tryz.sizeOf179
 v46 := Tryz.zeroValue179
 t51 := Tryz.underlying208
 a51 := Tryz.isAgg208
 z51 := Tryz.sizeOf208
 v51 := Tryz.zeroValue208
 t105 := Tryz.underlying220
 a105 := Tryz.isAgg220
 z105 := Tryz.sizeOf220
 v105 := Tryz.zeroValue220
 t119 := Tryz.underlying244
 a119 := Tryz.isAgg244
 z119 := Tryz.sizeOf244
 t138 := Tryz.underlying246
 a138 := Tryz.isAgg246
 z138 := Tryz.sizeOf246
 v138 := Tryz.zeroValue246
 t139 := Tryz.underlying247
 a139 := Tryz.isAgg247
 z139 := Tryz.sizeOf247
 v139 := Tryz.zeroValue247
 t146 := Tryz.underlying248
 a146 := Tryz.isAgg248
 z146 := Tryz.sizeOf248
 v146 := Tryz.zeroValue248
 g1 := by kernel_rfl
 g3 := by kernel_rfl
 g4 := by kernel_rfl }
theorem Tryz.Builder_Len (B b : Nat) (bs : List Value) (w : World) (h : Lib.IsBuilder 109 5 B b bs w) :
  Calls Tryz.prog 45 #[.pointer (some ⟨b, 0, none⟩)] w fun e w' => e = .returned (.int .i64 bs.length) ∧ w' = w := Any.Builder_Len Tryz.lays170 B b bs w h
theorem Tryz.Builder_String_any (B b : Nat) (l : List UInt8) (w : World) (h : Lib.IsBuilder 109 5 B b (Lib.byteCells l) w) (hBw : B ≤ w.heap.size) :
  Calls Tryz.prog 46 #[.pointer (some ⟨b, 0, none⟩)] w fun e w' => e = .returned (.string ⟨l.toArray⟩) ∧ Below B w w' := Any.Builder_String_any Tryz.lays169 Tryz.Builder_Extra_169 B b l w h hBw
theorem Tryz.strings_CutPrefix (s p : ByteArray) (w : World) :
  Calls Tryz.prog 83 #[.string s, .string p] w fun e w' => e = .returned (.tuple #[.string ⟨(Lib.trimPrefix s.data.toList p.data.toList).toArray⟩, .bool (Lib.hasPrefix s.data.toList p.data.toList)]) ∧ w' = w := Any.strings_CutPrefix Tryz.lays103 s p w
theorem Tryz.Builder_Len_f (B b : Nat) (bs : List Value) (w : World) (h : Lib.IsBuilderF 109 5 B b bs w) :
  Calls Tryz.prog 45 #[.pointer (some ⟨b, 0, none⟩)] w fun e w' => e = .returned (.int .i64 bs.length) ∧ w' = w := Any.Builder_Len_f Tryz.lays170 B b bs w h
theorem Tryz.Builder_String_any_k (B b : Nat) (l : List UInt8) (w : World) (h : Lib.IsBuilderF 109 5 B b (Lib.byteCells l) w) (hBw : B ≤ w.heap.size) :
  Calls Tryz.prog 46 #[.pointer (some ⟨b, 0, none⟩)] w fun e w' => e = .returned (.string ⟨l.toArray⟩) ∧ (Lib.IsBuilderF 109 5 B b (Lib.byteCells l) w' ∧ Below B w w' ∧ Lib.OthersKept 5 (some b) w w') := Any.Builder_String_any_k Tryz.lays169 Tryz.Builder_Extra_169 B b l w h hBw
theorem Tryz.strconv_Itoa (n : Int) (h0 : -9223372036854775808 ≤ n) (h1 : n ≤ 9223372036854775807) (w : World) (htab : Lib.TabIs Tryz.prog w "internal/strconv.uint64pow10" .u64 Lib.pow10Tab) :
  Calls Tryz.prog 44 #[.int .i64 n] w fun e w' => e = .returned (.string ⟨(Lib.itoa n).toArray⟩) ∧ ∃ k os, w' = grow (w.drewN k) os := Any.strconv_Itoa Tryz.laysM171 n h0 h1 w htab
theorem Tryz.strconv_Itoa_small (i : Nat) (hi : i < 100) (w : World) :
  Calls Tryz.prog 44 #[.int .i64 i] w fun e w' => e = .returned (.string ⟨(Lib.decDigits i).toArray⟩) ∧ w' = w := Any.strconv_Itoa_small Tryz.lays171 i hi w
theorem Tryz.strings_Cut (s sep : ByteArray) (m : Int) (w : World) (hs : s.size < 4294967281) (hm : w.cell? ⟨1, 0, none⟩ = some (.int .i64 m)) :
  Calls Tryz.prog 85 #[.string s, .string sep] w fun e w' => e = .returned (.tuple #[.string ⟨(Lib.cut s.data.toList sep.data.toList).1.toArray⟩, .string ⟨(Lib.cut s.data.toList sep.data.toList).2.1.toArray⟩, .bool (Lib.cut s.data.toList sep.data.toList).2.2]) ∧ ∃ n, w' = w.drewN n := Any.strings_Cut Tryz.lays145 s sep m w hs hm
theorem Tryz.strings_Split (s sep : ByteArray) (m : Int) (w : World) (hs : s.size < 4294967281) (hm : w.cell? ⟨1, 0, none⟩ = some (.int .i64 m)) (h1 : 1 ≤ sep.size) :
  Calls Tryz.prog 47 #[.string s, .string sep] w fun e w' =>
   e = .returned (.slice (some ⟨w.heap.size, 0, none⟩) (Lib.countB s sep + 1) (Lib.countB s sep + 1)) ∧ w' = w.alloc (.cells ((Lib.splitB sep 0 (Lib.countB s sep) s).map Value.string).toArray 9) := Any.strings_Split Tryz.lays146 (by kernel_rfl) s sep m w hs hm h1
theorem Tryz.Builder_WriteString_k (B b : Nat) (bs : List Value) (s : ByteArray) (w : World) (h : Lib.IsBuilderF 109 5 B b bs w) (hlen : bs.length + s.size ≤ 140737488355328) (hBw : B ≤ w.heap.size) :
  Calls Tryz.prog 43 #[.pointer (some ⟨b, 0, none⟩), .string s] w fun e w' => e = .returned (.tuple #[.int .i64 s.size, .nilIface]) ∧ (Lib.BuilderAtF 109 5 B b (.pointer (some ⟨b, 0, none⟩)) (bs ++ Lib.strCells s) w' ∧ Below B w w' ∧ Lib.OthersKept 5 (some b) w w') := Any.Builder_WriteString_k Tryz.lays166 Tryz.Builder_Extra_166 B b bs s w h hlen hBw
end

section
open Go.RowKit Go.WideShapes Go.ChangeShapes

section
variable {H : Type} {enc : TypeId × Value → H} {P : Program}
theorem post_of_below {f : Func} {s : ChangeSpec} {apart fresh handsOn again : Bool} {W W' : World} {args : Array Value} {v : Value} {ds gs : List (DataW H)} {before pa pv : List MemPlace}
  (hW : DataW.Whole enc P f.params.toList s.vars apart W args.toList ds gs before)
  (hres : ∀ (b : Nat) (sp : Nat → Bool) (hd : Bool), DataW.TrodAll enc P W' b sp hd f.resultTypes.toList (v.resultList f.resultTypes.size) (s.fn H (ds ++ gs)).results [])
  (hargs : ∀ sp : Nat → Bool, (∀ p ∈ before, sp p.block = true) → DataW.TrodAll enc P W' 0 sp true f.params.toList args.toList (s.fn H (ds ++ gs)).args pa)
  (hvars : ∀ sp : Nat → Bool, (∀ p ∈ before, sp p.block = true) → DataW.TrodVars enc P W' sp s.vars (s.fn H (ds ++ gs)).vars pv)
  (hps : before = pa ++ pv) (hb : Below W.heap.size W W')
  (hok : ∀ (j : Nat) (t : TypeId) (r : Value), f.resultTypes[j]? = some t → (v.resultList f.resultTypes.size)[j]? = some r → Value.okWide P W' .any 0 t r) :
  s.post enc P f apart fresh handsOn again W args v W' := by
 have hlt : ∀ p ∈ before, p.block < W.heap.size := fun p hp => hW.lt p hp
 have hold : ∀ p ∈ before, (fun b => decide (b < W.heap.size)) p.block = true := fun p hp => by simpa using hlt p hp
 refine ⟨ds, gs, before, [], pa, pv, hW, hres _ _ _, hargs _ hold, hvars _ hold, World.keptBut_mono (fun p hp => ⟨hp, ?_⟩) (hb.frame (· ∈ before)), fun _ => ?_⟩
 ·rw [hps, List.mem_append] at hp
  exact Or.inr hp
 ·obtain ⟨_, _, _, _, _, hz, hn⟩ := hW
  refine ⟨hok, _, _, ([] ++ pa) ++ pv, ⟨[] ++ pa, pv, trodAll_append (hargs _ (fun _ _ => rfl)) (hres _ _ _), hvars _ (fun _ _ => rfl), rfl, ?_, ?_⟩, ?_⟩
  ·intro b off hp
   have hin : MemPlace.cell b off ∈ before := by rw [hps]; simpa using hp
   rw [hb.frozen (hlt _ hin)]
   exact hz b off hin
  ·intro ha
   have := hn ha
   rw [hps] at this
   simpa using this
  ·intro p hp _
   rw [hps]
   simpa using hp
end
theorem trodAll_stays {H : Type} {enc : TypeId × Value → H} {P : Program} (hl : laidOutB P = true) {W W' : World} (hb : Below W.heap.size W W') (sp : Nat → Bool) : ∀ (ts : List TypeId) (vs : List Value) (ds : List (DataW H)) (ps : List MemPlace),
  (ts.all fun t => P.readableRec t && decide (t < P.types.size)) = true → DataW.TrodAll enc P W 0 (fun _ => true) true ts vs ds ps → (∀ x ∈ ps, x.block < W.heap.size) → (∀ x ∈ ps, sp x.block = true) → DataW.TrodAll enc P W' 0 sp true ts vs ds ps := by
 intro ts
 induction ts with
 | nil => intro vs ds ps _ h _ _; obtain ⟨rfl, rfl, rfl⟩ := trodAll_nil h; exact trodAll_mk0
 | cons t ts ih =>
  intro vs ds ps hr h hlt hsp
  obtain ⟨v, vs', d, ds', p, q, rfl, rfl, rfl, h1, h2⟩ := trodAll_cons h
  simp only [List.all_cons, Bool.and_eq_true, decide_eq_true_eq] at hr
  exact ⟨p, q, WideElems.Trod_stays hl hr.1.1 hr.1.2 h1 (fun x hx => hb.same (hlt x (by simp [hx]))) (fun x hx => hsp x (by simp [hx])), ih _ _ _ (by simpa using hr.2) h2 (fun x hx => hlt x (by simp [hx])) (fun x hx => hsp x (by simp [hx])), rfl⟩

/-- A law's post: it returns true, what was there is as it was. -/
theorem law_post {H : Type} {enc : TypeId × Value → H} {P : Program} {f : Func} {s : ChangeSpec} {apart fresh handsOn again : Bool} {W W' : World} {args : Array Value} {ds : List (DataW H)} {p : List MemPlace} {tb : TypeId} (hl : laidOutB P = true)
  (hr : (f.params.toList.all fun t => P.readableRec t && decide (t < P.types.size)) = true) (hres : f.resultTypes = #[tb]) (htb : P.underlying tb = some .bool) (hvs : s.vars = [])
  (hW : DataW.Whole enc P f.params.toList s.vars apart W args.toList ds [] p) (hA : DataW.TrodAll enc P W 0 (fun _ => true) true f.params.toList args.toList ds p)
  (h1 : (s.fn H (ds ++ [])).results = [.lit (.bool true)]) (h2 : (s.fn H (ds ++ [])).args = ds) (h3 : (s.fn H (ds ++ [])).vars = []) (hb : Below W.heap.size W W') : s.post enc P f apart fresh handsOn again W args (.bool true) W' := by
 refine post_of_below (pa := p) (pv := []) hW (fun _ _ _ => ?_) (fun sp hsp => ?_) (fun _ _ => ?_) (by simp) hb ?_
 ·rw [h1, hres]; exact trodAll_mk1 (shut_bool htb _)
 ·rw [h2]; exact trodAll_stays hl hb sp _ _ _ _ hr hA (fun x hx => hW.lt x hx) hsp
 ·rw [hvs, h3]; rfl
 ·exact ok_one hres rfl (okWide_bool_mk htb _)

theorem bounds_i64 {x : Int} (h : (Lit.int .i64 x).wf = true) : -9223372036854775808 ≤ x ∧ x ≤ 9223372036854775807 := by
 simp [Lit.wf, IntKind.min, IntKind.max, IntKind.signed, IntKind.bits] at h
 exact ⟨by omega, by omega⟩

theorem laidOut : laidOutB Tryz.prog = true := by kernel_rfl
theorem own : ownKnob Tryz.prog.godebug = none := by kernel_rfl
end

section
open Go.RowKit Go.ChangeShapes Go.WideShapes Go.Deep Go.Joins

theorem list_of {α : Type} (d : α) (n : Nat) (p : Nat → α → Prop) (h : ∀ i, i < n → ∃ x, p i x) : ∃ l : List α, l.length = n ∧ ∀ i, i < n → p i (l.getD i d) := by
 induction n with
 | zero => exact ⟨[], rfl, fun i hi => absurd hi (by omega)⟩
 | succ n ih =>
  obtain ⟨l, hl, hp⟩ := ih fun i hi => h i (by omega)
  obtain ⟨x, hx⟩ := h n (by omega)
  refine ⟨l ++ [x], by simp [hl], fun i hi => ?_⟩
  rcases Nat.lt_succ_iff_lt_or_eq.1 hi with h1 | rfl
  ·have e : (l ++ [x]).getD i d = l.getD i d := by simp [List.getD, List.getElem?_append_left (show i < l.length by omega)]
   rw [e]; exact hp i h1
  ·subst hl
   simpa [List.getD] using hx

section
variable {H : Type} {enc : TypeId × Value → H} {P : Program} {w : World}

/-- A datum within the reach; cells that read as a datum. -/
def Fits (P : Program) (t : TypeId) (d : DataW H) : Prop := ∀ n ∈ d.weights P t, n ≤ reachBytes
def Reads (enc : TypeId × Value → H) (P : Program) (w : World) (t : TypeId) (cs : List Value) (d : DataW H) : Prop := ∃ fuel ps, DataW.trod enc P w 0 (fun _ => true) true fuel t cs = some (d, ps)

theorem weights_all {e : TypeId} {x : DataW H} : ∀ {l : List (DataW H)}, x ∈ l → ∀ n ∈ x.weights P e, n ∈ DataW.weightsAll P e l
 | y :: r, h, n, hn => by
  simp only [DataW.weightsAll, List.mem_append]
  rcases List.mem_cons.1 h with rfl | h
  ·exact .inl hn
  ·exact .inr (weights_all h n hn)

theorem cell_lt {a : Addr} {v : Value} (h : w.cell? a = some v) : a.block < w.heap.size := by
 unfold World.cell? at h
 cases hh : w.heap[a.block]? with
 | none => rw [hh] at h; cases h
 | some o => exact (Array.getElem?_eq_some_iff.1 hh).1

theorem open_row {t e : TypeId} {n : Nat} {cs : List Value} {d : DataW H} (ht : P.underlying t = some (.slice e)) (hC : P.cellsOf e = n) (hn : 0 < n) (hby : 0 < P.bytesOf e) (h : Reads enc P w t cs d) (hf : Fits P t d) :
  ∃ A len c, cs = [.slice A len c] ∧ (A = none → c = 0) ∧ len ≤ 140737488351232 ∧ (0 < len → ∃ b off, A = some ⟨b, off, none⟩ ∧ b < w.heap.size ∧ ∀ i, i < len → ∃ (es : List Value) (D : DataW H), es.length = n ∧ (∀ j, j < n → w.cell? ⟨b, off + i * n + j, none⟩ = es[j]?) ∧ Reads enc P w e es D ∧ Fits P e D) := by
 obtain ⟨fuel, ps, h⟩ := h
 rcases open_slice ht h with ⟨rfl, _⟩ | ⟨a, len, cap, m, k, D, Pl, rfl, _, hlc, _, hm, hx, hi⟩
 ·exact ⟨none, 0, 0, rfl, fun _ => rfl, by omega, fun h => absurd h (by omega)⟩
 ·simp only [ite_true] at hm
  subst hm
  simp only [Prod.mk.injEq] at hx
  obtain ⟨rfl, rfl⟩ := hx
  have hw : (len + (m - len)) * P.bytesOf e ≤ reachBytes := hf _ (by simp [DataW.weights, ht])
  have hw2 : (len + (m - len)) * 1 ≤ (len + (m - len)) * P.bytesOf e := Nat.mul_le_mul (Nat.le_refl _) hby
  have hr : reachBytes = 140737488351232 := rfl
  refine ⟨some a, len, m, rfl, fun h => (by cases h), by omega, fun h0 => ?_⟩
  have hat : ∀ i, i < m → ∃ es, es.length = n ∧ (∀ j, j < n → w.cell? (a.add (i * n + j)) = es[j]?) ∧ Reads enc P w e es (D i) := fun i him => by
   obtain ⟨es, hc, hd⟩ := hi i him
   obtain ⟨_, hl, hce⟩ := World.cells?_some hc
   rw [hC] at hl hce
   refine ⟨es, hl, fun j hj => ?_, _, _, hd⟩
   rw [← add_add]; exact hce j hj
  obtain ⟨b, off, spot⟩ := a
  have hs : spot = none := by
   obtain ⟨es, hl, hc, _⟩ := hat 0 (by omega)
   have h1 := hc 0 hn
   rw [List.getElem?_eq_getElem (show 0 < es.length by omega)] at h1
   simpa [Addr.add] using World.cell?_spot h1
  subst hs
  have hb : b < w.heap.size := by
   obtain ⟨es, hl, hc, _⟩ := hat 0 (by omega)
   have h1 := hc 0 hn
   rw [List.getElem?_eq_getElem (show 0 < es.length by omega)] at h1
   simpa [Addr.add] using cell_lt h1
  refine ⟨b, off, rfl, hb, fun i hil => ?_⟩
  obtain ⟨es, hl, hc, hd⟩ := hat i (by omega)
  refine ⟨es, D i, hl, fun j hj => ?_, hd, fun y hy => hf y ?_⟩
  ·rw [← hc j hj, add_plain, Nat.add_assoc]
  ·simp only [DataW.weights, ht, List.mem_cons, List.mem_append]
   exact .inr (.inl (weights_all (List.mem_map_of_mem (List.mem_range.2 hil)) y hy))

theorem open_fields {t : TypeId} {fs : Array Field} {cs : List Value} {d : DataW H} (ht : P.underlying t = some (.struct fs)) (hone : oneCellFields P fs = true) (h : Reads enc P w t cs d) (hf : Fits P t d) :
  ∀ (j : Nat) (f : Field) (v : Value), fs[j]? = some f → cs[j]? = some v → ∃ D, Reads enc P w f.type [v] D ∧ Fits P f.type D := by
 obtain ⟨fuel, ps, h⟩ := h
 obtain ⟨ys, n', _, hy, hlen, hyl, hg⟩ := DataW.trod_struct ht h
 intro j f v hj hv
 simp only [Prod.mk.injEq] at hy
 obtain ⟨rfl, _⟩ := hy
 obtain ⟨ho, hk⟩ := hone_of hone j f hj
 have hjl : j < fs.size := (Array.getElem?_eq_some_iff.1 hj).1
 have hjc : j < cs.length := (List.getElem?_eq_some_iff.1 hv).1
 have h1 := hg j f hj
 rw [ho, hk] at h1
 have hone' : (cs.drop j).take 1 = [v] := by
  rw [List.drop_eq_getElem_cons hjc]
  rw [List.getElem?_eq_getElem hjc] at hv
  cases hv
  rfl
 rw [hone'] at h1
 have hys : ys[j]? = some (ys[j]'(by omega)) := List.getElem?_eq_getElem (by omega)
 refine ⟨(ys[j]'(by omega)).1, ⟨n', (ys[j]'(by omega)).2, h1.trans hys⟩, fun y hy => hf y ?_⟩
 simp only [DataW.weights, ht]
 exact DataW.weights_mem_each (show (fs.toList.map fun f : Field => f.type)[j]? = some f.type by rw [List.getElem?_map, Array.getElem?_toList, hj]; rfl) (by simp [hys]) y hy
end

theorem fits_at {H : Type} {P : Program} {ts : List TypeId} {ds : List (DataW H)} (h : (DataW.weightsEach P ts ds).all (· ≤ reachBytes) = true) {j : Nat} {t : TypeId} {d : DataW H} (ht : ts[j]? = some t) (hd : ds[j]? = some d) : Fits P t d := fun n hn => by
 simpa using List.all_eq_true.1 h _ (DataW.weights_mem_each ht hd n hn)

section
variable {H : Type} {enc : TypeId × Value → H} {w : World}
theorem open_num {cs : List Value} {d : DataW H} (h : Reads enc Tryz.prog w 3 cs d) : ∃ x, cs = [.int .i64 x] ∧ -9223372036854775808 ≤ x ∧ x ≤ 9223372036854775807 := by
 obtain ⟨_, _, h⟩ := h
 obtain ⟨x, rfl, _, hw⟩ := DataW.trod_int Tryz.underlying3 h
 exact ⟨x, rfl, bounds_i64 hw⟩
end

section
variable {H : Type} {enc : TypeId × Value → H} {W : World} {base : Nat} {v : Value} {d : DataW H} {p : List MemPlace}
set_option maxRecDepth 100000 in
theorem arg_int (hv : Value.okWide Tryz.prog W .any base 3 v) (h : DataW.Trod enc Tryz.prog W 0 (fun _ => true) true 3 v d p) : ∃ x : Int, v = .int .i64 x ∧ -9223372036854775808 ≤ x ∧ x ≤ 9223372036854775807 := by
 obtain ⟨x, rfl, _, _, wx⟩ := open_int Tryz.underlying3 hv h
 exact ⟨x, rfl, bounds_i64 wx⟩
end
end

end Go.Proofs.YtlkebhiaimijiaaGreatDoor
