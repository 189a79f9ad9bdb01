/- Part of a proof; own work. -/
import Derived.Below
import Derived.KernelRfl
import Derived.Shelf.SlGeneric
import Derived.Ground.NamesProg
import Derived.Ground.Names8Prog
import Derived.Shelf.Strconv.Itoa3
import Derived.Shelf.Strings.Repeat
import Derived.Shelf.Strings.Split
import Derived.Shelf.Strings.OnBuilder
import Derived.Shelf.Strings.Search3
import Derived.Shelf.Strings.Count
import Derived.Shelf.Strings.Runes
import Derived.Shelf.Strings.BuilderK
import Derived.Shelf.Spec.SlicesGrow
import Derived.Test.YtjkbgcgljnldeaaGreatDoorProg
import Derived.Shelf.Strings.Builder1
import Derived.Test.YtjkbgcgljnldeaaGreatDoorPS6
namespace Go.Proofs
open Go.Shelf
def Tryz.laysM171_ren : Go.Shelf.Ren := ⟨fun | 171 => 123 | 243 => 179 | 246 => 202 | 283 => 216 | 284 => 217 | 285 => 218 | 286 => 219 | 129 => 226 | 317 => 225 | 318 => 227 | 319 => 228 | 320 => 229 | 337 => 232 | 338 => 233 | n => n, fun | 3 => 3 | 9 => 9 | 2 => 2 | 4 => 4 | 171 => 252 | 0 => 0 | 53 => 249 | 37 => 57 | 5 => 5 | 173 => 255 | 212 => 261 | 51 => 246 | 20 => 20 | 213 => 262 | 46 => 237 | 232 => 270 | 233 => 271 | n => n, fun | 17 => 1 | 18 => 4 | 19 => 5 | n => n⟩
theorem Tryz.laysM171 : Go.Proofs.LaysM.n171 Tryz.prog Tryz.laysM171_ren := {
 mixed := by kernel_rfl
 f129 := Tryz.func226.trans (congrArg some (by kernel_rfl))
 f171 := Tryz.func123.trans (congrArg some (by kernel_rfl))
 f243 := Tryz.func179.trans (congrArg some (by kernel_rfl))
 f246 := Tryz.func202.trans (congrArg some (by kernel_rfl))
 f283 := Tryz.func216.trans (congrArg some (by kernel_rfl))
 f284 := Tryz.func217.trans (congrArg some (by kernel_rfl))
 f285 := Tryz.func218.trans (congrArg some (by kernel_rfl))
 f286 := Tryz.func219.trans (congrArg some (by kernel_rfl))
 f317 := Tryz.func225.trans (congrArg some (by kernel_rfl))
 f318 := Tryz.func227.trans (congrArg some (by kernel_rfl))
 f319 := Tryz.func228.trans (congrArg some (by kernel_rfl))
 f320 := Tryz.func229.trans (congrArg some (by kernel_rfl))
 f337 := Tryz.func232.trans (congrArg some (by kernel_rfl))
 f338 := Tryz.func233.trans (congrArg some (by kernel_rfl))
 t0 := Tryz.underlying0
 a0 := Tryz.isAgg0
 z0 := Tryz.sizeOf0
 v0 := Tryz.zeroValue0
 t2 := Tryz.underlying2
 a2 := Tryz.isAgg2
 z2 := Tryz.sizeOf2
 v2 := Tryz.zeroValue2
 t3 := Tryz.underlying3
 a3 := Tryz.isAgg3
 z3 := Tryz.sizeOf3
 v3 := Tryz.zeroValue3
 t4 := Tryz.underlying4
 a4 := Tryz.isAgg4
 z4 := Tryz.sizeOf4
 v4 := Tryz.zeroValue4
 t5 := Tryz.underlying5
 a5 := Tryz.isAgg5
 z5 := Tryz.sizeOf5
 v5 := Tryz.zeroValue5
 t9 := Tryz.underlying9
 a9 := Tryz.isAgg9
 z9 := Tryz.sizeOf9
 v9 := Tryz.zeroValue9
 t20 := Tryz.underlying20
 a20 := Tryz.isAgg20
 z20 := Tryz.sizeOf20
 v20 := Tryz.zeroValue20
 t37 := Tryz.underlying57
 a37 := Tryz.isAgg57
 z37 := Tryz.sizeOf57
 v37 := Tryz.zeroValue57
 t46 := Tryz.underlying237
 a46 := Tryz.isAgg237
 z46 := Tryz.sizeOf237
 v46 := Tryz.zeroValue237
 t51 := Tryz.underlying246
 a51 := Tryz.isAgg246
 z51 := Tryz.sizeOf246
 v51 := Tryz.zeroValue246
 t53 := Tryz.underlying249
 a53 := Tryz.isAgg249
 z53 := Tryz.sizeOf249
 v53 := Tryz.zeroValue249
 t171 := Tryz.underlying252
 a171 := Tryz.isAgg252
 z171 := Tryz.sizeOf252
 v171 := Tryz.zeroValue252
 t173 := Tryz.underlying255
 a173 := Tryz.isAgg255
 z173 := Tryz.sizeOf255
 v173 := Tryz.zeroValue255
 t212 := Tryz.underlying261
 a212 := Tryz.isAgg261
 z212 := Tryz.sizeOf261
 v212 := Tryz.zeroValue261
 t213 := Tryz.underlying262
 a213 := Tryz.isAgg262
 z213 := Tryz.sizeOf262
 t232 := Tryz.underlying270
 a232 := Tryz.isAgg270
 z232 := Tryz.sizeOf270
 v232 := Tryz.zeroValue270
 t233 := Tryz.underlying271
 a233 := Tryz.isAgg271
 z233 := Tryz.sizeOf271
 v233 := Tryz.zeroValue271
 g17 := by kernel_rfl
 g18 := by kernel_rfl
 g19 := by kernel_rfl
 i0 := by kernel_rfl
 i2 := by kernel_rfl
 i3 := by kernel_rfl
 i4 := by kernel_rfl
 i5 := by kernel_rfl
 i9 := by kernel_rfl
 i20 := by kernel_rfl
 i37 := by kernel_rfl
 i46 := by kernel_rfl
 i51 := by kernel_rfl
 i53 := by kernel_rfl
 i171 := by kernel_rfl
 i173 := by kernel_rfl
 i212 := by kernel_rfl
 i232 := by kernel_rfl
 i233 := by kernel_rfl
 m17 := by kernel_rfl
 m18 := by kernel_rfl
 m19 := by kernel_rfl }
def Tryz.lays144_ren : Go.Shelf.Ren := ⟨fun | 144 => 147 | 143 => 189 | 219 => 208 | 217 => 188 | 225 => 206 | 224 => 205 | 267 => 221 | 266 => 207 | 314 => 230 | n => n, fun | 9 => 9 | 4 => 4 | 3 => 3 | 5 => 5 | 46 => 237 | 146 => 247 | 51 => 246 | n => n, fun | 1 => 0 | n => n⟩
theorem Tryz.lays144 : Go.Proofs.Lays.n144 Tryz.prog Tryz.lays144_ren := {
 mixed := by kernel_rfl
 f143 := Tryz.func189.trans (congrArg some (by kernel_rfl))
 f144 := Tryz.func147.trans (congrArg some (by kernel_rfl))
 f217 := Tryz.func188.trans (congrArg some (by kernel_rfl))
 f219 := Tryz.func208.trans (congrArg some (by kernel_rfl))
 f224 := Tryz.func205.trans (congrArg some (by kernel_rfl))
 f225 := Tryz.func206.trans (congrArg some (by kernel_rfl))
 f266 := Tryz.func207.trans (congrArg some (by kernel_rfl))
 f267 := Tryz.func221.trans (congrArg some (by kernel_rfl))
 f314 := Tryz.func230.trans (congrArg some (by kernel_rfl))
 t3 := Tryz.underlying3
 a3 := Tryz.isAgg3
 z3 := Tryz.sizeOf3
 v3 := Tryz.zeroValue3
 t4 := Tryz.underlying4
 a4 := Tryz.isAgg4
 z4 := Tryz.sizeOf4
 v4 := Tryz.zeroValue4
 t5 := Tryz.underlying5
 a5 := Tryz.isAgg5
 z5 := Tryz.sizeOf5
 v5 := Tryz.zeroValue5
 t9 := Tryz.underlying9
 a9 := Tryz.isAgg9
 z9 := Tryz.sizeOf9
 v9 := Tryz.zeroValue9
 t46 := Tryz.underlying237
 a46 := Tryz.isAgg237
 z46 := Tryz.sizeOf237
 v46 := Tryz.zeroValue237
 t51 := Tryz.underlying246
 a51 := Tryz.isAgg246
 z51 := Tryz.sizeOf246
 v51 := Tryz.zeroValue246
 t146 := Tryz.underlying247
 a146 := Tryz.isAgg247
 z146 := Tryz.sizeOf247
 v146 := Tryz.zeroValue247
 g1 := by kernel_rfl }
def Tryz.lays151_ren : Go.Shelf.Ren := ⟨fun | 151 => 144 | 152 => 186 | 137 => 146 | 119 => 204 | 224 => 205 | 225 => 206 | 217 => 188 | 266 => 207 | n => n, fun | 9 => 9 | 21 => 21 | 4 => 4 | 3 => 3 | 5 => 5 | 0 => 0 | 46 => 237 | n => n, fun | n => n⟩
theorem Tryz.lays151 : Go.Proofs.Lays.n151 Tryz.prog Tryz.lays151_ren := {
 mixed := by kernel_rfl
 f119 := Tryz.func204.trans (congrArg some (by kernel_rfl))
 f137 := Tryz.func146.trans (congrArg some (by kernel_rfl))
 f151 := Tryz.func144.trans (congrArg some (by kernel_rfl))
 f152 := Tryz.func186.trans (congrArg some (by kernel_rfl))
 f217 := Tryz.func188.trans (congrArg some (by kernel_rfl))
 f224 := Tryz.func205.trans (congrArg some (by kernel_rfl))
 f225 := Tryz.func206.trans (congrArg some (by kernel_rfl))
 f266 := Tryz.func207.trans (congrArg some (by kernel_rfl))
 t0 := Tryz.underlying0
 a0 := Tryz.isAgg0
 z0 := Tryz.sizeOf0
 v0 := Tryz.zeroValue0
 t3 := Tryz.underlying3
 a3 := Tryz.isAgg3
 z3 := Tryz.sizeOf3
 v3 := Tryz.zeroValue3
 t4 := Tryz.underlying4
 a4 := Tryz.isAgg4
 z4 := Tryz.sizeOf4
 v4 := Tryz.zeroValue4
 t5 := Tryz.underlying5
 a5 := Tryz.isAgg5
 z5 := Tryz.sizeOf5
 v5 := Tryz.zeroValue5
 t9 := Tryz.underlying9
 a9 := Tryz.isAgg9
 z9 := Tryz.sizeOf9
 v9 := Tryz.zeroValue9
 t21 := Tryz.underlying21
 a21 := Tryz.isAgg21
 z21 := Tryz.sizeOf21
 v21 := Tryz.zeroValue21
 t46 := Tryz.underlying237
 a46 := Tryz.isAgg237
 z46 := Tryz.sizeOf237
 v46 := Tryz.zeroValue237 }
def Tryz.lays146_ren : Go.Shelf.Ren := ⟨fun | 146 => 166 | 221 => 196 | 268 => 211 | 138 => 212 | 143 => 189 | 195 => 222 | 197 => 223 | 218 => 224 | 219 => 208 | 260 => 231 | 217 => 188 | 225 => 206 | 224 => 205 | 267 => 221 | 266 => 207 | 314 => 230 | n => n, fun | 9 => 9 | 31 => 48 | 3 => 3 | 4 => 4 | 0 => 0 | 105 => 258 | 21 => 21 | 5 => 5 | 46 => 237 | 119 => 266 | 139 => 269 | 138 => 268 | 146 => 247 | 51 => 246 | n => n, fun | 1 => 0 | 3 => 2 | 4 => 3 | n => n⟩
theorem Tryz.lays146 : Go.Proofs.Lays.n146 Tryz.prog Tryz.lays146_ren := {
 mixed := by kernel_rfl
 f138 := Tryz.func212.trans (congrArg some (by kernel_rfl))
 f143 := Tryz.func189.trans (congrArg some (by kernel_rfl))
 f146 := Tryz.func166.trans (congrArg some (by kernel_rfl))
 f195 := Tryz.func222.trans (congrArg some (by kernel_rfl))
 f197 := Tryz.func223.trans (congrArg some (by kernel_rfl))
 f217 := Tryz.func188.trans (congrArg some (by kernel_rfl))
 f218 := Tryz.func224.trans (congrArg some (by kernel_rfl))
 f219 := Tryz.func208.trans (congrArg some (by kernel_rfl))
 f221 := Tryz.func196.trans (congrArg some (by kernel_rfl))
 f224 := Tryz.func205.trans (congrArg some (by kernel_rfl))
 f225 := Tryz.func206.trans (congrArg some (by kernel_rfl))
 f260 := Tryz.func231.trans (congrArg some (by kernel_rfl))
 f266 := Tryz.func207.trans (congrArg some (by kernel_rfl))
 f267 := Tryz.func221.trans (congrArg some (by kernel_rfl))
 f268 := Tryz.func211.trans (congrArg some (by kernel_rfl))
 f314 := Tryz.func230.trans (congrArg some (by kernel_rfl))
 t0 := Tryz.underlying0
 a0 := Tryz.isAgg0
 z0 := Tryz.sizeOf0
 v0 := Tryz.zeroValue0
 t3 := Tryz.underlying3
 a3 := Tryz.isAgg3
 z3 := Tryz.sizeOf3
 v3 := Tryz.zeroValue3
 t4 := Tryz.underlying4
 a4 := Tryz.isAgg4
 z4 := Tryz.sizeOf4
 v4 := Tryz.zeroValue4
 t5 := Tryz.underlying5
 a5 := Tryz.isAgg5
 z5 := Tryz.sizeOf5
 v5 := Tryz.zeroValue5
 t9 := Tryz.underlying9
 a9 := Tryz.isAgg9
 z9 := Tryz.sizeOf9
 v9 := Tryz.zeroValue9
 t21 := Tryz.underlying21
 a21 := Tryz.isAgg21
 z21 := Tryz.sizeOf21
 v21 := Tryz.zeroValue21
 t31 := Tryz.underlying48
 a31 := Tryz.isAgg48
 z31 := Tryz.sizeOf48
 v31 := Tryz.zeroValue48
 t46 := Tryz.underlying237
 a46 := Tryz.isAgg237
 z46 := Tryz.sizeOf237
 v46 := Tryz.zeroValue237
 t51 := Tryz.underlying246
 a51 := Tryz.isAgg246
 z51 := Tryz.sizeOf246
 v51 := Tryz.zeroValue246
 t105 := Tryz.underlying258
 a105 := Tryz.isAgg258
 z105 := Tryz.sizeOf258
 v105 := Tryz.zeroValue258
 t119 := Tryz.underlying266
 a119 := Tryz.isAgg266
 z119 := Tryz.sizeOf266
 t138 := Tryz.underlying268
 a138 := Tryz.isAgg268
 z138 := Tryz.sizeOf268
 v138 := Tryz.zeroValue268
 t139 := Tryz.underlying269
 a139 := Tryz.isAgg269
 z139 := Tryz.sizeOf269
 v139 := Tryz.zeroValue269
 t146 := Tryz.underlying247
 a146 := Tryz.isAgg247
 z146 := Tryz.sizeOf247
 v146 := Tryz.zeroValue247
 g1 := by kernel_rfl
 g3 := by kernel_rfl
 g4 := by kernel_rfl }
def Tryz.lays105_ren : Go.Shelf.Ren := ⟨fun | 105 => 177 | 212 => 200 | 99 => 145 | 165 => 181 | 166 => 176 | 170 => 201 | 169 => 129 | 263 => 214 | 264 => 215 | 206 => 187 | 240 => 199 | 241 => 203 | 276 => 213 | 277 => 220 | n => n, fun | 9 => 9 | 3 => 3 | 4 => 4 | 20 => 20 | 0 => 0 | 46 => 237 | 109 => 238 | 5 => 5 | 72 => 180 | 76 => 217 | 51 => 246 | 146 => 247 | 53 => 249 | 148 => 250 | 70 => 178 | 37 => 57 | 75 => 216 | 127 => 224 | 164 => 244 | 80 => 89 | n => n, fun | n => n⟩
theorem Tryz.lays105 : Go.Proofs.Lays.n105 Tryz.prog Tryz.lays105_ren := {
 mixed := by kernel_rfl
 f99 := Tryz.func145.trans (congrArg some (by kernel_rfl))
 f105 := Tryz.func177.trans (congrArg some (by kernel_rfl))
 f165 := Tryz.func181.trans (congrArg some (by kernel_rfl))
 f166 := Tryz.func176.trans (congrArg some (by kernel_rfl))
 f169 := Tryz.func129.trans (congrArg some (by kernel_rfl))
 f170 := Tryz.func201.trans (congrArg some (by kernel_rfl))
 f206 := Tryz.func187.trans (congrArg some (by kernel_rfl))
 f212 := Tryz.func200.trans (congrArg some (by kernel_rfl))
 f240 := Tryz.func199.trans (congrArg some (by kernel_rfl))
 f241 := Tryz.func203.trans (congrArg some (by kernel_rfl))
 f263 := Tryz.func214.trans (congrArg some (by kernel_rfl))
 f264 := Tryz.func215.trans (congrArg some (by kernel_rfl))
 f276 := Tryz.func213.trans (congrArg some (by kernel_rfl))
 f277 := Tryz.func220.trans (congrArg some (by kernel_rfl))
 t0 := Tryz.underlying0
 a0 := Tryz.isAgg0
 z0 := Tryz.sizeOf0
 v0 := Tryz.zeroValue0
 t3 := Tryz.underlying3
 a3 := Tryz.isAgg3
 z3 := Tryz.sizeOf3
 v3 := Tryz.zeroValue3
 t4 := Tryz.underlying4
 a4 := Tryz.isAgg4
 z4 := Tryz.sizeOf4
 v4 := Tryz.zeroValue4
 t5 := Tryz.underlying5
 a5 := Tryz.isAgg5
 z5 := Tryz.sizeOf5
 v5 := Tryz.zeroValue5
 t9 := Tryz.underlying9
 a9 := Tryz.isAgg9
 z9 := Tryz.sizeOf9
 v9 := Tryz.zeroValue9
 t20 := Tryz.underlying20
 a20 := Tryz.isAgg20
 z20 := Tryz.sizeOf20
 v20 := Tryz.zeroValue20
 t37 := Tryz.underlying57
 a37 := Tryz.isAgg57
 z37 := Tryz.sizeOf57
 v37 := Tryz.zeroValue57
 t46 := Tryz.underlying237
 a46 := Tryz.isAgg237
 z46 := Tryz.sizeOf237
 v46 := Tryz.zeroValue237
 t51 := Tryz.underlying246
 a51 := Tryz.isAgg246
 z51 := Tryz.sizeOf246
 v51 := Tryz.zeroValue246
 t53 := Tryz.underlying249
 a53 := Tryz.isAgg249
 z53 := Tryz.sizeOf249
 v53 := Tryz.zeroValue249
 t70 := Tryz.underlying178
 a70 := Tryz.isAgg178
 z70 := Tryz.sizeOf178
 v70 := Tryz.zeroValue178
 t72 := Tryz.underlying180
 a72 := Tryz.isAgg180
 z72 := Tryz.sizeOf180
 v72 := Tryz.zeroValue180
 t75 := Tryz.underlying216
 a75 := Tryz.isAgg216
 z75 := Tryz.sizeOf216
 v75 := Tryz.zeroValue216
 t76 := Tryz.underlying217
 a76 := Tryz.isAgg217
 z76 := Tryz.sizeOf217
 v76 := Tryz.zeroValue217
 t109 := Tryz.underlying238
 a109 := Tryz.isAgg238
 z109 := Tryz.sizeOf238
 v109 := Tryz.zeroValue238
 t127 := Tryz.underlying224
 a127 := Tryz.isAgg224
 z127 := Tryz.sizeOf224
 v127 := Tryz.zeroValue224
 t146 := Tryz.underlying247
 a146 := Tryz.isAgg247
 z146 := Tryz.sizeOf247
 v146 := Tryz.zeroValue247
 t148 := Tryz.underlying250
 a148 := Tryz.isAgg250
 z148 := Tryz.sizeOf250
 v148 := Tryz.zeroValue250
 t164 := Tryz.underlying244
 a164 := Tryz.isAgg244
 z164 := Tryz.sizeOf244
 v164 := Tryz.zeroValue244 }
def Tryz.lays156_ren : Go.Shelf.Ren := ⟨fun | 156 => 125 | 165 => 181 | 166 => 176 | 169 => 129 | 240 => 199 | 241 => 203 | 276 => 213 | 277 => 220 | n => n, fun | 31 => 48 | 9 => 9 | 3 => 3 | 4 => 4 | 0 => 0 | 20 => 20 | 72 => 180 | 76 => 217 | 70 => 178 | 37 => 57 | 75 => 216 | 127 => 224 | 164 => 244 | 5 => 5 | 80 => 89 | n => n, fun | n => n⟩
theorem Tryz.lays156 : Go.Proofs.Lays.n156 Tryz.prog Tryz.lays156_ren := {
 mixed := by kernel_rfl
 f156 := Tryz.func125.trans (congrArg some (by kernel_rfl))
 f165 := Tryz.func181.trans (congrArg some (by kernel_rfl))
 f166 := Tryz.func176.trans (congrArg some (by kernel_rfl))
 f169 := Tryz.func129.trans (congrArg some (by kernel_rfl))
 f240 := Tryz.func199.trans (congrArg some (by kernel_rfl))
 f241 := Tryz.func203.trans (congrArg some (by kernel_rfl))
 f276 := Tryz.func213.trans (congrArg some (by kernel_rfl))
 f277 := Tryz.func220.trans (congrArg some (by kernel_rfl))
 t0 := Tryz.underlying0
 a0 := Tryz.isAgg0
 z0 := Tryz.sizeOf0
 v0 := Tryz.zeroValue0
 t3 := Tryz.underlying3
 a3 := Tryz.isAgg3
 z3 := Tryz.sizeOf3
 v3 := Tryz.zeroValue3
 t4 := Tryz.underlying4
 a4 := Tryz.isAgg4
 z4 := Tryz.sizeOf4
 v4 := Tryz.zeroValue4
 t9 := Tryz.underlying9
 a9 := Tryz.isAgg9
 z9 := Tryz.sizeOf9
 v9 := Tryz.zeroValue9
 t20 := Tryz.underlying20
 a20 := Tryz.isAgg20
 z20 := Tryz.sizeOf20
 v20 := Tryz.zeroValue20
 t31 := Tryz.underlying48
 a31 := Tryz.isAgg48
 z31 := Tryz.sizeOf48
 v31 := Tryz.zeroValue48
 t37 := Tryz.underlying57
 a37 := Tryz.isAgg57
 z37 := Tryz.sizeOf57
 v37 := Tryz.zeroValue57
 t70 := Tryz.underlying178
 a70 := Tryz.isAgg178
 z70 := Tryz.sizeOf178
 v70 := Tryz.zeroValue178
 t72 := Tryz.underlying180
 a72 := Tryz.isAgg180
 z72 := Tryz.sizeOf180
 v72 := Tryz.zeroValue180
 t75 := Tryz.underlying216
 a75 := Tryz.isAgg216
 z75 := Tryz.sizeOf216
 v75 := Tryz.zeroValue216
 t76 := Tryz.underlying217
 a76 := Tryz.isAgg217
 z76 := Tryz.sizeOf217
 v76 := Tryz.zeroValue217
 t127 := Tryz.underlying224
 a127 := Tryz.isAgg224
 z127 := Tryz.sizeOf224
 v127 := Tryz.zeroValue224
 t164 := Tryz.underlying244
 a164 := Tryz.isAgg244
 z164 := Tryz.sizeOf244
 v164 := Tryz.zeroValue244 }
def Tryz.growE_ren : Go.Shelf.Ren := ⟨fun | 4 => 172 | n => n, fun | 22 => 72 | 25 => 131 | 3 => 3 | 4 => 4 | 9 => 9 | 20 => 20 | 0 => 0 | n => n, fun | n => n⟩
theorem Tryz.growE : Go.Proofs.Lays8.n4 Tryz.prog Tryz.growE_ren := {
 mixed := by kernel_rfl
 f4 := ⟨Tryz.f172.name, by decide, Tryz.func172.trans (congrArg some (by kernel_rfl))⟩
 t0 := Tryz.underlying0
 a0 := Tryz.isAgg0
 z0 := Tryz.sizeOf0
 v0 := Tryz.zeroValue0
 t3 := Tryz.underlying3
 a3 := Tryz.isAgg3
 z3 := Tryz.sizeOf3
 v3 := Tryz.zeroValue3
 t4 := Tryz.underlying4
 a4 := Tryz.isAgg4
 z4 := Tryz.sizeOf4
 v4 := Tryz.zeroValue4
 t9 := Tryz.underlying9
 a9 := Tryz.isAgg9
 z9 := Tryz.sizeOf9
 v9 := Tryz.zeroValue9
 t20 := Tryz.underlying20
 a20 := Tryz.isAgg20
 z20 := Tryz.sizeOf20
 v20 := Tryz.zeroValue20
 t22 := Tryz.underlying72
 a22 := Tryz.isAgg72
 z22 := Tryz.sizeOf72
 v22 := Tryz.zeroValue72 }
def Tryz.growS_ren : Go.Shelf.Ren := ⟨fun | 4 => 194 | n => n, fun | 22 => 107 | 25 => 133 | 3 => 3 | 4 => 4 | 9 => 9 | 20 => 20 | 0 => 0 | n => n, fun | n => n⟩
theorem Tryz.growS : Go.Proofs.Lays8.n4 Tryz.prog Tryz.growS_ren := {
 mixed := by kernel_rfl
 f4 := ⟨Tryz.f194.name, by decide, Tryz.func194.trans (congrArg some (by kernel_rfl))⟩
 t0 := Tryz.underlying0
 a0 := Tryz.isAgg0
 z0 := Tryz.sizeOf0
 v0 := Tryz.zeroValue0
 t3 := Tryz.underlying3
 a3 := Tryz.isAgg3
 z3 := Tryz.sizeOf3
 v3 := Tryz.zeroValue3
 t4 := Tryz.underlying4
 a4 := Tryz.isAgg4
 z4 := Tryz.sizeOf4
 v4 := Tryz.zeroValue4
 t9 := Tryz.underlying9
 a9 := Tryz.isAgg9
 z9 := Tryz.sizeOf9
 v9 := Tryz.zeroValue9
 t20 := Tryz.underlying20
 a20 := Tryz.isAgg20
 z20 := Tryz.sizeOf20
 v20 := Tryz.zeroValue20
 t22 := Tryz.underlying107
 a22 := Tryz.isAgg107
 z22 := Tryz.sizeOf107
 v22 := Tryz.zeroValue107 }
theorem Tryz.lays240 : Go.Proofs.Lays.n240 Tryz.prog Tryz.lays156_ren := { Tryz.lays156 with }
theorem Tryz.lays169 : Go.Proofs.Lays.n169 Tryz.prog Tryz.lays156_ren := { Tryz.lays156 with }
theorem Tryz.extra156 : Builder.Extra Tryz.prog Tryz.lays156_ren := {
 sizeBuilder := by kernel_rfl
 liesBuilder := by kernel_rfl
 t5 := Tryz.underlying5
 a5 := Tryz.isAgg5
 z5 := Tryz.sizeOf5
 v5 := Tryz.zeroValue5
 infoByte := by kernel_rfl
 cellsByte := by kernel_rfl
 sizeByte := by kernel_rfl
 neB5 := by decide }
theorem Tryz.extra105 : Builder.Extra Tryz.prog Tryz.lays105_ren := {
 sizeBuilder := by kernel_rfl
 liesBuilder := by kernel_rfl
 t5 := Tryz.underlying5
 a5 := Tryz.isAgg5
 z5 := Tryz.sizeOf5
 v5 := Tryz.zeroValue5
 infoByte := by kernel_rfl
 cellsByte := by kernel_rfl
 sizeByte := by kernel_rfl
 neB5 := by decide }
end Go.Proofs
set_option linter.unusedVariables false
namespace Go.Aw
open Go Go.Proofs Go.Shelf Go.RowKit
variable {P : Program} {ρ : Ren}
set_option maxHeartbeats 1000000 in
set_option maxRecDepth 100000 in
theorem copyCheck_T (L : Lays.n240 P ρ) (X : Builder.X72 P ρ) {T : TypeId} {n : Nat} (hn : 0 < n) (hl : liesAt P P.depth T (n / P.cellsOf T) 0 (ρ.t 72) 1 = true) (b : Nat) (w : World) (h0 : w.cell? ⟨b, 0, none⟩ = some (.pointer none)) (hsh : w.shape? b = some (T, n)) (hfz : w.frozen? ⟨b, 0, none⟩ = false) :
  Calls P (ρ.f 240) #[.pointer (some ⟨b, 0, none⟩)] w fun e w' => e = .returned (.tuple #[]) ∧ w' = w.setCell ⟨b, 0, none⟩ (.pointer (some ⟨b, 0, none⟩)) := by
 obtain ⟨j, hj, hjs⟩ := Option.map_eq_some_iff.1 X.sizeBuilder
 have mixed := L.mixed
 have t72 := L.t72; have a72 := L.a72; have z72 := L.z72; have v72 := L.v72; have u72 := run_underlying L.t72
 have t70 := L.t70; have a70 := L.a70; have z70 := L.z70; have v70 := L.v70; have u70 := run_underlying L.t70
 have t9 := L.t9; have a9 := L.a9; have z9 := L.z9; have v9 := L.v9; have u9 := run_underlying L.t9
 have t4 := L.t4; have a4 := L.a4; have z4 := L.z4; have v4 := L.v4; have u4 := run_underlying L.t4
 have t164 := L.t164; have a164 := L.a164; have z164 := L.z164; have v164 := L.v164; have u164 := run_underlying L.t164
 go_enter L.f240, Body.n240_ntmps ρ
 go_wp2
 rw [Lib.run_to_unsafe w ⟨b, 0, none⟩ L.t70 L.t164 hj (by rw [hjs]; decide) hsh hn]
 simp only [Result.andThen]
 rw [Oper.upon_value]
 go_wp2
 rw [run_callFunc_extern L.f276 (by kernel_rfl) (by kernel_rfl) (by kernel_rfl) (e := Extern.AbiNoEscape.same) (by kernel_rfl)]
 rw [Lib.run_noEscape]
 simp only [Result.andThen]
 rw [Oper.upon_value]
 go_wp2
 rw [Lib.run_from_unsafe w ⟨b, 0, none⟩ L.t164 L.t70 hj hsh hl]
 simp only [Result.andThen]
 rw [Oper.upon_value]
 go_wp2
 go_end0
 exact ⟨rfl, rfl⟩
set_option maxHeartbeats 1000000 in
set_option maxRecDepth 100000 in
theorem string_T (L : Lays.n169 P ρ) (X : Builder.Extra P ρ) (b g cap : Nat) (cur : Array Value) (l : List UInt8) (w : World) (c1 : w.drew.cell? ⟨b, 1, none⟩ = some (.slice (some ⟨g, 0, none⟩) l.length cap)) (h0 : l ≠ []) (hg : w.drew.heap[g]? = some (.cells cur (ρ.t 5) (0, 0))) (hnc : l.length ≤ cap) (hcm : cap ≤ maxLen) (hcs : cur.size = cap * 1)
  (hcell : ∀ j x, l[j]? = some x → w.drew.cell? ((⟨g, 0, none⟩ : Addr).add j) = some (.int .u8 x.toNat)) :
  Calls P (ρ.f 169) #[.pointer (some ⟨b, 0, none⟩)] w fun e w' => e = .returned (.string ⟨l.toArray⟩) ∧ w' = w.drew.freeze ⟨g, 0, none⟩ l.length := by
 have hl0 : l.length ≠ 0 := by simpa using h0
 have hSD : (Builtin.unsafeSliceData_ #[(ρ.t 37)] (ρ.t 127) #[.slice (some ⟨g, 0, none⟩) l.length cap]).run P w.drew = .ok (.pointer (some ⟨g, 0, none⟩)) w.drew :=
  Lib.run_unsafeSliceData_row _ _ _ _ _ _ (by omega)
 have hUS : (Builtin.unsafeString_ #[(ρ.t 127), (ρ.t 3)] (ρ.t 9) #[.pointer (some ⟨g, 0, none⟩), .int .i64 l.length]).run P w.drew = .ok (.string ⟨l.toArray⟩) (w.drew.freeze ⟨g, 0, none⟩ l.length) :=
  Lib.run_unsafeString_row w.drew (ρ.t 127) (ρ.t 3) (ρ.t 9) (ρ.t 5) L.t127 X.cellsByte g cur.size (by simp [World.shape?, hg]) l h0 (by omega) (by unfold maxLen at hcm; omega) hcell
 have mixed := L.mixed
 have t72 := L.t72; have a72 := L.a72; have z72 := L.z72; have v72 := L.v72; have u72 := run_underlying L.t72
 have t70 := L.t70; have a70 := L.a70; have z70 := L.z70; have v70 := L.v70; have u70 := run_underlying L.t70
 have t37 := L.t37; have a37 := L.a37; have z37 := L.z37; have v37 := L.v37; have u37 := run_underlying L.t37
 have t127 := L.t127; have a127 := L.a127; have z127 := L.z127; have v127 := L.v127; have u127 := run_underlying L.t127
 have t3 := L.t3; have a3 := L.a3; have z3 := L.z3; have v3 := L.v3; have u3 := run_underlying L.t3
 have t9 := L.t9; have a9 := L.a9; have z9 := L.z9; have v9 := L.v9; have u9 := run_underlying L.t9
 have t5 := X.t5; have a5 := X.a5; have z5 := X.z5; have v5 := X.v5; have u5 := run_underlying X.t5
 go_enter L.f169, Body.n169_ntmps ρ
 go_wp2
 go_region_o
 all_goals (go_wp2; go_ret; exact ⟨rfl, rfl⟩)
end Go.Aw
set_option linter.unusedVariables false
set_option linter.unusedSimpArgs false
namespace Go.Aw
open Go Go.Proofs Go.Shelf Go.RowKit
def byR (c : UInt8) : List AV := [.int .u8 c.toNat]
def Mem.gu (m : Mem) (w' : World) (t : Nat) (i : Own) : Mem := ⟨w', m.H.setT t (.mu i.ty i.size (i.ver + 1) []), fun x => if x = t then .slice none 0 0 else m.L x, m.T⟩
section
variable {m : Mem} {w' : World} {t g : Nat} {i : Own}
theorem gu_tok {t' : Nat} {i' : Own} (h : (m.gu w' t i).H.tok t' = some i') : (t' = t ∧ i' = .mu i.ty i.size (i.ver + 1) [] ∧ (m.gu w' t i).L t' = .slice none 0 0) ∨ (t' ≠ t ∧ m.H.tok t' = some i' ∧ (m.gu w' t i).L t' = m.L t') := by
 simp only [Mem.gu, AHeap.setT] at h ⊢
 by_cases e : t' = t
 ·rw [if_pos e] at h
  cases h
  exact .inl ⟨e, rfl, if_pos e⟩
 ·rw [if_neg e] at h
  exact .inr ⟨e, h, if_neg e⟩
theorem Ev.fz (hi : m.H.tok t = some i) (hg : (m.L t).ownBlock = some g) (h1 : w'.os = m.w.os) (h2 : w'.tape = m.w.tape) (h3 : w'.output = m.w.output) (h4 : w'.heap.size = m.w.heap.size) (h5 : ∀ k, k ≠ g → w'.heap[k]? = m.w.heap[k]?) (h6 : ∀ k o, w'.cell? ⟨k, o, none⟩ = m.w.cell? ⟨k, o, none⟩) : Ev m (m.gu w' t i) where
 os := h1
 tape := h2
 output := h3
 size := by show m.w.heap.size ≤ w'.heap.size; omega
 T := Nat.le_refl _
 block := fun b hb h h' => ⟨h5 b fun e => h' t i hi (by rw [hg, e]), h, fun t' i' ht' => by
  rcases gu_tok ht' with ⟨_, _, e⟩ | ⟨_, e1, e2⟩
  ·rw [e]; simp [Value.ownBlock]
  ·rw [e2]; exact h' t' i' e1⟩
 cell := fun b o hs => ⟨⟨by show b < w'.heap.size; rw [h4]; exact hs.lt, hs.blk, fun t' i' ht' hb' => by
  rcases gu_tok ht' with ⟨_, _, e⟩ | ⟨_, e1, e2⟩
  ·rw [e] at hb'; simp [Value.ownBlock] at hb'
  ·rw [e2] at hb'; exact hs.tok t' i' e1 hb'⟩, h6 b o⟩
 tok := fun t' i' _ h => by
  rcases gu_tok h with ⟨rfl, rfl, e⟩ | ⟨_, e1, e2⟩
  ·exact ⟨i, hi, Nat.le_succ _, rfl, fun e => absurd e (Nat.succ_ne_self _)⟩
  ·exact ⟨i', e1, Nat.le_refl _, rfl, fun _ => e2⟩
theorem RH.fz (r : RH m) (hi : m.H.tok t = some i) (hg : (m.L t).ownBlock = some g) (h1 : w'.os = m.w.os) (h2 : w'.tape = m.w.tape) (h3 : w'.output = m.w.output) (h4 : w'.heap.size = m.w.heap.size) (h5 : ∀ k, k ≠ g → w'.heap[k]? = m.w.heap[k]?) (h6 : ∀ k o, w'.cell? ⟨k, o, none⟩ = m.w.cell? ⟨k, o, none⟩) : RH (m.gu w' t i) where
 glob := (Glob.ev (Ev.fz hi hg h1 h2 h3 h4 h5 h6) r.glob r.globf).1
 globf := (Glob.ev (Ev.fz hi hg h1 h2 h3 h4 h5 h6) r.glob r.globf).2
 blk := fun b T cs hb => by
  obtain ⟨l, e1, e2, e3⟩ := r.blk b T cs hb
  have hne : b ≠ g := fun e => by
   have := ((r.tok t i hi).2.2.2 g hg).1
   rw [← e] at this
   rw [show (m.gu w' t i).H.blk b = m.H.blk b from rfl, this] at hb
   cases hb
  exact ⟨l, (h5 b hne).trans e1, RvL.ev (Ev.fz hi hg h1 h2 h3 h4 h5 h6) _ l e2, e3⟩
 tok := fun t' i' ht' => by
  rcases gu_tok ht' with ⟨rfl, rfl, e⟩ | ⟨hne, ht, e2⟩
  ·obtain ⟨k1, k2, _, _⟩ := r.tok t' i hi
   refine ⟨k1, k2, ⟨[], by rw [e]; exact World.ownsRow_nil _ _ _ _, fun rows hr => ?_⟩, fun b hb => by rw [e] at hb; simp [Value.ownBlock] at hb⟩
   simp only [Own.mu, Option.some.injEq] at hr
   subst hr
   exact ⟨by simp [RvL], fun _ h => by simp at h, fun _ h => by simp at h⟩
  ·obtain ⟨k1, k2, ⟨xs, k3, k5⟩, k4⟩ := r.tok t' i' ht
   rw [e2]
   refine ⟨k1, k2, ⟨xs, ownsRow_mono k3 fun k hk => h5 k fun e => ?_, fun rows hr => ⟨RvL.ev (Ev.fz hi hg h1 h2 h3 h4 h5 h6) _ _ (k5 rows hr).1, (k5 rows hr).2⟩⟩, fun b hb => ?_⟩
   ·subst e
    exact hne ((r.tok t i hi).2.2.2 k hg |>.2 t' i' ht hk)
   ·obtain ⟨g1, g2⟩ := k4 b hb
    refine ⟨g1, fun t2 i2 h2' hb2 => ?_⟩
    rcases gu_tok h2' with ⟨_, _, e⟩ | ⟨_, e1, e3⟩
    ·rw [e] at hb2; simp [Value.ownBlock] at hb2
    ·rw [e3] at hb2; exact g2 t2 i2 e1 hb2
end
section
variable {P : Program} {ρ : Ren} {H : AHeap}
theorem cc_calls (L : Lays.n240 P ρ) (X : Builder.X72 P ρ) {T : TypeId} {b : Nat} {a : AV} {cs : List AV} (hl : liesAt P P.depth T ((cs.length + 1) / P.cellsOf T) 0 (ρ.t 72) 1 = true) (hb : H.blk b = some (T, a :: cs)) (ha : a = .raw (.pointer none) ∨ a = .ptr b 0) :
  ACalls P (ρ.f 240) [.ptr b 0] H fun o H' => o = .ret (.tup []) ∧ H' = H.setB b T (.ptr b 0 :: cs) := by
 intro m vs hH rh hv
 subst hH
 simp only [RvL, Rv] at hv
 obtain ⟨_, _, rfl, rfl, rfl⟩ := hv
 obtain ⟨l, g1, g2, g3⟩ := rh.blk b T _ hb
 have hlen := RvL.length g2
 simp only [RvL] at g2
 obtain ⟨v, l, rfl, hva, hvl⟩ := g2
 have hlt : b < m.w.heap.size := (Array.getElem?_eq_some_iff.1 g1).1
 have c0 : m.w.cell? ⟨b, 0, none⟩ = some v := by simp [World.cell?, g1]
 have e1 : RvL m (.ptr b 0 :: cs) (.pointer (some ⟨b, 0, none⟩) :: l) := by simp only [RvL, Rv]; exact ⟨_, _, rfl, rfl, hvl⟩
 have e2 : ∀ v ∈ Value.pointer (some ⟨b, 0, none⟩) :: l, v.oneCell' = true := fun x hx => by
  rcases List.mem_cons.1 hx with rfl | hx
  ·rfl
  ·exact g3 x (List.mem_cons_of_mem _ hx)
 rcases ha with rfl | rfl
 ·simp only [Rv] at hva
  subst hva
  have hsh : m.w.shape? b = some (T, cs.length + 1) := by
   simp only [List.length_cons] at hlen
   simp [World.shape?, g1]; omega
  have hfz : m.w.frozen? ⟨b, 0, none⟩ = false := by simp [World.frozen?, g1]
  refine (copyCheck_T L X (Nat.succ_pos _) hl b m.w c0 hsh hfz).mono ?_
  rintro e w' ⟨rfl, rfl⟩
  have h5 : ∀ k, k ≠ b → (m.w.setCell ⟨b, 0, none⟩ (.pointer (some ⟨b, 0, none⟩))).heap[k]? = m.w.heap[k]? := fun k hk => by
   simp only [World.setCell, Array.getElem?_modify]
   rw [if_neg (fun e => hk e.symm)]
  have h6 : (m.w.setCell ⟨b, 0, none⟩ (.pointer (some ⟨b, 0, none⟩))).heap[b]? = some (.cells ⟨.pointer (some ⟨b, 0, none⟩) :: l⟩ T (0, 0)) := by
   simp [World.setCell, Array.getElem?_modify, g1]
  exact ⟨.ret (.tup []), _, m.L, m.T, RH.st rh hb rfl rfl rfl (by simp [World.setCell]) h5 h6 e1 e2, Ev.st rh hb rfl rfl rfl (by simp [World.setCell]) h5, ⟨_, rfl, by simp only [Rv, RvL]; exact ⟨_, rfl, rfl⟩⟩, rfl, rfl⟩
 ·simp only [Rv] at hva
  subst hva
  refine (Any.Builder_copyCheck_used L X b m.w c0).mono ?_
  rintro e w' ⟨rfl, rfl⟩
  exact ⟨.ret (.tup []), _, m.L, m.T, RH.st (w' := m.w) rh hb rfl rfl rfl rfl (fun _ _ => rfl) g1 e1 e2, Ev.st (w' := m.w) rh hb rfl rfl rfl rfl (fun _ _ => rfl), ⟨_, rfl, by simp only [Rv, RvL]; exact ⟨_, rfl, rfl⟩⟩, rfl, rfl⟩
theorem str_calls (L : Lays.n169 P ρ) (X : Builder.Extra P ρ) {T : TypeId} {b t : Nat} {cs : List AV} {l : List UInt8} (hb : H.blk b = some (T, cs)) (hc : cs[1]? = some (.own t 1 (l.map byR))) (ht : H.tok t = some (.frz (ρ.t 5) 1 l.length)) (h0 : l ≠ []) :
  ACalls P (ρ.f 169) [.ptr b 0] H fun o H' => o = .ret (.str l) ∧ H' = H.setT t (.mu (ρ.t 5) 1 (l.length + 1) []) := by
 intro m vs hH rh hv
 subst hH
 simp only [RvL, Rv] at hv
 obtain ⟨_, _, rfl, rfl, rfl⟩ := hv
 have hl0 : l.length ≠ 0 := by simpa using h0
 obtain ⟨lv, g1, g2, g3⟩ := rh.blk b T _ hb
 obtain ⟨v, hv1, hv2⟩ := RvL.get g2 1 _ hc
 simp only [Rv, List.length_map] at hv2
 obtain ⟨⟨a, len, cap, rfl, rfl, ⟨hcap, hmax⟩, h4⟩, hT, h6⟩ := hv2
 obtain ⟨_, h6'⟩ := h6 _ ht
 have hLt : m.L t = .slice a l.length cap := (h6' rfl).1
 obtain ⟨_, _, ⟨xs, k3, _⟩, k4⟩ := rh.tok t _ ht
 rcases h4 with h4 | ⟨g, o, rfl, hR⟩
 ·exact absurd h4 hl0
 obtain ⟨g', cap', cur, hv, _, hg, hnc, hcm, hcs, htake⟩ : ∃ g' cap' cur, m.L t = .slice (some ⟨g', 0, none⟩) l.length cap' ∧ 0 ≤ g' ∧ m.w.heap[g']? = some (.cells cur (ρ.t 5) (0, 0)) ∧ l.length ≤ cap' ∧ cap' ≤ maxLen ∧ cur.size = cap' * 1 ∧ cur.toList.take (l.length * 1) = xs := by
  rcases k3.2 with ⟨_, hz⟩ | ⟨g', cap', cur, r⟩
  ·exact absurd hz hl0
  ·exact ⟨g', cap', cur, r⟩
 rw [hLt] at hv
 obtain ⟨hgo, rfl⟩ : (g = g' ∧ o = 0) ∧ cap = cap' := by
  injection hv with e1 _ e3
  injection e1 with e1
  injection e1 with e1 e2
  exact ⟨⟨e1, e2⟩, e3⟩
 obtain ⟨rfl, rfl⟩ := hgo
 have hg1 : (m.L t).ownBlock = some g := by rw [hLt]; rfl
 have hcell : ∀ j x, l[j]? = some x → m.w.drew.cell? ((⟨g, 0, none⟩ : Addr).add j) = some (.int .u8 x.toNat) := fun j x hx => by
  obtain ⟨_, hC⟩ := RvR.get hR j (byR x) (by simp [hx])
  simp only [byR, RvC, Rv] at hC
  obtain ⟨⟨_, q1, _, _, rfl⟩, _⟩ := hC
  have : m.w.drew.cell? ⟨g, 0 + j * 1, none⟩ = some (.int .u8 x.toNat) := q1
  rw [Nat.zero_add, Nat.mul_one] at this
  unfold Addr.add
  by_cases hj : j = 0
  ·subst hj; exact this
  ·rw [if_neg hj]; show m.w.drew.cell? ⟨g, 0 + j, none⟩ = _; rw [Nat.zero_add]; exact this
 have c1 : m.w.drew.cell? ⟨b, 1, none⟩ = some (.slice (some ⟨g, 0, none⟩) l.length cap) := by
  show m.w.cell? ⟨b, 1, none⟩ = _
  simp [World.cell?, g1, hv1]
 refine (string_T L X b g cap cur l m.w c1 h0 hg hnc hmax hcs hcell).mono ?_
 rintro e w' ⟨rfl, rfl⟩
 have hf : (m.w.drew.freeze ⟨g, 0, none⟩ l.length) = { m.w.drew with heap := m.w.heap.modify g fun
   | .cells c elem (lo, hi) => .cells c elem (if lo == hi then (0, 0 + l.length) else (min lo 0, max hi (0 + l.length)))
   | o => o } := by
  unfold World.freeze
  rw [if_neg hl0]
  rfl
 have q5 : ∀ k, k ≠ g → (m.w.drew.freeze ⟨g, 0, none⟩ l.length).heap[k]? = m.w.heap[k]? := fun k hk => by
  rw [hf]
  simp only [Array.getElem?_modify]
  rw [if_neg (fun e => hk e.symm)]
 have q6 : ∀ k o, (m.w.drew.freeze ⟨g, 0, none⟩ l.length).cell? ⟨k, o, none⟩ = m.w.cell? ⟨k, o, none⟩ := fun k o => by
  by_cases e : k = g
  ·subst e
   rw [hf]
   have hg' : m.w.heap[k]? = some (.cells cur (ρ.t 5) (0, 0)) := hg
   simp [World.cell?, Array.getElem?_modify, hg']
  ·exact World.cell?_of_block (a := ⟨k, o, none⟩) (q5 k e)
 have q4 : (m.w.drew.freeze ⟨g, 0, none⟩ l.length).heap.size = m.w.heap.size := by rw [hf]; simp
 have q1 : (m.w.drew.freeze ⟨g, 0, none⟩ l.length).os = m.w.os := by rw [hf]; rfl
 have q2 : (m.w.drew.freeze ⟨g, 0, none⟩ l.length).tape = m.w.tape := by rw [hf]; rfl
 have q3 : (m.w.drew.freeze ⟨g, 0, none⟩ l.length).output = m.w.output := by rw [hf]; rfl
 exact ⟨.ret (.str l), _, _, m.T, RH.fz rh ht hg1 q1 q2 q3 q4 q5 q6, Ev.fz ht hg1 q1 q2 q3 q4 q5 q6, ⟨_, rfl, by simp only [Rv]; exact ⟨trivial, by omega⟩⟩, rfl, rfl⟩
end
end Go.Aw
set_option linter.unusedVariables false
set_option linter.unusedSimpArgs false
namespace Go.Aw
open Go Go.Proofs Go.Shelf Go.RowKit
variable {P : Program} {ρ : Ren} {c : CS}
def okAddr (b : Nat) : AV → Bool
 | .raw (.pointer none) => true
 | .ptr b' 0 => b' == b
 | _ => false
theorem cc_fc (L : Lays.n240 P ρ) (X : Builder.X72 P ρ) {T : TypeId} {b : Nat} {a : AV} {cs : List AV} (hl : liesAt P P.depth T ((cs.length + 1) / P.cellsOf T) 0 (ρ.t 72) 1 = true) (hb : c.H.blk b = some (T, a :: cs)) (ha : okAddr b a = true) : FC P (ρ.f 240) [.ptr b 0] c (Rt (.tup []) (c.setB b T (.ptr b 0 :: cs))) := by
 intro H0 s xs' H hv hr
 simp only [RnL, Rn] at hv
 obtain ⟨_, _, rfl, ⟨x, hx, rfl⟩, rfl⟩ := hv
 obtain ⟨y, cs', g1, g2, g3⟩ := hr.blk _ _ _ hb
 rw [hx] at g1
 cases g1
 have hlen := RnL.length g3
 simp only [RnL] at g3
 obtain ⟨a', cs', rfl, h1, h2⟩ := g3
 have hok : a' = .raw (.pointer none) ∨ a' = .ptr x 0 := by
  unfold okAddr at ha
  split at ha
  ·left; simpa only [Rn] using h1
  ·right
   simp only [beq_iff_eq] at ha
   subst ha
   simp only [Rn] at h1
   obtain ⟨z, e1, e2⟩ := h1
   rw [hx] at e1
   cases e1
   exact e2
  ·cases ha
 simp only [List.length_cons] at hlen
 refine (cc_calls L X (by rw [show cs'.length = cs.length by omega]; exact hl) g2 hok).mono fun o H' ⟨e1, e2⟩ => ?_
 subst e1 e2
 refine ⟨.ret (.tup []), _, by exact AVLe.refl _, HSub.refl _, s, .ret (.tup []), _, Sg.Le.refl s, ⟨rfl, rfl⟩, by simp only [RnO, Rn, RnL]; exact ⟨_, rfl, rfl⟩, hr.setB hx ?_⟩
 simp only [RnL, Rn]
 exact ⟨_, _, rfl, ⟨x, hx, rfl⟩, h2⟩
theorem byR_rn {s : Sg} : ∀ (l : List UInt8) (r : List (List AV)), RnR s (l.map byR) r → r = l.map byR
 | [], _, h => by simp only [List.map_nil, RnR] at h; exact h
 | x :: l, _, h => by
  simp only [List.map_cons, RnR, byR, RnL, Rn] at h
  obtain ⟨_, _, rfl, ⟨_, _, rfl, rfl, rfl⟩, h⟩ := h
  rw [byR_rn l _ h]
  rfl
theorem str_fc (L : Lays.n169 P ρ) (X : Builder.Extra P ρ) {T : TypeId} {b t : Nat} {cs : List AV} {l : List UInt8} (hb : c.H.blk b = some (T, cs)) (hc : cs[1]? = some (.own t 1 (l.map byR))) (ht : c.H.tok t = some (.frz (ρ.t 5) 1 l.length)) (h0 : l ≠ []) :
  FC P (ρ.f 169) [.ptr b 0] c (Rt (.str l) (c.setT t (.mu (ρ.t 5) 1 (l.length + 1) []))) := by
 intro H0 s xs' H hv hr
 simp only [RnL, Rn] at hv
 obtain ⟨_, _, rfl, ⟨x, hx, rfl⟩, rfl⟩ := hv
 obtain ⟨y, cs', g1, g2, g3⟩ := hr.blk _ _ _ hb
 rw [hx] at g1
 cases g1
 obtain ⟨z, i', k1, k2, k3⟩ := hr.tok _ _ ht
 obtain ⟨e1, e2, e3, e4, e5⟩ := k3
 obtain ⟨v, hv1, hv2⟩ := RnL.get g3 1 _ hc
 simp only [Rn] at hv2
 obtain ⟨z', r', q1, rfl, q3⟩ := hv2
 rw [k1] at q1
 cases q1
 have hr' := byR_rn _ _ q3
 subst hr'
 have hi : i' = .frz (ρ.t 5) 1 l.length := by
  obtain ⟨i1, i2, i3, i4, i5⟩ := i'
  simp only [Own.frz] at e1 e2 e3 e4 e5 ⊢
  subst e1 e2 e3 e4 e5
  rfl
 subst hi
 refine (str_calls L X g2 hv1 k2 h0).mono fun o H' ⟨e1, e2⟩ => ?_
 subst e1 e2
 exact ⟨.ret (.str l), _, by exact AVLe.refl _, HSub.refl _, s, .ret (.str l), _, Sg.Le.refl s, ⟨rfl, rfl⟩, by simp only [RnO, Rn], hr.setT k1 ⟨rfl, rfl, rfl, rfl, [], rfl, by simp only [RnR]⟩⟩
end Go.Aw
set_option linter.unusedVariables false
namespace Go.Aw
open Go Go.Proofs Go.Shelf Go.RowKit
variable {P : Program} {ρ : Ren}
set_option maxHeartbeats 1000000 in
theorem split_byte (L : Lays.n146 P ρ) (hi9 : (P.info? (ρ.t 9)).map (fun i => (i.zero, i.size, i.bytes)) = some (some (.string ByteArray.empty), 1, 16)) (s : ByteArray) (b : UInt8) (w : World) (hs : s.size < 4294967281) :
  Calls P (ρ.f 146) #[.string s, .string ⟨#[b]⟩] w fun e w' =>
   e = .returned (.slice (some ⟨w.heap.size, 0, none⟩) (Lib.countB s ⟨#[b]⟩ + 1) (Lib.countB s ⟨#[b]⟩ + 1)) ∧ w' = w.alloc (.cells ((Lib.splitB ⟨#[b]⟩ 0 (Lib.countB s ⟨#[b]⟩) s).map Value.string).toArray (ρ.t 9)) := by
 have h1 : 1 ≤ (⟨#[b]⟩ : ByteArray).size := Nat.le_refl _
 have hle := Lib.countB_le ⟨#[b]⟩ h1 s.size s (Nat.le_refl _)
 have hlen := Lib.splitB_all ⟨#[b]⟩ h1 0 _ s rfl
 have hC : ∀ w, Calls P (ρ.f 138) #[.string s, .string ⟨#[b]⟩] w fun e w' => e = .returned (.int .i64 (Lib.countB s ⟨#[b]⟩)) ∧ w' = w := fun w => by
  refine (Any.strings_Count_one { L with } s b w).mono fun e w' ⟨he, hw⟩ => ⟨?_, hw⟩
  rw [he]
  show _ = Ending.returned (Value.int .i64 ((Lib.count s.data.toList [b] : Nat) : Int))
  rw [Lib.count_one]
  rfl
 have hI : ∀ (x : ByteArray) (w : World), Calls P (ρ.f 143) #[.string x, .string ⟨#[b]⟩] w fun e w' => e = .returned (.int .i64 (Lib.indexB x ⟨#[b]⟩)) ∧ w' = w := fun x w => by
  refine (Any.strings_Index_one { L with } x b w).mono fun e w' ⟨he, hw⟩ => ⟨?_, hw⟩
  rw [he]
  show _ = Ending.returned (Value.int .i64 (Lib.index x.data.toList [b]))
  rw [Lib.index_one]
 have c := Any.strings_genSplit_core { L with } hi9 s ⟨#[b]⟩ 0 (-1) (Lib.countB s ⟨#[b]⟩ + 1) w hs h1 (Nat.zero_le _) (fun x c hx => hI x _) (hC w) (by decide) (by decide) (by rw [if_pos (by decide)]; omega)
 rw [Nat.add_sub_cancel, hlen] at c
 have e2 : Lib.cellsOf (Lib.splitB ⟨#[b]⟩ 0 (Lib.countB s ⟨#[b]⟩) s) (Lib.countB s ⟨#[b]⟩ + 1) = ((Lib.splitB ⟨#[b]⟩ 0 (Lib.countB s ⟨#[b]⟩) s).map Value.string).toArray := by rw [← hlen]; exact Lib.cellsOf_full _
 rw [e2] at c
 have t3 := L.t3; have t9 := L.t9; have t31 := L.t31
 have a3 := L.a3; have a9 := L.a9; have a31 := L.a31
 have z3 := L.z3; have v3 := L.v3; have z9 := L.z9; have v9 := L.v9; have z31 := L.z31; have v31 := L.v31
 have e221 : ∀ args w, (callFunc (ρ.f 221) args).run P w = .ok (.enter (ρ.f 221) args) w := enters_of L.f221 (by kernel_rfl) rfl
 go_enter L.f146, Body.n146_ntmps ρ
 go_wp2_with (go_at_fn (ρ.f 221); refine c.mono ?_; rintro e w' ⟨rfl, hw⟩; rw [hw])
 go_ret
 exact ⟨rfl, rfl⟩
end Go.Aw
set_option linter.unusedVariables false
set_option linter.unusedSimpArgs false
namespace Go.Aw
open Go Go.Proofs Go.Shelf Go.RowKit
variable {P : Program} {ρ : Ren} {H : AHeap} {c : CS}
theorem grow_calls (L : Lays8.n4 P ρ) {i0 : TypeInfo} {z : Value} (hi0 : P.info? (ρ.t 25) = some i0) (hz0 : i0.zero = some z) (hs0 : 0 < i0.size) (hzs : z.cells.size = i0.size) {n : Nat} (h0 : 0 < n) (hb : n * i0.bytes ≤ 140737488355328) (hn : n ≤ 4611686018427387904) :
  ACalls P (ρ.f 4) [.nilS, .int .i64 n] H fun o H' => ∃ t, H.tok t = none ∧ o = .ret (.own t i0.size []) ∧ H' = H.setT t (.frz (ρ.t 25) i0.size 0) := by
 intro m vs hH rh hv
 subst hH
 simp only [RvL, Rv] at hv
 obtain ⟨_, _, rfl, rfl, _, _, rfl, rfl, rfl⟩ := hv
 refine (Any8.slices_Grow_grow L i0 z hi0 hz0 hs0 none 0 0 n [] m.w (Nat.le_refl _) (by omega) (by simpa using hb) (by omega) (by simp) (fun _ => rfl) (fun a h => by cases h)).mono ?_
 rintro e w' ⟨rfl, rfl⟩
 simp only [Nat.zero_add, Nat.sub_zero]
 have hge := grownCap_ge m.w n 0 (ρ.t 25)
 have hle := grownCap_le_maxLen m.w n 0 (ρ.t 25) (by unfold maxLen; omega)
 generalize grownCap m.w n 0 (ρ.t 25) = cap at hge hle
 generalize hob : Obj.cells ([].toArray ++ Builtin.zeroCells z.cells n ++ Builtin.zeroCells z.cells (cap - n)) (ρ.t 25) = ob
 have hnew : (m.w.drew.alloc ob).heap[m.w.heap.size]? = some ob := heap_drew_new m.w ob
 have hv : ∀ b, (Value.slice (some ⟨m.w.heap.size, 0, none⟩) 0 cap).ownBlock = some b → m.w.heap.size ≤ b := fun b e => by simp [Value.ownBlock] at e; omega
 have r := RH.nt rh (w' := m.w.drew.alloc ob) (v := .slice (some ⟨m.w.heap.size, 0, none⟩) 0 cap) (o := .frz (ρ.t 25) i0.size 0) rfl rfl rfl (by rw [show (m.w.drew.alloc ob).heap.size = m.w.drew.heap.size + 1 by simp]; exact Nat.le_succ _) (fun b hb => heap_drew_alloc m.w ob b hb) hv (by simp [Own.frz]; omega)
  ⟨[], ⟨by simp [Own.frz, Own.len], .inr ⟨m.w.heap.size, cap, [].toArray ++ Builtin.zeroCells z.cells n ++ Builtin.zeroCells z.cells (cap - n), rfl, Nat.zero_le _, by rw [hnew, ← hob]; rfl, Nat.zero_le _, hle, by
   simp only [Array.size_append, zeroCells_size, hzs, Own.frz]
   simp only [List.size_toArray, List.length_nil, Nat.zero_add]
   rw [← Nat.add_mul]
   congr 1
   omega, by simp [Own.len, Own.frz]⟩⟩, fun _ h => by cases h⟩
 have e := Ev.nt rh (w' := m.w.drew.alloc ob) (v := .slice (some ⟨m.w.heap.size, 0, none⟩) 0 cap) (o := .frz (ρ.t 25) i0.size 0) rfl rfl rfl (by rw [show (m.w.drew.alloc ob).heap.size = m.w.drew.heap.size + 1 by simp]; exact Nat.le_succ _) (fun b hb => heap_drew_alloc m.w ob b hb) hv
 exact ⟨.ret (.own m.T i0.size []), _, _, _, r, e, ⟨_, rfl, own_rv_nil r (i := .frz (ρ.t 25) i0.size 0) (by simp [Mem.nt, AHeap.setT]) (by simp [Mem.nt]) ⟨_, cap, rfl, hle⟩ rfl rfl⟩, m.T, tok_new rh, rfl, rfl⟩
theorem grow_fc (L : Lays8.n4 P ρ) {i0 : TypeInfo} {z : Value} (hi0 : P.info? (ρ.t 25) = some i0) (hz0 : i0.zero = some z) (hs0 : 0 < i0.size) (hzs : z.cells.size = i0.size) {n : Nat} (h0 : 0 < n) (hb : n * i0.bytes ≤ 140737488355328) (hn : n ≤ 4611686018427387904) :
  FC P (ρ.f 4) [.nilS, .int .i64 n] c (Rt (.own c.nt i0.size []) (c.addT (.frz (ρ.t 25) i0.size 0))) := by
 intro H0 s xs' H hv hr
 simp only [RnL, Rn] at hv
 obtain ⟨_, _, rfl, rfl, _, _, rfl, rfl, rfl⟩ := hv
 refine (grow_calls L hi0 hz0 hs0 hzs h0 hb hn).mono fun o H' ⟨t, e0, e1, e2⟩ => ?_
 subst e1 e2
 refine ⟨.ret (.own t i0.size []), _, by exact AVLe.refl _, HSub.refl _, ⟨s.b, s.t ++ [t]⟩, .ret (.own c.nt i0.size []), _, Sg.leT s t, ⟨rfl, rfl⟩, ?_, hr.addT OwR.frz e0⟩
 simp only [RnO, Rn, RnR]
 exact ⟨t, [], by rw [hr.nt]; exact app_right, rfl, rfl⟩
theorem grow0_fc (L : Lays8.n4 P ρ) : FC P (ρ.f 4) [.nilS, .int .i64 0] c (Rt .nilS c) := by
 intro H0 s xs' H hv hr
 simp only [RnL, Rn] at hv
 obtain ⟨_, _, rfl, rfl, _, _, rfl, rfl, rfl⟩ := hv
 have : ACalls P (ρ.f 4) [.nilS, .int .i64 0] H fun o H' => o = .ret .nilS ∧ H' = H := by
  intro m vs hH rh hv
  subst hH
  simp only [RvL, Rv] at hv
  obtain ⟨_, _, rfl, rfl, _, _, rfl, rfl, rfl⟩ := hv
  refine (Any8.slices_Grow_room L none 0 0 0 m.w (Nat.le_refl _) (by omega) (by omega) (by omega)).mono ?_
  rintro e w' ⟨rfl, rfl⟩
  exact ⟨.ret .nilS, m.H, m.L, m.T, rh, Ev.refl m, ⟨_, rfl, by simp only [Rv]⟩, rfl, rfl⟩
 refine this.mono fun o H' ⟨e1, e2⟩ => ?_
 subst e1 e2
 exact ⟨.ret .nilS, _, by exact AVLe.refl _, HSub.refl _, s, .ret .nilS, c, Sg.Le.refl s, ⟨rfl, rfl⟩, by simp only [RnO, Rn], hr⟩
end Go.Aw
set_option linter.unusedVariables false
namespace Go.Aw.T.N
open Go Go.Aw Go.Proofs Go.RowKit
theorem GlobW.below {w w' : World} (h : GlobW w) {n : Nat} (hn : w.heap.size ≤ n) (hb : Below n w w') : GlobW w' := fun p hp => by
 obtain ⟨ob, h1, h2⟩ := h p hp
 exact ⟨ob, (hb.block p.1 (Nat.lt_of_lt_of_le (Array.getElem?_eq_some_iff.1 h1).1 hn)).trans h1, h2⟩
theorem pure_of_plain {P : Program} {f : FuncId} {args : List AV} {r : AV} (h : ∀ (m : Mem) (vs : List Value), GlobW m.w → RvL m args vs → Calls P f ⟨vs⟩ m.w fun e w' => ∃ v, e = .returned v ∧ (∀ m', Rv m' r v) ∧ Below m.w.heap.size m.w w') : Pure P f args r := by
 intro H m vs hH rh hv
 subst hH
 refine (h m vs rh.glob hv).mono fun e w' ⟨v, e1, e2, hb⟩ => ?_
 exact ⟨.ret r, m.H, m.L, m.T, RH.hid rh hb.os hb.tape hb.output hb.size hb.block, Ev.hid hb.os hb.tape hb.output hb.size hb.block, ⟨v, e1, e2 _⟩, rfl, rfl⟩
theorem dec_step {u : Nat} (h : ¬ u < 10) : Lib.decDigits u = Lib.decDigits (u / 10) ++ [UInt8.ofNat (48 + u % 10)] := by rw [Lib.decDigits, dif_neg h]
theorem dec_small {u : Nat} (h : u < 10) : Lib.decDigits u = [UInt8.ofNat (48 + u)] := by rw [Lib.decDigits, dif_pos h]
theorem dec_len (u : Nat) : (Lib.decDigits u).length ≤ u + 1 := by
 induction u using Nat.strongRecOn with
 | ind u ih =>
  by_cases h : u < 10
  ·rw [dec_small h]; simp
  ·rw [dec_step h]
   have := ih (u / 10) (by omega)
   rw [List.length_append, List.length_cons, List.length_nil]
   omega
theorem itoa_len {z : Int} (h0 : -1000000000 ≤ z) (h1 : z ≤ 1000000000) : (Lib.itoa z).length ≤ 1000000002 := by
 unfold Lib.itoa
 split
 ·have := dec_len z.natAbs; simp only [List.length_cons]; omega
 ·have := dec_len z.toNat; omega
theorem below_grow (w : World) (q : Nat) (os : Array Obj) : Below w.heap.size w (Go.Sort.grow (w.drewN q) os) :=
 ⟨rfl, rfl, rfl, by simp [Go.Sort.grow, World.drewN], fun i hi => by
  show ((w.drewN q).heap ++ os)[i]? = _
  rw [Array.getElem?_append_left (by exact hi)]
  rfl⟩
theorem gTab : Tryz.prog.globalNamed "internal/strconv.uint64pow10" = some 1 := by kernel_rfl
theorem glob_tab {w : World} (hG : GlobW w) : Lib.TabIs Tryz.prog w "internal/strconv.uint64pow10" .u64 Lib.pow10Tab := by
 obtain ⟨ob, h1, T, fr, h2⟩ := hG (1, _) (by simp only [globs]; exact List.mem_cons_self)
 subst h2
 simp only at h1
 unfold Lib.TabIs World.var?
 rw [gTab]
 simp only [Option.bind_some, h1]
 rfl
theorem p123 (n : Int) (h0 : -1000000000 ≤ n) (h1 : n ≤ 1000000000) : Pure Tryz.prog 123 [.int .i64 n] (.str (Lib.itoa n)) := by
 refine pure_of_plain fun m vs hG hv => ?_
 simp only [RvL, Rv] at hv
 obtain ⟨_, _, rfl, rfl, rfl⟩ := hv
 refine (Any.strconv_Itoa Tryz.laysM171 n (by omega) (by omega) m.w (glob_tab hG)).mono ?_
 rintro e w' ⟨rfl, q, os, rfl⟩
 have hl := itoa_len h0 h1
 exact ⟨_, rfl, fun m' => by simp only [Rv]; exact ⟨trivial, by unfold maxLen; omega⟩, below_grow m.w q os⟩
theorem p177 (n : Nat) (hn : n ≤ 1000000) : Pure Tryz.prog 177 [.str [9], .int .i64 (n : Int)] (.str (List.replicate n 9)) := by
 refine pure_of_plain fun m vs hG hv => ?_
 simp only [RvL, Rv] at hv
 obtain ⟨v1, t1, rfl, h1, v2, t2, rfl, h2, rfl⟩ := hv
 obtain ⟨h1, _⟩ := h1
 subst h1
 subst h2
 refine (Any.strings_Repeat Tryz.lays105 Tryz.extra105 ⟨⟨[9]⟩⟩ n m.w (by omega) (by simp [ByteArray.size]; omega)).mono ?_
 rintro e w' ⟨rfl, hb⟩
 refine ⟨_, rfl, fun m' => ?_, hb⟩
 have e := Go.Lib.repeatL_replicate 9 1 n
 rw [Nat.mul_one] at e
 simp only [Rv]
 refine ⟨?_, by simp [maxLen]; omega⟩
 change Value.string ⟨(Go.Lib.repeatL (List.replicate 1 9) n).toArray⟩ = _
 rw [e]
theorem rvR_cells {m : Mem} : ∀ {xs : List (List UInt8)} {b o : Nat}, RvR m 1 (xs.map srow) b o → ∀ (j : Nat) x, xs[j]? = some x → m.w.cell? ⟨b, o + j, none⟩ = some (.string ⟨⟨x⟩⟩) ∧ b < m.w.heap.size
 | [], _, _, _, j, x, hx => by simp at hx
 | s :: xs, b, o, h, j, x, hx => by
  simp only [List.map_cons, srow, RvR, RvC, Rv] at h
  obtain ⟨_, ⟨⟨v, h1, h2, h3, rfl, _⟩, _⟩, h4⟩ := h
  cases j with
  | zero => simp at hx; subst hx; exact ⟨h1, h3.lt⟩
  | succ j =>
   have := rvR_cells h4 j x (by simpa using hx)
   rw [show o + 1 + j = o + (j + 1) by omega] at this
   exact this
theorem p125 (xs : List (List UInt8)) (sep : List UInt8) (hN : xs.length ≤ 1000000) (hlen : (Lib.join xs sep).length ≤ 1000000000) : Pure Tryz.prog 125 [.vs 1 (xs.map srow), .str sep] (.str (Lib.join xs sep)) := by
 refine pure_of_plain fun m vs hG h => ?_
 simp only [RvL, Rv] at h
 obtain ⟨_, _, rfl, ⟨a, len, cap, rfl, rfl, ⟨hc1, hc2⟩, hcase⟩, _, _, rfl, ⟨rfl, _⟩, rfl⟩ := h
 rw [List.length_map] at hcase hc1 ⊢
 have fin : ∀ m' : Mem, Rv m' (.str (Lib.join xs sep)) (.string ⟨⟨Lib.join xs sep⟩⟩) := fun m' => by simp only [Rv]; exact ⟨trivial, by unfold maxLen; omega⟩
 rcases hcase with h0 | ⟨b, o, rfl, hR⟩
 ·have hx : xs = [] := List.length_eq_zero_iff.1 h0
  subst hx
  refine (Any.strings_Join_none Tryz.lays156 Tryz.extra156 a cap ⟨⟨sep⟩⟩ m.w).mono ?_
  rintro e w' ⟨rfl, rfl⟩
  exact ⟨_, rfl, fin, Below.refl _ _⟩
 ·by_cases h0 : xs.length = 0
  ·have hx : xs = [] := List.length_eq_zero_iff.1 h0
   subst hx
   refine (Any.strings_Join_none Tryz.lays156 Tryz.extra156 _ cap ⟨⟨sep⟩⟩ m.w).mono ?_
   rintro e w' ⟨rfl, rfl⟩
   exact ⟨_, rfl, fin, Below.refl _ _⟩
  ·have hcells := rvR_cells hR
   have hx0 := List.getElem?_eq_getElem (l := xs) (i := 0) (by omega)
   have ej : (xs.map fun s => (⟨⟨s⟩⟩ : ByteArray)).map (·.data.toList) = xs := by
    rw [List.map_map]
    exact (List.map_congr_left (fun _ _ => rfl)).trans (List.map_id xs)
   have := Any.strings_Join Tryz.lays156 Tryz.extra156 b o cap (xs.map fun s => ⟨⟨s⟩⟩) ⟨⟨sep⟩⟩ m.w (fun j x hx => by
    rw [List.getElem?_map, Option.map_eq_some_iff] at hx
    obtain ⟨y, hy, rfl⟩ := hx
    exact (hcells j y hy).1) (hcells 0 _ hx0).2 (by simp; omega) (by simpa using hc1) (by rw [ej]; show (Lib.join xs sep).length ≤ _; omega)
   rw [ej, List.length_map] at this
   refine this.mono ?_
   rintro e w' ⟨rfl, hb⟩
   exact ⟨_, rfl, fin, hb⟩
theorem p144 (s : List UInt8) (r : Int) (h0 : 0 ≤ r) (h1 : r < 128) : Pure Tryz.prog 144 [.str s, .int .i32 r] (.bool (decide (0 ≤ Lib.indexByte s r.toNat.toUInt8))) := by
 refine pure_of_plain fun m vs hG hv => ?_
 simp only [RvL, Rv] at hv
 obtain ⟨_, _, rfl, ⟨rfl, _⟩, _, _, rfl, rfl, rfl⟩ := hv
 refine (Any.strings_ContainsRune_ascii Tryz.lays151 ⟨⟨s⟩⟩ r m.w h0 h1).mono ?_
 rintro e w' ⟨rfl, rfl⟩
 exact ⟨_, rfl, fun m' => by simp only [Rv], Below.refl _ _⟩
theorem p147 (s : List UInt8) (c : UInt8) : Pure Tryz.prog 147 [.str s, .str [c]] (.bool (decide (0 ≤ Lib.indexByte s c))) := by
 refine pure_of_plain fun m vs hG hv => ?_
 simp only [RvL, Rv] at hv
 obtain ⟨_, _, rfl, ⟨rfl, _⟩, _, _, rfl, ⟨rfl, _⟩, rfl⟩ := hv
 refine (Any.strings_Contains_one Tryz.lays144 ⟨⟨s⟩⟩ c m.w).mono ?_
 rintro e w' ⟨rfl, rfl⟩
 exact ⟨_, rfl, fun m' => by simp only [Rv], Below.refl _ _⟩
theorem p146 (s : List UInt8) (c : Int) : Pure Tryz.prog 146 [.str s, .int .u8 c] (.int .i64 (Lib.indexByte s c.toNat.toUInt8)) := by
 refine pure_of_plain fun m vs hG hv => ?_
 simp only [RvL, Rv] at hv
 obtain ⟨_, _, rfl, ⟨rfl, _⟩, _, _, rfl, rfl, rfl⟩ := hv
 refine (Any.strings_IndexByte { Tryz.lays151 with } ⟨⟨s⟩⟩ c m.w).mono ?_
 rintro e w' ⟨rfl, rfl⟩
 exact ⟨_, rfl, fun m' => by simp only [Rv], Below.refl _ _⟩
def dotB : ByteArray := ⟨#[46]⟩
def splitP (s : List UInt8) : List (List UInt8) := (Lib.splitB dotB 0 (Lib.countB ⟨⟨s⟩⟩ dotB) ⟨⟨s⟩⟩).map (·.data.toList)
theorem splitB_le (sep : ByteArray) : ∀ (k : Nat) (s : ByteArray), ∀ x ∈ Lib.splitB sep 0 k s, x.size ≤ s.size
 | 0, s, x, h => by rw [Lib.splitB_zero] at h; simp at h; subst h; exact Nat.le_refl _
 | k + 1, s, x, h => by
  unfold Lib.splitB at h
  split at h
  ·simp at h; subst h; exact Nat.le_refl _
  ·rcases List.mem_cons.1 h with rfl | h
   ·rw [ByteArray.size_extract]; omega
   ·have := splitB_le sep k _ x h
    rw [ByteArray.size_extract] at this
    omega
theorem p166 (s : List UInt8) (hs : s.length ≤ 1000) : Pure Tryz.prog 166 [.str s, .str [46]] (.vs 1 ((splitP s).map srow)) := by
 intro H m vs hH rh hv
 subst hH
 simp only [RvL, Rv] at hv
 obtain ⟨_, _, rfl, ⟨rfl, _⟩, _, _, rfl, ⟨rfl, _⟩, rfl⟩ := hv
 refine (split_byte Tryz.lays146 (by kernel_rfl) ⟨⟨s⟩⟩ 46 m.w (by show s.length < _; omega)).mono ?_
 rintro e w' ⟨rfl, rfl⟩
 have hlen := Lib.splitB_all dotB (Nat.le_refl _) 0 _ ⟨⟨s⟩⟩ rfl
 have hn : (splitP s).length = Lib.countB ⟨⟨s⟩⟩ dotB + 1 := by rw [splitP, List.length_map, hlen]
 have hle := Lib.countB_le dotB (Nat.le_refl _) s.length ⟨⟨s⟩⟩ (Nat.le_refl _)
 have hcl : (⟨⟨s⟩⟩ : ByteArray).size = s.length := rfl
 refine ⟨.ret (.vs 1 ((splitP s).map srow)), m.H, m.L, m.T, rh.alloc _, Ev.alloc m _, ⟨_, rfl, ?_⟩, rfl, rfl⟩
 have hnew : (m.w.alloc (.cells ((Lib.splitB ⟨#[46]⟩ 0 (Lib.countB ⟨⟨s⟩⟩ ⟨#[46]⟩) ⟨⟨s⟩⟩).map Value.string).toArray (Tryz.lays146_ren.t 9))).heap[m.w.heap.size]? = some (.cells ((Lib.splitB ⟨#[46]⟩ 0 (Lib.countB ⟨⟨s⟩⟩ ⟨#[46]⟩) ⟨⟨s⟩⟩).map Value.string).toArray (Tryz.lays146_ren.t 9)) := hpnew m.w _
 simp only [Rv]
 refine ⟨_, _, _, rfl, by rw [List.length_map]; exact hn.symm, ⟨Nat.le_refl _, by unfold maxLen; have : Lib.countB ⟨⟨s⟩⟩ ⟨#[46]⟩ = Lib.countB ⟨⟨s⟩⟩ dotB := rfl; omega⟩, .inr ⟨m.w.heap.size, 0, rfl, ?_⟩⟩
 refine RvR.of (l := (Lib.splitB ⟨#[46]⟩ 0 (Lib.countB ⟨⟨s⟩⟩ ⟨#[46]⟩) ⟨⟨s⟩⟩).map Value.string) (fun r hr => by obtain ⟨x, _, rfl⟩ := List.mem_map.1 hr; rfl) ?_ fun j v hj => ⟨?_, ?_, ?_, blk_new rh, fun t i ht hb => ?_⟩
 ·have key : ∀ (l : List ByteArray), (∀ x ∈ l, x.size ≤ s.length) → RvL ⟨m.w.alloc (.cells ((Lib.splitB ⟨#[46]⟩ 0 (Lib.countB ⟨⟨s⟩⟩ ⟨#[46]⟩) ⟨⟨s⟩⟩).map Value.string).toArray (Tryz.lays146_ren.t 9)), m.H, m.L, m.T⟩ ((l.map (·.data.toList)).map srow).flatten (l.map Value.string) := by
   intro l
   induction l with
   | nil => intro _; simp [RvL]
   | cons x l ih =>
    intro h
    simp only [List.map_cons, List.flatten_cons, srow, List.cons_append, List.nil_append, RvL, Rv]
    refine ⟨_, _, rfl, ⟨rfl, ?_⟩, ih fun y hy => h y (List.mem_cons_of_mem _ hy)⟩
    have : x.size ≤ s.length := h x List.mem_cons_self
    show x.data.toList.length ≤ maxLen
    have e : x.data.toList.length = x.size := rfl
    rw [e]; unfold maxLen; omega
  exact key _ fun x hx => splitB_le _ _ _ x hx
 ·rw [Nat.zero_add]
  simp only [World.cell?, hnew]
  simpa using hj
 ·obtain ⟨x, _, rfl⟩ := List.mem_map.1 (List.mem_of_getElem? hj)
  rfl
 ·exact (Array.getElem?_eq_some_iff.1 hnew).1
 ·exact absurd (tok_lt rh ht hb) (Nat.lt_irrefl _)
end Go.Aw.T.N
