/- Contracts that the proofs use. -/
import Derived.Test.YtacmmedhjebfjaaDoorQLinkData6
import Derived.Shelf.Strconv.Itoa0
import Derived.Shelf.Strconv.Itoa1
import Derived.Shelf.LaysM
import Derived.Shelf.Strconv.Itoa2
import Derived.Shelf.Strconv.Itoa3
import Derived.Test.YtacmmedhjebfjaaDoorProg
namespace Go.Proofs
open Go.Shelf
def Tryd.laysM171_ren : Go.Shelf.Ren := ⟨fun | 171 => 37 | 243 => 48 | 246 => 62 | 283 => 85 | 284 => 86 | 285 => 87 | 286 => 88 | 129 => 100 | 317 => 99 | 318 => 101 | 319 => 102 | 320 => 103 | 337 => 104 | 338 => 105 | n => n, fun | 3 => 3 | 9 => 9 | 2 => 2 | 4 => 4 | 171 => 165 | 0 => 0 | 53 => 166 | 37 => 48 | 5 => 5 | 173 => 169 | 212 => 187 | 51 => 25 | 20 => 20 | 213 => 188 | 46 => 58 | 232 => 191 | 233 => 192 | n => n, fun | 17 => 8 | 18 => 9 | 19 => 10 | n => n⟩
theorem Tryd.laysM171 : Go.Proofs.LaysM.n171 Tryd.prog Tryd.laysM171_ren := {
 mixed := by kernel_rfl
 f129 := Tryd.func100.trans (congrArg some (by kernel_rfl))
 f171 := Tryd.func37.trans (congrArg some (by kernel_rfl))
 f243 := Tryd.func48.trans (congrArg some (by kernel_rfl))
 f246 := Tryd.func62.trans (congrArg some (by kernel_rfl))
 f283 := Tryd.func85.trans (congrArg some (by kernel_rfl))
 f284 := Tryd.func86.trans (congrArg some (by kernel_rfl))
 f285 := Tryd.func87.trans (congrArg some (by kernel_rfl))
 f286 := Tryd.func88.trans (congrArg some (by kernel_rfl))
 f317 := Tryd.func99.trans (congrArg some (by kernel_rfl))
 f318 := Tryd.func101.trans (congrArg some (by kernel_rfl))
 f319 := Tryd.func102.trans (congrArg some (by kernel_rfl))
 f320 := Tryd.func103.trans (congrArg some (by kernel_rfl))
 f337 := Tryd.func104.trans (congrArg some (by kernel_rfl))
 f338 := Tryd.func105.trans (congrArg some (by kernel_rfl))
 t0 := Tryd.underlying0
 a0 := Tryd.isAgg0
 z0 := Tryd.sizeOf0
 v0 := Tryd.zeroValue0
 t2 := Tryd.underlying2
 a2 := Tryd.isAgg2
 z2 := Tryd.sizeOf2
 v2 := Tryd.zeroValue2
 t3 := Tryd.underlying3
 a3 := Tryd.isAgg3
 z3 := Tryd.sizeOf3
 v3 := Tryd.zeroValue3
 t4 := Tryd.underlying4
 a4 := Tryd.isAgg4
 z4 := Tryd.sizeOf4
 v4 := Tryd.zeroValue4
 t5 := Tryd.underlying5
 a5 := Tryd.isAgg5
 z5 := Tryd.sizeOf5
 v5 := Tryd.zeroValue5
 t9 := Tryd.underlying9
 a9 := Tryd.isAgg9
 z9 := Tryd.sizeOf9
 v9 := Tryd.zeroValue9
 t20 := Tryd.underlying20
 a20 := Tryd.isAgg20
 z20 := Tryd.sizeOf20
 v20 := Tryd.zeroValue20
 t37 := Tryd.underlying48
 a37 := Tryd.isAgg48
 z37 := Tryd.sizeOf48
 v37 := Tryd.zeroValue48
 t46 := Tryd.underlying58
 a46 := Tryd.isAgg58
 z46 := Tryd.sizeOf58
 v46 := Tryd.zeroValue58
 t51 := Tryd.underlying25
 a51 := Tryd.isAgg25
 z51 := Tryd.sizeOf25
 v51 := Tryd.zeroValue25
 t53 := Tryd.underlying166
 a53 := Tryd.isAgg166
 z53 := Tryd.sizeOf166
 v53 := Tryd.zeroValue166
 t171 := Tryd.underlying165
 a171 := Tryd.isAgg165
 z171 := Tryd.sizeOf165
 v171 := Tryd.zeroValue165
 t173 := Tryd.underlying169
 a173 := Tryd.isAgg169
 z173 := Tryd.sizeOf169
 v173 := Tryd.zeroValue169
 t212 := Tryd.underlying187
 a212 := Tryd.isAgg187
 z212 := Tryd.sizeOf187
 v212 := Tryd.zeroValue187
 t213 := Tryd.underlying188
 a213 := Tryd.isAgg188
 z213 := Tryd.sizeOf188
 t232 := Tryd.underlying191
 a232 := Tryd.isAgg191
 z232 := Tryd.sizeOf191
 v232 := Tryd.zeroValue191
 t233 := Tryd.underlying192
 a233 := Tryd.isAgg192
 z233 := Tryd.sizeOf192
 v233 := Tryd.zeroValue192
 g17 := by kernel_rfl
 g18 := by kernel_rfl
 g19 := by kernel_rfl
 i0 := by kernel_rfl
 i2 := by kernel_rfl
 i3 := by kernel_rfl
 i4 := by kernel_rfl
 i5 := by kernel_rfl
 i9 := by kernel_rfl
 i20 := by kernel_rfl
 i37 := by kernel_rfl
 i46 := by kernel_rfl
 i51 := by kernel_rfl
 i53 := by kernel_rfl
 i171 := by kernel_rfl
 i173 := by kernel_rfl
 i212 := by kernel_rfl
 i232 := by kernel_rfl
 i233 := by kernel_rfl
 m17 := by kernel_rfl
 m18 := by kernel_rfl
 m19 := by kernel_rfl }
open Go.RowKit Go.Sort Go.Lib in
theorem Tryd.strconv_Itoa (n : Int) (h0 : -9223372036854775808 ≤ n) (h1 : n ≤ 9223372036854775807) (w : World) (htab : Lib.TabIs Tryd.prog w "internal/strconv.uint64pow10" .u64 Lib.pow10Tab) :
  Calls Tryd.prog 37 #[.int .i64 n] w fun e w' => e = .returned (.string ⟨(Lib.itoa n).toArray⟩) ∧ ∃ k os, w' = grow (w.drewN k) os := Any.strconv_Itoa Tryd.laysM171 n h0 h1 w htab
end Go.Proofs
