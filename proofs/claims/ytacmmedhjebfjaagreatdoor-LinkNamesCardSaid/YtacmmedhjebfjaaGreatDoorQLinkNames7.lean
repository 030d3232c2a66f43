/- Contracts that the proofs use. -/
import Derived.Test.YtacmmedhjebfjaaGreatDoorQLinkNames6
import Derived.Shelf.Strconv.Itoa0
import Derived.Shelf.Strconv.Itoa1
import Derived.Shelf.LaysM
import Derived.Shelf.Strconv.Itoa2
import Derived.Shelf.Strconv.Itoa3
import Derived.Test.YtacmmedhjebfjaaGreatDoorProg
namespace Go.Proofs
open Go.Shelf
def Tryz.laysM171_ren : Go.Shelf.Ren := ⟨fun | 171 => 17 | 243 => 27 | 246 => 38 | 283 => 52 | 284 => 53 | 285 => 54 | 286 => 55 | 129 => 71 | 317 => 70 | 318 => 72 | 319 => 73 | 320 => 74 | 337 => 86 | 338 => 87 | n => n, fun | 3 => 3 | 9 => 9 | 2 => 2 | 4 => 4 | 171 => 122 | 0 => 0 | 53 => 123 | 37 => 35 | 5 => 5 | 173 => 126 | 212 => 146 | 51 => 25 | 20 => 20 | 213 => 147 | 46 => 77 | 232 => 176 | 233 => 177 | n => n, fun | 17 => 16 | 18 => 18 | 19 => 19 | n => n⟩
theorem Tryz.laysM171 : Go.Proofs.LaysM.n171 Tryz.prog Tryz.laysM171_ren := {
 mixed := by kernel_rfl
 f129 := Tryz.func71.trans (congrArg some (by kernel_rfl))
 f171 := Tryz.func17.trans (congrArg some (by kernel_rfl))
 f243 := Tryz.func27.trans (congrArg some (by kernel_rfl))
 f246 := Tryz.func38.trans (congrArg some (by kernel_rfl))
 f283 := Tryz.func52.trans (congrArg some (by kernel_rfl))
 f284 := Tryz.func53.trans (congrArg some (by kernel_rfl))
 f285 := Tryz.func54.trans (congrArg some (by kernel_rfl))
 f286 := Tryz.func55.trans (congrArg some (by kernel_rfl))
 f317 := Tryz.func70.trans (congrArg some (by kernel_rfl))
 f318 := Tryz.func72.trans (congrArg some (by kernel_rfl))
 f319 := Tryz.func73.trans (congrArg some (by kernel_rfl))
 f320 := Tryz.func74.trans (congrArg some (by kernel_rfl))
 f337 := Tryz.func86.trans (congrArg some (by kernel_rfl))
 f338 := Tryz.func87.trans (congrArg some (by kernel_rfl))
 t0 := Tryz.underlying0
 a0 := Tryz.isAgg0
 z0 := Tryz.sizeOf0
 v0 := Tryz.zeroValue0
 t2 := Tryz.underlying2
 a2 := Tryz.isAgg2
 z2 := Tryz.sizeOf2
 v2 := Tryz.zeroValue2
 t3 := Tryz.underlying3
 a3 := Tryz.isAgg3
 z3 := Tryz.sizeOf3
 v3 := Tryz.zeroValue3
 t4 := Tryz.underlying4
 a4 := Tryz.isAgg4
 z4 := Tryz.sizeOf4
 v4 := Tryz.zeroValue4
 t5 := Tryz.underlying5
 a5 := Tryz.isAgg5
 z5 := Tryz.sizeOf5
 v5 := Tryz.zeroValue5
 t9 := Tryz.underlying9
 a9 := Tryz.isAgg9
 z9 := Tryz.sizeOf9
 v9 := Tryz.zeroValue9
 t20 := Tryz.underlying20
 a20 := Tryz.isAgg20
 z20 := Tryz.sizeOf20
 v20 := Tryz.zeroValue20
 t37 := Tryz.underlying35
 a37 := Tryz.isAgg35
 z37 := Tryz.sizeOf35
 v37 := Tryz.zeroValue35
 t46 := Tryz.underlying77
 a46 := Tryz.isAgg77
 z46 := Tryz.sizeOf77
 v46 := Tryz.zeroValue77
 t51 := Tryz.underlying25
 a51 := Tryz.isAgg25
 z51 := Tryz.sizeOf25
 v51 := Tryz.zeroValue25
 t53 := Tryz.underlying123
 a53 := Tryz.isAgg123
 z53 := Tryz.sizeOf123
 v53 := Tryz.zeroValue123
 t171 := Tryz.underlying122
 a171 := Tryz.isAgg122
 z171 := Tryz.sizeOf122
 v171 := Tryz.zeroValue122
 t173 := Tryz.underlying126
 a173 := Tryz.isAgg126
 z173 := Tryz.sizeOf126
 v173 := Tryz.zeroValue126
 t212 := Tryz.underlying146
 a212 := Tryz.isAgg146
 z212 := Tryz.sizeOf146
 v212 := Tryz.zeroValue146
 t213 := Tryz.underlying147
 a213 := Tryz.isAgg147
 z213 := Tryz.sizeOf147
 t232 := Tryz.underlying176
 a232 := Tryz.isAgg176
 z232 := Tryz.sizeOf176
 v232 := Tryz.zeroValue176
 t233 := Tryz.underlying177
 a233 := Tryz.isAgg177
 z233 := Tryz.sizeOf177
 v233 := Tryz.zeroValue177
 g17 := by kernel_rfl
 g18 := by kernel_rfl
 g19 := by kernel_rfl
 i0 := by kernel_rfl
 i2 := by kernel_rfl
 i3 := by kernel_rfl
 i4 := by kernel_rfl
 i5 := by kernel_rfl
 i9 := by kernel_rfl
 i20 := by kernel_rfl
 i37 := by kernel_rfl
 i46 := by kernel_rfl
 i51 := by kernel_rfl
 i53 := by kernel_rfl
 i171 := by kernel_rfl
 i173 := by kernel_rfl
 i212 := by kernel_rfl
 i232 := by kernel_rfl
 i233 := by kernel_rfl
 m17 := by kernel_rfl
 m18 := by kernel_rfl
 m19 := by kernel_rfl }
open Go.RowKit Go.Sort Go.Lib in
theorem Tryz.strconv_Itoa (n : Int) (h0 : -9223372036854775808 ≤ n) (h1 : n ≤ 9223372036854775807) (w : World) (htab : Lib.TabIs Tryz.prog w "internal/strconv.uint64pow10" .u64 Lib.pow10Tab) :
  Calls Tryz.prog 17 #[.int .i64 n] w fun e w' => e = .returned (.string ⟨(Lib.itoa n).toArray⟩) ∧ ∃ k os, w' = grow (w.drewN k) os := Any.strconv_Itoa Tryz.laysM171 n h0 h1 w htab
end Go.Proofs
