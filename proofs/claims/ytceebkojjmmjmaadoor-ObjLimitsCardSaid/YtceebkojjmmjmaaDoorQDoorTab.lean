/- Contracts that the proofs use. -/
import Derived.Test.YtceebkojjmmjmaaDoorQFnText
import Derived.Test.YtceebkojjmmjmaaDoorQE14
import Derived.Test.YtceebkojjmmjmaaDoorRows
import Derived.Lib.LaidTab
import Derived.Stop.LaidErr
import Derived.MakeChecks
import Derived.LaidMore
import Derived.LaidHandle
import Derived.OpenShut
import Derived.Stop.Joined
set_option linter.unusedVariables false
set_option linter.unusedSimpArgs false
set_option maxRecDepth 100000
namespace Go.Sy
open Go.ChangeShapes Go.RowKit
section
variable {P : Program} {W : World}
theorem var_heap {name : String} {g : Nat} {cs : Array Value} (h : W.var? P name = some cs) (hg : P.globalNamed name = some g) : ∃ T s, W.heap[g]? = some (.cells cs T s) := by
  unfold World.var? at h
  rw [hg, Option.bind_some] at h
  split at h
  · rename_i c T s e
    cases h
    exact ⟨T, s, e⟩
  · cases h
end
end Go.Sy
namespace Go.Proofs.YtceebkojjmmjmaaDoor
open Go.ChangeShapes Go.RowKit Go.Sy Go.Fac
def T3 : List (String × DataW Unit) := [("math/bits.deBruijn32tab", Rows.laid_math_bits_deBruijn32tab), ("math/bits.deBruijn64tab", Rows.laid_math_bits_deBruijn64tab), ("internal/strconv.uint64pow10", Rows.laid_internal_strconv_uint64pow10)]
def fixOf (W : World) (b : Nat) : Option Obj := if b = 16 ∨ b = 18 then W.heap[b]? else none
theorem fixOf_ok {W : World} : ∀ b o, fixOf W b = some o → W.heap[b]? = some o := fun b o h => by
  unfold fixOf at h; split at h
  · exact h
  · cases h
theorem tabs_of {W : World} {rest : List (String × DataW Unit)} (h : laidMet Tryd.prog (T3 ++ rest) W) (f : Int → Addr) : Nonempty (Tabs ⟨f, fixOf W⟩) := by
  have h2 : laidMet Tryd.prog (("math/bits.deBruijn64tab", Lib.tabData .u8 (Lib.deBruijn64tab.map fun (z : Nat) => (z : Int))) :: ("internal/strconv.uint64pow10", Rows.laid_internal_strconv_uint64pow10) :: rest) W := laidMet.tail h
  have h3 : laidMet Tryd.prog (("internal/strconv.uint64pow10", Lib.tabData .u64 Lib.pow10Tab) :: rest) W := laidMet.tail h2
  have t2 := Lib.tabIs_of_head (P := Tryd.prog) (g := 18) (t := 162) (e := 5) (n := 64) (by kernel_rfl) (by kernel_rfl) Tryd.underlying162 Tryd.underlying5 (by kernel_rfl) (by kernel_rfl) h2
  have t3 := Lib.tabIs_of_head (P := Tryd.prog) (g := 16) (t := 157) (e := 104) (n := 20) (by kernel_rfl) (by kernel_rfl) Tryd.underlying157 Tryd.underlying104 (by kernel_rfl) (by kernel_rfl) h3
  obtain ⟨T, s, e2⟩ := var_heap t2 (g := 18) (by kernel_rfl)
  obtain ⟨T', s', e3⟩ := var_heap t3 (g := 16) (by kernel_rfl)
  refine ⟨⟨⟨T', s', ?_⟩, ⟨T, s, ?_⟩⟩⟩
  · show fixOf W 16 = _
    unfold fixOf; rw [if_pos (.inl rfl), e3]
  · show fixOf W 18 = _
    unfold fixOf; rw [if_pos (.inr rfl), e2, List.map_map]; rfl
end Go.Proofs.YtceebkojjmmjmaaDoor

