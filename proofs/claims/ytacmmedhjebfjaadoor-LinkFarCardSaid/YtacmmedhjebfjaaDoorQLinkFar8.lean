/- Contracts that the proofs use. -/
import Derived.Test.YtacmmedhjebfjaaDoorQLinkFar7
import Derived.Lib.LaidTab
import Derived.Stop.LaidErr
import Derived.MakeChecks
import Derived.LaidMore
import Derived.LaidHandle
import Derived.OpenShut
import Derived.Stop.Joined
set_option linter.unusedVariables false
set_option linter.unusedSimpArgs false
set_option maxRecDepth 100000
namespace Go.Proofs.YtacmmedhjebfjaaDoor
open Go.ChangeShapes Go.RowKit Go.Sy
section
variable {W : World} {H : Type} {enc : TypeId × Value → H} {C : Ctx} {R : Nat → Prop} {ρ : Nat → Option Value} {base : Nat} {sp : Nat → Bool} {held : Bool} {r : Reach} {b0 : Nat}
end
theorem var_heapH {P : Program} {W : World} {name : String} {g : Nat} {cs : Array Value} (h : W.var? P name = some cs) (hg : P.globalNamed name = some g) : ∃ T s, W.heap[g]? = some (.cells cs T s) := by
 unfold World.var? at h
 rw [hg, Option.bind_some] at h
 split at h
 ·rename_i c T s e
  cases h
  exact ⟨T, s, e⟩
 ·cases h
def HT : String × DataW Unit := ("errors.errorType", Rows.laid_errors_errorType)
theorem hRt : (Tryd.prog.cutTypes.find? (·.1 == "internal/reflectlite.rtype")).map (·.2) = some 174 := by kernel_rfl
theorem hRow : ((List.range Tryd.prog.types.size).filter fun t => Tryd.prog.rowNamed t [101, 114, 114, 111, 114]) = [31] := by kernel_rfl
theorem hCell {W : World} (h : handlesMet Tryd.prog [HT] W) : ∃ T s, W.heap[5]? = some (.cells #[.iface 174 (.agg #[.pointer (some ⟨11, 31, none⟩)])] T s) := by
 obtain ⟨name, u, ty, e1, e2, e3, e4, e5⟩ := h _ (List.mem_singleton.2 rfl)
 have en : name = [101, 114, 114, 111, 114] := (Option.some.inj e1).symm
 subst en
 obtain rfl := Option.some.inj (hRt.symm.trans e2)
 have hm : ty ∈ (List.range Tryd.prog.types.size).filter fun t => Tryd.prog.rowNamed t [101, 114, 114, 111, 114] := List.mem_filter.2 ⟨List.mem_range.2 e3, e4⟩
 rw [hRow] at hm
 obtain rfl := List.mem_singleton.1 hm
 have hh : typeHandle Tryd.prog 31 = .pointer (some ⟨11, 31, none⟩) := by kernel_rfl
 rw [hh] at e5
 exact var_heapH e5 (by kernel_rfl)
def fixH (W : World) (b : Nat) : Option Obj := if b = 5 then W.heap[b]? else none
theorem fixH_ok {W : World} : ∀ b o, fixH W b = some o → W.heap[b]? = some o := fun b o h => by
 unfold fixH at h; split at h
 ·exact h
 ·cases h
abbrev earH (L : List Snt) (W : World) : Ear := ⟨eaOf L W, fixH W⟩
theorem partH7 {W : World} (h : laidMetH Tryd.prog (HT :: L7.map (Snt.datum nmE)) W) : laidMet Tryd.prog (L7.map (Snt.datum nmE)) W ∧ handlesMet Tryd.prog [HT] W := by
 have e : laidMetH Tryd.prog (HT :: L7.map (Snt.datum nmE)) W = (laidMet Tryd.prog (L7.map (Snt.datum nmE)) W ∧ handlesMet Tryd.prog [HT] W) := by kernel_rfl
 rw [e] at h; exact h
theorem etypeH7 {W : World} (h : laidMetH Tryd.prog (HT :: L7.map (Snt.datum nmE)) W) : Nonempty (EType (earH L7 W)) := by
 obtain ⟨T, s, e⟩ := hCell (partH7 h).2
 exact ⟨⟨⟨T, s, by show fixH W 5 = _; unfold fixH; rw [if_pos rfl]; exact e⟩⟩⟩
theorem baseH7 {W : World} (h : laidMetH Tryd.prog (HT :: L7.map (Snt.datum nmE)) W) : Base (ctx (earH L7 W) (hasOf L7)) (G7 ++ []) W (fun b => b < W.heap.size) :=
 base_of (tA := 112) err_types (by decide) (named_of (by kernel_rfl)) (by decide) (partH7 h).1 (fun p hp => by
  simp only [G7, List.append_nil, List.mem_cons, List.not_mem_nil, or_false] at hp
  rcases hp with rfl | rfl | rfl | rfl | rfl | rfl | rfl
  all_goals (simp [L7])) fixH_ok
theorem metH7 (os : Os) (args : Array Value) : laidMetH Tryd.prog (HT :: L7.map (Snt.datum nmE)) ((World.doorLaid Tryd.prog 328 os).forCall (fun _ _ => 0) ⟨#[], args, []⟩).memory :=
 laidMetH_of_parts3 (fuel := 8) (laidMet_of_run' 8 (by kernel_rfl) (by kernel_rfl)) (by kernel_rfl) (by kernel_rfl)
end Go.Proofs.YtacmmedhjebfjaaDoor
