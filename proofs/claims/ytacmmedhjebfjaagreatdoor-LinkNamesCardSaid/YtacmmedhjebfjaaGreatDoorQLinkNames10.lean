/- Contracts that the proofs use. -/
import Derived.Test.YtacmmedhjebfjaaGreatDoorQLinkNames9
import Derived.Lib.LaidTab
import Derived.Stop.LaidErr
import Derived.MakeChecks
import Derived.LaidMore
import Derived.LaidHandle
import Derived.OpenShut
import Derived.Stop.Joined
set_option linter.unusedVariables false
set_option linter.unusedSimpArgs false
set_option maxRecDepth 100000
namespace Go.Proofs.YtacmmedhjebfjaaGreatDoor
open Go.ChangeShapes Go.RowKit Go.Sy
section
variable {W : World} {H : Type} {enc : TypeId × Value → H} {C : Ctx} {R : Nat → Prop} {ρ : Nat → Option Value} {base : Nat} {sp : Nat → Bool} {held : Bool} {r : Reach} {b0 : Nat}
end
theorem var_heapH {P : Program} {W : World} {name : String} {g : Nat} {cs : Array Value} (h : W.var? P name = some cs) (hg : P.globalNamed name = some g) : ∃ T s, W.heap[g]? = some (.cells cs T s) := by
 unfold World.var? at h
 rw [hg, Option.bind_some] at h
 split at h
 ·rename_i c T s e
  cases h
  exact ⟨T, s, e⟩
 ·cases h
def HT : String × DataW Unit := ("errors.errorType", Rows.laid_errors_errorType)
theorem hRt : (Tryz.prog.cutTypes.find? (·.1 == "internal/reflectlite.rtype")).map (·.2) = some 166 := by kernel_rfl
theorem hRow : ((List.range Tryz.prog.types.size).filter fun t => Tryz.prog.rowNamed t [101, 114, 114, 111, 114]) = [45] := by kernel_rfl
theorem hCell {W : World} (h : handlesMet Tryz.prog [HT] W) : ∃ T s, W.heap[17]? = some (.cells #[.iface 166 (.agg #[.pointer (some ⟨20, 45, none⟩)])] T s) := by
 obtain ⟨name, u, ty, e1, e2, e3, e4, e5⟩ := h _ (List.mem_singleton.2 rfl)
 have en : name = [101, 114, 114, 111, 114] := (Option.some.inj e1).symm
 subst en
 obtain rfl := Option.some.inj (hRt.symm.trans e2)
 have hm : ty ∈ (List.range Tryz.prog.types.size).filter fun t => Tryz.prog.rowNamed t [101, 114, 114, 111, 114] := List.mem_filter.2 ⟨List.mem_range.2 e3, e4⟩
 rw [hRow] at hm
 obtain rfl := List.mem_singleton.1 hm
 have hh : typeHandle Tryz.prog 45 = .pointer (some ⟨20, 45, none⟩) := by kernel_rfl
 rw [hh] at e5
 exact var_heapH e5 (by kernel_rfl)
end Go.Proofs.YtacmmedhjebfjaaGreatDoor
set_option linter.unusedVariables false
set_option linter.unusedSimpArgs false
set_option maxRecDepth 100000
namespace Go.Proofs.YtacmmedhjebfjaaGreatDoor
open Go.ChangeShapes Go.RowKit Go.Sy Go.Fac
def T3 : List (String × DataW Unit) := [("math/bits.deBruijn32tab", Rows.laid_math_bits_deBruijn32tab), ("math/bits.deBruijn64tab", Rows.laid_math_bits_deBruijn64tab), ("internal/strconv.uint64pow10", Rows.laid_internal_strconv_uint64pow10)]
def fixG (W : World) (b : Nat) : Option Obj := if b = 16 ∨ b = 17 then W.heap[b]? else none
theorem fixG_ok {W : World} : ∀ b o, fixG W b = some o → W.heap[b]? = some o := fun b o h => by
 unfold fixG at h; split at h
 ·exact h
 ·cases h
abbrev earG (L : List Snt) (W : World) : Ear := ⟨eaOf L W, fixG W⟩
theorem pow_of {W : World} {rest : List (String × DataW Unit)} (h : laidMet Tryz.prog (T3 ++ rest) W) (f : Int → Addr) : Nonempty (Pow ⟨f, fixG W⟩) := by
 have h3 : laidMet Tryz.prog (("internal/strconv.uint64pow10", Lib.tabData .u64 Lib.pow10Tab) :: rest) W := laidMet.tail (laidMet.tail h)
 have t3 := Lib.tabIs_of_head (P := Tryz.prog) (g := 16) (t := 146) (e := 123) (n := 20) (by kernel_rfl) (by kernel_rfl) Tryz.underlying146 Tryz.underlying123 (by kernel_rfl) (by kernel_rfl) h3
 obtain ⟨T', s', e3⟩ := var_heapH t3 (g := 16) (by kernel_rfl)
 refine ⟨⟨⟨T', s', ?_⟩⟩⟩
 show fixG W 16 = _
 unfold fixG; rw [if_pos (.inl rfl), e3]
theorem plainG {L : List (String × DataW Unit)} {W : World} (h : laidMet Tryz.prog (T3 ++ L) W) : laidMet Tryz.prog L W := laidMet.tail (laidMet.tail (laidMet.tail h))
theorem etypeG {W : World} (h : handlesMet Tryz.prog [HT] W) (f : Int → Addr) : Nonempty (EType ⟨f, fixG W⟩) := by
 obtain ⟨T, s, e⟩ := hCell h
 exact ⟨⟨⟨T, s, by show fixG W 17 = _; unfold fixG; rw [if_pos (.inr rfl)]; exact e⟩⟩⟩
theorem partHT16 {W : World} (h : laidMetH Tryz.prog (T3 ++ HT :: L16.map (Snt.datum nmE)) W) : laidMet Tryz.prog (T3 ++ L16.map (Snt.datum nmE)) W ∧ handlesMet Tryz.prog [HT] W := by
 have e : laidMetH Tryz.prog (T3 ++ HT :: L16.map (Snt.datum nmE)) W = (laidMet Tryz.prog (T3 ++ L16.map (Snt.datum nmE)) W ∧ handlesMet Tryz.prog [HT] W) := by kernel_rfl
 rw [e] at h; exact h
theorem tabsHT16 {W : World} (h : laidMetH Tryz.prog (T3 ++ HT :: L16.map (Snt.datum nmE)) W) : Nonempty (Pow (earG L16 W)) := pow_of (partHT16 h).1 _
theorem etypeHT16 {W : World} (h : laidMetH Tryz.prog (T3 ++ HT :: L16.map (Snt.datum nmE)) W) : Nonempty (EType (earG L16 W)) := etypeG (partHT16 h).2 _
theorem baseHT16 {W : World} (h : laidMetH Tryz.prog (T3 ++ HT :: L16.map (Snt.datum nmE)) W) : Base (ctx (earG L16 W) (hasOf L16)) (G7 ++ (G9 ++ [])) W (fun b => b < W.heap.size) :=
 base_of (tA := 95) err_types (by decide) (named_of (by kernel_rfl)) (by decide) (plainG (partHT16 h).1) (fun p hp => by
  simp only [G7, G9, List.append_nil, List.mem_append, List.mem_cons, List.not_mem_nil, or_false] at hp
  rcases hp with (rfl | rfl | rfl | rfl | rfl | rfl | rfl) | (rfl | rfl | rfl | rfl | rfl | rfl | rfl | rfl | rfl)
  all_goals (simp [L16])) fixG_ok
theorem metHT16 (os : Os) (args : Array Value) : laidMetH Tryz.prog (T3 ++ HT :: L16.map (Snt.datum nmE)) ((World.doorLaid Tryz.prog 328 os).forCall (fun _ _ => 0) ⟨#[], args, []⟩).memory :=
 laidMetH_of_parts3 (fuel := 8) (laidMet_of_run' 8 (by kernel_rfl) (by kernel_rfl)) (by kernel_rfl) (by kernel_rfl)
end Go.Proofs.YtacmmedhjebfjaaGreatDoor
