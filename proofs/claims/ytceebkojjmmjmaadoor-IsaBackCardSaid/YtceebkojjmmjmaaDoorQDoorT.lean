/- Contracts that the proofs use. -/
import Derived.Test.YtceebkojjmmjmaaDoorQFnText
import Derived.Test.YtceebkojjmmjmaaDoorQE14
import Derived.Test.YtceebkojjmmjmaaDoorRows
import Derived.Lib.LaidTab
import Derived.Stop.LaidErr
import Derived.MakeChecks
import Derived.LaidMore
import Derived.LaidHandle
import Derived.OpenShut
import Derived.Stop.Joined
set_option linter.unusedVariables false
set_option linter.unusedSimpArgs false
set_option maxRecDepth 100000
namespace Go.Sy
open Go.ChangeShapes Go.RowKit
section
variable {P : Program} {C : Ctx} {W : World} {R : Nat → Prop} {ρ : Nat → Option Value}
theorem opens_ins {e f u : TypeId} {f0 f1 f2 f3 f4 : Field} (hc : P.cellsOf e = 5) (he : P.underlying e = some (.struct #[f0, f1, f2, f3, f4])) (a0 : f0.type = f) (b0 : f0.offset = 0) (a1 : f1.type = f) (b1 : f1.offset = 1) (a2 : f2.type = f) (b2 : f2.offset = 2) (a3 : f3.type = f) (b3 : f3.offset = 3) (a4 : f4.type = u) (b4 : f4.offset = 4)
    (hf : Opens P f .i64) (hu : Opens P u .u32) : Opens P e .instr := ⟨hc, fun {H enc C W R ρ base sp held fuel cs x} h => by
  obtain ⟨xs, n, _, _, hl, hn, hi⟩ := DataW.trod_struct he h
  have get : ∀ {t : RT} {u : TypeId}, Opens P u t → t.w = 1 → ∀ (i : Nat) (g : Field), [f0, f1, f2, f3, f4][i]? = some g → g.type = u → ∃ y : t.ty, ∃ v, cs[g.offset]? = some v ∧ DenL C W R ρ (t.enc y) [v] := fun hu hw i g hg hgt => by
    have := hi i g (by simpa using hg)
    rw [hgt] at this
    have hx : i < xs.length := by
      rw [hn]; simpa using (List.getElem?_eq_some_iff.1 hg).1
    exact field_one (i := 0) hu hw this (by simp [hx])
  obtain ⟨y0, v0, e0, d0⟩ := get hf rfl 0 f0 rfl a0
  obtain ⟨y1, v1, e1, d1⟩ := get hf rfl 1 f1 rfl a1
  obtain ⟨y2, v2, e2, d2⟩ := get hf rfl 2 f2 rfl a2
  obtain ⟨y3, v3, e3, d3⟩ := get hf rfl 3 f3 rfl a3
  obtain ⟨y4, v4, e4, d4⟩ := get hu rfl 4 f4 rfl a4
  rw [b0] at e0; rw [b1] at e1; rw [b2] at e2; rw [b3] at e3; rw [b4] at e4
  have hcs : cs = [v0, v1, v2, v3, v4] := by
    rw [hc] at hl
    match cs, hl with
    | [c0, c1, c2, c3, c4], _ => simp at e0 e1 e2 e3 e4; subst e0 e1 e2 e3 e4; rfl
  subst hcs
  exact ⟨⟨y0, y1, y2, y3, y4⟩, d0.cat (d1.cat (d2.cat (d3.cat d4)))⟩⟩
theorem var_heap {name : String} {g : Nat} {cs : Array Value} (h : W.var? P name = some cs) (hg : P.globalNamed name = some g) : ∃ T s, W.heap[g]? = some (.cells cs T s) := by
  unfold World.var? at h
  rw [hg, Option.bind_some] at h
  split at h
  · rename_i c T s e
    cases h
    exact ⟨T, s, e⟩
  · cases h
end
end Go.Sy
namespace Go.Proofs.YtceebkojjmmjmaaDoor
open Go.ChangeShapes Go.RowKit Go.Sy Go.Fac
theorem own : ownKnob Tryd.prog.godebug = none := by kernel_rfl
theorem laidOut : laidOutB Tryd.prog = true := by kernel_rfl
theorem op_i64 : Opens Tryd.prog 3 .i64 := opens_i64 (by kernel_rfl) Tryd.underlying3
theorem op_u32 : Opens Tryd.prog 22 .u32 := opens_u32 (by kernel_rfl) Tryd.underlying22
theorem op_ins : Opens Tryd.prog 24 .instr := opens_ins (by kernel_rfl) Tryd.underlying24 rfl rfl rfl rfl rfl rfl rfl rfl rfl rfl op_i64 op_u32
section
variable {W : World} {H : Type} {enc : TypeId × Value → H} {C : Ctx} {R : Nat → Prop} {ρ : Nat → Option Value} {base : Nat} {sp : Nat → Bool} {held : Bool} {r : Reach} {b0 : Nat}
theorem open_num {v : Value} {d : DataW H} {ps : List MemPlace} (hv : Value.okWide Tryd.prog W r b0 3 v) (h : DataW.Trod enc Tryd.prog W base sp held 3 v d ps) :
    ∃ n : Int, v = .int .i64 n ∧ InI .i64 (.full n) := by
  obtain ⟨n, rfl, _, _, hw⟩ := open_int Tryd.underlying3 hv h
  exact ⟨n, rfl, wf_in hw⟩
theorem open_word32 {v : Value} {d : DataW H} {ps : List MemPlace} (hv : Value.okWide Tryd.prog W r b0 22 v) (h : DataW.Trod enc Tryd.prog W base sp held 22 v d ps) :
    ∃ n : Int, v = .int .u32 n ∧ InI .u32 (.full n) := by
  obtain ⟨n, rfl, _, _, hw⟩ := open_int Tryd.underlying22 hv h
  exact ⟨n, rfl, wf_in hw⟩
theorem open_ins {v : Value} {d : DataW H} {ps : List MemPlace} (hv : Value.okWide Tryd.prog W r b0 24 v) (h : DataW.Trod enc Tryd.prog W base sp held 24 v d ps) :
    ∃ x : In5, Den C W R ρ (.agg [.int .i64 (.full x.op), .int .i64 (.full x.a), .int .i64 (.full x.b), .int .i64 (.full x.c), .int .u32 (.full x.imm)]) v := by
  obtain ⟨fuel, hf⟩ := h
  obtain ⟨cs, rfl, _, _⟩ : ∃ cs, v = .agg cs ∧ cs.size = Tryd.prog.cellsOf 24 ∧ Row.okWide Tryd.prog W r b0 24 cs := by
    simp only [Value.okWide, Tryd.underlying24] at hv
    exact hv
  obtain ⟨x, hd⟩ := op_ins.does (C := C) (R := R) (ρ := ρ) hf
  exact ⟨x, .agg _ _ hd⟩
end
def T3 : List (String × DataW Unit) := [("math/bits.deBruijn32tab", Rows.laid_math_bits_deBruijn32tab), ("math/bits.deBruijn64tab", Rows.laid_math_bits_deBruijn64tab), ("internal/strconv.uint64pow10", Rows.laid_internal_strconv_uint64pow10)]
def fixOf (W : World) (b : Nat) : Option Obj := if b = 16 ∨ b = 18 then W.heap[b]? else none
theorem fixOf_ok {W : World} : ∀ b o, fixOf W b = some o → W.heap[b]? = some o := fun b o h => by
  unfold fixOf at h; split at h
  · exact h
  · cases h
theorem tabs_of {W : World} {rest : List (String × DataW Unit)} (h : laidMet Tryd.prog (T3 ++ rest) W) (f : Int → Addr) : Nonempty (Tabs ⟨f, fixOf W⟩) := by
  have h2 : laidMet Tryd.prog (("math/bits.deBruijn64tab", Lib.tabData .u8 (Lib.deBruijn64tab.map fun (z : Nat) => (z : Int))) :: ("internal/strconv.uint64pow10", Rows.laid_internal_strconv_uint64pow10) :: rest) W := laidMet.tail h
  have h3 : laidMet Tryd.prog (("internal/strconv.uint64pow10", Lib.tabData .u64 Lib.pow10Tab) :: rest) W := laidMet.tail h2
  have t2 := Lib.tabIs_of_head (P := Tryd.prog) (g := 18) (t := 162) (e := 5) (n := 64) (by kernel_rfl) (by kernel_rfl) Tryd.underlying162 Tryd.underlying5 (by kernel_rfl) (by kernel_rfl) h2
  have t3 := Lib.tabIs_of_head (P := Tryd.prog) (g := 16) (t := 157) (e := 104) (n := 20) (by kernel_rfl) (by kernel_rfl) Tryd.underlying157 Tryd.underlying104 (by kernel_rfl) (by kernel_rfl) h3
  obtain ⟨T, s, e2⟩ := var_heap t2 (g := 18) (by kernel_rfl)
  obtain ⟨T', s', e3⟩ := var_heap t3 (g := 16) (by kernel_rfl)
  refine ⟨⟨⟨T', s', ?_⟩, ⟨T, s, ?_⟩⟩⟩
  · show fixOf W 16 = _
    unfold fixOf; rw [if_pos (.inl rfl), e3]
  · show fixOf W 18 = _
    unfold fixOf; rw [if_pos (.inr rfl), e2, List.map_map]; rfl
abbrev earT (W : World) : Ear := ⟨fun _ => ⟨0, 0, none⟩, fixOf W⟩
theorem plainT {W : World} (h : laidMetH Tryd.prog T3 W) : laidMet Tryd.prog (T3 ++ []) W := by
  rw [MakeChecks.laidMetH_plain _ _ _ (by kernel_rfl)] at h
  exact h
theorem tabsT {W : World} (h : laidMetH Tryd.prog T3 W) : Nonempty (Tabs (earT W)) := tabs_of (plainT h) _
theorem baseT {W : World} (h : laidMetH Tryd.prog T3 W) : Base (ctx (earT W) (fun _ => False)) [] W (fun b => b < W.heap.size) :=
  ⟨fun _ h => h, fun _ _ h => h.elim, (show (163 : Nat) ≠ tAtN by decide), fun _ h => h.elim, fun _ h => h.elim, fun g s h => (by cases h), fun b o h => ⟨(Array.getElem?_eq_some_iff.1 (fixOf_ok b o h)).1, fixOf_ok b o h⟩⟩
theorem metT (os : Os) (args : Array Value) : laidMetH Tryd.prog T3 ((World.doorLaid Tryd.prog 328 os).forCall (fun _ _ => 0) ⟨#[], args, []⟩).memory :=
  laidMetH_of_parts3 (fuel := 8) (laidMet_of_run' 8 (by kernel_rfl) (by kernel_rfl)) (by kernel_rfl) (by kernel_rfl)
theorem trodAll_five {H : Type} {enc : TypeId × Value → H} {P : Program} {w : World} {base : Nat} {spare : Nat → Bool} {held : Bool} {t0 t1 t2 t3 t4 : TypeId} {args : Array Value} {ds : List (DataW H)} {ps : List MemPlace} (h : DataW.TrodAll enc P w base spare held [t0, t1, t2, t3, t4] args.toList ds ps) :
    ∃ v0 v1 v2 v3 v4 d0 d1 d2 d3 d4 p0 p1 p2 p3 p4, args = #[v0, v1, v2, v3, v4] ∧ ds = [d0, d1, d2, d3, d4] ∧ ps = p0 ++ (p1 ++ (p2 ++ (p3 ++ (p4 ++ [])))) ∧ DataW.Trod enc P w base spare held t0 v0 d0 p0 ∧ DataW.Trod enc P w base spare held t1 v1 d1 p1 ∧ DataW.Trod enc P w base spare held t2 v2 d2 p2 ∧
      DataW.Trod enc P w base spare held t3 v3 d3 p3 ∧ DataW.Trod enc P w base spare held t4 v4 d4 p4 := by
  obtain ⟨args⟩ := args
  have h : DataW.TrodAll enc P w base spare held [t0, t1, t2, t3, t4] args ds ps := h
  obtain ⟨v0, _, d0, _, p0, _, rfl, rfl, rfl, h0, h⟩ := trodAll_cons h
  obtain ⟨v1, _, d1, _, p1, _, rfl, rfl, rfl, h1, h⟩ := trodAll_cons h
  obtain ⟨v2, _, d2, _, p2, _, rfl, rfl, rfl, h2, h⟩ := trodAll_cons h
  obtain ⟨v3, _, d3, _, p3, _, rfl, rfl, rfl, h3, h⟩ := trodAll_cons h
  obtain ⟨v4, _, d4, _, p4, _, rfl, rfl, rfl, h4, h⟩ := trodAll_cons h
  obtain ⟨rfl, rfl, rfl⟩ := trodAll_nil h
  exact ⟨v0, v1, v2, v3, v4, d0, d1, d2, d3, d4, p0, p1, p2, p3, p4, rfl, rfl, rfl, h0, h1, h2, h3, h4⟩
end Go.Proofs.YtceebkojjmmjmaaDoor

