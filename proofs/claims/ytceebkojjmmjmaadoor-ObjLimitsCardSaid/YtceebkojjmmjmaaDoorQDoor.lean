/- Contracts that the proofs use. -/
import Derived.Test.YtceebkojjmmjmaaDoorQFnBase
import Derived.Test.YtceebkojjmmjmaaDoorQFnObj
import Derived.Test.YtceebkojjmmjmaaDoorQE14
import Derived.Test.YtceebkojjmmjmaaDoorRows
set_option linter.unusedVariables false
set_option linter.unusedSimpArgs false
set_option maxRecDepth 100000
namespace Go.Proofs.YtceebkojjmmjmaaDoor
open Go.ChangeShapes Go.RowKit Go.Sy
theorem own : ownKnob Tryd.prog.godebug = none := by kernel_rfl
theorem laidOut : laidOutB Tryd.prog = true := by kernel_rfl
theorem op_i64 : Opens Tryd.prog 3 .i64 := opens_i64 (by kernel_rfl) Tryd.underlying3
theorem op_bool : Opens Tryd.prog 4 .bool := opens_bool (by kernel_rfl) Tryd.underlying4
theorem op_str : Opens Tryd.prog 9 .str := opens_str (by kernel_rfl) Tryd.underlying9
theorem op_u8 : Opens Tryd.prog 5 .u8 := opens_u8 (by kernel_rfl) Tryd.underlying5
theorem op_u32 : Opens Tryd.prog 22 .u32 := opens_u32 (by kernel_rfl) Tryd.underlying22
theorem op_rel : Opens Tryd.prog 118 .rel := opens_rel (by kernel_rfl) Tryd.underlying118 rfl rfl rfl rfl rfl rfl rfl rfl op_i64
theorem op_sym : Opens Tryd.prog 65 .sym := opens_sym (by kernel_rfl) Tryd.underlying65 rfl rfl rfl rfl rfl rfl rfl rfl op_str op_i64 op_bool
section
variable {W : World} {H : Type} {enc : TypeId × Value → H} {C : Ctx} {R : Nat → Prop} {ρ : Nat → Option Value} {base : Nat} {sp : Nat → Bool} {held : Bool} {r : Reach} {b0 : Nat}
theorem open_num {v : Value} {d : DataW H} {ps : List MemPlace} (hv : Value.okWide Tryd.prog W r b0 3 v) (h : DataW.Trod enc Tryd.prog W base sp held 3 v d ps) :
    ∃ n : Int, v = .int .i64 n ∧ InI .i64 (.full n) := by
  obtain ⟨n, rfl, _, _, hw⟩ := open_int Tryd.underlying3 hv h
  exact ⟨n, rfl, wf_in hw⟩
theorem open_words {v : Value} {d : DataW H} {ps : List MemPlace} (hv : Value.okWide Tryd.prog W r b0 38 v) (h : DataW.Trod enc Tryd.prog W base sp held 38 v d ps) (hR : ∀ b, b < W.heap.size → R b) :
    ∃ l : List Int, Den C W R ρ (.ro .u32 l) v := by
  obtain ⟨fuel, hf⟩ := h
  obtain ⟨l, v', e, _, hd⟩ := open_slice (t := .u32) Tryd.underlying38 op_u32 hR hf
  have hv1 : v.cells.toList = [v] := by
    simp only [Value.okWide, Tryd.underlying38, Cell.okWide] at hv
    cases v <;> simp_all [Cell.ok, Tryd.underlying38, Value.cells]
  rw [hv1] at e
  cases e
  exact ⟨l, hd⟩
theorem open_bytes {v : Value} {d : DataW H} {ps : List MemPlace} (hv : Value.okWide Tryd.prog W r b0 39 v) (h : DataW.Trod enc Tryd.prog W base sp held 39 v d ps) (hR : ∀ b, b < W.heap.size → R b) :
    ∃ l : List Int, Den C W R ρ (.ro .u8 l) v := by
  obtain ⟨fuel, hf⟩ := h
  obtain ⟨l, v', e, _, hd⟩ := open_slice (t := .u8) Tryd.underlying39 op_u8 hR hf
  have hv1 : v.cells.toList = [v] := by
    simp only [Value.okWide, Tryd.underlying39, Cell.okWide] at hv
    cases v <;> simp_all [Cell.ok, Tryd.underlying39, Value.cells]
  rw [hv1] at e
  cases e
  exact ⟨l, hd⟩
theorem open_obj {v : Value} {d : DataW H} {ps : List MemPlace} (hv : Value.okWide Tryd.prog W r b0 43 v) (h : DataW.Trod enc Tryd.prog W base sp held 43 v d ps) (hR : ∀ b, b < W.heap.size → R b) :
    ∃ (dt c m : List Int) (dr cr : List Rel) (sy : List Sm), Den C W R ρ (obV dt c m dr cr sy) v := by
  obtain ⟨fuel, hf⟩ := h
  obtain ⟨cs, rfl, _, _⟩ : ∃ cs, v = .agg cs ∧ cs.size = Tryd.prog.cellsOf 43 ∧ Row.okWide Tryd.prog W r b0 43 cs := by
    simp only [Value.okWide, Tryd.underlying43] at hv
    exact hv
  obtain ⟨xs, n, _, _, hl, hn, hi⟩ := DataW.trod_struct Tryd.underlying43 hf
  have c6 : Tryd.prog.cellsOf 43 = 6 := by kernel_rfl
  rw [c6] at hl
  have hcs : (Value.agg cs).cells.toList = cs.toList := rfl
  rw [hcs] at hl hi
  have get : ∀ {t : RT} {ts e : TypeId}, Tryd.prog.underlying ts = some (.slice e) → Opens Tryd.prog e t → Tryd.prog.cellsOf ts = 1 → ∀ (i : Nat) (g : Field), Tryd.prog.underlying 43 = some (.struct #[]) ∨ (g.type = ts ∧ g.offset = i ∧ i < 6 ∧ DataW.trod enc Tryd.prog W base sp held n g.type ((cs.toList.drop g.offset).take (Tryd.prog.cellsOf g.type)) = xs[i]?) →
      ∃ (l : List t.ty) (v : Value), cs.toList[i]? = some v ∧ v.oneCell' = true ∧ Den C W R ρ (.ro t l) v := by
    intro t ts e hs he h1 i g hg
    rcases hg with hg | ⟨rfl, rfl, h6, hg⟩
    · rw [Tryd.underlying43] at hg; simp at hg
    · rw [h1] at hg
      rw [List.getElem?_eq_getElem (by rw [hn]; simpa using h6)] at hg
      obtain ⟨l, v, e, ho, hd⟩ := open_slice (C := C) (ρ := ρ) hs he hR hg
      refine ⟨l, v, ?_, ho, hd⟩
      have hlt : g.offset < cs.toList.length := by omega
      rw [List.drop_eq_getElem_cons hlt] at e
      simp only [List.take_succ_cons, List.take_zero, List.cons.injEq, and_true] at e
      rw [List.getElem?_eq_getElem hlt, e]
  obtain ⟨l0, v0, e0, o0, d0⟩ := get (t := .u32) Tryd.underlying38 op_u32 (by kernel_rfl) 0 _ (.inr ⟨rfl, rfl, by decide, hi 0 _ rfl⟩)
  obtain ⟨l1, v1, e1, o1, d1⟩ := get (t := .u32) Tryd.underlying38 op_u32 (by kernel_rfl) 1 _ (.inr ⟨rfl, rfl, by decide, hi 1 _ rfl⟩)
  obtain ⟨l2, v2, e2, o2, d2⟩ := get (t := .u8) Tryd.underlying39 op_u8 (by kernel_rfl) 2 _ (.inr ⟨rfl, rfl, by decide, hi 2 _ rfl⟩)
  obtain ⟨l3, v3, e3, o3, d3⟩ := get (t := .rel) Tryd.underlying40 op_rel (by kernel_rfl) 3 _ (.inr ⟨rfl, rfl, by decide, hi 3 _ rfl⟩)
  obtain ⟨l4, v4, e4, o4, d4⟩ := get (t := .rel) Tryd.underlying40 op_rel (by kernel_rfl) 4 _ (.inr ⟨rfl, rfl, by decide, hi 4 _ rfl⟩)
  obtain ⟨l5, v5, e5, o5, d5⟩ := get (t := .sym) Tryd.underlying41 op_sym (by kernel_rfl) 5 _ (.inr ⟨rfl, rfl, by decide, hi 5 _ rfl⟩)
  have hall : cs.toList = [v0, v1, v2, v3, v4, v5] := by
    match h : cs.toList, hl with
    | [c0, c1, c2, c3, c4, c5], _ => rw [h] at e0 e1 e2 e3 e4 e5; simp at e0 e1 e2 e3 e4 e5; subst e0 e1 e2 e3 e4 e5; rfl
  refine ⟨l0, l1, l2, l3, l4, l5, ?_⟩
  have : cs = ([v0, v1, v2, v3, v4, v5] : List Value).toArray := by
    rw [← hall]
  rw [this]
  exact .agg _ _ (.one _ _ _ _ rfl o0 d0 (.one _ _ _ _ rfl o1 d1 (.one _ _ _ _ rfl o2 d2 (.one _ _ _ _ rfl o3 d3 (.one _ _ _ _ rfl o4 d4 (.one _ _ _ _ rfl o5 d5 .nil))))))
end
def txt : DataW Unit → List UInt8
  | .iface _ (.ptr (.agg [.lit (.string s)])) => s
  | _ => []
def L7 : List Snt := [⟨"facade/api.ErrShape", 1, 102, txt Rows.laid_facade_api_ErrShape⟩, ⟨"facade/api.ErrRange", 3, 103, txt Rows.laid_facade_api_ErrRange⟩, ⟨"facade/api.ErrMany", 2, 104, txt Rows.laid_facade_api_ErrMany⟩,
  ⟨"facade/api.ErrOp", 5, 105, txt Rows.laid_facade_api_ErrOp⟩, ⟨"facade/api.ErrTwice", 6, 106, txt Rows.laid_facade_api_ErrTwice⟩, ⟨"facade/api.ErrNone", 7, 107, txt Rows.laid_facade_api_ErrNone⟩, ⟨"facade/api.ErrMap", 4, 109, txt Rows.laid_facade_api_ErrMap⟩]
def L16 : List Snt := [⟨"facade/api.ErrEnd", 0, 101, txt Rows.laid_facade_api_ErrEnd⟩, ⟨"facade/api.ErrShape", 1, 102, txt Rows.laid_facade_api_ErrShape⟩, ⟨"facade/api.ErrRange", 3, 103, txt Rows.laid_facade_api_ErrRange⟩, ⟨"facade/api.ErrMany", 2, 104, txt Rows.laid_facade_api_ErrMany⟩,
  ⟨"facade/api.ErrOp", 5, 105, txt Rows.laid_facade_api_ErrOp⟩, ⟨"facade/api.ErrTwice", 6, 106, txt Rows.laid_facade_api_ErrTwice⟩, ⟨"facade/api.ErrNone", 7, 107, txt Rows.laid_facade_api_ErrNone⟩, ⟨"facade/api.ErrFar", 8, 108, txt Rows.laid_facade_api_ErrFar⟩,
  ⟨"facade/api.ErrMap", 4, 109, txt Rows.laid_facade_api_ErrMap⟩, ⟨"facade/api.ErrOwner", 9, 110, txt Rows.laid_facade_api_ErrOwner⟩, ⟨"facade/api.ErrType", 10, 111, txt Rows.laid_facade_api_ErrType⟩, ⟨"facade/api.ErrBusy", 11, 112, txt Rows.laid_facade_api_ErrBusy⟩,
  ⟨"facade/api.ErrFull", 12, 113, txt Rows.laid_facade_api_ErrFull⟩, ⟨"facade/api.ErrState", 13, 114, txt Rows.laid_facade_api_ErrState⟩, ⟨"facade/api.ErrWord", 14, 115, txt Rows.laid_facade_api_ErrWord⟩, ⟨"facade/api.ErrNumber", 15, 116, txt Rows.laid_facade_api_ErrNumber⟩]
abbrev nmE : String := "*errors.errorString"
theorem star : "*" ++ "errors.errorString" = nmE := by decide
theorem err_types : ErrTypes Tryd.prog 46 163 180 9 nmE where
  hi := ⟨_, Tryd.underlying46⟩
  row := fun u h => typeName_ptr_named (nm := "errors.errorString") (by rw [star]; kernel_rfl) (by kernel_rfl) (by decide) u (by rw [star]; exact h)
  hp := Tryd.underlying163
  he := ⟨_, Tryd.underlying180, rfl, rfl⟩
  hs := Tryd.underlying9
  ce := by kernel_rfl
  cs := by kernel_rfl
theorem named_of {L : List Snt} (h : (L.all fun x => Tryd.prog.globalNamed x.name == some x.g && (Tryd.prog.globals[x.g]?).map (·.type) == some 46) = true) : ∀ x ∈ L, Tryd.prog.globalNamed x.name = some x.g ∧ (Tryd.prog.globals[x.g]?).map (·.type) = some 46 := fun x hx => by
  have := List.all_eq_true.1 h x hx
  simpa using this
theorem base7 {W : World} (h : laidMetH Tryd.prog (L7.map (Snt.datum nmE)) W) : Base (ctx (earOf L7 W) (hasOf L7)) (G7 ++ []) W (fun b => b < W.heap.size) := by
  rw [MakeChecks.laidMetH_plain _ _ _ (by kernel_rfl)] at h
  exact base_of (tA := 125) err_types (by decide) (named_of (by kernel_rfl)) (by decide) h (fun p hp => by
    simp only [G7, List.append_nil, List.mem_cons, List.not_mem_nil, or_false] at hp
    rcases hp with rfl | rfl | rfl | rfl | rfl | rfl | rfl
    all_goals (simp [L7])) (fun _ _ h => by cases h)
end Go.Proofs.YtceebkojjmmjmaaDoor

