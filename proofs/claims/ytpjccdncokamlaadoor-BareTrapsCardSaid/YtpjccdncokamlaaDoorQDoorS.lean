/- Contracts that the proofs use. -/
import Derived.Test.YtpjccdncokamlaaDoorQFnBase
import Derived.Test.YtpjccdncokamlaaDoorQE14
import Derived.Test.YtpjccdncokamlaaDoorQCoreM
import Derived.Test.YtpjccdncokamlaaDoorRows
import Derived.LaidMore
import Derived.LaidHandle
import Derived.OpenShut
import Derived.Stop.Joined
set_option linter.unusedVariables false
set_option linter.unusedSimpArgs false
set_option maxRecDepth 100000
namespace Go.Sy
open Go.ChangeShapes Go.RowKit
section
variable {H : Type} {enc : TypeId × Value → H} {P : Program} {C : Ctx} {W : World} {R : Nat → Prop} {ρ : Nat → Option Value} {base : Nat} {sp : Nat → Bool} {held : Bool} {fuel : Nat} {cs : List Value} {x : DataW H × List MemPlace}
theorem row_arr {ta e : TypeId} {n : Nat} {t : RT} (ht : P.underlying ta = some (.array n e)) (he : Opens P e t) (hc : P.cellsOf ta = n * t.w) (h : DataW.trod enc P W base sp held fuel ta cs = some x) :
    ∃ xs : List t.ty, xs.length = n ∧ DenL C W R ρ (xs.flatMap t.enc) cs := by
  obtain ⟨ys, m, _, _, hl, hn, hi⟩ := DataW.trod_array ht h
  rw [hc] at hl
  have rows : ∀ k, k ≤ n → ∃ xs : List t.ty, xs.length = k ∧ DenL C W R ρ (xs.flatMap t.enc) (cs.take (k * t.w)) := by
    intro k
    induction k with
    | zero => intro _; exact ⟨[], rfl, by simp; exact .nil⟩
    | succ k ih =>
      intro hk
      obtain ⟨xs, e1, e2⟩ := ih (by omega)
      have hel := hi k (by omega)
      rw [List.getElem?_eq_getElem (by omega)] at hel
      obtain ⟨y, hy⟩ := he.does (C := C) (R := R) (ρ := ρ) hel
      rw [he.cells] at hy
      refine ⟨xs ++ [y], by simp [e1], ?_⟩
      rw [List.flatMap_append, Nat.succ_mul, List.take_add]
      exact e2.app (by simpa using hy)
  obtain ⟨xs, e1, e2⟩ := rows n (Nat.le_refl _)
  rw [List.take_of_length_le (by omega)] at e2
  exact ⟨xs, e1, e2⟩
theorem list_cut : ∀ {n : Nat} {cs : List Value} {k : Nat}, cs.length = k + n → ∃ us vs, cs = us ++ vs ∧ us = cs.take k ∧ vs.length = n ∧ ∀ j, vs[j]? = cs[k + j]? := by
  intro n cs k h
  refine ⟨cs.take k, cs.drop k, (List.take_append_drop _ _).symm, rfl, by simp; omega, fun j => by rw [List.getElem?_drop]⟩
end
end Go.Sy
namespace Go.Proofs.YtpjccdncokamlaaDoor
open Go.ChangeShapes Go.RowKit Go.Sy Go.Fac
theorem own : ownKnob Tryd.prog.godebug = none := by kernel_rfl
theorem laidOut : laidOutB Tryd.prog = true := by kernel_rfl
theorem op_bool : Opens Tryd.prog 4 .bool := opens_bool (by kernel_rfl) Tryd.underlying4
theorem op_u32 : Opens Tryd.prog 25 .u32 := opens_u32 (by kernel_rfl) Tryd.underlying25
section
variable {W : World} {H : Type} {enc : TypeId × Value → H} {C : Ctx} {R : Nat → Prop} {ρ : Nat → Option Value} {base : Nat} {sp : Nat → Bool} {held : Bool} {r : Reach} {b0 : Nat}
theorem open_num {v : Value} {d : DataW H} {ps : List MemPlace} (hv : Value.okWide Tryd.prog W r b0 3 v) (h : DataW.Trod enc Tryd.prog W base sp held 3 v d ps) :
    ∃ n : Int, v = .int .i64 n ∧ InI .i64 (.full n) := by
  obtain ⟨n, rfl, _, _, hw⟩ := open_int Tryd.underlying3 hv h
  exact ⟨n, rfl, wf_in hw⟩
theorem open_word32 {v : Value} {d : DataW H} {ps : List MemPlace} (hv : Value.okWide Tryd.prog W r b0 25 v) (h : DataW.Trod enc Tryd.prog W base sp held 25 v d ps) :
    ∃ n : Int, v = .int .u32 n ∧ InI .u32 (.full n) := by
  obtain ⟨n, rfl, _, _, hw⟩ := open_int Tryd.underlying25 hv h
  exact ⟨n, rfl, wf_in hw⟩
theorem open_truth {v : Value} {d : DataW H} {ps : List MemPlace} (hv : Value.okWide Tryd.prog W r b0 4 v) (h : DataW.Trod enc Tryd.prog W base sp held 4 v d ps) :
    ∃ b : Bool, v = .bool b := by
  obtain ⟨b, e, _, _⟩ := Go.RowKit.open_bool Tryd.underlying4 hv h
  exact ⟨b, e⟩
theorem open_words {v : Value} {d : DataW H} {ps : List MemPlace} (hv : Value.okWide Tryd.prog W r b0 24 v) (h : DataW.Trod enc Tryd.prog W base sp held 24 v d ps) (hR : ∀ b, b < W.heap.size → R b) :
    ∃ l : List Int, Den C W R ρ (.ro .u32 l) v := by
  obtain ⟨fuel, hf⟩ := h
  obtain ⟨l, v', e, _, hd⟩ := open_slice (t := .u32) Tryd.underlying24 op_u32 hR hf
  have hv1 : v.cells.toList = [v] := by
    simp only [Value.okWide, Tryd.underlying24, Cell.okWide] at hv
    cases v <;> simp_all [Cell.ok, Tryd.underlying24, Value.cells]
  rw [hv1] at e
  cases e
  exact ⟨l, hd⟩
theorem op_i64 : Opens Tryd.prog 3 .i64 := opens_i64 (by kernel_rfl) Tryd.underlying3
theorem open_ints {v : Value} {d : DataW H} {ps : List MemPlace} (hv : Value.okWide Tryd.prog W r b0 22 v) (h : DataW.Trod enc Tryd.prog W base sp held 22 v d ps) (hR : ∀ b, b < W.heap.size → R b) :
    ∃ l : List Int, Den C W R ρ (.ro .i64 l) v := by
  obtain ⟨fuel, hf⟩ := h
  obtain ⟨l, v', e, _, hd⟩ := open_slice (t := .i64) Tryd.underlying22 op_i64 hR hf
  have hv1 : v.cells.toList = [v] := by
    simp only [Value.okWide, Tryd.underlying22, Cell.okWide] at hv
    cases v <;> simp_all [Cell.ok, Tryd.underlying22, Value.cells]
  rw [hv1] at e
  cases e
  exact ⟨l, hd⟩
theorem row_regs {fuel : Nat} {cs : List Value} {x : DataW H × List MemPlace} (h : DataW.trod enc Tryd.prog W base sp held fuel 37 cs = some x) :
    ∃ xs : List Int, xs.length = 16 ∧ DenL C W R ρ (xs.flatMap (RT.enc .u32)) cs :=
  row_arr (t := .u32) Tryd.underlying37 op_u32 (by kernel_rfl) h
theorem open_regs {v : Value} {d : DataW H} {ps : List MemPlace} (hv : Value.okWide Tryd.prog W r b0 37 v) (h : DataW.Trod enc Tryd.prog W base sp held 37 v d ps) :
    ∃ l : List Int, l.length = 16 ∧ Den C W R ρ (.arr .u32 16 l) v := by
  obtain ⟨fuel, hf⟩ := h
  obtain ⟨cs, rfl, _, _⟩ : ∃ cs, v = .agg cs ∧ cs.size = Tryd.prog.cellsOf 37 ∧ Row.okWide Tryd.prog W r b0 37 cs := by
    simp only [Value.okWide, Tryd.underlying37] at hv
    exact hv
  obtain ⟨xs, h1, h2⟩ := row_regs (C := C) (R := R) (ρ := ρ) hf
  have h2 : DenL C W R ρ (xs.flatMap (RT.enc .u32)) cs.toList := h2
  exact ⟨xs, h1, by have := Den.arr (C := C) (W := W) (R := R) (ρ := ρ) .u32 16 xs cs.toList h1 h2; simpa using this⟩
theorem open_cpu {v : Value} {d : DataW H} {ps : List MemPlace} (hv : Value.okWide Tryd.prog W r b0 39 v) (h : DataW.Trod enc Tryd.prog W base sp held 39 v d ps) :
    ∃ p : Cpu, p.r.length = 16 ∧ Den C W R ρ (.agg p.enc) v := by
  obtain ⟨fuel, hf⟩ := h
  obtain ⟨cs, rfl, _, _⟩ : ∃ cs, v = .agg cs ∧ cs.size = Tryd.prog.cellsOf 39 ∧ Row.okWide Tryd.prog W r b0 39 cs := by
    simp only [Value.okWide, Tryd.underlying39] at hv
    exact hv
  obtain ⟨xs, n, _, _, hl, hn, hi⟩ := DataW.trod_struct Tryd.underlying39 hf
  have c23 : Tryd.prog.cellsOf 39 = 23 := by kernel_rfl
  rw [c23] at hl
  have hcs : (Value.agg cs).cells.toList = cs.toList := rfl
  rw [hcs] at hl hi
  have hx : xs.length = 8 := by rw [hn]; rfl
  obtain ⟨us, vs, e, eu, hv7, hg⟩ := list_cut (n := 7) (k := 16) hl
  have cR : Tryd.prog.cellsOf 37 = 16 := by kernel_rfl
  have h0 := hi 0 _ rfl
  rw [List.getElem?_eq_getElem (by omega)] at h0
  have h0 : DataW.trod enc Tryd.prog W base sp held n 37 ((cs.toList.drop 0).take (Tryd.prog.cellsOf 37)) = some xs[0] := h0
  rw [cR, List.drop_zero, ← eu] at h0
  obtain ⟨rs, hr1, hr2⟩ := row_regs (C := C) (R := R) (ρ := ρ) h0
  have get : ∀ {t : RT} {u : TypeId}, Opens Tryd.prog u t → t.w = 1 → ∀ (i off : Nat), i < 8 → DataW.trod enc Tryd.prog W base sp held n u ((cs.toList.drop off).take (Tryd.prog.cellsOf u)) = xs[i]? → ∃ y : t.ty, ∃ v, cs.toList[off]? = some v ∧ DenL C W R ρ (t.enc y) [v] := fun hu hw i off hi' hg => by
    exact field_one (i := 0) hu hw hg (by simp [hx, hi'])
  obtain ⟨y1, v1, e1, d1⟩ := get op_u32 rfl 1 16 (by decide) (hi 1 _ rfl)
  obtain ⟨y2, v2, e2, d2⟩ := get op_bool rfl 2 17 (by decide) (hi 2 _ rfl)
  obtain ⟨y3, v3, e3, d3⟩ := get op_bool rfl 3 18 (by decide) (hi 3 _ rfl)
  obtain ⟨y4, v4, e4, d4⟩ := get op_u32 rfl 4 19 (by decide) (hi 4 _ rfl)
  obtain ⟨y5, v5, e5, d5⟩ := get op_u32 rfl 5 20 (by decide) (hi 5 _ rfl)
  obtain ⟨y6, v6, e6, d6⟩ := get op_u32 rfl 6 21 (by decide) (hi 6 _ rfl)
  obtain ⟨y7, v7, e7, d7⟩ := get op_u32 rfl 7 22 (by decide) (hi 7 _ rfl)
  have hvs : vs = [v1, v2, v3, v4, v5, v6, v7] := by
    rw [← hg 0] at e1; rw [← hg 1] at e2; rw [← hg 2] at e3; rw [← hg 3] at e4; rw [← hg 4] at e5; rw [← hg 5] at e6; rw [← hg 6] at e7
    match vs, hv7 with
    | [c0, c1, c2, c3, c4, c5, c6], _ => simp at e1 e2 e3 e4 e5 e6 e7; subst e1 e2 e3 e4 e5 e6 e7; rfl
  refine ⟨⟨rs, y1, y2, y3, y4, y5, y6, y7⟩, hr1, ?_⟩
  have hL : DenL C W R ρ (Cpu.enc ⟨rs, y1, y2, y3, y4, y5, y6, y7⟩) (us ++ [v1, v2, v3, v4, v5, v6, v7]) :=
    .arr .u32 16 rs us _ _ hr1 hr2 (d1.cat (d2.cat (d3.cat (d4.cat (d5.cat (d6.cat d7))))))
  have := Den.agg _ _ hL
  rw [← hvs, ← e] at this
  simpa using this
end
def txt : DataW Unit → List UInt8
  | .iface _ (.ptr (.agg [.lit (.string s)])) => s
  | _ => []
def L1 : List Snt := [⟨"facade/api.ErrRange", 0, 103, txt Rows.laid_facade_api_ErrRange⟩]
abbrev nmE : String := "*errors.errorString"
theorem star : "*" ++ "errors.errorString" = nmE := by decide
theorem err_types : ErrTypes Tryd.prog 33 142 158 9 nmE where
  hi := ⟨_, Tryd.underlying33⟩
  row := fun u h => typeName_ptr_named (nm := "errors.errorString") (by rw [star]; kernel_rfl) (by kernel_rfl) (by decide) u (by rw [star]; exact h)
  hp := Tryd.underlying142
  he := ⟨_, Tryd.underlying158, rfl, rfl⟩
  hs := Tryd.underlying9
  ce := by kernel_rfl
  cs := by kernel_rfl
theorem named_of {L : List Snt} (h : (L.all fun x => Tryd.prog.globalNamed x.name == some x.g && (Tryd.prog.globals[x.g]?).map (·.type) == some 33) = true) : ∀ x ∈ L, Tryd.prog.globalNamed x.name = some x.g ∧ (Tryd.prog.globals[x.g]?).map (·.type) = some 33 := fun x hx => by
  have := List.all_eq_true.1 h x hx
  simpa using this
theorem base1 {W : World} (h : laidMetH Tryd.prog (L1.map (Snt.datum nmE)) W) : Base (ctx (earOf L1 W) (hasOf L1)) (G1 ++ []) W (fun b => b < W.heap.size) := by
  rw [MakeChecks.laidMetH_plain _ _ _ (by kernel_rfl)] at h
  exact base_of (tA := tAtN) err_types (by decide) (named_of (by kernel_rfl)) (by decide) h (fun p hp => by
    simp only [G1, List.append_nil, List.mem_cons, List.not_mem_nil, or_false] at hp
    rcases hp with rfl
    all_goals (simp [L1])) (fun _ _ h => by cases h)
theorem met1 (os : Os) (args : Array Value) : laidMetH Tryd.prog (L1.map (Snt.datum nmE)) ((World.doorLaid Tryd.prog 328 os).forCall (fun _ _ => 0) ⟨#[], args, []⟩).memory :=
  laidMetH_of_parts3 (fuel := 8) (laidMet_of_run' 8 (by kernel_rfl) (by kernel_rfl)) (by kernel_rfl) (by kernel_rfl)
theorem trodAll_seven {H : Type} {enc : TypeId × Value → H} {P : Program} {w : World} {base : Nat} {spare : Nat → Bool} {held : Bool} {t0 t1 t2 t3 t4 t5 t6 : TypeId} {args : Array Value} {ds : List (DataW H)} {ps : List MemPlace} (h : DataW.TrodAll enc P w base spare held [t0, t1, t2, t3, t4, t5, t6] args.toList ds ps) :
    ∃ v0 v1 v2 v3 v4 v5 v6 d0 d1 d2 d3 d4 d5 d6 p0 p1 p2 p3 p4 p5 p6, args = #[v0, v1, v2, v3, v4, v5, v6] ∧ ds = [d0, d1, d2, d3, d4, d5, d6] ∧ ps = p0 ++ (p1 ++ (p2 ++ (p3 ++ (p4 ++ (p5 ++ p6))))) ∧ DataW.Trod enc P w base spare held t0 v0 d0 p0 ∧ DataW.Trod enc P w base spare held t1 v1 d1 p1 ∧ DataW.Trod enc P w base spare held t2 v2 d2 p2 ∧
      DataW.Trod enc P w base spare held t3 v3 d3 p3 ∧ DataW.Trod enc P w base spare held t4 v4 d4 p4 ∧ DataW.Trod enc P w base spare held t5 v5 d5 p5 ∧ DataW.Trod enc P w base spare held t6 v6 d6 p6 := by
  obtain ⟨args⟩ := args
  have h : DataW.TrodAll enc P w base spare held [t0, t1, t2, t3, t4, t5, t6] args ds ps := h
  obtain ⟨v0, _, d0, _, p0, _, rfl, rfl, rfl, h0, h⟩ := trodAll_cons h
  obtain ⟨v1, _, d1, _, p1, _, rfl, rfl, rfl, h1, h⟩ := trodAll_cons h
  obtain ⟨v2, _, d2, _, p2, _, rfl, rfl, rfl, h2, h⟩ := trodAll_cons h
  obtain ⟨v3, _, d3, _, p3, _, rfl, rfl, rfl, h3, h⟩ := trodAll_cons h
  obtain ⟨v4, _, d4, _, p4, _, rfl, rfl, rfl, h4, h⟩ := trodAll_cons h
  obtain ⟨v5, _, d5, _, p5, _, rfl, rfl, rfl, h5, h⟩ := trodAll_cons h
  obtain ⟨v6, _, d6, _, p6, _, rfl, rfl, rfl, h6, h⟩ := trodAll_cons h
  obtain ⟨rfl, rfl, rfl⟩ := trodAll_nil h
  exact ⟨v0, v1, v2, v3, v4, v5, v6, d0, d1, d2, d3, d4, d5, d6, p0, p1, p2, p3, p4, p5, p6, rfl, rfl, by simp, h0, h1, h2, h3, h4, h5, h6⟩
end Go.Proofs.YtpjccdncokamlaaDoor

