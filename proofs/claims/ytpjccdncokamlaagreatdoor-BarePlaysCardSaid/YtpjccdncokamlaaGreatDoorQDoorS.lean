/- Contracts. -/
import Derived.Test.YtpjccdncokamlaaGreatDoorQFnBase
import Derived.Test.YtpjccdncokamlaaGreatDoorQE14
import Derived.Test.YtpjccdncokamlaaGreatDoorQCoreM
import Derived.Test.YtpjccdncokamlaaGreatDoorRows
import Derived.LaidMore
import Derived.LaidHandle
import Derived.OpenShut
import Derived.Stop.Joined
set_option linter.unusedVariables false
set_option linter.unusedSimpArgs false
set_option maxRecDepth 100000
namespace Go.Sy
open Go.ChangeShapes Go.RowKit
section
variable {H : Type} {enc : TypeId × Value → H} {P : Program} {C : Ctx} {W : World} {R : Nat → Prop} {ρ : Nat → Option Value} {base : Nat} {sp : Nat → Bool} {held : Bool} {fuel : Nat} {cs : List Value} {x : DataW H × List MemPlace}
theorem row_arr {ta e : TypeId} {n : Nat} {t : RT} (ht : P.underlying ta = some (.array n e)) (he : Opens P e t) (hc : P.cellsOf ta = n * t.w) (h : DataW.trod enc P W base sp held fuel ta cs = some x) :
    ∃ xs : List t.ty, xs.length = n ∧ DenL C W R ρ (xs.flatMap t.enc) cs := by
  obtain ⟨ys, m, _, _, hl, hn, hi⟩ := DataW.trod_array ht h
  rw [hc] at hl
  have rows : ∀ k, k ≤ n → ∃ xs : List t.ty, xs.length = k ∧ DenL C W R ρ (xs.flatMap t.enc) (cs.take (k * t.w)) := by
    intro k
    induction k with
    | zero => intro _; exact ⟨[], rfl, by simp; exact .nil⟩
    | succ k ih =>
      intro hk
      obtain ⟨xs, e1, e2⟩ := ih (by omega)
      have hel := hi k (by omega)
      rw [List.getElem?_eq_getElem (by omega)] at hel
      obtain ⟨y, hy⟩ := he.does (C := C) (R := R) (ρ := ρ) hel
      rw [he.cells] at hy
      refine ⟨xs ++ [y], by simp [e1], ?_⟩
      rw [List.flatMap_append, Nat.succ_mul, List.take_add]
      exact e2.app (by simpa using hy)
  obtain ⟨xs, e1, e2⟩ := rows n (Nat.le_refl _)
  rw [List.take_of_length_le (by omega)] at e2
  exact ⟨xs, e1, e2⟩
theorem list_cut : ∀ {n : Nat} {cs : List Value} {k : Nat}, cs.length = k + n → ∃ us vs, cs = us ++ vs ∧ us = cs.take k ∧ vs.length = n ∧ ∀ j, vs[j]? = cs[k + j]? := by
  intro n cs k h
  refine ⟨cs.take k, cs.drop k, (List.take_append_drop _ _).symm, rfl, by simp; omega, fun j => by rw [List.getElem?_drop]⟩
end
end Go.Sy
namespace Go.Proofs.YtpjccdncokamlaaGreatDoor
open Go.ChangeShapes Go.RowKit Go.Sy Go.Fac
theorem own : ownKnob Tryz.prog.godebug = none := by kernel_rfl
theorem laidOut : laidOutB Tryz.prog = true := by kernel_rfl
theorem op_bool : Opens Tryz.prog 4 .bool := opens_bool (by kernel_rfl) Tryz.underlying4
theorem op_u32 : Opens Tryz.prog 23 .u32 := opens_u32 (by kernel_rfl) Tryz.underlying23
section
variable {W : World} {H : Type} {enc : TypeId × Value → H} {C : Ctx} {R : Nat → Prop} {ρ : Nat → Option Value} {base : Nat} {sp : Nat → Bool} {held : Bool} {r : Reach} {b0 : Nat}
theorem open_num {v : Value} {d : DataW H} {ps : List MemPlace} (hv : Value.okWide Tryz.prog W r b0 3 v) (h : DataW.Trod enc Tryz.prog W base sp held 3 v d ps) :
    ∃ n : Int, v = .int .i64 n ∧ InI .i64 (.full n) := by
  obtain ⟨n, rfl, _, _, hw⟩ := open_int Tryz.underlying3 hv h
  exact ⟨n, rfl, wf_in hw⟩
theorem open_words {v : Value} {d : DataW H} {ps : List MemPlace} (hv : Value.okWide Tryz.prog W r b0 22 v) (h : DataW.Trod enc Tryz.prog W base sp held 22 v d ps) (hR : ∀ b, b < W.heap.size → R b) :
    ∃ l : List Int, Den C W R ρ (.ro .u32 l) v := by
  obtain ⟨fuel, hf⟩ := h
  obtain ⟨l, v', e, _, hd⟩ := open_slice (t := .u32) Tryz.underlying22 op_u32 hR hf
  have hv1 : v.cells.toList = [v] := by
    simp only [Value.okWide, Tryz.underlying22, Cell.okWide] at hv
    cases v <;> simp_all [Cell.ok, Tryz.underlying22, Value.cells]
  rw [hv1] at e
  cases e
  exact ⟨l, hd⟩
theorem row_regs {fuel : Nat} {cs : List Value} {x : DataW H × List MemPlace} (h : DataW.trod enc Tryz.prog W base sp held fuel 25 cs = some x) :
    ∃ xs : List Int, xs.length = 16 ∧ DenL C W R ρ (xs.flatMap (RT.enc .u32)) cs :=
  row_arr (t := .u32) Tryz.underlying25 op_u32 (by kernel_rfl) h
theorem open_cpu {v : Value} {d : DataW H} {ps : List MemPlace} (hv : Value.okWide Tryz.prog W r b0 27 v) (h : DataW.Trod enc Tryz.prog W base sp held 27 v d ps) :
    ∃ p : Cpu, p.r.length = 16 ∧ Den C W R ρ (.agg p.enc) v := by
  obtain ⟨fuel, hf⟩ := h
  obtain ⟨cs, rfl, _, _⟩ : ∃ cs, v = .agg cs ∧ cs.size = Tryz.prog.cellsOf 27 ∧ Row.okWide Tryz.prog W r b0 27 cs := by
    simp only [Value.okWide, Tryz.underlying27] at hv
    exact hv
  obtain ⟨xs, n, _, _, hl, hn, hi⟩ := DataW.trod_struct Tryz.underlying27 hf
  have c23 : Tryz.prog.cellsOf 27 = 23 := by kernel_rfl
  rw [c23] at hl
  have hcs : (Value.agg cs).cells.toList = cs.toList := rfl
  rw [hcs] at hl hi
  have hx : xs.length = 8 := by rw [hn]; rfl
  obtain ⟨us, vs, e, eu, hv7, hg⟩ := list_cut (n := 7) (k := 16) hl
  have cR : Tryz.prog.cellsOf 25 = 16 := by kernel_rfl
  have h0 := hi 0 _ rfl
  rw [List.getElem?_eq_getElem (by omega)] at h0
  have h0 : DataW.trod enc Tryz.prog W base sp held n 25 ((cs.toList.drop 0).take (Tryz.prog.cellsOf 25)) = some xs[0] := h0
  rw [cR, List.drop_zero, ← eu] at h0
  obtain ⟨rs, hr1, hr2⟩ := row_regs (C := C) (R := R) (ρ := ρ) h0
  have get : ∀ {t : RT} {u : TypeId}, Opens Tryz.prog u t → t.w = 1 → ∀ (i off : Nat), i < 8 → DataW.trod enc Tryz.prog W base sp held n u ((cs.toList.drop off).take (Tryz.prog.cellsOf u)) = xs[i]? → ∃ y : t.ty, ∃ v, cs.toList[off]? = some v ∧ DenL C W R ρ (t.enc y) [v] := fun hu hw i off hi' hg => by
    exact field_one (i := 0) hu hw hg (by simp [hx, hi'])
  obtain ⟨y1, v1, e1, d1⟩ := get op_u32 rfl 1 16 (by decide) (hi 1 _ rfl)
  obtain ⟨y2, v2, e2, d2⟩ := get op_bool rfl 2 17 (by decide) (hi 2 _ rfl)
  obtain ⟨y3, v3, e3, d3⟩ := get op_bool rfl 3 18 (by decide) (hi 3 _ rfl)
  obtain ⟨y4, v4, e4, d4⟩ := get op_u32 rfl 4 19 (by decide) (hi 4 _ rfl)
  obtain ⟨y5, v5, e5, d5⟩ := get op_u32 rfl 5 20 (by decide) (hi 5 _ rfl)
  obtain ⟨y6, v6, e6, d6⟩ := get op_u32 rfl 6 21 (by decide) (hi 6 _ rfl)
  obtain ⟨y7, v7, e7, d7⟩ := get op_u32 rfl 7 22 (by decide) (hi 7 _ rfl)
  have hvs : vs = [v1, v2, v3, v4, v5, v6, v7] := by
    rw [← hg 0] at e1; rw [← hg 1] at e2; rw [← hg 2] at e3; rw [← hg 3] at e4; rw [← hg 4] at e5; rw [← hg 5] at e6; rw [← hg 6] at e7
    match vs, hv7 with
    | [c0, c1, c2, c3, c4, c5, c6], _ => simp at e1 e2 e3 e4 e5 e6 e7; subst e1 e2 e3 e4 e5 e6 e7; rfl
  refine ⟨⟨rs, y1, y2, y3, y4, y5, y6, y7⟩, hr1, ?_⟩
  have hL : DenL C W R ρ (Cpu.enc ⟨rs, y1, y2, y3, y4, y5, y6, y7⟩) (us ++ [v1, v2, v3, v4, v5, v6, v7]) :=
    .arr .u32 16 rs us _ _ hr1 hr2 (d1.cat (d2.cat (d3.cat (d4.cat (d5.cat (d6.cat d7))))))
  have := Den.agg _ _ hL
  rw [← hvs, ← e] at this
  simpa using this
end
def txt : DataW Unit → List UInt8
  | .iface _ (.ptr (.agg [.lit (.string s)])) => s
  | _ => []
def L1 : List Snt := [⟨"facade/api.ErrRange", 0, 103, txt Rows.laid_facade_api_ErrRange⟩]
abbrev nmE : String := "*errors.errorString"
theorem star : "*" ++ "errors.errorString" = nmE := by decide
theorem err_types : ErrTypes Tryz.prog 35 184 200 9 nmE where
  hi := ⟨_, Tryz.underlying35⟩
  row := fun u h => typeName_ptr_named (nm := "errors.errorString") (by rw [star]; kernel_rfl) (by kernel_rfl) (by decide) u (by rw [star]; exact h)
  hp := Tryz.underlying184
  he := ⟨_, Tryz.underlying200, rfl, rfl⟩
  hs := Tryz.underlying9
  ce := by kernel_rfl
  cs := by kernel_rfl
theorem named_of {L : List Snt} (h : (L.all fun x => Tryz.prog.globalNamed x.name == some x.g && (Tryz.prog.globals[x.g]?).map (·.type) == some 35) = true) : ∀ x ∈ L, Tryz.prog.globalNamed x.name = some x.g ∧ (Tryz.prog.globals[x.g]?).map (·.type) = some 35 := fun x hx => by
  have := List.all_eq_true.1 h x hx
  simpa using this
end Go.Proofs.YtpjccdncokamlaaGreatDoor

