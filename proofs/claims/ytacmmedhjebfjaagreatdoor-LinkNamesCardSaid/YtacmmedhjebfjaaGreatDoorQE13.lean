/- Words that the proofs use, part 13. -/
import Derived.Test.YtacmmedhjebfjaaGreatDoorQE12
import Derived.ProofKit
import Derived.LaidLaws
import Derived.Carry
set_option linter.unusedVariables false
set_option linter.unusedSimpArgs false
namespace Go.Sy
open Go.ChangeShapes Go.RowKit
theorem wf_in {k : IntKind} {n : Int} (h : (Lit.int k n).wf = true) : InI k (.full n) := by
 simp only [Lit.wf, Bool.and_eq_true, decide_eq_true_eq] at h
 exact .full (by cases k <;> exact h.1) (by cases k <;> exact h.2)
section
variable {P : Program} {C : Ctx} {W W' : World} {R : Nat → Prop} {ρ : Nat → Option Value}
structure Opens (P : Program) (e : TypeId) (t : RT) : Prop where
 cells : P.cellsOf e = t.w
 does : ∀ {H : Type} {enc : TypeId × Value → H} {C : Ctx} {W : World} {R : Nat → Prop} {ρ : Nat → Option Value} {base : Nat} {sp : Nat → Bool} {held : Bool} {fuel : Nat} {cs : List Value} {x : DataW H × List MemPlace},
  DataW.trod enc P W base sp held fuel e cs = some x → ∃ y : t.ty, DenL C W R ρ (t.enc y) cs
theorem opens_u8 {e : TypeId} (hc : P.cellsOf e = 1) (he : P.underlying e = some (.int .u8)) : Opens P e .u8 := ⟨hc, fun h => by
 obtain ⟨n, rfl, _, hw⟩ := DataW.trod_int he h
 exact ⟨n, .one _ _ _ _ rfl rfl (.int .u8 (.full n) (wf_in hw)) .nil⟩⟩
theorem opens_u32 {e : TypeId} (hc : P.cellsOf e = 1) (he : P.underlying e = some (.int .u32)) : Opens P e .u32 := ⟨hc, fun h => by
 obtain ⟨n, rfl, _, hw⟩ := DataW.trod_int he h
 exact ⟨n, .one _ _ _ _ rfl rfl (.int .u32 (.full n) (wf_in hw)) .nil⟩⟩
theorem opens_i64 {e : TypeId} (hc : P.cellsOf e = 1) (he : P.underlying e = some (.int .i64)) : Opens P e .i64 := ⟨hc, fun h => by
 obtain ⟨n, rfl, _, hw⟩ := DataW.trod_int he h
 exact ⟨n, .one _ _ _ _ rfl rfl (.int .i64 (.full n) (wf_in hw)) .nil⟩⟩
theorem opens_bool {e : TypeId} (hc : P.cellsOf e = 1) (he : P.underlying e = some .bool) : Opens P e .bool := ⟨hc, fun h => by
 obtain ⟨n, rfl, _⟩ := DataW.trod_bool he h
 exact ⟨n, .one _ _ _ _ rfl rfl (.bool (.sym n)) .nil⟩⟩
theorem opens_str {e : TypeId} (hc : P.cellsOf e = 1) (he : P.underlying e = some .string) : Opens P e .str := ⟨hc, fun h => by
 obtain ⟨n, rfl, _, hs⟩ := DataW.trod_string he h
 exact ⟨n, .one _ _ _ _ rfl rfl (.str n hs) .nil⟩⟩
theorem field_one {t : RT} {e : TypeId} (h : Opens P e t) (ht : t.w = 1) {H : Type} {enc : TypeId × Value → H} {base : Nat} {sp : Nat → Bool} {held : Bool} {fuel : Nat} {cs : List Value} {x : Option (DataW H × List MemPlace)} {i off : Nat}
  (hx : DataW.trod enc P W base sp held fuel e ((cs.drop off).take (P.cellsOf e)) = x) (hs : x.isSome = true) : ∃ y : t.ty, ∃ v, cs[off]? = some v ∧ DenL C W R ρ (t.enc y) [v] := by
 obtain ⟨x, rfl⟩ := Option.isSome_iff_exists.1 hs
 obtain ⟨y, hy⟩ := h.does (C := C) (R := R) (ρ := ρ) hx
 rw [h.cells, ht] at hy
 have hl : ((cs.drop off).take 1).length ≤ 1 := by simp; omega
 cases hc : cs[off]? with
 | none =>
  have : (cs.drop off).take 1 = [] := by
   rw [List.getElem?_eq_none_iff] at hc
   rw [List.drop_eq_nil_of_le hc]; rfl
  rw [this] at hy
  have h0 := hy.len_noarr (enc_noarr t y)
  rw [enc_w, ht] at h0
  cases h0
 | some v =>
  have : (cs.drop off).take 1 = [v] := by
   have hlt := (List.getElem?_eq_some_iff.1 hc).1
   rw [List.drop_eq_getElem_cons hlt]
   simp [(List.getElem?_eq_some_iff.1 hc).2]
  rw [this] at hy
  exact ⟨y, v, rfl, hy⟩
theorem DenL.cat {l l' : List SVal} {v : Value} {vs : List Value} (h : DenL C W R ρ l [v]) (h' : DenL C W R ρ l' vs) : DenL C W R ρ (l ++ l') (v :: vs) := by
 have := h.app h'
 simpa using this
theorem opens_rel {e f : TypeId} {f0 f1 f2 f3 : Field} (hc : P.cellsOf e = 4) (he : P.underlying e = some (.struct #[f0, f1, f2, f3])) (a0 : f0.type = f) (b0 : f0.offset = 0) (a1 : f1.type = f) (b1 : f1.offset = 1) (a2 : f2.type = f) (b2 : f2.offset = 2) (a3 : f3.type = f) (b3 : f3.offset = 3)
  (hf : Opens P f .i64) : Opens P e .rel := ⟨hc, fun {H enc C W R ρ base sp held fuel cs x} h => by
 obtain ⟨xs, n, _, _, hl, hn, hi⟩ := DataW.trod_struct he h
 have get : ∀ (i : Nat) (g : Field), [f0, f1, f2, f3][i]? = some g → g.type = f → ∃ y : Int, ∃ v, cs[g.offset]? = some v ∧ DenL C W R ρ (RT.i64.enc y) [v] := fun i g hg hgt => by
  have := hi i g (by simpa using hg)
  rw [hgt] at this
  have hx : i < xs.length := by
   rw [hn]; simpa using (List.getElem?_eq_some_iff.1 hg).1
  exact field_one (i := 0) hf rfl this (by simp [hx])
 obtain ⟨y0, v0, e0, d0⟩ := get 0 f0 rfl a0
 obtain ⟨y1, v1, e1, d1⟩ := get 1 f1 rfl a1
 obtain ⟨y2, v2, e2, d2⟩ := get 2 f2 rfl a2
 obtain ⟨y3, v3, e3, d3⟩ := get 3 f3 rfl a3
 rw [b0] at e0; rw [b1] at e1; rw [b2] at e2; rw [b3] at e3
 have hcs : cs = [v0, v1, v2, v3] := by
  rw [hc] at hl
  match cs, hl with
  | [c0, c1, c2, c3], _ => simp at e0 e1 e2 e3; subst e0 e1 e2 e3; rfl
 subst hcs
 exact ⟨⟨y0, y1, y2, y3⟩, d0.cat (d1.cat (d2.cat d3))⟩⟩
theorem opens_sym {e s f b : TypeId} {f0 f1 f2 f3 : Field} (hc : P.cellsOf e = 4) (he : P.underlying e = some (.struct #[f0, f1, f2, f3])) (a0 : f0.type = s) (b0 : f0.offset = 0) (a1 : f1.type = f) (b1 : f1.offset = 1) (a2 : f2.type = f) (b2 : f2.offset = 2) (a3 : f3.type = b) (b3 : f3.offset = 3)
  (hs : Opens P s .str) (hf : Opens P f .i64) (hb : Opens P b .bool) : Opens P e .sym := ⟨hc, fun {H enc C W R ρ base sp held fuel cs x} h => by
 obtain ⟨xs, n, _, _, hl, hn, hi⟩ := DataW.trod_struct he h
 have get : ∀ {t : RT} {u : TypeId}, Opens P u t → t.w = 1 → ∀ (i : Nat) (g : Field), [f0, f1, f2, f3][i]? = some g → g.type = u → ∃ y : t.ty, ∃ v, cs[g.offset]? = some v ∧ DenL C W R ρ (t.enc y) [v] := fun hu hw i g hg hgt => by
  have := hi i g (by simpa using hg)
  rw [hgt] at this
  have hx : i < xs.length := by
   rw [hn]; simpa using (List.getElem?_eq_some_iff.1 hg).1
  exact field_one (i := 0) hu hw this (by simp [hx])
 obtain ⟨y0, v0, e0, d0⟩ := get hs rfl 0 f0 rfl a0
 obtain ⟨y1, v1, e1, d1⟩ := get hf rfl 1 f1 rfl a1
 obtain ⟨y2, v2, e2, d2⟩ := get hf rfl 2 f2 rfl a2
 obtain ⟨y3, v3, e3, d3⟩ := get hb rfl 3 f3 rfl a3
 rw [b0] at e0; rw [b1] at e1; rw [b2] at e2; rw [b3] at e3
 have hcs : cs = [v0, v1, v2, v3] := by
  rw [hc] at hl
  match cs, hl with
  | [c0, c1, c2, c3], _ => simp at e0 e1 e2 e3; subst e0 e1 e2 e3; rfl
 subst hcs
 exact ⟨⟨y0, y1, y2, y3⟩, d0.cat (d1.cat (d2.cat d3))⟩⟩
theorem open_slice {ts e : TypeId} {t : RT} (hs : P.underlying ts = some (.slice e)) (he : Opens P e t) (hR : ∀ b, b < W.heap.size → R b) {H : Type} {enc : TypeId × Value → H} {base : Nat} {sp : Nat → Bool} {held : Bool} {fuel : Nat} {cs : List Value} {x : DataW H × List MemPlace}
  (h : DataW.trod enc P W base sp held fuel ts cs = some x) : ∃ l : List t.ty, ∃ v, cs = [v] ∧ v.oneCell' = true ∧ Den C W R ρ (.ro t l) v := by
 have tw : 0 < t.w := by cases t <;> first | exact Nat.succ_pos _ | decide
 rcases DataW.trod_slice hs h with ⟨rfl, _⟩ | ⟨a, len, cap, elems, rest, n, _, rfl, _, _, h1, h2, h3, h4, _, _⟩
 ·exact ⟨[], _, rfl, rfl, .ro t [] none 0 [] (Nat.le_refl _) (by decide) .nil (fun h => absurd rfl h) (fun _ => rfl)⟩
 ·have rows : ∀ k, k ≤ len → ∃ (l : List t.ty) (vs : List Value), l.length = k ∧ vs.length = k * t.w ∧ DenL C W R ρ (l.flatMap t.enc) vs ∧ ∀ j v, vs[j]? = some v → W.cell? (a.add j) = some v := by
   intro k
   induction k with
   | zero => intro _; exact ⟨[], [], rfl, by simp, .nil, fun j v hv => by simp at hv⟩
   | succ k ih =>
    intro hk
    obtain ⟨l, vs, e1, e2, e3, e4⟩ := ih (by omega)
    have hel := h4 k (by omega)
    rw [List.getElem?_eq_getElem (by omega)] at hel
    obtain ⟨ci, hci, htr⟩ := Option.bind_eq_some_iff.1 hel
    obtain ⟨y, hy⟩ := he.does (C := C) (R := R) (ρ := ρ) htr
    obtain ⟨_, hlen, hcell⟩ := World.cells?_some hci
    rw [he.cells] at hlen hcell
    refine ⟨l ++ [y], vs ++ ci, by simp [e1], by simp [e2, hlen, Nat.succ_mul], ?_, fun j v hv => ?_⟩
    ·rw [List.flatMap_append]; exact e3.app (by simpa using hy)
    ·by_cases hj : j < vs.length
     ·rw [List.getElem?_append_left hj] at hv; exact e4 j v hv
     ·rw [List.getElem?_append_right (by omega)] at hv
      have hlt := (List.getElem?_eq_some_iff.1 hv).1
      have := hcell (j - vs.length) (by omega)
      rw [hv] at this
      have hadd : (a.add (k * t.w)).add (j - vs.length) = a.add j := by
       have hj' : j = k * t.w + (j - vs.length) := by omega
       generalize j - vs.length = d at hj' this
       subst hj'
       generalize k * t.w = m
       unfold Addr.add
       by_cases hm : m = 0
       ·subst hm; simp
       ·by_cases hd : d = 0
        ·subst hd; simp
        ·rw [if_neg hm, if_neg hd, if_neg (by omega)]; simp; omega
      rwa [hadd] at this
  obtain ⟨l, vs, e1, e2, e3, e4⟩ := rows len (Nat.le_refl _)
  subst e1
  refine ⟨l, _, rfl, rfl, .ro t l (some a) cap vs h1 h2 e3 (fun hne => ?_) (fun h => by cases h)⟩
  have hpos : 0 < vs.length := by
   rw [e2]; exact Nat.mul_pos (List.length_pos_iff.2 hne) tw
  have h0 := e4 0 _ (List.getElem?_eq_getElem hpos)
  have ha : a.add 0 = a := rfl
  rw [ha] at h0
  obtain ⟨b, off, spot⟩ := a
  have hsp : spot = none := by
   unfold World.cell? at h0
   split at h0
   ·split at h0
    ·cases h0
    ·rename_i hsp; simpa using hsp
   ·cases h0
  subst hsp
  refine ⟨b, off, rfl, hR b ?_, fun j v hv => ?_⟩
  ·unfold World.cell? at h0
   split at h0
   ·rename_i hb; exact (Array.getElem?_eq_some_iff.1 hb).1
   ·cases h0
  ·have := e4 j v hv
   unfold Addr.add at this
   by_cases hj : j = 0
   ·subst hj; simpa using this
   ·rw [if_neg hj] at this; exact this
end
end Go.Sy
