/- Structs, lengths, conversions, maps. -/
import Derived.Test.YtbdfibaljoedpaaDoorSyMops6
set_option linter.unusedVariables false
set_option linter.unusedSimpArgs false
namespace Go.Sy
open Go.RowKit

section
variable {C : Ctx} {gl : List (Nat × SVal)} {W : World} {R : Nat → Prop} {ρ : Nat → Option Value} {h : Nat → Option Cont} {P : Program}

theorem foldl_cells (off : Nat) (v : Value) (cells : Array Value) (hf : off + v.cells.size ≤ cells.size) :
    (v.cells.zipIdx.foldl (fun cs (c, j) => cs.setIfInBounds (off + j) c) cells).toList = cells.toList.take off ++ v.cells.toList ++ cells.toList.drop (off + v.cells.toList.length) := by
  have e : v.cells.zipIdx.foldl (fun cs (x : Value × Nat) => cs.setIfInBounds (off + x.2) x.1) cells = (v.cells.toList.zipIdx 0).foldl (fun cs (x : Value × Nat) => cs.setIfInBounds (off + x.2) x.1) cells := by
    rw [← Array.foldl_toList]; simp
  have e' : v.cells.zipIdx.foldl (fun cs (c, j) => cs.setIfInBounds (off + j) c) cells = v.cells.zipIdx.foldl (fun cs (x : Value × Nat) => cs.setIfInBounds (off + x.2) x.1) cells := rfl
  rw [e', e]
  obtain ⟨h1, h2⟩ := Great.foldl_set off v.cells.toList 0 cells
  apply List.ext_getElem?
  intro k
  have := h2 k
  rw [Array.getElem?_toList, this]
  simp only [Nat.add_zero, Array.length_toList]
  by_cases hk : off ≤ k ∧ k < off + v.cells.size ∧ k < cells.size
  · rw [if_pos hk, List.append_assoc, List.getElem?_append_right (by simp; omega)]
    simp only [List.length_take, Array.length_toList]
    rw [Nat.min_eq_left (by omega), List.getElem?_append_left (by simp; omega)]
  · rw [if_neg hk]
    by_cases hk2 : k < off
    · rw [List.append_assoc, List.getElem?_append_left (by simp; omega), List.getElem?_take, if_pos hk2]; simp
    · rw [List.append_assoc, List.getElem?_append_right (by simp; omega)]
      simp only [List.length_take, Array.length_toList]
      rw [Nat.min_eq_left (by omega)]
      by_cases hk3 : k < off + v.cells.size
      · have hk4 : ¬ k < cells.size := fun h => hk ⟨by omega, hk3, h⟩
        omega
      · rw [List.getElem?_append_right (by simp; omega), List.getElem?_drop]
        simp only [Array.length_toList]
        rw [show off + v.cells.size + (k - off - v.cells.size) = k by omega]; simp

theorem fillC_ok {fs : List (Nat × Nat × Nat)} {place : Nat → Option (Nat × Nat)} (hpl : ∀ i off t n, fs[i]? = some (off, t, n) → place i = some (off, n)) :
    ∀ {ps : List (Nat × SVal)} {vs : List (Nat × Value)} {cs cs' : List SVal} {cells : Array Value}, fillC fs cs ps = some cs' → Parts C W R ρ ps vs → DenL C W R ρ cs cells.toList →
      ∃ arr, Instr.fill place cells vs = some arr ∧ DenL C W R ρ cs' arr.toList
  | [], [], cs, cs', cells, hf, _, hd => by
    simp [fillC] at hf; subst hf; exact ⟨cells, rfl, hd⟩
  | (i, s) :: ps, (j, v) :: vs, cs, cs', cells, hf, ⟨e, hv, hp⟩, hd => by
    subst e
    simp only [fillC] at hf
    split at hf
    · rename_i off t n h1 h2
      split at hf
      · rename_i c1 h3 h4
        have h4 := beq_ok h4
        have hc := cells_den hv h2
        have hl : v.cells.size = n := by
          have := hc.len
          rw [show (cellsOf s |>.map SVal.width).sum = n from h4] at this
          simpa using this
        obtain ⟨q1, q2⟩ := hd.setW hc h3
        simp only [Array.length_toList] at q2
        rw [← foldl_cells off v cells q2] at q1
        obtain ⟨arr, a1, a2⟩ := fillC_ok hpl hf hp q1
        refine ⟨arr, ?_, a2⟩
        unfold Instr.fill
        rw [hpl _ _ _ _ h1]
        simp only
        rw [if_neg (by simp [hl]; omega)]
        exact a1
      · cases hf
    · cases hf
  | [], _ :: _, _, _, _, _, h, _ => h.elim
  | _ :: _, [], _, _, _, _, h, _ => h.elim

theorem build_ok {E : Env} {t : Nat} {ti : TI} (T : TiOk P t ti) {ps : List (Nat × SVal)} {vs : List (Nat × Value)} (hps : Parts C W R ρ ps vs) {look : Nat → Option Cont} {r : ORes} {l l' : List Nat}
    (hr : (buildS E ti ps).run look l = .ok (r, l')) : PureOk C W R ρ P (Instr.build t vs.toArray) r := by
  obtain ⟨d, d1, d2⟩ := T.d
  obtain ⟨i, z, i1, i2, i3, i4, i5, i6, i7⟩ := T.i
  unfold buildS at hr
  split at hr
  · rename_i fs hfs
    rw [hfs] at d2
    obtain ⟨fields, rfl, rfl, hfi⟩ := d2
    split at hr
    · rename_i cs' hfill
      simp [Acc.run] at hr
      obtain ⟨rfl, _⟩ := hr
      have hplaces : fields.toList.mapM (fun f => (P.info? f.type).map fun i => (f.offset, i.size)) = some (fields.toList.map fun f => (f.offset, P.cellsOf f.type)) := by
        have : ∀ l : List Field, (∀ f ∈ l, ∃ i, P.info? f.type = some i ∧ i.size = P.cellsOf f.type ∧ 0 < i.size) → l.mapM (fun f => (P.info? f.type).map fun i => (f.offset, i.size)) = some (l.map fun f => (f.offset, P.cellsOf f.type)) := by
          intro l hl
          induction l with
          | nil => rfl
          | cons f l ih =>
            obtain ⟨j, j1, j2, _⟩ := hl f (List.mem_cons_self ..)
            simp [List.mapM_cons, j1, j2, ih (fun g hg => hl g (List.mem_cons_of_mem _ hg))]
        exact this _ hfi
      obtain ⟨arr, a1, a2⟩ := fillC_ok (place := fun k => ((fields.toList.map fun f => (f.offset, P.cellsOf f.type)).toArray)[k]?) (cells := z.cells) (by
        intro k off ty n hk
        rw [List.getElem?_map] at hk
        cases hg : fields.toList[k]? with
        | none => rw [hg] at hk; cases hk
        | some f =>
          rw [hg] at hk
          simp only [Option.map_some, Option.some.injEq, Prod.mk.injEq] at hk
          obtain ⟨rfl, rfl, rfl⟩ := hk
          simp [hg]) hfill hps (cells_den (i6 C W R ρ) T.z)
      have hbuilt : P.built t vs = some arr := by
        unfold Program.built
        rw [i1, d1]
        simp only [i4, hplaces]
        exact a1
      refine ⟨.agg arr, run_build W t vs.toArray arr (by simpa using hbuilt), ?_, rfl, rfl⟩
      have := Den.agg (C := C) (W := W) (R := R) (ρ := ρ) _ _ a2
      rwa [toArr] at this
    · cases hr
  · cases hr

theorem len_ok (M : Mem C gl W R ρ h) {t : Nat} {d : TypeDesc} (ht : P.underlying t = some d) (hd : (∃ e, d = .slice e) ∨ d = .string) {x : SVal} {u : Value} (hx : Den C W R ρ x u) {n : SI} {l l' : List Nat} (hr : (lenOfS x).run h l = .ok (n, l'))
    (hk1 : ∀ s, x = .str s → d = .string) (hk2 : ∀ t n l, x ≠ .arr t n l) (hk3 : (∀ s, x ≠ .str s) → ∃ e, d = .slice e) {ty : Nat} :
    (Builtin.len_ #[t] ty #[u]).run P W = .ok (.int .i64 n.val) W ∧ InI .i64 n := by
  have nat : ∀ m : Nat, m ≤ maxLen → InI .i64 (.sym (m : Nat) 0 9223372036854775807) := fun m hm => by
    unfold maxLen at hm
    exact .sym (by show (-9223372036854775808 : Int) ≤ _; omega) (by show _ ≤ (9223372036854775807 : Int); omega) (by omega) (by omega)
  have sl : ∀ {e : Nat} {A : Option Addr} {m c : Nat}, d = .slice e → (Builtin.len_ #[t] ty #[.slice A m c]).run P W = .ok (.int .i64 (m : Int)) W := fun {e A m c} he => by
    subst he; simp [Builtin.len_, run_und ht, goInt]
  unfold lenOfS at hr
  split at hr
  · obtain ⟨e, he⟩ := hk3 (fun _ h => by cases h)
    simp [Acc.run] at hr
    obtain ⟨rfl, _⟩ := hr
    cases hx
    exact ⟨sl he, ⟨by decide, by decide, Int.le_refl _, Int.le_refl _⟩⟩
  · obtain ⟨e, he⟩ := hk3 (fun _ h => by cases h)
    simp [Acc.run] at hr
    obtain ⟨rfl, _⟩ := hr
    cases hx with
    | ro _ _ A cap vs h1 h2 h3 h4 => exact ⟨sl he, nat _ (by omega)⟩
  · obtain ⟨e, he⟩ := hk3 (fun _ h => by cases h)
    simp only [Acc.run] at hr
    split at hr
    · rename_i q T l0 hc
      simp [Acc.run] at hr
      obtain ⟨rfl, _⟩ := hr
      cases hx with
      | own _ A m cap hq =>
        obtain ⟨v', hv', e', vs, ho, hl⟩ := M.at_ _ _ hc
        rw [hq] at hv'; cases hv'
        obtain ⟨rfl, _⟩ := own_cells ho
        have : l0.length ≤ maxLen := by
          rcases ho.2 with ⟨h1, h2⟩ | ⟨g, c, cur, h1, _, _, h4, h5, _, _⟩
          · omega
          · omega
        exact ⟨sl he, nat _ this⟩
    · rename_i q w l0 hc
      simp only [Acc.run, Except.ok.injEq, Prod.mk.injEq] at hr
      obtain ⟨rfl, _⟩ := hr
      cases hx with
      | own _ A m cap hq =>
        obtain ⟨v', hv', e', vs, n', ho, hl, hpos⟩ := M.at_ _ _ hc
        rw [hq] at hv'; cases hv'
        obtain ⟨rfl, _⟩ := own_cells ho
        have hmx : m ≤ maxLen := by
          rcases ho.2 with ⟨h1, h2⟩ | ⟨g, c, cur, h1, _, _, h4, h5, _, _⟩
          · rw [h2]; simp [maxLen]
          · omega
        have hlen : (l0.map SVal.width).sum / w = m := by
          have : (l0.map SVal.width).sum = m * w := by rw [← ho.1]; exact hl.len.symm
          rw [this, Nat.mul_div_cancel _ hpos]
        refine ⟨?_, ?_⟩
        · show _ = Result.ok (Value.int .i64 (((l0.map SVal.width).sum / w : Nat) : Int)) W
          rw [hlen]; exact sl he
        · rw [hlen]; unfold maxLen at hmx; exact ⟨by show (-9223372036854775808 : Int) ≤ (m : Int); omega, by show (m : Int) ≤ (9223372036854775807 : Int); omega, Int.le_refl _, Int.le_refl _⟩
    · cases hr
  · obtain ⟨e, he⟩ := hk3 (fun _ h => by cases h)
    simp [Acc.run] at hr
    obtain ⟨rfl, _⟩ := hr
    cases hx with
    | view _ _ _ _ A A' m cap cap' hq h1 h2 h3 h4 => exact ⟨sl he, nat _ (by omega)⟩
  · simp [Acc.run] at hr
    obtain ⟨rfl, _⟩ := hr
    obtain ⟨rfl, hs⟩ := hx.str_inv
    have hk : d = .string := hk1 _ rfl
    subst hk
    exact ⟨by simp [Builtin.len_, run_und ht, goInt]; rfl, nat _ hs⟩
  · exact (hk2 _ _ _ rfl).elim
  · cases hr

theorem conv_ok {s d : Nat} {ts td : TypeDesc} {D : TD} (hs : P.underlying s = some ts) (hd : P.underlying d = some td) (hD : TDOk P td D) {x : SVal} {u : Value} (hx : Den C W R ρ x u) {look : Nat → Option Cont} {r : ORes} {l l' : List Nat}
    (hr : (convS D x).run look l = .ok (r, l')) : PureOk C W R ρ P (convert s d u) r := by
  unfold convS at hr
  split at hr
  · rename_i k k' a
    have hD : td = .int k := hD
    subst hD
    obtain ⟨rfl, hi⟩ := hx.int_inv
    have hrun : (convert s d (.int k' a.val)).run P W = .ok (.int k (k.wrap a.val)) W := by
      cases ts <;> simp [convert, run_und hs, run_und hd, Conv.intToInt]
    split at hr
    · rename_i hk
      obtain ⟨b1, b2⟩ := inK_iff hk
      have l1 := hi.lo'; have l2 := hi.hi'
      have hw : k.wrap a.val = a.val := wrap_in (by omega) (by omega)
      rw [hw] at hrun
      simp [Acc.run] at hr
      obtain ⟨rfl, _⟩ := hr
      cases a with
      | lit n => exact ⟨_, hrun, .int k (.lit n) ⟨by show kmin k ≤ n; exact Int.le_trans b1 l1, by show n ≤ kmax k; exact Int.le_trans l2 b2, Int.le_refl _, Int.le_refl _⟩, rfl, rfl⟩
      | full n => exact ⟨_, hrun, .int k (.sym n _ _) (.sym (Int.le_trans b1 l1) (Int.le_trans l2 b2) l1 l2), rfl, rfl⟩
      | sym n lo hi => exact ⟨_, hrun, .int k (.sym n _ _) (.sym (Int.le_trans b1 l1) (Int.le_trans l2 b2) l1 l2), rfl, rfl⟩
    · split at hr
      · simp [Acc.run] at hr
        obtain ⟨rfl, _⟩ := hr
        exact ⟨_, hrun, .int k (.lit _) (.litw _ _), rfl, rfl⟩
      · simp [Acc.run] at hr
        obtain ⟨rfl, _⟩ := hr
        exact ⟨_, hrun, .int k (.full _) (.wrap _ _), rfl, rfl⟩
  · have hD : td = .string := hD
    subst hD
    simp [Acc.run] at hr
    obtain ⟨rfl, _⟩ := hr
    obtain ⟨rfl, hsz⟩ := hx.str_inv
    refine ⟨_, ?_, .str _ hsz, rfl, rfl⟩
    cases ts <;> simp [convert, run_und hs, run_und hd]
  · cases hr
end
end Go.Sy
