/- Operations on memory: boxes, loads, stores, slices, appends. -/
import Derived.Test.YtbdfibaljoedpaaDoorSyPure
import Derived.Laws.AppendOwn
set_option linter.unusedVariables false
set_option linter.unusedSimpArgs false
namespace Go.Sy
open Go.RowKit

theorem Acc.bind_ok {α β : Type} {x : Acc α} {f : α → Acc β} {look : Nat → Option Cont} {b : β} : ∀ {l l' : List Nat}, (x >>= f).run look l = .ok (b, l') → ∃ a l1, x.run look l = .ok (a, l1) ∧ (f a).run look l1 = .ok (b, l') := by
  induction x with
  | ret a => intro l l' h; exact ⟨a, l, rfl, h⟩
  | fail s => intro l l' h; cases h
  | look r k ih => intro l l' h; exact ih _ h
theorem ofOpt_ok {α : Type} {why : String} {o : Option α} {look : Nat → Option Cont} {a : α} {l l' : List Nat} (h : (ofOpt why o).run look l = .ok (a, l')) : o = some a ∧ l' = l := by
  cases o <;> simp [ofOpt, Acc.run] at h; exact ⟨by rw [h.1], h.2.symm⟩

section
variable {C : Ctx} {gl : List (Nat × SVal)} {W : World} {R : Nat → Prop} {ρ : Nat → Option Value} {h : Nat → Option Cont} {P : Program}

theorem cells_den {s : SVal} {v : Value} (hd : Den C W R ρ s v) (hs : s.isAgg = false) : DenL C W R ρ (cellsOf s) v.cells.toList := by
  cases hd <;> first
    | (simp [SVal.isAgg] at hs; done)
    | (rename_i hh; simpa [cellsOf, Value.cells] using hh)
    | skip
  all_goals first
    | exact .one _ _ _ _ rfl rfl (by constructor <;> assumption) .nil
    | skip
  case arr t n xs vs h1 h2 => simpa [cellsOf, Value.cells] using DenL.arr t n xs vs [] [] h1 h2 .nil

theorem toArr (a : Array Value) : a.toList.toArray = a := by cases a; rfl

/-- A new box. -/
theorem newBox (M : Mem C gl W R ρ h) {t next : Nat} {v : Value} {l : List SVal} (hn : ρ next = none) (hl : DenL C W R ρ l v.cells.toList) :
    ∃ W' ρ', (newVar t v).run P W = .ok ⟨W.heap.size, 0, none⟩ W' ∧ Trans C gl W R ρ h [(next, some (.cells l))] W' R ρ' ∧ Den C W' R ρ' (.ptr next 0) (.pointer (some ⟨W.heap.size, 0, none⟩)) := by
  refine ⟨W.alloc (.cells v.cells t), bindN ρ next (.pointer (some ⟨W.heap.size, 0, none⟩)), by simp [newVar, newRow], ?_, ?_⟩
  · refine Trans.new M hn _ _ _ rfl fun kR => ⟨W.heap.size, v.cells.toList, t, rfl, ?_, hl.mono (fun _ h => h) kR (bindN_mono hn)⟩
    rw [toArr]; exact Go.heap_alloc_new W _
  · exact .ptr next 0 _ bindN_at

theorem alloc_ok (M : Mem C gl W R ρ h) {t next : Nat} {ti : TI} (T : TiOk P t ti) (hn : ρ next = none) :
    ∃ v W' ρ', (Instr.alloc t true (.tuple #[])).run P W = .ok v W' ∧ Trans C gl W R ρ h [(next, some (.cells (cellsOf ti.zero)))] W' R ρ' ∧ Den C W' R ρ' (.ptr next 0) v := by
  obtain ⟨i, z, h1, h2, h3, h4, h5, h6, _⟩ := T.i
  obtain ⟨W', ρ', e, tr, d⟩ := newBox (P := P) M (t := t) hn (cells_den (h6 C W R ρ) T.z)
  exact ⟨_, W', ρ', by simp [Instr.alloc, run_zero h1 h4, e], tr, d⟩

theorem box_ok (M : Mem C gl W R ρ h) {t next : Nat} {s : SVal} {v : Value} (hs : s.isAgg = false) (hd : Den C W R ρ s v) (hn : ρ next = none) :
    ∃ u W' ρ', (Instr.box t v).run P W = .ok u W' ∧ Trans C gl W R ρ h [(next, some (.cells (cellsOf s)))] W' R ρ' ∧ Den C W' R ρ' (.ptr next 0) u := by
  obtain ⟨W', ρ', e, tr, d⟩ := newBox (P := P) M (t := t) hn (cells_den hd hs)
  exact ⟨_, W', ρ', by simp [Instr.box, e], tr, d⟩

/-! Pointers -/
theorem cellsAt_row {b : Nat} {vs : List Value} {T : Nat} {fz : Nat × Nat} (hb : W.heap[b]? = some (.cells vs.toArray T fz)) : CellsAt W b 0 vs := fun j v hj => by
  rw [cell_of_row W b _ _ T fz hb]; simpa using hj

theorem own_cells {e size : Nat} {A : Option Addr} {m cap n : Nat} {xs : List Value} (ho : W.ownsRow 0 e size (.slice A m cap) n xs) : m = n ∧ (0 < n → ∃ b, A = some ⟨b, 0, none⟩ ∧ CellsAt W b 0 xs) := by
  rcases ho.2 with ⟨h1, h2⟩ | ⟨g, c, cur, h1, h2, h3, h4, h5, h6, h7⟩
  · cases h1; exact ⟨h2.symm, fun h => by omega⟩
  · cases h1
    refine ⟨rfl, fun _ => ⟨g, rfl, fun j v hj => ?_⟩⟩
    rw [cell_of_row W g _ _ e (0, 0) h3]
    rw [← h7, List.getElem?_take] at hj
    split at hj
    · simpa using hj
    · cases hj

theorem beq_ok {a b : Nat} (h : a.beq b = true) : a = b := Nat.eq_of_beq_eq_true h

/-- The cells at a pointer. -/
theorem atPtr_ok (M : Mem C gl W R ρ h) {p : SVal} {v : Value} {cs : List SVal} {l l' : List Nat} (hr : (atPtr p).run h l = .ok (cs, l')) (hp : Den C W R ρ p v) :
    ∃ b off vs, v = .pointer (some ⟨b, off, none⟩) ∧ DenL C W R ρ cs vs ∧ CellsAt W b off vs := by
  unfold atPtr at hr
  split at hr
  · simp [Acc.run] at hr
    obtain ⟨rfl, _⟩ := hr
    cases hp with
    | rop _ vs b off h1 h2 h3 => exact ⟨b, off, vs, rfl, h2, h3⟩
  · rename_i r off
    simp only [Acc.run] at hr
    split at hr
    · rename_i cs0 hc
      obtain ⟨hd, _⟩ := ofOpt_ok hr
      cases hp with
      | ptr _ _ b hb =>
        obtain ⟨v', hv', b', vs, T, rfl, hh, hl⟩ := M.at_ _ _ hc
        rw [hb] at hv'; cases hv'
        refine ⟨b, off, vs.drop off, rfl, hl.dropW hd, ?_⟩
        simpa using (cellsAt_row hh).drop off
    · simp [Acc.run] at hr
  · rename_i r w i j
    simp only [Acc.run] at hr
    split at hr
    · rename_i t l0 hc
      split at hr
      · rename_i hw
        have := beq_ok hw; subst this
        obtain ⟨hd, _⟩ := ofOpt_ok hr
        cases hp with
        | eptr _ _ _ _ b n cap hb h1 h2 =>
          obtain ⟨v', hv', e, vs, ho, hl⟩ := M.at_ _ _ hc
          rw [hb] at hv'; cases hv'
          obtain ⟨e1, e2⟩ := own_cells ho
          obtain ⟨b', e3, hcs⟩ := e2 (by omega)
          cases e3
          have hi : i.toNat < l0.length := by omega
          obtain ⟨q1, q2⟩ := hl.elem hi
          refine ⟨b, _, _, rfl, q1.dropW hd, ?_⟩
          have := ((hcs.drop (i.toNat * t.w)).take t.w).drop j
          simpa using this
      · simp [Acc.run] at hr
    · rename_i w' l0 hc
      split at hr
      · rename_i n hw
        have := beq_ok hw; subst this
        obtain ⟨hd, _⟩ := ofOpt_ok hr
        cases hp with
        | eptr _ _ _ _ b m cap hb h1 h2 =>
          obtain ⟨v', hv', e, vs, n', ho, hl, hpos⟩ := M.at_ _ _ hc
          rw [hb] at hv'; cases hv'
          obtain ⟨e1, e2⟩ := own_cells ho
          have h2 : (n : Int) < m := h2
          obtain ⟨b', e3, hcs⟩ := e2 (by omega)
          cases e3
          refine ⟨b, _, _, rfl, hl.dropW hd, ?_⟩
          have := hcs.drop (n * w + j)
          simpa using this
      · simp [Acc.run] at hr
    · simp [Acc.run] at hr
  · rename_i r off w n i j
    simp only [Acc.run] at hr
    split at hr
    · rename_i cs0 hc
      split at hr
      · rename_i t m l0 rest hdr
        split at hr
        · rename_i hw hm
          have := beq_ok hw; subst this
          have := beq_ok hm; subst this
          obtain ⟨hd, _⟩ := ofOpt_ok hr
          cases hp with
          | aptr _ _ _ _ _ _ b hb h1 h2 =>
            obtain ⟨v', hv', b', vs, T, e3, hh, hl⟩ := M.at_ _ _ hc
            rw [hb] at hv'; cases hv'; cases e3
            have q := hl.dropW hdr
            have hcs := (cellsAt_row hh).drop off
            generalize vs.drop off = ds at q hcs
            cases q with
            | one _ _ _ _ h => simp [SVal.isArr] at h
            | arr _ _ _ us _ us' hlen hx hrest =>
              have hi : i.toNat < l0.length := by omega
              obtain ⟨q1, q2⟩ := hx.elem hi
              refine ⟨b, _, _, rfl, q1.dropW hd, ?_⟩
              have := ((hcs.left.drop (i.toNat * t.w)).take t.w).drop j
              simpa [Nat.add_assoc] using this
        · simp [Acc.run] at hr
      · simp [Acc.run] at hr
    · simp [Acc.run] at hr
  · simp [Acc.run] at hr

end
end Go.Sy
