/- Words that the proofs use, part 7. -/
import Derived.Test.YtacmmedhjebfjaaGreatDoorQE6
import Derived.Laws.AppendOwn
set_option linter.unusedVariables false
set_option linter.unusedSimpArgs false
namespace Go.Sy
open Go.RowKit
theorem Acc.bind_ok {α β : Type} {x : Acc α} {f : α → Acc β} {look : Nat → Option Cont} {b : β} : ∀ {l l' : List Nat}, (x >>= f).run look l = .ok (b, l') → ∃ a l1, x.run look l = .ok (a, l1) ∧ (f a).run look l1 = .ok (b, l') := by
 induction x with
 | ret a => intro l l' h; exact ⟨a, l, rfl, h⟩
 | fail s => intro l l' h; cases h
 | look r k ih => intro l l' h; exact ih _ h
theorem ofOpt_ok {α : Type} {why : String} {o : Option α} {look : Nat → Option Cont} {a : α} {l l' : List Nat} (h : (ofOpt why o).run look l = .ok (a, l')) : o = some a ∧ l' = l := by
 cases o <;> simp [ofOpt, Acc.run] at h; exact ⟨by rw [h.1], h.2.symm⟩
section
variable {C : Ctx} {gl : List (Nat × SVal)} {W : World} {R : Nat → Prop} {ρ : Nat → Option Value} {h : Nat → Option Cont} {P : Program}
theorem cells_den {s : SVal} {v : Value} (hd : Den C W R ρ s v) (hs : s.isAgg = false) : DenL C W R ρ (cellsOf s) v.cells.toList := by
 cases hd <;> first
  | (simp [SVal.isAgg] at hs; done)
  | (rename_i hh; simpa [cellsOf, Value.cells] using hh)
  | skip
 all_goals first
  | exact .one _ _ _ _ rfl rfl (by constructor <;> assumption) .nil
  | skip
 case arr t n xs vs h1 h2 => simpa [cellsOf, Value.cells] using DenL.arr t n xs vs [] [] h1 h2 .nil
theorem toArr (a : Array Value) : a.toList.toArray = a := by cases a; rfl
theorem newBox (M : Mem C gl W R ρ h) {t next : Nat} {v : Value} {l : List SVal} (hn : ρ next = none) (hl : DenL C W R ρ l v.cells.toList) :
  ∃ W' ρ', (newVar t v).run P W = .ok ⟨W.heap.size, 0, none⟩ W' ∧ Trans C gl W R ρ h [(next, some (.cells l))] W' R ρ' ∧ Den C W' R ρ' (.ptr next 0) (.pointer (some ⟨W.heap.size, 0, none⟩)) := by
 refine ⟨W.alloc (.cells v.cells t), bindN ρ next (.pointer (some ⟨W.heap.size, 0, none⟩)), by simp [newVar, newRow], ?_, ?_⟩
 ·refine Trans.new M hn _ _ _ rfl fun kR => ⟨W.heap.size, v.cells.toList, t, rfl, ?_, hl.mono (fun _ h => h) kR (bindN_mono hn)⟩
  rw [toArr]; exact Go.heap_alloc_new W _
 ·exact .ptr next 0 _ bindN_at
theorem alloc_ok (M : Mem C gl W R ρ h) {t next : Nat} {ti : TI} (T : TiOk P t ti) (hn : ρ next = none) :
  ∃ v W' ρ', (Instr.alloc t true (.tuple #[])).run P W = .ok v W' ∧ Trans C gl W R ρ h [(next, some (.cells (cellsOf ti.zero)))] W' R ρ' ∧ Den C W' R ρ' (.ptr next 0) v := by
 obtain ⟨i, z, h1, h2, h3, h4, h5, h6, _⟩ := T.i
 obtain ⟨W', ρ', e, tr, d⟩ := newBox (P := P) M (t := t) hn (cells_den (h6 C W R ρ) T.z)
 exact ⟨_, W', ρ', by simp [Instr.alloc, run_zero h1 h4, e], tr, d⟩
theorem box_ok (M : Mem C gl W R ρ h) {t next : Nat} {s : SVal} {v : Value} (hs : s.isAgg = false) (hd : Den C W R ρ s v) (hn : ρ next = none) :
  ∃ u W' ρ', (Instr.box t v).run P W = .ok u W' ∧ Trans C gl W R ρ h [(next, some (.cells (cellsOf s)))] W' R ρ' ∧ Den C W' R ρ' (.ptr next 0) u := by
 obtain ⟨W', ρ', e, tr, d⟩ := newBox (P := P) M (t := t) hn (cells_den hd hs)
 exact ⟨_, W', ρ', by simp [Instr.box, e], tr, d⟩
theorem cellsAt_row {b : Nat} {vs : List Value} {T : Nat} {fz : Nat × Nat} (hb : W.heap[b]? = some (.cells vs.toArray T fz)) : CellsAt W b 0 vs := fun j v hj => by
 rw [cell_of_row W b _ _ T fz hb]; simpa using hj
theorem own_cells {e size : Nat} {A : Option Addr} {m cap n : Nat} {xs : List Value} (ho : W.ownsRow 0 e size (.slice A m cap) n xs) : m = n ∧ (0 < n → ∃ b, A = some ⟨b, 0, none⟩ ∧ CellsAt W b 0 xs) := by
 rcases ho.2 with ⟨h1, h2⟩ | ⟨g, c, cur, h1, h2, h3, h4, h5, h6, h7⟩
 ·cases h1; exact ⟨h2.symm, fun h => by omega⟩
 ·cases h1
  refine ⟨rfl, fun _ => ⟨g, rfl, fun j v hj => ?_⟩⟩
  rw [cell_of_row W g _ _ e (0, 0) h3]
  rw [← h7, List.getElem?_take] at hj
  split at hj
  ·simpa using hj
  ·cases hj
theorem beq_ok {a b : Nat} (h : a.beq b = true) : a = b := Nat.eq_of_beq_eq_true h
theorem atPtr_ok (M : Mem C gl W R ρ h) {p : SVal} {v : Value} {cs : List SVal} {l l' : List Nat} (hr : (atPtr p).run h l = .ok (cs, l')) (hp : Den C W R ρ p v) :
  ∃ b off vs, v = .pointer (some ⟨b, off, none⟩) ∧ DenL C W R ρ cs vs ∧ CellsAt W b off vs := by
 unfold atPtr at hr
 split at hr
 ·simp [Acc.run] at hr
  obtain ⟨rfl, _⟩ := hr
  cases hp with
  | rop _ vs b off h1 h2 h3 => exact ⟨b, off, vs, rfl, h2, h3⟩
 ·rename_i r off
  simp only [Acc.run] at hr
  split at hr
  ·rename_i cs0 hc
   obtain ⟨hd, _⟩ := ofOpt_ok hr
   cases hp with
   | ptr _ _ b hb =>
    obtain ⟨v', hv', b', vs, T, rfl, hh, hl⟩ := M.at_ _ _ hc
    rw [hb] at hv'; cases hv'
    refine ⟨b, off, vs.drop off, rfl, hl.dropW hd, ?_⟩
    simpa using (cellsAt_row hh).drop off
  ·simp [Acc.run] at hr
 ·rename_i r w i j
  simp only [Acc.run] at hr
  split at hr
  ·rename_i t l0 hc
   split at hr
   ·rename_i hw
    have := beq_ok hw; subst this
    obtain ⟨hd, _⟩ := ofOpt_ok hr
    cases hp with
    | eptr _ _ _ _ b n cap hb h1 h2 =>
     obtain ⟨v', hv', e, vs, ho, hl⟩ := M.at_ _ _ hc
     rw [hb] at hv'; cases hv'
     obtain ⟨e1, e2⟩ := own_cells ho
     obtain ⟨b', e3, hcs⟩ := e2 (by omega)
     cases e3
     have hi : i.toNat < l0.length := by omega
     obtain ⟨q1, q2⟩ := hl.elem hi
     refine ⟨b, _, _, rfl, q1.dropW hd, ?_⟩
     have := ((hcs.drop (i.toNat * t.w)).take t.w).drop j
     simpa using this
   ·simp [Acc.run] at hr
  ·rename_i w' l0 hc
   split at hr
   ·rename_i n hw
    have := beq_ok hw; subst this
    obtain ⟨hd, _⟩ := ofOpt_ok hr
    cases hp with
    | eptr _ _ _ _ b m cap hb h1 h2 =>
     obtain ⟨v', hv', e, vs, n', ho, hl, hpos⟩ := M.at_ _ _ hc
     rw [hb] at hv'; cases hv'
     obtain ⟨e1, e2⟩ := own_cells ho
     have h2 : (n : Int) < m := h2
     obtain ⟨b', e3, hcs⟩ := e2 (by omega)
     cases e3
     refine ⟨b, _, _, rfl, hl.dropW hd, ?_⟩
     have := hcs.drop (n * w + j)
     simpa using this
   ·simp [Acc.run] at hr
  ·simp [Acc.run] at hr
 ·rename_i r off w n i j
  simp only [Acc.run] at hr
  split at hr
  ·rename_i cs0 hc
   split at hr
   ·rename_i t m l0 rest hdr
    split at hr
    ·rename_i hw hm
     have := beq_ok hw; subst this
     have := beq_ok hm; subst this
     obtain ⟨hd, _⟩ := ofOpt_ok hr
     cases hp with
     | aptr _ _ _ _ _ _ b hb h1 h2 =>
      obtain ⟨v', hv', b', vs, T, e3, hh, hl⟩ := M.at_ _ _ hc
      rw [hb] at hv'; cases hv'; cases e3
      have q := hl.dropW hdr
      have hcs := (cellsAt_row hh).drop off
      generalize vs.drop off = ds at q hcs
      cases q with
      | one _ _ _ _ h => simp [SVal.isArr] at h
      | arr _ _ _ us _ us' hlen hx hrest =>
       have hi : i.toNat < l0.length := by omega
       obtain ⟨q1, q2⟩ := hx.elem hi
       refine ⟨b, _, _, rfl, q1.dropW hd, ?_⟩
       have := ((hcs.left.drop (i.toNat * t.w)).take t.w).drop j
       simpa [Nat.add_assoc] using this
    ·simp [Acc.run] at hr
   ·simp [Acc.run] at hr
  ·simp [Acc.run] at hr
 ·simp [Acc.run] at hr
end
end Go.Sy

set_option linter.unusedVariables false
set_option linter.unusedSimpArgs false
namespace Go.Sy
open Go.RowKit
section
variable {C : Ctx} {gl : List (Nat × SVal)} {W : World} {R : Nat → Prop} {ρ : Nat → Option Value} {h : Nat → Option Cont} {P : Program}
theorem addA (b off j : Nat) : (⟨b, off, none⟩ : Addr).add j = ⟨b, off + j, none⟩ := by unfold Addr.add; split <;> simp_all
theorem run_cells {b off : Nat} {vs : List Value} (hc : CellsAt W b off vs) {n : Nat} (hn : vs.length = n) : (loadCells ⟨b, off, none⟩ n).run P W = .ok vs.toArray W := by
 subst hn
 exact run_loadCells_list (P := P) W _ vs fun j v hj => by rw [addA]; exact hc j v hj
theorem isAgg_of {t : Nat} {d : TypeDesc} (hd : P.underlying t = some d) : (isAgg t).run P W = .ok (isAggD d) W := by
 simp only [isAgg, Sem.run_bind, run_und hd, Result.andThen_ok]
 cases d <;> rfl
theorem load_ok {t : Nat} {ti : TI} (T : TiOk P t ti) {cs : List SVal} {vs : List Value} {b off : Nat} (hd : DenL C W R ρ cs vs) (hc : CellsAt W b off vs) {look : Nat → Option Cont} {s : SVal} {l l' : List Nat}
  (hr : (valOf ti cs).run look l = .ok (s, l')) : ∃ v, (loadVar t ⟨b, off, none⟩).run P W = .ok v W ∧ Den C W R ρ s v := by
 obtain ⟨d, d1, d2⟩ := T.d
 obtain ⟨i, z, i1, i2, i3, i4, i5, i6, _⟩ := T.i
 have hs : (sizeOf t).run P W = .ok ti.size W := by rw [run_siz i1, i2]
 have one : isAggD d = false → (valOne cs).run look l = .ok (s, l') → ∃ v, (loadVar t ⟨b, off, none⟩).run P W = .ok v W ∧ Den C W R ρ s v := by
  intro hda hr
  cases cs with
  | nil => cases hr
  | cons s0 rest =>
   simp only [valOne] at hr
   split at hr
   ·cases hr
   ·rename_i hna
    simp [Acc.run] at hr
    obtain ⟨rfl, _⟩ := hr
    obtain ⟨v, us, rfl, h1, h2, h3⟩ := hd.inv_one hna
    have := hc 0 v rfl
    refine ⟨v, ?_, h2⟩
    have this : W.cell? ⟨b, off, none⟩ = some v := this
    simp [loadVar, isAgg_of d1, hda, this]
 unfold valOf at hr
 split at hr
 ·rename_i fs hfs
  rw [hfs] at d2
  obtain ⟨fields, rfl, _⟩ := d2
  obtain ⟨ht, _⟩ := ofOpt_ok hr
  cases hk : takeW cs ti.size with
  | none => rw [hk] at ht; cases ht
  | some cs' =>
   rw [hk] at ht; cases ht
   obtain ⟨q1, q2⟩ := hd.takeW hk
   exact ⟨_, by simp [loadVar, isAgg_of d1, isAggD, hs, run_cells (hc.take ti.size) q2], .agg _ _ q1⟩
 ·rename_i n e hfs
  rw [hfs] at d2
  have d2 : d = .array n e := d2
  subst d2
  split at hr
  ·rename_i u m xs rest
   split at hr
   ·rename_i hb
    have hb := beq_ok hb
    simp [Acc.run] at hr
    obtain ⟨rfl, _⟩ := hr
    cases hd with
    | one _ _ _ _ h => simp [SVal.isArr] at h
    | arr _ _ _ us _ us' hlen hx hrest =>
     have lu : us.length = ti.size := by rw [hx.len_noarr (flat_noarr u xs), flat_w, hlen, hb]
     exact ⟨_, by simp [loadVar, isAgg_of d1, isAggD, hs, run_cells hc.left lu], .arr u m xs us hlen hx⟩
   ·simp [Acc.run] at hr
  ·simp [Acc.run] at hr
 ·rename_i h1 h2
  refine one ?_ hr
  cases hti : ti.d with
  | struct fs => exact (h1 _ hti).elim
  | arr n e => exact (h2 _ _ hti).elim
  | iface => rw [hti] at d2; obtain ⟨_, rfl⟩ := d2; rfl
  | func => rw [hti] at d2; obtain ⟨_, _, _, rfl⟩ := d2; rfl
  | other => rw [hti] at d2; exact d2
  | int k => rw [hti] at d2; have d2 : d = .int k := d2; subst d2; rfl
  | bool => rw [hti] at d2; have d2 : d = .bool := d2; subst d2; rfl
  | str => rw [hti] at d2; have d2 : d = .string := d2; subst d2; rfl
  | ptr e => rw [hti] at d2; have d2 : d = .pointer e := d2; subst d2; rfl
  | slice e => rw [hti] at d2; have d2 : d = .slice e := d2; subst d2; rfl
  | map k v => rw [hti] at d2; have d2 : d = .map k v := d2; subst d2; rfl
theorem write_row {b off : Nat} {cur us : List Value} {T : Nat} (hb : W.heap[b]? = some (.cells cur.toArray T (0, 0))) (hl : off + us.length ≤ cur.length) (h1 : ∀ v ∈ us, v.oneCell' = true) :
  (storeCells ⟨b, off, none⟩ us).run P W = .ok () (W.setRow b (cur.take off ++ us ++ cur.drop (off + us.length)).toArray) := by
 have := run_storeCells_at P b off T us 0 cur.toArray W hb (by simpa using hl) h1
 simpa using this
theorem own_set {e size n : Nat} {v : Value} {xs ys : List Value} {b : Nat} {m cap : Nat} (ho : W.ownsRow 0 e size v n xs) (hv : v = .slice (some ⟨b, 0, none⟩) m cap) (hl : ys.length = xs.length) {off : Nat} {us : List Value}
  (hy : ys = xs.take off ++ us ++ xs.drop (off + us.length)) (hf : off + us.length ≤ xs.length) (h1 : ∀ v ∈ us, v.oneCell' = true) :
  ∃ W', (storeCells ⟨b, off, none⟩ us).run P W = .ok () W' ∧ W'.ownsRow 0 e size v n ys ∧ W'.os = W.os ∧ W'.tape = W.tape ∧ W'.output = W.output ∧ W.heap.size = W'.heap.size ∧ ∀ k, k ≠ b → W'.heap[k]? = W.heap[k]? := by
 rcases ho.2 with ⟨e1, e2⟩ | ⟨g, c, cur, e1, e2, e3, e4, e5, e6, e7⟩
 ·rw [hv] at e1; cases e1
 ·rw [hv] at e1; cases e1
  have hxl : xs.length = n * size := ho.1
  have hcur : xs.length ≤ cur.toList.length := by rw [hxl]; simp [e6]; exact Nat.mul_le_mul_right _ e4
  have e3' : W.heap[b]? = some (.cells cur.toList.toArray e (0, 0)) := by rw [toArr]; exact e3
  refine ⟨_, write_row e3' (by omega) h1, ⟨by rw [hl, hxl], .inr ⟨b, cap, _, hv, Nat.zero_le _, setRow_heap W b cur _ e _ e3, e4, e5, ?_, ?_⟩⟩, rfl, rfl, rfl, by simp, fun k hk => setRow_other W b k _ hk⟩
  ·have : cur.toList.length = cap * size := by simpa using e6
   simp only [List.size_toArray, List.length_append, List.length_take, List.length_drop]
   omega
  ·rw [← hxl, hy]
   have e8 : cur.toList = xs ++ cur.toList.drop xs.length := by
    conv => lhs; rw [← List.take_append_drop xs.length cur.toList]
    rw [hxl, e7]
   generalize cur.toList.drop xs.length = rest at e8
   rw [e8]
   have t1 : (xs ++ rest).take off = xs.take off := List.take_append_of_le_length (by omega)
   have t2 : (xs ++ rest).drop (off + us.length) = xs.drop (off + us.length) ++ rest := List.drop_append_of_le_length hf
   rw [t1, t2, ← List.append_assoc]
   apply List.take_left'
   simp only [List.length_append, List.length_take, List.length_drop]
   omega
theorem DenL.set1 : ∀ {l : List SVal} {vs : List Value} {i : Nat} {s : SVal} {u : Value}, DenL C W R ρ l vs → (∀ s ∈ l, s.isArr = false) → i < l.length → s.isArr = false → u.oneCell' = true → Den C W R ρ s u → DenL C W R ρ (l.set i s) (vs.take i ++ [u] ++ vs.drop (i + 1))
 | [], _, _, _, _, _, _, hi, _, _, _ => absurd hi (Nat.not_lt_zero _)
 | a :: l, vs, 0, s, u, h, hn, hi, hs, ho, hd => by
  obtain ⟨v, us, rfl, _, _, h3⟩ := h.inv_one (hn a (List.mem_cons_self ..))
  exact .one _ _ _ _ hs ho hd h3
 | a :: l, vs, i + 1, s, u, h, hn, hi, hs, ho, hd => by
  obtain ⟨v, us, rfl, h1, h2, h3⟩ := h.inv_one (hn a (List.mem_cons_self ..))
  exact .one _ _ _ _ (hn a (List.mem_cons_self ..)) h1 h2 (DenL.set1 h3 (fun x hx => hn x (List.mem_cons_of_mem _ hx)) (Nat.lt_of_succ_lt_succ hi) hs ho hd)
theorem flat_rom (k : FK) (t : RT) : ∀ l : List (Option (List (k.ty × t.ty))), l.flatMap (RT.enc (.fmap k t)) = l.map fun y => SVal.rom k t y
 | [] => rfl
 | y :: l => by rw [List.flatMap_cons, flat_rom k t l]; rfl
theorem opnC_noarr {k : FK} {t : RT} {l : List (Option (List (k.ty × t.ty)))} {i : Int} {x : SVal} (hx : x.isArr = false) : ∀ s ∈ opnC k t l i x, s.isArr = false := fun s hs => by
 unfold opnC at hs
 rcases List.mem_or_eq_of_mem_set hs with h | h
 ·obtain ⟨y, _, rfl⟩ := List.mem_map.1 h; rfl
 ·rw [h]; exact hx
theorem opnC_len {k : FK} {t : RT} {l : List (Option (List (k.ty × t.ty)))} {i : Int} {x : SVal} : (opnC k t l i x).length = l.length := by unfold opnC; rw [List.length_set, List.length_map]
theorem storeAt_ok (M : Mem C gl W R ρ h) {p : SVal} {v : Value} {new : List SVal} {us : List Value} {ws : List (Nat × Option Cont)} {l l' : List Nat} (hr : (storeAtS p new).run h l = .ok (ws, l')) (hp : Den C W R ρ p v) (hn : DenL C W R ρ new us) :
  ∃ b off W', v = .pointer (some ⟨b, off, none⟩) ∧ (storeCells ⟨b, off, none⟩ us).run P W = .ok () W' ∧ Trans C gl W R ρ h ws W' R ρ := by
 unfold storeAtS at hr
 split at hr
 ·rename_i r off
  simp only [Acc.run] at hr
  split at hr
  ·rename_i cs hc
   split at hr
   ·rename_i cs' hset
    simp [Acc.run] at hr
    obtain ⟨rfl, _⟩ := hr
    cases hp with
    | ptr _ _ b hb =>
     obtain ⟨v', hv', b', vs, T, e3, hh, hl⟩ := M.at_ _ _ hc
     rw [hb] at hv'; cases hv'; cases e3
     obtain ⟨q1, q2⟩ := hl.setW hn hset
     refine ⟨b, off, _, rfl, write_row hh q2 hn.ones, ?_⟩
     refine Trans.write M hc hb rfl rfl rfl rfl (by simp) (fun k hk => setRow_other W b k _ hk) fun kR => ⟨b, _, T, rfl, setRow_heap W b _ _ T _ hh, q1.mono (fun _ h => h) kR fun _ _ h => h⟩
   ·simp [Acc.run] at hr
  ·simp [Acc.run] at hr
 ·rename_i r w i j
  simp only [Acc.run] at hr
  split at hr
  ·rename_i k t l0 hc
   split at hr
   ·rename_i q hwj
    rw [Bool.and_eq_true] at hwj
    have hw := beq_ok hwj.1
    have hj := beq_ok hwj.2
    subst hw; subst hj
    simp [Acc.run] at hr
    obtain ⟨rfl, _⟩ := hr
    cases hp with
    | eptr _ _ _ _ b n cap hb h1 h2 =>
     obtain ⟨v', hv', e, vs, ho, hl⟩ := M.at_ _ _ hc
     rw [hb] at hv'; cases hv'
     obtain ⟨e1, e2⟩ := own_cells ho
     have ho : W.ownsRow 0 e 1 (.slice (some ⟨b, 0, none⟩) n cap) l0.length vs := ho
     have hi : i.toNat < l0.length := by omega
     rw [flat_rom] at hl
     obtain ⟨u, us', rfl, u1, u2, u3⟩ := hn.inv_one rfl
     cases u3
     have nr : ∀ s ∈ l0.map (fun y => SVal.rom k t y), s.isArr = false := fun s hs => by obtain ⟨y, _, rfl⟩ := List.mem_map.1 hs; rfl
     have lv : vs.length = l0.length := by rw [hl.len_noarr nr, List.length_map]
     have q6 := hl.set1 nr (by rw [List.length_map]; exact hi) (s := .map q) rfl u1 u2
     have hlen : (vs.take i.toNat ++ [u] ++ vs.drop (i.toNat + 1)).length = vs.length := by
      simp only [List.length_append, List.length_take, List.length_drop, List.length_singleton]; omega
     obtain ⟨W', w1, w2, w3, w4, w5, w6, w7⟩ := own_set (P := P) ho rfl hlen (off := i.toNat) rfl (by simp; omega) hn.ones
     have e0 : i.toNat * 1 + 0 = i.toNat := by omega
     refine ⟨b, _, W', rfl, by rw [e0]; exact w1, ?_⟩
     refine Trans.write M hc hb rfl w3 w4 w5 w6 w7 fun kR => ⟨e, _, w2, ?_, ⟨h1, by omega⟩, rfl⟩
     exact q6.mono (fun _ h => h) kR fun _ _ h => h
   ·simp [Acc.run] at hr
  ·rename_i t l0 hnf hc
   split at hr
   ·rename_i x hw hx
    have := beq_ok hw; subst this
    simp [Acc.run] at hr
    obtain ⟨rfl, _⟩ := hr
    cases hp with
    | eptr _ _ _ _ b n cap hb h1 h2 =>
     obtain ⟨v', hv', e, vs, ho, hl⟩ := M.at_ _ _ hc
     rw [hb] at hv'; cases hv'
     obtain ⟨e1, e2⟩ := own_cells ho
     have hi : i.toNat < l0.length := by omega
     obtain ⟨q1, q2⟩ := hl.elem hi
     cases hset : setW (elemAt t l0 i) j new with
     | none => rw [hset] at hx; cases hx
     | some cs' =>
      rw [hset] at hx
      have hx : t.dec cs' = some x := hx
      obtain ⟨q3, q4⟩ := q1.setW hn hset
      rw [q2] at q4
      have q5 := dec_den hx q3
      have lv : vs.length = l0.length * t.w := by rw [hl.len_noarr (flat_noarr t l0), flat_w]
      have hle : i.toNat * t.w + t.w ≤ vs.length := by rw [lv, ← Nat.succ_mul]; exact Nat.mul_le_mul_right _ (by omega)
      have q6 := setL hl hi q5
      have ey : vs.take (i.toNat * t.w) ++ (((vs.drop (i.toNat * t.w)).take t.w).take j ++ us ++ ((vs.drop (i.toNat * t.w)).take t.w).drop (j + us.length)) ++ vs.drop ((i.toNat + 1) * t.w)
        = vs.take (i.toNat * t.w + j) ++ us ++ vs.drop (i.toNat * t.w + j + us.length) := by
       have a1 : ((vs.drop (i.toNat * t.w)).take t.w).take j = (vs.drop (i.toNat * t.w)).take j := by rw [List.take_take, Nat.min_eq_left (by omega)]
       have a2 : vs.take (i.toNat * t.w + j) = vs.take (i.toNat * t.w) ++ (vs.drop (i.toNat * t.w)).take j := by rw [List.take_add]
       have a3 : ((vs.drop (i.toNat * t.w)).take t.w).drop (j + us.length) ++ vs.drop ((i.toNat + 1) * t.w) = vs.drop (i.toNat * t.w + j + us.length) := by
        rw [List.drop_take, Nat.succ_mul]
        have : vs.drop (i.toNat * t.w + t.w) = ((vs.drop (i.toNat * t.w)).drop (j + us.length)).drop (t.w - (j + us.length)) := by
         rw [List.drop_drop, List.drop_drop]; congr 1; omega
        rw [this, List.take_append_drop, List.drop_drop]; congr 1; omega
       rw [a1, a2, ← a3]; simp only [List.append_assoc]
      rw [ey] at q6
      have hlen : (vs.take (i.toNat * t.w + j) ++ us ++ vs.drop (i.toNat * t.w + j + us.length)).length = vs.length := by
       simp only [List.length_append, List.length_take, List.length_drop]; omega
      obtain ⟨W', w1, w2, w3, w4, w5, w6, w7⟩ := own_set (P := P) ho rfl hlen (off := i.toNat * t.w + j) rfl (by omega) hn.ones
      refine ⟨b, _, W', rfl, w1, ?_⟩
      refine Trans.write M hc hb rfl w3 w4 w5 w6 w7 fun kR => ⟨e, _, ?_, q6.mono (fun _ h => h) kR fun _ _ h => h⟩
      rw [List.length_set]; exact w2
   ·simp [Acc.run] at hr
  ·simp [Acc.run] at hr
 ·rename_i r off w n i j
  simp only [Acc.run] at hr
  split at hr
  ·rename_i cs hc
   split at hr
   ·rename_i t m l0 rest hdr
    split at hr
    ·rename_i x hw hm hx
     have := beq_ok hw; subst this
     have := beq_ok hm; subst this
     split at hr
     ·rename_i cs' hset2
      simp [Acc.run] at hr
      obtain ⟨rfl, _⟩ := hr
      cases hp with
      | aptr _ _ _ _ _ _ b hb h1 h2 =>
       obtain ⟨v', hv', b', vs, T, e3, hh, hl⟩ := M.at_ _ _ hc
       rw [hb] at hv'; cases hv'; cases e3
       have q := hl.dropW hdr
       generalize hds : vs.drop off = ds at q
       cases q with
       | one _ _ _ _ h => simp [SVal.isArr] at h
       | arr _ _ _ as _ as' hlen hxs hrest =>
        have hi : i.toNat < l0.length := by omega
        obtain ⟨q1, q2⟩ := hxs.elem hi
        cases hset : setW (elemAt t l0 i) j new with
        | none => rw [hset] at hx; cases hx
        | some cs1 =>
         rw [hset] at hx
         have hx : t.dec cs1 = some x := hx
         obtain ⟨q3, q4⟩ := q1.setW hn hset
         rw [q2] at q4
         have q5 := dec_den hx q3
         have lv : as.length = l0.length * t.w := by rw [hxs.len_noarr (flat_noarr t l0), flat_w]
         have hle : i.toNat * t.w + t.w ≤ as.length := by rw [lv, ← Nat.succ_mul]; exact Nat.mul_le_mul_right _ (by omega)
         have q6 := setL hxs hi q5
         have ey : as.take (i.toNat * t.w) ++ (((as.drop (i.toNat * t.w)).take t.w).take j ++ us ++ ((as.drop (i.toNat * t.w)).take t.w).drop (j + us.length)) ++ as.drop ((i.toNat + 1) * t.w)
           = as.take (i.toNat * t.w + j) ++ us ++ as.drop (i.toNat * t.w + j + us.length) := by
          have a1 : ((as.drop (i.toNat * t.w)).take t.w).take j = (as.drop (i.toNat * t.w)).take j := by rw [List.take_take, Nat.min_eq_left (by omega)]
          have a2 : as.take (i.toNat * t.w + j) = as.take (i.toNat * t.w) ++ (as.drop (i.toNat * t.w)).take j := by rw [List.take_add]
          have a3 : ((as.drop (i.toNat * t.w)).take t.w).drop (j + us.length) ++ as.drop ((i.toNat + 1) * t.w) = as.drop (i.toNat * t.w + j + us.length) := by
           rw [List.drop_take, Nat.succ_mul]
           have : as.drop (i.toNat * t.w + t.w) = ((as.drop (i.toNat * t.w)).drop (j + us.length)).drop (t.w - (j + us.length)) := by
            rw [List.drop_drop, List.drop_drop]; congr 1; omega
           rw [this, List.take_append_drop, List.drop_drop]; congr 1; omega
          rw [a1, a2, ← a3]; simp only [List.append_assoc]
         rw [ey] at q6
         have hla : (as.take (i.toNat * t.w + j) ++ us ++ as.drop (i.toNat * t.w + j + us.length)).length = as.length := by
          simp only [List.length_append, List.length_take, List.length_drop]; omega
         have qn : DenL C W R ρ [.arr t n (l0.set i.toNat x)] (as.take (i.toNat * t.w + j) ++ us ++ as.drop (i.toNat * t.w + j + us.length)) := by
          have := DenL.arr t n (l0.set i.toNat x) _ [] [] (by rw [List.length_set]; exact hlen) q6 .nil
          simpa using this
         obtain ⟨q7, q8⟩ := hl.setW qn hset2
         rw [hla] at q7 q8
         have hvs : vs.take off ++ (as.take (i.toNat * t.w + j) ++ us ++ as.drop (i.toNat * t.w + j + us.length)) ++ vs.drop (off + as.length)
           = vs.take (off + i.toNat * t.w + j) ++ us ++ vs.drop (off + i.toNat * t.w + j + us.length) := by
          have hoff : off ≤ vs.length := by omega
          have ev : vs = vs.take off ++ (as ++ as') := by rw [← hds, List.take_append_drop]
          have lt : (vs.take off).length = off := by rw [List.length_take]; omega
          generalize vs.take off = pre at ev lt
          subst ev
          have b1 : (pre ++ (as ++ as')).take (off + i.toNat * t.w + j) = pre ++ as.take (i.toNat * t.w + j) := by
           rw [Nat.add_assoc, ← lt, List.take_length_add_append, List.take_append_of_le_length (by omega)]
          have b2 : (pre ++ (as ++ as')).drop (off + i.toNat * t.w + j + us.length) = as.drop (i.toNat * t.w + j + us.length) ++ as' := by
           rw [show off + i.toNat * t.w + j + us.length = off + (i.toNat * t.w + j + us.length) by omega, ← lt, List.drop_length_add_append, List.drop_append_of_le_length (by omega)]
          have b3 : (pre ++ (as ++ as')).drop (off + as.length) = as' := by
           rw [← lt, List.drop_length_add_append, List.drop_left]
          rw [b1, b2, b3]; simp only [List.append_assoc]
         have hfit : off + i.toNat * t.w + j + us.length ≤ vs.length := by omega
         rw [hvs] at q7
         refine ⟨b, _, _, rfl, write_row hh hfit hn.ones, ?_⟩
         exact Trans.write M hc hb rfl rfl rfl rfl (by simp) (fun k hk => setRow_other W b k _ hk) fun kR => ⟨b, _, T, rfl, setRow_heap W b _ _ T _ hh, q7.mono (fun _ h => h) kR fun _ _ h => h⟩
     ·simp [Acc.run] at hr
    ·simp [Acc.run] at hr
   ·simp [Acc.run] at hr
  ·simp [Acc.run] at hr
 ·simp [Acc.run] at hr
theorem atPtrV_ok (M : Mem C gl W R ρ h) {p : SVal} {v : Value} {z : List SVal × Option Prop} {l l' : List Nat} (hr : (atPtrV p).run h l = .ok (z, l')) (hp : Den C W R ρ p v) (hv : ∀ q, z.2 = some q → q) :
  ∃ b off vs, v = .pointer (some ⟨b, off, none⟩) ∧ DenL C W R ρ z.1 vs ∧ CellsAt W b off vs := by
 unfold atPtrV at hr
 split at hr
 ·rename_i r w i j
  simp only [Acc.run] at hr
  split at hr
  ·rename_i k t l0 q x hc
   split at hr
   ·rename_i hwj
    rw [Bool.and_eq_true] at hwj
    have := beq_ok hwj.1; subst this
    have := beq_ok hwj.2; subst this
    simp [Acc.run] at hr
    obtain ⟨rfl, _⟩ := hr
    have : i = q := hv _ rfl
    subst this
    cases hp with
    | eptr _ _ _ _ b n cap hb h1 h2 =>
     obtain ⟨v', hv', e, vs, ho, hl, h0, hx⟩ := M.at_ _ _ hc
     rw [hb] at hv'; cases hv'
     obtain ⟨e1, e2⟩ := own_cells ho
     obtain ⟨b', e3, hcs⟩ := e2 (by omega)
     cases e3
     have hi : i.toNat < l0.length := by omega
     have hi' : i.toNat < (l0.map fun y => SVal.rom k t y).length := by rw [List.length_map]; exact hi
     have ex : opnC k t l0 i x = (l0.map fun y => SVal.rom k t y).take i.toNat ++ x :: (l0.map fun y => SVal.rom k t y).drop (i.toNat + 1) := by
      unfold opnC; rw [List.set_eq_take_append_cons_drop, if_pos hi']
     rw [ex] at hl
     obtain ⟨us, us', rfl, g1, g2⟩ := hl.split
     have g3 := g1.len_noarr fun s hs => by
      obtain ⟨y, _, rfl⟩ := List.mem_map.1 (List.mem_of_mem_take hs); rfl
     rw [List.length_take, Nat.min_eq_left (Nat.le_of_lt hi')] at g3
     obtain ⟨v1, us2, rfl, k1, k2, _⟩ := g2.inv_one hx
     refine ⟨b, _, [v1], rfl, .one _ _ _ _ hx k1 k2 .nil, ?_⟩
     have := (hcs.drop i.toNat).take 1
     rw [← g3, List.drop_left] at this
     simpa [g3] using this
   ·cases hr
  ·obtain ⟨cs, l2, h3, h4⟩ := Acc.bind_ok hr
   simp [Acc.run] at h4
   obtain ⟨rfl, _⟩ := h4
   exact atPtr_ok M h3 hp
 ·obtain ⟨cs, l2, h3, h4⟩ := Acc.bind_ok hr
  simp [Acc.run] at h4
  obtain ⟨rfl, _⟩ := h4
  exact atPtr_ok M h3 hp
end
end Go.Sy

set_option linter.unusedVariables false
set_option linter.unusedSimpArgs false
namespace Go.Sy
open Go.RowKit
section
variable {C : Ctx} {gl : List (Nat × SVal)} {W : World} {R : Nat → Prop} {ρ : Nat → Option Value} {h : Nat → Option Cont} {P : Program}
def PureOk (C : Ctx) (W : World) (R : Nat → Prop) (ρ : Nat → Option Value) (P : Program) (s : Sem Value) (r : ORes) : Prop :=
 ∃ v, s.run P W = .ok v W ∧ Den C W R ρ r.v v ∧ r.ws = [] ∧ r.k = 0
theorem run_indexAt {t e : Nat} (ht : P.underlying t = some (.slice e)) {i : TypeInfo} (hi : P.info? e = some i) {k : IntKind} {n : Int} {a : Addr} {len cap : Nat} (h0 : 0 ≤ n) (h1 : n < len) :
  (Instr.indexAt t (.slice (some a) len cap) (.int k n)).run P W = .ok (.pointer (some (a.add (n.toNat * i.size)))) W := by
 have : (0 ≤ n ∧ n < (len : Int)) := ⟨h0, h1⟩
 simp [Instr.indexAt, asIntOf, run_und ht, run_siz hi, this]
theorem indexSl_ok (M : Mem C gl W R ρ h) {t e : Nat} {ei : TI} (ht : P.underlying t = some (.slice e)) (Te : TiOk P e ei) {x : SVal} {u : Value} {k : IntKind} {i : SI} (hx : Den C W R ρ x u) (hi : InI k i) {r : ORes} {l l' : List Nat}
  (hr : (indexSl ei.size x i).run h l = .ok (r, l')) (hp : ∀ q, r.vc = some q → q) : PureOk C W R ρ P (Instr.indexAt t u (.int k i.val)) r := by
 obtain ⟨inf, z, i1, i2, _⟩ := Te.i
 unfold indexSl at hr
 split at hr
 ·rename_i T l0
  split at hr
  ·rename_i hw
   have hw := beq_ok hw
   simp [Acc.run] at hr
   obtain ⟨rfl, _⟩ := hr
   obtain ⟨p0, p1⟩ := hp _ rfl
   cases hx with
   | ro _ _ A cap vs h1 h2 h3 h4 _ =>
    have hi' : i.val.toNat < l0.length := by omega
    obtain ⟨b, off, rfl, hb, hc⟩ := h4 (by intro h; subst h; simp at hi')
    obtain ⟨q1, q2⟩ := h3.elem hi'
    refine ⟨_, run_indexAt ht i1 p0 p1, ?_, rfl, rfl⟩
    rw [addA, i2, hw]
    exact .rop _ _ _ _ hb q1 ((hc.drop _).take _)
  ·cases hr
 ·rename_i q
  simp only [Acc.run] at hr
  split at hr
  ·rename_i T l0 hc
   split at hr
   ·rename_i hw
    have hw := beq_ok hw
    simp [Acc.run] at hr
    obtain ⟨rfl, _⟩ := hr
    obtain ⟨p0, p1⟩ := hp _ rfl
    cases hx with
    | own _ A n cap hq =>
     obtain ⟨v', hv', e', vs, ho, hl⟩ := M.at_ _ _ hc
     rw [hq] at hv'; cases hv'
     obtain ⟨e1, e2⟩ := own_cells ho
     obtain ⟨b, rfl, _⟩ := e2 (by omega)
     refine ⟨_, run_indexAt ht i1 p0 (by omega), ?_, rfl, rfl⟩
     rw [addA, i2, hw, Nat.zero_add]
     exact .eptr q T.w i.val 0 b n cap hq p0 (by omega)
   ·cases hr
  ·rename_i w0 l0 hc
   split at hr
   ·rename_i j hw
    have hw := beq_ok hw
    simp [Acc.run] at hr
    obtain ⟨rfl, _⟩ := hr
    have p0 := hp _ rfl
    cases hx with
    | own _ A n cap hq =>
     obtain ⟨v', hv', e', vs, n', ho, hl, hpos⟩ := M.at_ _ _ hc
     rw [hq] at hv'; cases hv'
     obtain ⟨e1, e2⟩ := own_cells ho
     have hlen : sumW l0 = n' * w0 := by rw [← ho.1]; exact hl.len.symm
     have hj : j < n' := by
      rw [hlen] at p0
      rcases Nat.lt_or_ge j n' with h | h
      ·exact h
      ·have := Nat.mul_le_mul_right w0 h; omega
     obtain ⟨b, rfl, _⟩ := e2 (by omega)
     have hj' : (j : Int) < n := by omega
     refine ⟨_, run_indexAt ht i1 (show (0 : Int) ≤ Int.ofNat j by simp) hj', ?_, rfl, rfl⟩
     rw [addA, i2, hw, Nat.zero_add]
     exact .eptr q w0 j 0 b n cap hq (by simp) hj'
   ·cases hr
  ·rename_i k' t' l0 j' x' hc
   split at hr
   ·rename_i hw
    have hw := beq_ok hw
    simp [Acc.run] at hr
    obtain ⟨rfl, _⟩ := hr
    obtain ⟨p0, p1⟩ := hp _ rfl
    cases hx with
    | own _ A n cap hq =>
     obtain ⟨v', hv', e', vs, ho, _⟩ := M.at_ _ _ hc
     rw [hq] at hv'; cases hv'
     obtain ⟨e1, e2⟩ := own_cells ho
     obtain ⟨b, rfl, _⟩ := e2 (by omega)
     refine ⟨_, run_indexAt ht i1 p0 (by omega), ?_, rfl, rfl⟩
     rw [addA, i2, hw, Nat.zero_add]
     exact .eptr q 1 i.val 0 b n cap hq p0 (by omega)
   ·cases hr
  ·cases hr
 ·rename_i T q k0 n
  split at hr
  ·rename_i hw
   have hw := beq_ok hw
   simp [Acc.run] at hr
   obtain ⟨rfl, _⟩ := hr
   obtain ⟨p0, p1⟩ := hp _ rfl
   cases hx with
   | view _ _ _ _ A A' m cap cap' hq h1 h2 h3 h4 _ =>
    obtain ⟨b, rfl, rfl⟩ := h4 (by omega)
    refine ⟨_, run_indexAt ht i1 p0 p1, ?_, rfl, rfl⟩
    rw [addA, i2, hw]
    have : k0 * T.w + i.val.toNat * T.w = ((k0 : Int) + i.val).toNat * T.w + 0 := by
     rw [← Nat.add_mul, Nat.add_zero]; congr 1; omega
    rw [this]
    exact .eptr q T.w _ 0 b m cap hq (by omega) (by omega)
  ·cases hr
 ·cases hr
theorem run_indexAr {t m e : Nat} (ht : P.underlying t = some (.array m e)) {i : TypeInfo} (hi : P.info? e = some i) {k : IntKind} {n : Int} {a : Addr} (h0 : 0 ≤ n) (h1 : n < m) :
  (Instr.indexAt t (.pointer (some a)) (.int k n)).run P W = .ok (.pointer (some (a.add (n.toNat * i.size)))) W := by
 have : (0 ≤ n ∧ n < (m : Int)) := ⟨h0, h1⟩
 simp [Instr.indexAt, asIntOf, run_und ht, run_siz hi, this, Instr.sureAddr]
theorem indexAr_ok (M : Mem C gl W R ρ h) {t m e : Nat} {ei : TI} (ht : P.underlying t = some (.array m e)) (Te : TiOk P e ei) {x : SVal} {u : Value} {k : IntKind} {i : SI} (hx : Den C W R ρ x u) (hi : InI k i) {r : ORes} {l l' : List Nat}
  (hr : (indexAr m ei.size x i).run h l = .ok (r, l')) (hp : ∀ q, r.vc = some q → q) : PureOk C W R ρ P (Instr.indexAt t u (.int k i.val)) r := by
 obtain ⟨inf, z, i1, i2, _⟩ := Te.i
 unfold indexAr at hr
 split at hr
 ·rename_i T n l0 rest
  split at hr
  ·rename_i hw hm
   have hw := beq_ok hw
   have hm := beq_ok hm; subst hm
   simp [Acc.run] at hr
   obtain ⟨rfl, _⟩ := hr
   obtain ⟨p0, p1⟩ := hp _ rfl
   cases hx with
   | rop _ vs b off h1 h2 h3 =>
    cases h2 with
    | one _ _ _ _ h => simp [SVal.isArr] at h
    | arr _ _ _ as _ as' hlen hxs hrest =>
     have hi' : i.val.toNat < l0.length := by omega
     obtain ⟨q1, q2⟩ := hxs.elem hi'
     refine ⟨_, run_indexAr ht i1 p0 p1, ?_, rfl, rfl⟩
     rw [addA, i2, hw]
     exact .rop _ _ _ _ h1 q1 ((h3.left.drop _).take _)
  ·cases hr
 ·rename_i q off
  simp only [Acc.run] at hr
  split at hr
  ·rename_i cs hc
   split at hr
   ·rename_i T n l0 rest hd
    split at hr
    ·rename_i hw hm
     have hw := beq_ok hw
     have hm := beq_ok hm; subst hm
     simp [Acc.run] at hr
     obtain ⟨rfl, _⟩ := hr
     obtain ⟨p0, p1⟩ := hp _ rfl
     cases hx with
     | ptr _ _ b hb =>
      refine ⟨_, run_indexAr ht i1 p0 p1, ?_, rfl, rfl⟩
      rw [addA, i2, hw]
      exact .aptr q off T.w m i.val 0 b hb p0 p1
    ·cases hr
   ·cases hr
  ·cases hr
 ·cases hr
theorem fieldAddr_ok (M : Mem C gl W R ρ h) {s : Nat} {fields : Array Field} (ht : P.underlying s = some (.struct fields)) {i : Nat} {f : Field} (hf : fields[i]? = some f) {inf : TypeInfo} (hi : P.info? f.type = some inf) (h0 : 0 < inf.size)
  {x : SVal} {u : Value} (hx : Den C W R ρ x u) {r : ORes} {l l' : List Nat} (hr : (addOff x f.offset).run h l = .ok (r, l')) (hp : ∀ q, r.vc = some q → q) : PureOk C W R ρ P (Instr.fieldAt s u i) r := by
 have go : ∀ b off, (Instr.fieldAt s (.pointer (some ⟨b, off, none⟩)) i).run P W = .ok (.pointer (some ⟨b, off + f.offset, none⟩)) W := fun b off => by
  have : ¬ inf.size = 0 := by omega
  simp [Instr.fieldAt, run_und ht, hf, Instr.sureAddr, fieldPlace, run_siz hi, this, addA]
 unfold addOff at hr
 split at hr
 ·simp [Acc.run] at hr; obtain ⟨rfl, _⟩ := hr
  cases hx with
  | ptr _ _ b hb => exact ⟨_, go _ _, .ptr _ _ b hb, rfl, rfl⟩
 ·simp [Acc.run] at hr; obtain ⟨rfl, _⟩ := hr
  cases hx with
  | eptr _ _ _ _ b n cap hb h1 h2 => exact ⟨_, go _ _, by rw [Nat.add_assoc]; exact .eptr _ _ _ _ b n cap hb h1 h2, rfl, rfl⟩
 ·simp [Acc.run] at hr; obtain ⟨rfl, _⟩ := hr
  cases hx with
  | aptr _ _ _ _ _ _ b hb h1 h2 => exact ⟨_, go _ _, by rw [Nat.add_assoc]; exact .aptr _ _ _ _ _ _ b hb h1 h2, rfl, rfl⟩
 ·split at hr
  ·rename_i l0 l1 hd
   simp [Acc.run] at hr; obtain ⟨rfl, _⟩ := hr
   cases hx with
   | rop _ vs b off h1 h2 h3 => exact ⟨_, go _ _, .rop _ _ _ _ h1 (h2.dropW hd) (h3.drop _), rfl, rfl⟩
  ·cases hr
 ·rename_i e
  have key : e.isPlaced = true → ∀ l1, dropW [.int .i64 (.full e.pos), .err e.inner] f.offset = some l1 → ∃ v, (Instr.fieldAt s u i).run P W = .ok v W ∧ Den C W R ρ (.rop l1) v := by
   intro he l1 hl1
   cases hx with
   | atnil _ h => rw [h] at he; cases he
   | atp n p b off h1 h2 h3 h4 h5 =>
    have hl : DenL C W R ρ [.int .i64 (.full p), .err (.bare n)] [.int .i64 p, .iface C.tE (.pointer (some (C.ea n)))] :=
     .one _ _ _ _ rfl rfl (.int .i64 (.full p) (.full h3 h4)) (.one _ _ _ _ rfl rfl (.bare n h1) .nil)
    exact ⟨_, go _ _, .rop _ _ _ _ h2 (hl.dropW hl1) (h5.drop _)⟩
  split at hr
  ·rename_i hoff
   simp [Acc.run] at hr; obtain ⟨rfl, _⟩ := hr
   obtain ⟨v, q1, q2⟩ := key (hp _ rfl) _ (by rw [hoff]; rfl)
   exact ⟨v, q1, q2, rfl, rfl⟩
  ·rename_i hoff
   simp [Acc.run] at hr; obtain ⟨rfl, _⟩ := hr
   obtain ⟨v, q1, q2⟩ := key (hp _ rfl) _ (by rw [hoff]; rfl)
   exact ⟨v, q1, q2, rfl, rfl⟩
  ·cases hr
 ·cases hr
end
end Go.Sy
