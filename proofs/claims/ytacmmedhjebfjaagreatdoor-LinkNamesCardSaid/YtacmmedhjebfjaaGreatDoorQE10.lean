/- Words that the proofs use, part 10. -/
import Derived.Test.YtacmmedhjebfjaaGreatDoorQE9
import Derived.Great.BuildSlice
import Derived.Great.FillDense
import Derived.Laws.Tables
set_option linter.unusedVariables false
set_option linter.unusedSimpArgs false
namespace Go.Sy
open Go.RowKit
section
variable {C : Ctx} {gl : List (Nat × SVal)} {W : World} {R : Nat → Prop} {ρ : Nat → Option Value} {h : Nat → Option Cont} {P : Program}
def Parts (C : Ctx) (W : World) (R : Nat → Prop) (ρ : Nat → Option Value) : List (Nat × SVal) → List (Nat × Value) → Prop
 | [], [] => True
 | (i, s) :: l, (j, v) :: l' => i = j ∧ Den C W R ρ s v ∧ Parts C W R ρ l l'
 | _, _ => False
theorem inOrder_ok {sz : Nat} : ∀ {i : Nat} {ps : List (Nat × SVal)} {vs : List (Nat × Value)}, inOrder sz i ps = true → Parts C W R ρ ps vs →
  vs = ((vs.map (·.2)).zipIdx i).map (fun x => (x.2, x.1)) ∧ (∀ v ∈ vs.map (·.2), v.cells.size = sz) ∧ DenL C W R ρ (ps.flatMap fun p => cellsOf p.2) ((vs.map (·.2)).flatMap fun v => v.cells.toList) ∧ ps.length = vs.length
 | _, [], [], _, _ => ⟨rfl, by simp, .nil, rfl⟩
 | i, (j, s) :: ps, (j', v) :: vs, ho, ⟨e, hd, hp⟩ => by
  subst e
  simp only [inOrder, Bool.and_eq_true, Bool.not_eq_true'] at ho
  obtain ⟨⟨⟨o1, o2⟩, o3⟩, o4⟩ := ho
  have := beq_ok o1; subst this
  have o3 := beq_ok o3
  obtain ⟨q1, q2, q3, q4⟩ := inOrder_ok o4 hp
  have hc := cells_den hd o2
  have hl : v.cells.size = sz := by
   have := hc.len
   rw [show (cellsOf s |>.map SVal.width).sum = sz from o3] at this
   simpa using this
  refine ⟨?_, ?_, ?_, by simp [q4]⟩
  ·simp only [List.map_cons, List.zipIdx_cons]
   rw [← q1]
  ·intro u hu
   simp only [List.map_cons, List.mem_cons] at hu
   rcases hu with rfl | hu
   ·exact hl
   ·exact q2 u hu
  ·simpa using hc.app q3
 | _, [], _ :: _, _, h => h.elim
 | _, _ :: _, [], _, h => h.elim
theorem recsOf_ok {t : RT} : ∀ {ps : List (Nat × SVal)} {l : List t.ty} {us : List Value}, recsOf t ps = some l → DenL C W R ρ (ps.flatMap fun p => cellsOf p.2) us → DenL C W R ρ (l.flatMap t.enc) us ∧ l.length = ps.length
 | [], l, us, he, hd => by
  simp [recsOf] at he
  subst he; exact ⟨hd, rfl⟩
 | (i, s) :: ps, l, us, he, hd => by
  simp only [recsOf] at he
  split at he
  ·rename_i x l' h1 h2
   cases he
   rw [List.flatMap_cons] at hd
   obtain ⟨a, b, rfl, ha, hb⟩ := hd.split
   obtain ⟨q1, q2⟩ := recsOf_ok h2 hb
   exact ⟨by rw [List.flatMap_cons]; exact (dec_den h1 ha).app q1, by simp [q2]⟩
  ·cases he
theorem own_new {cells : Array Value} {e n w : Nat} {xs : List Value} (hc : cells.toList = xs) (hl : xs.length = n * w) (hn : n ≤ maxLen) : (W.alloc (.cells cells e)).ownsRow 0 e w (.slice (some ⟨W.heap.size, 0, none⟩) n n) n xs :=
 ⟨hl, .inr ⟨W.heap.size, n, cells, rfl, Nat.zero_le _, Go.heap_alloc_new W _, Nat.le_refl _, hn, by rw [← hl, ← hc]; simp, by rw [hc, ← hl, List.take_length]⟩⟩
theorem single_den {s : SVal} {v : Value} (hd : Den C W R ρ s v) (hs : single s = true) : ∃ u, v.cells.toList = [u] ∧ u.oneCell' = true ∧ Den C W R ρ s u := by
 have h := cells_den hd (by cases s <;> first | rfl | cases hs)
 have e : cellsOf s = [s] := by cases s <;> first | rfl | cases hs
 rw [e] at h
 obtain ⟨u, us, e1, h2, h3, h4⟩ := h.inv_one (by cases s <;> first | rfl | cases hs)
 cases h4
 exact ⟨u, e1, h2, h3⟩
theorem DenL.setAt : ∀ {l : List SVal} {vs : List Value} {i : Nat} {s : SVal} {u : Value}, DenL C W R ρ l vs → (∀ x ∈ l, single x = true) → single s = true → u.oneCell' = true → Den C W R ρ s u → DenL C W R ρ (l.set i s) (vs.set i u)
 | [], vs, i, s, u, h, _, _, _, _ => by cases h; exact .nil
 | x :: l, vs, i, s, u, h, hl, h1, h2, h3 => by
  have na : ∀ y, single y = true → y.isArr = false := fun y hy => by cases y <;> first | rfl | cases hy
  obtain ⟨v, us, rfl, g1, g2, g3⟩ := h.inv_one (na x (hl x (List.mem_cons_self ..)))
  cases i with
  | zero => exact .one _ _ _ _ (na s h1) h2 h3 g3
  | succ i => exact .one _ _ _ _ (na x (hl x (List.mem_cons_self ..))) g1 g2 (DenL.setAt g3 (fun y hy => hl y (List.mem_cons_of_mem _ hy)) h1 h2 h3)
theorem sparse_fill : ∀ {ps : List (Nat × SVal)} {vs : List (Nat × Value)} {l : List SVal} {cells : Array Value}, Parts C W R ρ ps vs → sparseOk l.length ps = true → (∀ x ∈ l, single x = true) → DenL C W R ρ l cells.toList → cells.size = l.length →
  ∃ out : Array Value, Instr.fill (fun i => some (i * 1, 1)) cells vs = some out ∧ DenL C W R ρ (setAll l ps) out.toList ∧ out.size = l.length
 | [], [], l, cells, _, _, _, hd, hs => ⟨cells, rfl, hd, hs⟩
 | (i, s) :: ps, (j, v) :: vs, l, cells, ⟨e, hv, hp⟩, ho, hl, hd, hs => by
  subst e
  simp only [sparseOk, Bool.and_eq_true] at ho
  obtain ⟨⟨o1, o2⟩, o3⟩ := ho
  have o1 := Nat.le_of_ble_eq_true o1
  obtain ⟨u, e1, e2, e3⟩ := single_den hv o2
  have ec : v.cells = #[u] := by rw [← Array.toList_inj]; exact e1
  have hd' : DenL C W R ρ (l.set i s) (cells.setIfInBounds i u).toList := by
   rw [Array.toList_setIfInBounds]; exact DenL.setAt hd hl o2 e2 e3
  have hl' : ∀ x ∈ l.set i s, single x = true := fun x hx => by
   rcases List.mem_or_eq_of_mem_set hx with hx | hx
   ·exact hl x hx
   ·rw [hx]; exact o2
  obtain ⟨out, h1, h2, h3⟩ := sparse_fill (l := l.set i s) (cells := cells.setIfInBounds i u) hp (by rw [List.length_set]; exact o3) hl' hd' (by simp [hs])
  refine ⟨out, ?_, h2, by rw [h3, List.length_set]⟩
  rw [← h1]
  have : ¬ (i * 1 + 1 > cells.size) := by omega
  simp [Instr.fill, ec, hs, this]
  omega
 | [], _ :: _, _, _, h, _, _, _, _ => h.elim
 | _ :: _, [], _, _, h, _, _, _, _ => h.elim
theorem buildSlice_ok (M : Mem C gl W R ρ h) {t e n next : Nat} {ei : TI} (ht : P.underlying t = some (.slice e)) (Te : TiOk P e ei) {ps : List (Nat × SVal)} {vs : List (Nat × Value)} (hps : Parts C W R ρ ps vs) (hn : ρ next = none)
  {r : ORes} {l l' : List Nat} (hr : (buildSliceS ei n next ps).run h l = .ok (r, l')) : MakeOk C gl W R ρ h P (Instr.buildSlice t n vs.toArray) r := by
 obtain ⟨i, z, i1, i2, i3, i4, i5, i6, i7⟩ := Te.i
 unfold buildSliceS at hr
 split at hr
 case h_2 =>
  split at hr
  ·rename_i u hu _
   obtain ⟨j1, j2, j3, j4⟩ := i7 _ hu
   simp [Acc.run] at hr
   obtain ⟨rfl, _⟩ := hr
   cases vs with
   | cons v vs => exact hps.elim
   | nil =>
    have hrun : (Instr.buildSlice t 0 #[]).run P W = .ok (.slice (some ⟨W.heap.size, 0, none⟩) 0 0) (W.alloc (.cells #[] e)) := by
     have e0 : (Array.range 0 : Array Nat) = #[] := by decide
     simp [Instr.buildSlice, run_und ht, run_siz i1, Instr.fill, newRow, e0]
    exact ⟨_, _, _, hrun, Trans.new M hn _ _ _ rfl fun kR => ⟨e, [], own_new rfl (by simp) (Nat.zero_le _), .nil⟩, .own _ _ _ _ bindN_at⟩
  ·split at hr
   ·rename_i n ps n2 p2 x1 hrt hfalse x2 hb
    simp only [Bool.and_eq_true] at hb
    obtain ⟨⟨⟨⟨b1, b2⟩, b3⟩, b4⟩, b5⟩ := hb
    have b1 := Nat.eq_of_beq_eq_true b1
    have b2 := Nat.le_of_ble_eq_true b2
    have b3 := Nat.le_of_ble_eq_true b3
    simp [Acc.run] at hr
    obtain ⟨rfl, _⟩ := hr
    obtain ⟨u, e1, e2, e3⟩ := single_den (i6 C W R ρ) b4
    have ez : z.cells = #[u] := by rw [← Array.toList_inj]; exact e1
    have hz : ((Array.range (n * ei.size)).map (z.cells[· % z.cells.size]!)).toList = List.replicate n u := by
     rw [ez, b1, Nat.mul_one]
     simp only [Array.toList_map, Array.toList_range, List.size_toArray, List.length_cons, List.length_nil, Nat.zero_add, Nat.mod_one]
     rw [List.map_const']
     simp
    have hrep : ∀ m, DenL C W R ρ (List.replicate m ei.zero) (List.replicate m u) := fun m => by
     induction m with
     | zero => exact .nil
     | succ m ih => exact .one _ _ _ _ (by cases hh : ei.zero <;> rw [hh] at b4 <;> first | rfl | cases b4) e2 e3 ih
    obtain ⟨out, f1, f2, f3⟩ := sparse_fill (l := List.replicate n ei.zero) (cells := (Array.range (n * ei.size)).map (z.cells[· % z.cells.size]!)) hps (by rw [List.length_replicate]; exact b5) (fun x hx => by rw [(List.mem_replicate.1 hx).2]; exact b4) (by rw [hz]; exact hrep n) (by simp [b1])
    have hrun := Go.run_buildSlice (P := P) W t e n vs.toArray out i z ht i1 i4 (by rw [i2, b1]; omega) (by rw [i2, b1]; omega) (by rw [i2, b1]; rw [b1] at f1; simpa using f1)
    exact ⟨_, _, _, hrun, Trans.new M hn _ _ _ rfl fun kR => ⟨e, out.toList, n, own_new rfl (by rw [Array.length_toList, f3]; simp) (by unfold maxLen; omega), f2.mono (fun _ h => h) kR (bindN_mono hn), Nat.one_pos⟩, .own _ _ _ _ bindN_at⟩
   ·cases hr
  ·cases hr
 rename_i hb
 simp only [Bool.and_eq_true] at hb
 obtain ⟨⟨⟨⟨b1, b2⟩, b3⟩, b4⟩, b5⟩ := hb
 have b1 := Nat.le_of_ble_eq_true b1
 have b2 := beq_ok b2
 have b3 := Nat.le_of_ble_eq_true b3
 have b4 := Nat.le_of_ble_eq_true b4
 obtain ⟨q1, q2, q3, q4⟩ := inOrder_ok b5 hps
 have hlen : (vs.map (·.2)).length = n := by rw [List.length_map, ← q4, b2]
 have hfill := Great.fill_whole (s := ei.size) b4 (vs.map (·.2)) ((Array.range (n * ei.size)).map (z.cells[· % z.cells.size]!)) q2 (by rw [hlen]; simp)
 rw [← q1] at hfill
 have hrun := Go.run_buildSlice (P := P) W t e n vs.toArray _ i z ht i1 i4 (by rw [i2]; omega) (by rw [i2]; have := Nat.mul_pos b1 b4; omega) (by rw [i2]; simpa using hfill)
 have hxl : ((vs.map (·.2)).flatMap fun v => v.cells.toList).length = n * ei.size := by
  have : ∀ l : List Value, (∀ v ∈ l, v.cells.size = ei.size) → (l.flatMap fun v => v.cells.toList).length = l.length * ei.size := by
   intro l hl
   induction l with
   | nil => simp
   | cons v l ih =>
    rw [List.flatMap_cons, List.length_append, ih (fun u hu => hl u (List.mem_cons_of_mem _ hu)), List.length_cons, Nat.succ_mul]
    have := hl v (List.mem_cons_self ..)
    simp; omega
  rw [this _ q2, hlen]
 have hmax : n ≤ maxLen := by unfold maxLen; have := Nat.le_mul_of_pos_right n b4; omega
 split at hr
 ·rename_i u hu
  obtain ⟨j1, j2, j3, j4⟩ := i7 u hu
  split at hr
  ·rename_i xs hxs
   simp [Acc.run] at hr
   obtain ⟨rfl, _⟩ := hr
   obtain ⟨w1, w2⟩ := recsOf_ok hxs q3
   refine ⟨_, _, _, hrun, Trans.new M hn _ _ _ rfl fun kR => ⟨e, _, ?_, w1.mono (fun _ h => h) kR (bindN_mono hn)⟩, .own _ _ _ _ bindN_at⟩
   rw [w2, ← b2, ← j1]
   exact own_new rfl hxl hmax
  ·cases hr
 ·simp [Acc.run] at hr
  obtain ⟨rfl, _⟩ := hr
  refine ⟨_, _, _, hrun, Trans.new M hn _ _ _ rfl fun kR => ⟨e, _, n, own_new rfl hxl hmax, q3.mono (fun _ h => h) kR (bindN_mono hn), b4⟩, .own _ _ _ _ bindN_at⟩
theorem made_flat {t : RT} {zs : List Value} (hz : DenL C W R ρ (t.enc t.dflt) zs) : ∀ n, DenL C W R ρ ((List.replicate n t.dflt).flatMap t.enc) (List.replicate n zs).flatten
 | 0 => by simp; exact .nil
 | n + 1 => by
  rw [List.replicate_succ, List.replicate_succ, List.flatMap_cons, List.flatten_cons]
  exact hz.app (made_flat hz n)
theorem flat_at : ∀ (n : Nat) (zs : List Value) (k : Nat), 0 < zs.length → k < n * zs.length → (List.replicate n zs).flatten[k]? = zs[k % zs.length]?
 | 0, zs, k, h0, hk => by simp at hk
 | n + 1, zs, k, h0, hk => by
  rw [List.replicate_succ, List.flatten_cons]
  by_cases h : k < zs.length
  ·rw [List.getElem?_append_left h, Nat.mod_eq_of_lt h]
  ·rw [List.getElem?_append_right (by omega), flat_at n zs (k - zs.length) h0 (by rw [Nat.succ_mul] at hk; omega)]
   congr 1
   exact (Nat.mod_eq_sub_mod (by omega)).symm
theorem made_cells {z : Array Value} {c n : Nat} (h0 : 0 < z.size) (hn : n ≤ c) : ((madeCells z (c * z.size)).toList).take (n * z.size) = (List.replicate n z.toList).flatten := by
 apply List.ext_getElem?
 intro k
 rw [List.getElem?_take]
 by_cases hk : k < n * z.size
 ·have hk' : k < c * z.size := Nat.lt_of_lt_of_le hk (Nat.mul_le_mul_right _ hn)
  rw [if_pos hk, flat_at n z.toList k (by simpa using h0) (by simpa using hk)]
  have hm : k % z.size < z.size := Nat.mod_lt _ h0
  simp [madeCells, hk', hm]
 ·rw [if_neg hk]
  symm
  apply List.getElem?_eq_none
  simp; omega
theorem makeSlice_ok (M : Mem C gl W R ρ h) {t e next : Nat} {ei : TI} (ht : P.underlying t = some (.slice e)) (Te : TiOk P e ei) {u : RT} (hu : ei.rt = some u) {k k' : IntKind} {a b : SI} (ha : InI k a) (hb : InI k' b) (hn : ρ next = none)
  (hp : 0 ≤ a.val ∧ a.val ≤ b.val ∧ b.val ≤ 137438953472) :
  ∃ v W' ρ', (Instr.makeSlice t (.int k a.val) (.int k' b.val)).run P W = .ok v W' ∧ Trans C gl W R ρ h [(next, some (.recs u (List.replicate a.val.toNat u.dflt)))] W' R ρ' ∧ Den C W' R ρ' (.own next) v := by
 obtain ⟨i, z, i1, i2, i3, i4, i5, i6, i7⟩ := Te.i
 obtain ⟨j1, j2, j3, j4⟩ := i7 u hu
 obtain ⟨p0, p1, p2⟩ := hp
 have hby : (i.bytes : Int) * b.val ≤ 281474976710656 := by
  have h1 : (i.bytes : Int) ≤ 1024 := by omega
  have : (i.bytes : Int) * b.val ≤ 1024 * 137438953472 := Int.mul_le_mul h1 p2 (by omega) (by decide)
  omega
 have hrun := run_make (P := P) W t e i z ht i1 i4 k k' a.val b.val p0 p1 hby (by omega)
 have hzs : z.cells.size = u.w := i5.trans j1
 have his : i.size = z.cells.size := by rw [i2, i5]
 have hzl := j4 C W R ρ
 refine ⟨_, _, _, hrun, Trans.new M hn _ _ _ rfl fun kR => ⟨e, (List.replicate a.val.toNat z.cells.toList).flatten, ?_, (made_flat hzl _).mono (fun _ h => h) kR (bindN_mono hn)⟩, .own _ _ _ _ bindN_at⟩
 have hpos : 0 < z.cells.size := by omega
 refine ⟨by simp [hzs], .inr ⟨W.heap.size, b.val.toNat, _, ?_, Nat.zero_le _, Go.heap_alloc_new W _, ?_, by unfold maxLen; omega, ?_, ?_⟩⟩
 ·simp
 ·simp; omega
 ·rw [his, size_madeCells, hzs]
 ·rw [List.length_replicate, his, ← hzs]
  exact made_cells hpos (by omega)
end
end Go.Sy

set_option linter.unusedVariables false
set_option linter.unusedSimpArgs false
namespace Go.Sy
open Go.RowKit
section
variable {P : Program} {C : Ctx} {gl : List (Nat × SVal)} {W : World} {R : Nat → Prop} {ρ : Nat → Option Value} {h : Nat → Option Cont}
def zerosN (z : Value) (m : Nat) : List Value := (List.replicate m z.cells.toList).flatten
theorem zerosN_len (z : Value) (m : Nat) : (zerosN z m).length = m * z.cells.size := by unfold zerosN; simp
theorem zerosN_cells {z : Value} (h0 : 0 < z.cells.size) (m : Nat) : Builtin.zeroCells z.cells m = (zerosN z m).toArray := by
 apply Array.ext'
 apply List.ext_getElem?
 intro k
 show _ = (zerosN z m)[k]?
 by_cases hk : k < m * z.cells.size
 ·unfold zerosN
  rw [flat_at m z.cells.toList k (by simpa using h0) (by simpa using hk)]
  have hm : k % z.cells.size < z.cells.size := Nat.mod_lt _ h0
  simp [Builtin.zeroCells, hk, hm]
 ·rw [List.getElem?_eq_none (by simp [size_zeroCells]; omega), List.getElem?_eq_none (by rw [zerosN_len]; omega)]
theorem zerosN_one {z : Value} (h1 : ∀ u ∈ z.cells.toList, u.oneCell' = true) (m : Nat) : ∀ u ∈ zerosN z m, u.oneCell' = true := by
 intro u hu
 unfold zerosN at hu
 rw [List.mem_flatten] at hu
 obtain ⟨l, hl, hm⟩ := hu
 rw [List.mem_replicate] at hl
 rw [hl.2] at hm
 exact h1 u hm
theorem appz_zero {t tx ty e : Nat} {k0 k : IntKind} (ht : P.underlying t = some (.slice e)) (hx : P.underlying tx = some (.int k0)) {i : TypeInfo} (hi : P.info? e = some i) {A : Option Addr} {n cap : Nat} (hn : n ≤ cap) :
  (Builtin.append_ #[t, tx] ty #[.slice A n cap, .int k 0]).run P W = .ok (.slice A n cap) W := by
 have hw : IntKind.i64.wrap 0 = 0 := by decide
 cases A <;> simp [Builtin.append_, run_und ht, run_und hx, run_siz hi, typeInfo, hi, sizeOf, asInt, asIntOf, hw, hn, storeCells]
theorem appz_room {t tx ty e e0 : Nat} {k0 k : IntKind} (ht : P.underlying t = some (.slice e)) (hx : P.underlying tx = some (.int k0)) {i : TypeInfo} (hi : P.info? e = some i) {z : Value} (hz : i.zero = some z) (hzs : z.cells.size = i.size) (hpos : 0 < i.size)
  {g sLen sCap : Nat} {cur : Array Value} (hg : W.heap[g]? = some (.cells cur e0 (0, 0))) {m : Nat} (hm : 0 < m) (h1 : ∀ u ∈ z.cells.toList, u.oneCell' = true) (hb : (m : Int) ≤ 137438953472) (hby : i.bytes ≤ 1024)
  (hroom : sLen + m ≤ sCap) (hfit : sLen * i.size + (zerosN z m).length ≤ cur.size) :
  (Builtin.append_ #[t, tx] ty #[.slice (some ⟨g, 0, none⟩) sLen sCap, .int k (m : Int)]).run P W =
   .ok (.slice (some ⟨g, 0, none⟩) (sLen + m) sCap) (W.setRow g (cur.toList.take (sLen * i.size) ++ zerosN z m ++ cur.toList.drop (sLen * i.size + (zerosN z m).length)).toArray) := by
 have hst := run_storeCells_at P g (sLen * i.size) e0 (zerosN z m) 0 cur W hg (by simpa using hfit) (zerosN_one h1 m)
 simp only [Nat.add_zero] at hst
 have hw : IntKind.i64.wrap (m : Int) = m := by rw [IntKind.wrap_i64]; omega
 have hby' : ¬ (281474976710656 < (m : Int) * i.bytes) := by
  have h2 : (i.bytes : Int) ≤ 1024 := by omega
  have : (m : Int) * i.bytes ≤ 137438953472 * 1024 := Int.mul_le_mul hb h2 (by omega) (by decide)
  omega
 have h0 : ¬ ((m : Int) < 0) := by omega
 have hne : ¬ (m * i.size = 0) := by rw [Nat.mul_eq_zero]; omega
 have hz0 : zerosN z m = (Builtin.zeroCells z.cells m).toList := by rw [zerosN_cells (by omega)]
 have hm0 : ¬ m = 0 := by omega
 have hs0 : ¬ i.size = 0 := by omega
 rw [hz0] at hst
 simp [Builtin.append_, run_und ht, run_und hx, sizeOf, typeInfo, zeroValue, hi, hz, asInt, asIntOf, hw, h0, hby', hne, hm0, hs0, hroom, addA, hst, hz0]
theorem appz_grow {t tx ty e : Nat} {k0 k : IntKind} (ht : P.underlying t = some (.slice e)) (hx : P.underlying tx = some (.int k0)) {i : TypeInfo} (hi : P.info? e = some i) {z : Value} (hz : i.zero = some z) (hzs : z.cells.size = i.size) (hpos : 0 < i.size) {base : Option Addr} {sLen sCap : Nat} {olds : List Value}
  (hold : (Builtin.firstCells i.size sLen (.slice base sLen sCap)).run P W.drew = .ok olds.toArray W.drew) {m : Nat} (hb : (m : Int) ≤ 137438953472) (hby : i.bytes ≤ 1024) (hg : sCap < sLen + m) (hm : 0 < m) (h63 : ((sLen + m : Nat) : Int) ≤ 9223372036854775807) (hfit : Builtin.nextslicecap (sLen + m) sCap * i.bytes ≤ 281474976710656) :
  (Builtin.append_ #[t, tx] ty #[.slice base sLen sCap, .int k (m : Int)]).run P W =
   .ok (.slice (some ⟨W.heap.size, 0, none⟩) (sLen + m) (grownCap W (sLen + m) sCap e))
    (W.drew.alloc (.cells ((olds ++ zerosN z m).toArray ++ Builtin.zeroCells z.cells (grownCap W (sLen + m) sCap e - (sLen + m))) e)) := by
 have hn : ¬ (sLen + m ≤ sCap) := by omega
 have h63' : ¬ (9223372036854775807 < ((sLen : Int) + (m : Int))) := by omega
 have h48' : ¬ (281474976710656 < Builtin.nextslicecap (sLen + m) sCap * i.bytes) := by omega
 have hw : IntKind.i64.wrap (m : Int) = m := by rw [IntKind.wrap_i64]; omega
 have hby' : ¬ (281474976710656 < (m : Int) * i.bytes) := by
  have h2 : (i.bytes : Int) ≤ 1024 := by omega
  have : (m : Int) * i.bytes ≤ 137438953472 * 1024 := Int.mul_le_mul hb h2 (by omega) (by decide)
  omega
 have h0 : ¬ ((m : Int) < 0) := by omega
 have hm0 : ¬ m = 0 := by omega
 have hs0 : ¬ i.size = 0 := by omega
 have hz0 := zerosN_cells (z := z) (by omega) m
 simp [Builtin.append_, run_und ht, run_und hx, sizeOf, typeInfo, zeroValue, hi, hz, asInt, asIntOf, hw, h0, hby', hm0, hs0, hn, h63', h48', Question.forced, hold, newRow, grownCap, hz0]
 rw [if_neg (by rw [Nat.mul_eq_zero]; omega)]
 congr 3
 apply Array.ext'
 simp [List.append_assoc]
theorem own_appz {t tx ty e : Nat} {k0 k : IntKind} (ht : P.underlying t = some (.slice e)) (hx : P.underlying tx = some (.int k0)) {i : TypeInfo} (hi : P.info? e = some i) {z : Value} (hz : i.zero = some z) {w : Nat} (hs : i.size = w) (hzs : z.cells.size = w) (hby : i.bytes ≤ 1024) (hw : 0 < w)
  {v : Value} {n : Nat} {xs : List Value} {e0 : Nat} (ho : W.ownsRow 0 e0 w v n xs) {m : Nat} (h1 : ∀ u ∈ z.cells.toList, u.oneCell' = true) (hb : n + m ≤ 137438953472) :
  ∃ v' W' e', (Builtin.append_ #[t, tx] ty #[v, .int k (m : Int)]).run P W = .ok v' W' ∧ W'.ownsRow 0 e' w v' (n + m) (xs ++ zerosN z m) ∧ Grew W W' v v' ∧ ∃ A n' cap, v' = .slice A n' cap := by
 subst hs
 have hbytes : (n + m) * i.bytes ≤ 140737488355328 := Nat.le_trans (Nat.mul_le_mul hb hby) (by decide)
 have hsmall : n + m ≤ 9223372036854775807 := by omega
 have hml : n + m ≤ maxLen := by unfold maxLen; omega
 have hl : (zerosN z m).length = m * i.size := by rw [zerosN_len, hzs]
 have hlen : (xs ++ zerosN z m).length = (n + m) * i.size := by rw [List.length_append, ho.1, hl, Nat.add_mul]
 have same : m = 0 → xs ++ zerosN z m = xs := fun hm => by subst hm; unfold zerosN; simp
 have refl : Grew W W v v := ⟨rfl, rfl, rfl, Nat.le_refl _, fun _ _ _ => rfl, fun b hb => .inl hb⟩
 have grown : ∀ (old : Nat), old < n + m →
   (W.drew.alloc (.cells ((xs ++ zerosN z m).toArray ++ Builtin.zeroCells z.cells (grownCap W (n + m) old e - (n + m))) e)).ownsRow 0 e i.size
    (.slice (some ⟨W.heap.size, 0, none⟩) (n + m) (grownCap W (n + m) old e)) (n + m) (xs ++ zerosN z m) ∧
   Grew W (W.drew.alloc (.cells ((xs ++ zerosN z m).toArray ++ Builtin.zeroCells z.cells (grownCap W (n + m) old e - (n + m))) e)) v (.slice (some ⟨W.heap.size, 0, none⟩) (n + m) (grownCap W (n + m) old e)) := by
  intro old ho'
  have hge := grownCap_ge W (n + m) old e
  have hcm : grownCap W (n + m) old e ≤ maxLen := grownCap_le_maxLen W (n + m) old e hml
  refine ⟨⟨hlen, .inr ⟨W.heap.size, _, _, rfl, Nat.zero_le _, Go.heap_alloc_new W.drew _, hge, hcm, ?_, ?_⟩⟩, ⟨rfl, rfl, rfl, by simp, fun k hk _ => Below.heap_alloc W.drew _ k hk, fun b hb => .inr (by simp [blk] at hb; omega)⟩⟩
  ·rw [Array.size_append, List.size_toArray, size_zeroCells, hzs, hlen, ← Nat.add_mul]
   congr 1
   omega
  ·rw [Array.toList_append, ← hlen]
   exact List.take_left
 rcases ho.2 with ⟨rfl, rfl⟩ | ⟨g, cap, cur, rfl, hbg, hg, hnc, hcm, hcs, htake⟩
 ·have hx0 : xs = [] := List.eq_nil_of_length_eq_zero (by simpa using ho.1)
  subst hx0
  by_cases hm : m = 0
  ·subst hm
   refine ⟨.slice none 0 0, W, e0, appz_zero ht hx hi (Nat.le_refl _), ?_, refl, _, _, _, rfl⟩
   rw [same rfl]; exact ho
  ·have hf : (Builtin.firstCells i.size 0 (.slice none 0 0)).run P W.drew = .ok ([] : List Value).toArray W.drew := by simp [Builtin.firstCells]
   have hr := appz_grow (P := P) (W := W) (ty := ty) (k := k) ht hx hi hz hzs hw hf (m := m) (by omega) hby (by omega) (by omega) (by omega) (growslice_fits (by omega) hbytes)
   have hgr := grown 0 (by omega)
   exact ⟨_, _, _, hr, hgr.1, hgr.2, _, _, _, rfl⟩
 ·by_cases hm : m = 0
  ·subst hm
   refine ⟨_, W, e0, appz_zero ht hx hi hnc, ?_, refl, _, _, _, rfl⟩
   rw [same rfl]; exact ho
  ·by_cases hroom : n + m ≤ cap
   ·have hfit : n * i.size + (zerosN z m).length ≤ cur.size := by rw [hl, hcs, ← Nat.add_mul]; exact Nat.mul_le_mul_right _ hroom
    have hr := appz_room (P := P) (ty := ty) (k := k) ht hx hi hz hzs hw hg (m := m) (by omega) h1 (by omega) hby hroom hfit
    refine ⟨_, _, e0, hr, ⟨hlen, .inr ⟨g, cap, _, rfl, hbg, setRow_heap W g cur _ e0 _ hg, hroom, hcm, ?_, ?_⟩⟩, ⟨rfl, rfl, rfl, by simp, fun k _ hk => setRow_other W g k _ (fun e => hk (by simp [blk, e])), fun b hb => .inl hb⟩, _, _, _, rfl⟩
    ·simp only [List.size_toArray, List.length_append, List.length_take, List.length_drop, Array.length_toList]
     omega
    ·rw [htake, ← hlen]
     exact List.take_left
   ·have holds : ∀ j u, xs[j]? = some u → W.drew.cell? ((⟨g, 0, none⟩ : Addr).add j) = some u := fun j u hj => (ho.cells (g := g) rfl) j u hj
    have hf := run_firstCells_some (P := P) W.drew i.size n ⟨g, 0, none⟩ n cap xs ho.1 holds
    have hr := appz_grow (P := P) (W := W) (ty := ty) (k := k) ht hx hi hz hzs hw hf (m := m) (by omega) hby (by omega) (by omega) (by omega) (growslice_fits (by omega) hbytes)
    have hgr := grown cap (by omega)
    exact ⟨_, _, _, hr, hgr.1, hgr.2, _, _, _, rfl⟩
theorem zerosN_den {t : RT} {z : Value} (hz : DenL C W R ρ (t.enc t.dflt) z.cells.toList) (m : Nat) : DenL C W R ρ ((List.replicate m t.dflt).flatMap t.enc) (zerosN z m) := made_flat hz m
theorem appendZ_ok (M : Mem C gl W R ρ h) {E : Env} (tabOk : ∀ t ti, find t E.tab = some ti → TiOk P t ti) {t t' ty next : Nat} {s : SVal} {k : IntKind} {n : SI} {vs : Value} (hs : Den C W R ρ s vs) (hn : ρ next = none) {r : ORes} {l l' : List Nat}
  (hr : (appendZ E t t' s n next).run h l = .ok (r, l')) (hp : ∀ q, r.vc = some q → q) : MakeOk C gl W R ρ h P (Builtin.append_ #[t, t'] ty #[vs, .int k n.val]) r := by
 unfold appendZ at hr
 obtain ⟨ti, l1, h1, hr1⟩ := Acc.bind_ok hr
 clear hr
 obtain ⟨ht, _⟩ := ofOpt_ok h1
 obtain ⟨ti', l1', h1', hr1'⟩ := Acc.bind_ok hr1
 clear hr1
 obtain ⟨ht', _⟩ := ofOpt_ok h1'
 split at hr1'
 case h_2 => cases hr1'
 rename_i e k0 htd htd'
 obtain ⟨ei, l2, h2, hr2⟩ := Acc.bind_ok hr1'
 clear hr1'
 obtain ⟨he, _⟩ := ofOpt_ok h2
 obtain ⟨⟨d, d1, d2⟩, _, _⟩ := tabOk _ _ ht
 rw [htd] at d2
 have d2 : d = .slice e := d2
 subst d2
 obtain ⟨⟨d', d3, d4⟩, _, _⟩ := tabOk _ _ ht'
 rw [htd'] at d4
 have d4 : d' = .int k0 := d4
 subst d4
 obtain ⟨_, ⟨i, z, i1, i2, i3, i4, i5, i6, i7⟩, _⟩ := tabOk _ _ he
 split at hr2
 case h_2 => cases hr2
 rename_i u hu
 obtain ⟨j1, j2, j3, j4⟩ := i7 u hu
 have hone : ∀ u ∈ z.cells.toList, u.oneCell' = true := (j4 C W R ρ).ones
 split at hr2
 ·simp [Acc.run] at hr2
  obtain ⟨rfl, _⟩ := hr2
  cases hs
  obtain ⟨p0, p1⟩ := hp _ rfl
  have en : n.val = ((n.val.toNat : Nat) : Int) := by omega
  obtain ⟨v', W', e', a1, a2, a3, A', n', c', rfl⟩ := own_appz (P := P) (ty := ty) (k := k) d1 d3 i1 i4 (i2.trans j1) (i5.trans j1) (by omega) j2 (World.ownsRow_nil W 0 e u.w) (m := n.val.toNat) hone (by omega)
  rw [← en] at a1
  refine ⟨_, W', _, a1, Trans.app0 M hn a3 fun kR => ⟨e', _, ?_, (zerosN_den (j4 C W R ρ) _).mono (fun _ h => h) kR (bindN_mono hn)⟩, .own _ _ _ _ bindN_at⟩
  simpa using a2
 ·rename_i q
  simp only [Acc.run] at hr2
  split at hr2
  ·rename_i u'' l0 hc
   split at hr2
   ·rename_i hq _
    subst hq
    simp [Acc.run] at hr2
    obtain ⟨rfl, _⟩ := hr2
    obtain ⟨p0, p1⟩ := hp _ rfl
    have en : n.val = ((n.val.toNat : Nat) : Int) := by omega
    cases hs with
    | own _ A0 n0 c0 hq =>
     obtain ⟨v0, hv0, e0, vs0, ho, hl⟩ := M.at_ _ _ hc
     rw [hq] at hv0; cases hv0
     obtain ⟨v', W', e', a1, a2, a3, A', n', c', rfl⟩ := own_appz (P := P) (ty := ty) (k := k) d1 d3 i1 i4 (i2.trans j1) (i5.trans j1) (by omega) j2 ho (m := n.val.toNat) hone p1
     rw [← en] at a1
     refine ⟨_, W', _, a1, Trans.app M hc hq hn a3 fun kR => ⟨e', vs0 ++ zerosN z n.val.toNat, ?_, ?_⟩, .own _ _ _ _ bindN_at⟩
     ·rw [List.length_append, List.length_replicate]; exact a2
     ·rw [List.flatMap_append]
      exact (hl.mono (fun _ h => h) kR (bindN_mono hn)).app ((zerosN_den (j4 C W R ρ) _).mono (fun _ h => h) kR (bindN_mono hn))
   ·cases hr2
  ·cases hr2
 ·cases hr2
end
end Go.Sy

set_option linter.unusedVariables false
set_option linter.unusedSimpArgs false
namespace Go.Sy
open Go.RowKit
section
variable {C : Ctx} {gl : List (Nat × SVal)} {W : World} {R : Nat → Prop} {ρ : Nat → Option Value} {h : Nat → Option Cont} {P : Program}
theorem foldl_cells (off : Nat) (v : Value) (cells : Array Value) (hf : off + v.cells.size ≤ cells.size) :
  (v.cells.zipIdx.foldl (fun cs (c, j) => cs.setIfInBounds (off + j) c) cells).toList = cells.toList.take off ++ v.cells.toList ++ cells.toList.drop (off + v.cells.toList.length) := by
 have e : v.cells.zipIdx.foldl (fun cs (x : Value × Nat) => cs.setIfInBounds (off + x.2) x.1) cells = (v.cells.toList.zipIdx 0).foldl (fun cs (x : Value × Nat) => cs.setIfInBounds (off + x.2) x.1) cells := by
  rw [← Array.foldl_toList]; simp
 have e' : v.cells.zipIdx.foldl (fun cs (c, j) => cs.setIfInBounds (off + j) c) cells = v.cells.zipIdx.foldl (fun cs (x : Value × Nat) => cs.setIfInBounds (off + x.2) x.1) cells := rfl
 rw [e', e]
 obtain ⟨h1, h2⟩ := Great.foldl_set off v.cells.toList 0 cells
 apply List.ext_getElem?
 intro k
 have := h2 k
 rw [Array.getElem?_toList, this]
 simp only [Nat.add_zero, Array.length_toList]
 by_cases hk : off ≤ k ∧ k < off + v.cells.size ∧ k < cells.size
 ·rw [if_pos hk, List.append_assoc, List.getElem?_append_right (by simp; omega)]
  simp only [List.length_take, Array.length_toList]
  rw [Nat.min_eq_left (by omega), List.getElem?_append_left (by simp; omega)]
 ·rw [if_neg hk]
  by_cases hk2 : k < off
  ·rw [List.append_assoc, List.getElem?_append_left (by simp; omega), List.getElem?_take, if_pos hk2]; simp
  ·rw [List.append_assoc, List.getElem?_append_right (by simp; omega)]
   simp only [List.length_take, Array.length_toList]
   rw [Nat.min_eq_left (by omega)]
   by_cases hk3 : k < off + v.cells.size
   ·have hk4 : ¬ k < cells.size := fun h => hk ⟨by omega, hk3, h⟩
    omega
   ·rw [List.getElem?_append_right (by simp; omega), List.getElem?_drop]
    simp only [Array.length_toList]
    rw [show off + v.cells.size + (k - off - v.cells.size) = k by omega]; simp
theorem fillC_ok {fs : List (Nat × Nat × Nat)} {place : Nat → Option (Nat × Nat)} (hpl : ∀ i off t n, fs[i]? = some (off, t, n) → place i = some (off, n)) :
  ∀ {ps : List (Nat × SVal)} {vs : List (Nat × Value)} {cs cs' : List SVal} {cells : Array Value}, fillC fs cs ps = some cs' → Parts C W R ρ ps vs → DenL C W R ρ cs cells.toList →
   ∃ arr, Instr.fill place cells vs = some arr ∧ DenL C W R ρ cs' arr.toList
 | [], [], cs, cs', cells, hf, _, hd => by
  simp [fillC] at hf; subst hf; exact ⟨cells, rfl, hd⟩
 | (i, s) :: ps, (j, v) :: vs, cs, cs', cells, hf, ⟨e, hv, hp⟩, hd => by
  subst e
  simp only [fillC] at hf
  split at hf
  ·rename_i off t n h1 h2
   split at hf
   ·rename_i c1 h3 h4
    have h4 := beq_ok h4
    have hc := cells_den hv h2
    have hl : v.cells.size = n := by
     have := hc.len
     rw [show (cellsOf s |>.map SVal.width).sum = n from h4] at this
     simpa using this
    obtain ⟨q1, q2⟩ := hd.setW hc h3
    simp only [Array.length_toList] at q2
    rw [← foldl_cells off v cells q2] at q1
    obtain ⟨arr, a1, a2⟩ := fillC_ok hpl hf hp q1
    refine ⟨arr, ?_, a2⟩
    unfold Instr.fill
    rw [hpl _ _ _ _ h1]
    simp only
    rw [if_neg (by simp [hl]; omega)]
    exact a1
   ·cases hf
  ·cases hf
 | [], _ :: _, _, _, _, _, h, _ => h.elim
 | _ :: _, [], _, _, _, _, h, _ => h.elim
theorem build_ok {E : Env} (tabOk : ∀ t ti, find t E.tab = some ti → TiOk P t ti) {t : Nat} {ti : TI} (T : TiOk P t ti) {ps : List (Nat × SVal)} {vs : List (Nat × Value)} (hps : Parts C W R ρ ps vs) {look : Nat → Option Cont} {r : ORes} {l l' : List Nat}
  (hr : (buildS E ti ps).run look l = .ok (r, l')) : PureOk C W R ρ P (Instr.build t vs.toArray) r := by
 obtain ⟨d, d1, d2⟩ := T.d
 obtain ⟨i, z, i1, i2, i3, i4, i5, i6, i7⟩ := T.i
 unfold buildS at hr
 split at hr
 ·rename_i fs hfs
  rw [hfs] at d2
  obtain ⟨fields, rfl, rfl, hfi⟩ := d2
  split at hr
  ·rename_i cs' hfill
   simp [Acc.run] at hr
   obtain ⟨rfl, _⟩ := hr
   have hplaces : fields.toList.mapM (fun f => (P.info? f.type).map fun i => (f.offset, i.size)) = some (fields.toList.map fun f => (f.offset, P.cellsOf f.type)) := by
    have : ∀ l : List Field, (∀ f ∈ l, ∃ i, P.info? f.type = some i ∧ i.size = P.cellsOf f.type ∧ 0 < i.size) → l.mapM (fun f => (P.info? f.type).map fun i => (f.offset, i.size)) = some (l.map fun f => (f.offset, P.cellsOf f.type)) := by
     intro l hl
     induction l with
     | nil => rfl
     | cons f l ih =>
      obtain ⟨j, j1, j2, _⟩ := hl f (List.mem_cons_self ..)
      simp [List.mapM_cons, j1, j2, ih (fun g hg => hl g (List.mem_cons_of_mem _ hg))]
    exact this _ hfi
   obtain ⟨arr, a1, a2⟩ := fillC_ok (place := fun k => ((fields.toList.map fun f => (f.offset, P.cellsOf f.type)).toArray)[k]?) (cells := z.cells) (by
    intro k off ty n hk
    rw [List.getElem?_map] at hk
    cases hg : fields.toList[k]? with
    | none => rw [hg] at hk; cases hk
    | some f =>
     rw [hg] at hk
     simp only [Option.map_some, Option.some.injEq, Prod.mk.injEq] at hk
     obtain ⟨rfl, rfl, rfl⟩ := hk
     simp [hg]) hfill hps (cells_den (i6 C W R ρ) T.z)
   have hbuilt : P.built t vs = some arr := by
    unfold Program.built
    rw [i1, d1]
    simp only [i4, hplaces]
    exact a1
   refine ⟨.agg arr, run_build W t vs.toArray arr (by simpa using hbuilt), ?_, rfl, rfl⟩
   have := Den.agg (C := C) (W := W) (R := R) (ρ := ρ) _ _ a2
   rwa [toArr] at this
  ·cases hr
 ·rename_i n e hfs
  rw [hfs] at d2
  have d2 : d = .array n e := d2
  subst d2
  split at hr
  ·rename_i ei hei harr
   simp [Acc.run] at hr
   obtain ⟨rfl, _⟩ := hr
   have hps := hps
   cases vs with
   | cons v vs => exact hps.elim
   | nil =>
    obtain ⟨j, jz, j1, j2, _⟩ := (tabOk _ _ hei).i
    have hd := i6 C W R ρ
    generalize hzz : ti.zero = s at hd harr
    cases hd <;> first | (cases harr; done) | skip
    rename_i tt m xs us g1 g2
    have hbuilt : P.built t [] = some us.toArray := by
     unfold Program.built
     rw [i1, d1]
     simp only [i4, j1]
     rfl
    exact ⟨.agg us.toArray, run_build W t #[] us.toArray (by simpa using hbuilt), .arr tt m xs us g1 g2, rfl, rfl⟩
  ·cases hr
 ·cases hr
theorem len_ok (M : Mem C gl W R ρ h) {t : Nat} {d : TypeDesc} (ht : P.underlying t = some d) (hd : (∃ e, d = .slice e) ∨ d = .string) {x : SVal} {u : Value} (hx : Den C W R ρ x u) {n : SI} {l l' : List Nat} (hr : (lenOfS x).run h l = .ok (n, l'))
  (hk1 : ∀ s, x = .str s → d = .string) (hk2 : ∀ t n l, x ≠ .arr t n l) (hk3 : (∀ s, x ≠ .str s) → ∃ e, d = .slice e) {ty : Nat} :
  (Builtin.len_ #[t] ty #[u]).run P W = .ok (.int .i64 n.val) W ∧ InI .i64 n := by
 have nat : ∀ m : Nat, m ≤ maxLen → InI .i64 (.sym (m : Nat) 0 9223372036854775807) := fun m hm => by
  unfold maxLen at hm
  exact .sym (by show (-9223372036854775808 : Int) ≤ _; omega) (by show _ ≤ (9223372036854775807 : Int); omega) (by omega) (by omega)
 have sl : ∀ {e : Nat} {A : Option Addr} {m c : Nat}, d = .slice e → (Builtin.len_ #[t] ty #[.slice A m c]).run P W = .ok (.int .i64 (m : Int)) W := fun {e A m c} he => by
  subst he; simp [Builtin.len_, run_und ht, goInt]
 unfold lenOfS at hr
 split at hr
 ·obtain ⟨e, he⟩ := hk3 (fun _ h => by cases h)
  simp [Acc.run] at hr
  obtain ⟨rfl, _⟩ := hr
  cases hx
  exact ⟨sl he, ⟨by decide, by decide, Int.le_refl _, Int.le_refl _⟩⟩
 ·obtain ⟨e, he⟩ := hk3 (fun _ h => by cases h)
  simp [Acc.run] at hr
  obtain ⟨rfl, _⟩ := hr
  cases hx with
  | ro _ _ A cap vs h1 h2 h3 h4 _ => exact ⟨sl he, nat _ (by omega)⟩
 ·obtain ⟨e, he⟩ := hk3 (fun _ h => by cases h)
  simp [Acc.run] at hr
  obtain ⟨rfl, _⟩ := hr
  cases hx with
  | roN _ _ A cap vs h1 h2 h3 h4 => exact ⟨sl he, nat _ (by omega)⟩
 ·obtain ⟨e, he⟩ := hk3 (fun _ h => by cases h)
  simp only [Acc.run] at hr
  split at hr
  ·rename_i q T l0 hc
   simp [Acc.run] at hr
   obtain ⟨rfl, _⟩ := hr
   cases hx with
   | own _ A m cap hq =>
    obtain ⟨v', hv', e', vs, ho, hl⟩ := M.at_ _ _ hc
    rw [hq] at hv'; cases hv'
    obtain ⟨rfl, _⟩ := own_cells ho
    have : l0.length ≤ maxLen := by
     rcases ho.2 with ⟨h1, h2⟩ | ⟨g, c, cur, h1, _, _, h4, h5, _, _⟩
     ·omega
     ·omega
    exact ⟨sl he, nat _ this⟩
  ·rename_i q w l0 hc
   simp only [Acc.run, Except.ok.injEq, Prod.mk.injEq] at hr
   obtain ⟨rfl, _⟩ := hr
   cases hx with
   | own _ A m cap hq =>
    obtain ⟨v', hv', e', vs, n', ho, hl, hpos⟩ := M.at_ _ _ hc
    rw [hq] at hv'; cases hv'
    obtain ⟨rfl, _⟩ := own_cells ho
    have hmx : m ≤ maxLen := by
     rcases ho.2 with ⟨h1, h2⟩ | ⟨g, c, cur, h1, _, _, h4, h5, _, _⟩
     ·rw [h2]; simp [maxLen]
     ·omega
    have hlen : (l0.map SVal.width).sum / w = m := by
     have : (l0.map SVal.width).sum = m * w := by rw [← ho.1]; exact hl.len.symm
     rw [this, Nat.mul_div_cancel _ hpos]
    refine ⟨?_, ?_⟩
    ·show _ = Result.ok (Value.int .i64 (((l0.map SVal.width).sum / w : Nat) : Int)) W
     rw [hlen]; exact sl he
    ·rw [hlen]; unfold maxLen at hmx; exact ⟨by show (-9223372036854775808 : Int) ≤ (m : Int); omega, by show (m : Int) ≤ (9223372036854775807 : Int); omega, Int.le_refl _, Int.le_refl _⟩
  ·rename_i k t0 l0 j x hc
   simp [Acc.run] at hr
   obtain ⟨rfl, _⟩ := hr
   cases hx with
   | own _ A m cap hq =>
    obtain ⟨v', hv', e', vs, ho, _⟩ := M.at_ _ _ hc
    rw [hq] at hv'; cases hv'
    obtain ⟨rfl, _⟩ := own_cells ho
    have : l0.length ≤ maxLen := by
     rcases ho.2 with ⟨h1, h2⟩ | ⟨g, c, cur, h1, _, _, h4, h5, _, _⟩
     ·omega
     ·omega
    exact ⟨sl he, nat _ this⟩
  ·cases hr
 ·obtain ⟨e, he⟩ := hk3 (fun _ h => by cases h)
  simp [Acc.run] at hr
  obtain ⟨rfl, _⟩ := hr
  cases hx with
  | view _ _ _ _ A A' m cap cap' hq h1 h2 h3 h4 _ => exact ⟨sl he, nat _ (by omega)⟩
 ·simp [Acc.run] at hr
  obtain ⟨rfl, _⟩ := hr
  obtain ⟨rfl, hs⟩ := hx.str_inv
  have hk : d = .string := hk1 _ rfl
  subst hk
  exact ⟨by simp [Builtin.len_, run_und ht, goInt]; rfl, nat _ hs⟩
 ·exact (hk2 _ _ _ rfl).elim
 ·cases hr
theorem conv_ok {s d : Nat} {ts td : TypeDesc} {D : TD} (hs : P.underlying s = some ts) (hd : P.underlying d = some td) (hD : TDOk P td D) {x : SVal} {u : Value} (hx : Den C W R ρ x u) {look : Nat → Option Cont} {r : ORes} {l l' : List Nat}
  (hr : (convS D x).run look l = .ok (r, l')) : PureOk C W R ρ P (convert s d u) r := by
 unfold convS at hr
 split at hr
 ·rename_i k k' a
  have hD : td = .int k := hD
  subst hD
  obtain ⟨rfl, hi⟩ := hx.int_inv
  have hrun : (convert s d (.int k' a.val)).run P W = .ok (.int k (k.wrap a.val)) W := by
   cases ts <;> simp [convert, run_und hs, run_und hd, Conv.intToInt]
  split at hr
  ·rename_i hk
   obtain ⟨b1, b2⟩ := inK_iff hk
   have l1 := hi.lo'; have l2 := hi.hi'
   have hw : k.wrap a.val = a.val := wrap_in (by omega) (by omega)
   rw [hw] at hrun
   simp [Acc.run] at hr
   obtain ⟨rfl, _⟩ := hr
   cases a with
   | lit n => exact ⟨_, hrun, .int k (.lit n) ⟨by show kmin k ≤ n; exact Int.le_trans b1 l1, by show n ≤ kmax k; exact Int.le_trans l2 b2, Int.le_refl _, Int.le_refl _⟩, rfl, rfl⟩
   | full n => exact ⟨_, hrun, .int k (.sym n _ _) (.sym (Int.le_trans b1 l1) (Int.le_trans l2 b2) l1 l2), rfl, rfl⟩
   | sym n lo hi => exact ⟨_, hrun, .int k (.sym n _ _) (.sym (Int.le_trans b1 l1) (Int.le_trans l2 b2) l1 l2), rfl, rfl⟩
  ·split at hr
   ·simp [Acc.run] at hr
    obtain ⟨rfl, _⟩ := hr
    exact ⟨_, hrun, .int k (.lit _) (.litw _ _), rfl, rfl⟩
   ·simp [Acc.run] at hr
    obtain ⟨rfl, _⟩ := hr
    exact ⟨_, hrun, .int k (.full _) (.wrap _ _), rfl, rfl⟩
 ·have hD : td = .string := hD
  subst hD
  simp [Acc.run] at hr
  obtain ⟨rfl, _⟩ := hr
  obtain ⟨rfl, hsz⟩ := hx.str_inv
  refine ⟨_, ?_, .str _ hsz, rfl, rfl⟩
  cases ts <;> simp [convert, run_und hs, run_und hd]
 ·cases hr
theorem txt_ok (M : Mem C gl W R ρ h) {s d e : Nat} (hs : P.underlying s = some (.slice e)) (he : P.underlying e = some (.int .u8)) (hd : P.underlying d = some .string) {x : SVal} {u : Value} (hx : Den C W R ρ x u) {xs : List Int} {l l' : List Nat}
  (hr : (elems x).run h l = .ok (⟨.u8, xs⟩, l')) (hb : xs.length ≤ 137438953472) : (convert s d u).run P W = .ok (.string (strOfNums xs)) W ∧ (strOfNums xs).size ≤ maxLen := by
 obtain ⟨A, cap, vs, rfl, h1, h2, h3⟩ := elems_ok M hx hr
 refine ⟨?_, by rw [strOfNums_size]; unfold maxLen; omega⟩
 have hvs : vs = xs.map (Value.int .u8) := by
  clear h3 h2 hr hx hb
  induction xs generalizing vs with
  | nil => cases h1; rfl
  | cons y ys ih =>
   rw [List.flatMap_cons] at h1
   obtain ⟨v, us, rfl, _, d1, hl⟩ := h1.inv_one rfl
   cases d1 with
   | int _ _ hi => rw [List.map_cons, ← ih us hl]; rfl
 cases xs with
 | nil =>
  rw [run_convert_bytes_string W s d e A _ cap hs he hd]
  cases A <;> simp [Conv.bytesToString, strOfNums, loadCells, loadCellsFrom] <;> rfl
 | cons y ys =>
  obtain ⟨a, rfl, hc⟩ := h3 (by simp)
  have hl := run_loadCells_list (P := P) W a ((y :: ys).map (Value.int .u8)) (fun j v hj => hc j v (by rw [hvs]; exact hj))
  simp only [List.length_map] at hl
  rw [run_convert_bytes_string W s d e _ _ cap hs he hd, run_bytesToString W a _ cap _ hl, foldl_push_bytes]
  simp only [strOfNums, ByteArray.empty, ByteArray.emptyWithCapacity]
  have e0 : ∀ a : Array UInt8, #[] ++ a = a := fun a => by simp
  congr 3
  exact e0 _
end
end Go.Sy

set_option linter.unusedVariables false
set_option linter.unusedSimpArgs false
namespace Go.Sy
open Go.RowKit
section
variable {C : Ctx} {gl : List (Nat × SVal)} {W : World} {R : Nat → Prop} {ρ : Nat → Option Value} {h : Nat → Option Cont} {P : Program}
def Ent {α : Type} (key : α → Value) (es : List MapEntry) (m : List (α × Int)) : Prop := es.map (fun e => (e.key, e.val)) = m.map (fun p => (key p.1, Value.int .i64 p.2))
theorem Ent.cons {α : Type} {key : α → Value} {e : MapEntry} {es : List MapEntry} {m : List (α × Int)} (h : Ent key (e :: es) m) : ∃ a b m', m = (a, b) :: m' ∧ e.key = key a ∧ e.val = .int .i64 b ∧ Ent key es m' := by
 cases m with
 | nil => simp [Ent] at h
 | cons p m' =>
  simp only [Ent, List.map_cons, List.cons.injEq, Prod.mk.injEq] at h
  exact ⟨p.1, p.2, m', rfl, h.1.1, h.1.2, h.2⟩
theorem Ent.nil {α : Type} {key : α → Value} {m : List (α × Int)} (h : Ent key [] m) : m = [] := by cases m <;> simp [Ent] at h ⊢
def placeOf {α : Type} [DecidableEq α] : List (α × Int) → α → Nat → Option (Nat × Value)
 | [], _, _ => none
 | (a, b) :: m, k, i => if a = k then some (i, .int .i64 b) else placeOf m k (i + 1)
theorem find_now {α : Type} [DecidableEq α] {key : α → Value} {d : TypeDesc} {k : α} (hs : ∀ a, Instr.sameNow d (key k) (key a) = some (decide (a = k))) : ∀ {es : List MapEntry} {m : List (α × Int)} (i : Nat), Ent key es m →
  Instr.findNow d (key k) es i = some (placeOf m k i)
 | [], m, i, h => by rw [h.nil]; rfl
 | e :: es, m, i, h => by
  obtain ⟨a, b, m', rfl, h1, h2, h3⟩ := h.cons
  have ih := find_now hs (i + 1) h3
  simp only [Instr.findNow, h1, hs, placeOf]
  by_cases hk : a = k
  ·simp [hk, h2]
  ·simp [hk, ih]
theorem get_of {α : Type} [DecidableEq α] : ∀ (m : List (α × Int)) (k : α) (i : Nat), mapGet m k = (match placeOf m k i with | some (_, .int _ b) => b | _ => 0)
 | [], k, i => rfl
 | (a, b) :: m, k, i => by
  simp only [mapGet, placeOf]
  by_cases hk : a = k
  ·simp [hk]
  ·simp [hk, get_of m k (i + 1)]
theorem place_int {α : Type} [DecidableEq α] : ∀ (m : List (α × Int)) (k : α) (i : Nat) {j : Nat} {v : Value}, placeOf m k i = some (j, v) → ∃ b, v = .int .i64 b ∧ i ≤ j ∧ m[j - i]? = some (k, b) ∧ mapPut m k = fun x => m.set (j - i) (k, x)
 | [], k, i, j, v, h => by cases h
 | (a, b) :: m, k, i, j, v, h => by
  simp only [placeOf] at h
  by_cases hk : a = k
  ·subst hk
   simp at h
   obtain ⟨rfl, rfl⟩ := h
   exact ⟨b, rfl, Nat.le_refl _, by simp, by funext x; simp [mapPut]⟩
  ·simp only [hk, if_false] at h
   obtain ⟨b', h1, h2, h3, h4⟩ := place_int m k (i + 1) h
   have e : j - i = (j - (i + 1)) + 1 := by omega
   refine ⟨b', h1, by omega, by rw [e]; simpa using h3, ?_⟩
   funext x
   rw [e]
   simp only [mapPut, hk, if_false, List.set_cons_succ]
   rw [h4]
theorem place_none {α : Type} [DecidableEq α] : ∀ (m : List (α × Int)) (k : α) (i : Nat), placeOf m k i = none → mapPut m k = fun x => m ++ [(k, x)]
 | [], k, i, h => by funext x; rfl
 | (a, b) :: m, k, i, h => by
  simp only [placeOf] at h
  by_cases hk : a = k
  ·simp [hk] at h
  ·simp only [hk, if_false] at h
   funext x
   simp only [mapPut, hk, if_false, place_none m k (i + 1) h, List.cons_append]
theorem get_mem {α : Type} [DecidableEq α] {m : List (α × Int)} {k : α} (hr : ∀ p ∈ m, kmin .i64 ≤ p.2 ∧ p.2 ≤ kmax .i64) : kmin .i64 ≤ mapGet m k ∧ mapGet m k ≤ kmax .i64 := by
 induction m with
 | nil => exact ⟨show kmin .i64 ≤ 0 by decide, show 0 ≤ kmax .i64 by decide⟩
 | cons p m ih =>
  obtain ⟨a, b⟩ := p
  simp only [mapGet]
  by_cases hk : a = k
  ·simp only [hk, if_true]; exact hr (a, b) (List.mem_cons_self ..)
  ·simp only [hk, if_false]; exact ih fun q hq => hr q (List.mem_cons_of_mem _ hq)
theorem put_mem {α : Type} [DecidableEq α] {m : List (α × Int)} {k : α} {x : Int} (hr : ∀ p ∈ m, kmin .i64 ≤ p.2 ∧ p.2 ≤ kmax .i64) (hx : kmin .i64 ≤ x ∧ x ≤ kmax .i64) : ∀ p ∈ mapPut m k x, kmin .i64 ≤ p.2 ∧ p.2 ≤ kmax .i64 := by
 induction m with
 | nil => intro p hp; simp [mapPut] at hp; subst hp; exact hx
 | cons q m ih =>
  obtain ⟨a, b⟩ := q
  intro p hp
  simp only [mapPut] at hp
  by_cases hk : a = k
  ·simp only [hk, if_true, List.mem_cons] at hp
   rcases hp with rfl | hp
   ·exact hx
   ·exact hr p (List.mem_cons_of_mem _ hp)
  ·simp only [hk, if_false, List.mem_cons] at hp
   rcases hp with rfl | hp
   ·exact hr (a, b) (List.mem_cons_self ..)
   ·exact ih (fun q hq => hr q (List.mem_cons_of_mem _ hq)) p hp
theorem beq_bytes (k a : ByteArray) : (k == a) = true ↔ k = a := by
 cases k; cases a
 rename_i x y
 have : ((⟨x⟩ : ByteArray) == ⟨y⟩) = (x == y) := rfl
 rw [this, beq_iff_eq]; simp
theorem same_str (k a : ByteArray) : Instr.sameNow .string (.string k) (.string a) = some (decide (a = k)) := by
 simp only [Instr.sameNow]; congr 1
 rw [Bool.eq_iff_iff, decide_eq_true_eq]
 rw [beq_bytes]; exact eq_comm
theorem same_int (k a : Int) : Instr.sameNow (.int .i64) (.int .i64 k) (.int .i64 a) = some (decide (a = k)) := by
 simp only [Instr.sameNow, if_true]; congr 1
 rw [Bool.eq_iff_iff, decide_eq_true_eq]
 exact ⟨fun h => (of_decide_eq_true h).symm, fun h => decide_eq_true h.symm⟩
theorem check_plain {t : Nat} {d : TypeDesc} (ht : P.underlying t = some d) (hd : d = .string ∨ d = .int .i64) (e : Bool) (v : Value) : (Instr.checkKey e 10000 t v).run P W = .ok () W := by
 suffices ∀ n, (Instr.checkKey e (n + 1) t v).run P W = .ok () W from this 9999
 intro n
 rcases hd with rfl | rfl <;> simp [Instr.checkKey, run_und ht]
theorem lookup_ok {t kt vt b : Nat} {dk : TypeDesc} (ht : P.underlying t = some (.map kt vt)) (hk : P.underlying kt = some dk) (hd : dk = .string ∨ dk = .int .i64) {inf : TypeInfo} (hv : P.info? vt = some inf) (hz : inf.zero = some (.int .i64 0))
  {α : Type} [DecidableEq α] {key : α → Value} {k : α} (hs : ∀ a, Instr.sameNow dk (key k) (key a) = some (decide (a = k))) {es : Array MapEntry} {clock : Nat} {m : List (α × Int)} (hb : W.heap[b]? = some (.map es clock)) (he : Ent key es.toList m) :
  (Instr.lookup t (.map (some b)) (key k) false).run P W = .ok (.int .i64 (mapGet m k)) W := by
 have hget : (getObj b).run P W = .ok (.map es clock) W := by simp [getObj, Sem.run, hb]
 have hf : (Instr.findKey kt (key k) es.toList).run P W = .ok (placeOf m k 0) W := by
  simp [Instr.findKey, run_und hk, find_now hs 0 he]
 have hg := get_of m k 0
 cases hp : placeOf m k 0 with
 | none =>
  rw [hp] at hf hg
  simp only at hg
  simp [Instr.lookup, run_und ht, hget, check_plain hk hd, hf, run_zero hv hz, hg]
 | some q =>
  obtain ⟨j, v⟩ := q
  obtain ⟨b', rfl, _, _, _⟩ := place_int m k 0 hp
  rw [hp] at hf hg
  simp only at hg
  simp [Instr.lookup, run_und ht, hget, check_plain hk hd, hf, hg]
theorem update_ok {t kt vt b : Nat} {dk : TypeDesc} (ht : P.underlying t = some (.map kt vt)) (hk : P.underlying kt = some dk) (hd : dk = .string ∨ dk = .int .i64)
  {α : Type} [DecidableEq α] {key : α → Value} {k : α} {x : Int} (hs : ∀ a, Instr.sameNow dk (key k) (key a) = some (decide (a = k))) (hsb : Instr.sameBits 10000 (key k) (key k) = true) {es : Array MapEntry} {clock : Nat} {m : List (α × Int)} (hb : W.heap[b]? = some (.map es clock)) (he : Ent key es.toList m) :
  ∃ es' clock', (Instr.mapUpdate t (.map (some b)) (key k) (.int .i64 x)).run P W = .ok () { W with heap := W.heap.setIfInBounds b (.map es' clock') } ∧ Ent key es'.toList (mapPut m k x) := by
 have hget : (getObj b).run P W = .ok (.map es clock) W := by simp [getObj, Sem.run, hb]
 have hset : ∀ o, (setObj b o).run P W = .ok () { W with heap := W.heap.setIfInBounds b o } := fun o => by simp [setObj, Sem.run, hb]
 have hf : (Instr.findKey kt (key k) es.toList).run P W = .ok (placeOf m k 0) W := by
  simp [Instr.findKey, run_und hk, find_now hs 0 he]
 cases hp : placeOf m k 0 with
 | none =>
  rw [hp] at hf
  refine ⟨es.push ⟨key k, .int .i64 x, clock⟩, clock + 1, by simp [Instr.mapUpdate, run_und ht, hget, check_plain hk hd, hf, hset], ?_⟩
  rw [place_none m k 0 hp]
  unfold Ent at he ⊢
  simp [he]
 | some q =>
  obtain ⟨j, v⟩ := q
  obtain ⟨b', rfl, _, h3, h4⟩ := place_int m k 0 hp
  rw [hp] at hf
  simp only [Nat.sub_zero] at h3 h4
  have hj : (es.toList.map fun e => (e.key, e.val))[j]? = some (key k, Value.int .i64 b') := by
   have : es.toList.map (fun e => (e.key, e.val)) = _ := he
   rw [this, List.getElem?_map, h3]; rfl
  have hkey : ((es[j]?).map (·.key)).getD (key k) = key k := by
   rw [List.getElem?_map] at hj
   rw [← Array.getElem?_toList]
   cases h : es.toList[j]? with
   | none => rfl
   | some e => rw [h] at hj; simp at hj; simp [hj.1]
  refine ⟨es.modify j fun e => { e with key := key k, val := .int .i64 x }, clock, ?_, ?_⟩
  ·simp [Instr.mapUpdate, run_und ht, hget, check_plain hk hd, hf, hset, hkey, Instr.keyThatStays, hsb]
  ·rw [h4]
   unfold Ent at he ⊢
   rw [List.map_set, ← he]
   apply List.ext_getElem?
   intro i
   rw [List.getElem?_map, Array.getElem?_toList, Array.getElem?_modify, List.getElem?_set]
   by_cases hij : j = i
   ·subst hij
    cases h : es[j]? with
    | none =>
     have : es.size ≤ j := by rw [Array.getElem?_eq_none_iff] at h; exact h
     simp; omega
    | some e =>
     have : j < es.size := (Array.getElem?_eq_some_iff.1 h).1
     simp [this]
   ·simp only [hij, if_false]
    rw [List.getElem?_map, Array.getElem?_toList]
end
end Go.Sy

set_option linter.unusedVariables false
set_option linter.unusedSimpArgs false
namespace Go.Sy
open Go.RowKit
structure ConOk (P : Program) (C : Ctx) (gl : List (Nat × SVal)) (f : Nat) (k : List SVal → Nat → Acc ORes) : Prop where
 call : ∀ args w, (callFunc f args).run P w = .ok (.enter f args) w
 does : ∀ {W : World} {R : Nat → Prop} {ρ : Nat → Option Value} {h : Nat → Option Cont} {args : List SVal} {vs : List Value} {next : Nat} {r : ORes} {l l' : List Nat},
  Mem C gl W R ρ h → DenA C W R ρ args vs → (k args next).run h l = .ok (r, l') → (∀ q, r.vc = some q → q) → (∀ j, j < r.k → ρ (next + j) = none) →
  Calls P f vs.toArray W fun e W' => ∃ v R' ρ', e = .returned v ∧ Trans C gl W R ρ h r.ws W' R' ρ' ∧ Den C W' R' ρ' r.v v
structure EnvOk (P : Program) (C : Ctx) (gl : List (Nat × SVal)) (E : Env) : Prop where
 tab : ∀ t ti, find t E.tab = some ti → TiOk P t ti
 err : ErrOk P C
 glob : E.glob = gl
 tAt : E.tAt = C.tAt
 mixed : P.follows .mixedOrders = true
 con : ∀ f k, find f E.con = some k → ConOk P C gl f k
 cmp : ∀ t, E.cmp.contains t = true → CmpOk P t
section
variable {P : Program} {C : Ctx} {gl : List (Nat × SVal)} {E : Env} {W : World} {R : Nat → Prop} {ρ : Nat → Option Value} {h : Nat → Option Cont} {o : Oper} {a : Act}
def Yields (P : Program) (C : Ctx) (gl : List (Nat × SVal)) (o : Oper) (a : Act) (W : World) (R : Nat → Prop) (ρ : Nat → Option Value) (h : Nat → Option Cont) (r : ORes) : Prop :=
 ∀ (K : Act → World → Prop) (Q : Exit → Act → World → Prop), (∀ v W' R' ρ', Trans C gl W R ρ h r.ws W' R' ρ' → Den C W' R' ρ' r.v v → K (a.put o.dst v) W') → o.wp P a W K Q
theorem Yields.make {s : Sem Value} {r : ORes} (he : execOp a.eval o = (do pure (Next.value (← s)))) (hm : MakeOk C gl W R ρ h P s r) : Yields P C gl o a W R ρ h r := fun K Q hK => by
 obtain ⟨v, W', ρ', h1, h2, h3⟩ := hm
 unfold Oper.wp
 rw [he]
 simp only [Sem.run_bind, h1, Result.andThen_ok, Sem.run_pure]
 exact hK _ _ _ _ h2 h3
theorem Yields.pure {s : Sem Value} {r : ORes} (M : Mem C gl W R ρ h) (he : execOp a.eval o = (do Pure.pure (Next.value (← s)))) (hm : PureOk C W R ρ P s r) : Yields P C gl o a W R ρ h r := by
 obtain ⟨v, h1, h2, h3, h4⟩ := hm
 exact Yields.make he ⟨v, W, ρ, h1, by rw [h3]; exact Trans.refl M, h2⟩
theorem Yields.unit {s : Sem Unit} {r : ORes} (he : execOp a.eval o = (do s; Pure.pure Next.skip)) (hm : ∃ W' ρ', s.run P W = .ok () W' ∧ Trans C gl W R ρ h r.ws W' R ρ') (hv : r.v = .any) : Yields P C gl o a W R ρ h r := fun K Q hK => by
 obtain ⟨W', ρ', h1, h2⟩ := hm
 unfold Oper.wp
 rw [he]
 simp only [Sem.run_bind, h1, Result.andThen_ok, Sem.run_pure]
 exact hK _ _ _ _ h2 (by rw [hv]; exact .any _)
theorem Yields.value {v : Value} {r : ORes} (M : Mem C gl W R ρ h) (he : execOp a.eval o = Pure.pure (Next.value v)) (hv : Den C W R ρ r.v v) (hw : r.ws = []) : Yields P C gl o a W R ρ h r := fun K Q hK => by
 unfold Oper.wp
 rw [he]
 exact hK _ _ _ _ (by rw [hw]; exact Trans.refl M) hv
theorem ret_ok {α : Type} {x y : α} {look : Nat → Option Cont} {l l' : List Nat} (h : (Acc.ret x).run look l = .ok (y, l')) : x = y := by simp [Acc.run] at h; exact h.1
theorem parts_of {ev : Operand → SVal} (hev : ∀ x, Den C W R ρ (ev x) (a.eval x)) : ∀ l : List (Nat × Operand), Parts C W R ρ (l.map fun (i, x) => (i, ev x)) (l.map fun (i, x) => (i, a.eval x))
 | [] => trivial
 | (i, x) :: l => ⟨rfl, hev x, parts_of hev l⟩
theorem args_of {ev : Operand → SVal} (hev : ∀ x, Den C W R ρ (ev x) (a.eval x)) : ∀ l : List Operand, DenA C W R ρ (l.map ev) (l.map a.eval)
 | [] => .nil
 | x :: l => .cons _ _ _ _ (hev x) (args_of hev l)
theorem DenA.app {l l' : List SVal} {vs vs' : List Value} (h : DenA C W R ρ l vs) (h' : DenA C W R ρ l' vs') : DenA C W R ρ (l ++ l') (vs ++ vs') := by
 induction l generalizing vs with
 | nil => cases h; exact h'
 | cons s l ih => cases h with | cons _ v _ us h1 h2 => exact .cons _ _ _ _ h1 (ih h2)
theorem DenA.get {l : List SVal} {vs : List Value} (h : DenA C W R ρ l vs) {i : Nat} {s : SVal} (hi : l[i]? = some s) : ∃ v, vs[i]? = some v ∧ Den C W R ρ s v := by
 induction l generalizing vs i with
 | nil => simp at hi
 | cons t l ih =>
  cases h with
  | cons _ v _ us h1 h2 =>
   cases i with
   | zero => simp at hi; subst hi; exact ⟨v, rfl, h1⟩
   | succ i => simpa using ih h2 (by simpa using hi)
theorem arr_map {α β : Type} (ps : Array α) (f : α → β) : ps.map f = (ps.toList.map f).toArray := Array.ext' (by simp)
theorem ti_ok (EO : EnvOk P C gl E) {t : Nat} {ti : TI} {look : Nat → Option Cont} {l l' : List Nat} (h : (E.ti t).run look l = .ok (ti, l')) : TiOk P t ti := EO.tab _ _ (ofOpt_ok h).1
theorem si_ok {s : SVal} {n : SI} {look : Nat → Option Cont} {l l' : List Nat} (h : (si s).run look l = .ok (n, l')) {v : Value} (hd : Den C W R ρ s v) : ∃ k, v = .int k n.val ∧ InI k n := by
 unfold si at h
 split at h
 ·have := ret_ok h; subst this; exact ⟨_, hd.int_inv.1, hd.int_inv.2⟩
 ·cases h
theorem siOpt_ok {ev : Operand → SVal} (hev : ∀ x, Den C W R ρ (ev x) (a.eval x)) {x : Option Operand} {n : Option SI} {look : Nat → Option Cont} {l l' : List Nat} (h : (siOpt (x.map ev)).run look l = .ok (n, l')) : IntOf n (x.map a.eval) := by
 cases x with
 | none => have := ret_ok h; subst this; trivial
 | some x =>
  obtain ⟨m, l1, h1, h2⟩ := Acc.bind_ok h
  have := ret_ok h2; subst this
  obtain ⟨k, hk, _⟩ := si_ok h1 (hev x)
  exact ⟨k, hk⟩
theorem part_ok {t : Nat} {ti : TI} (T : TiOk P t ti) {vs : List Value} {off : Nat} {cs : List SVal} (hd : DenL C W R ρ cs (vs.drop off)) {look : Nat → Option Cont} {s : SVal} {l l' : List Nat}
  (hr : (valOf ti cs).run look l = .ok (s, l')) : ∃ v, (part t vs.toArray off).run P W = .ok v W ∧ Den C W R ρ s v := by
 obtain ⟨d, d1, d2⟩ := T.d
 obtain ⟨i, z, i1, i2, i3, i4, i5, i6, _⟩ := T.i
 have hs : (sizeOf t).run P W = .ok ti.size W := by rw [run_siz i1, i2]
 have one : isAggD d = false → (valOne cs).run look l = .ok (s, l') → ∃ v, (part t vs.toArray off).run P W = .ok v W ∧ Den C W R ρ s v := by
  intro hda hr
  cases cs with
  | nil => cases hr
  | cons s0 rest =>
   simp only [valOne] at hr
   split at hr
   ·cases hr
   ·rename_i hna
    have := ret_ok hr; subst this
    obtain ⟨v, us, e, h1, h2, h3⟩ := hd.inv_one hna
    have hv : vs[off]? = some v := by
     have := congrArg (·[0]?) e
     simpa using this
    exact ⟨v, by simp [part, isAgg_of d1, hda, hv], h2⟩
 have ext : ∀ n, (vs.toArray.extract off (off + n)) = ((vs.drop off).take n).toArray := fun n => by
  apply Array.ext'
  simp [List.extract_eq_take_drop]
 unfold valOf at hr
 split at hr
 ·rename_i fs hfs
  rw [hfs] at d2
  obtain ⟨fields, rfl, _⟩ := d2
  obtain ⟨ht, _⟩ := ofOpt_ok hr
  cases hk : takeW cs ti.size with
  | none => rw [hk] at ht; cases ht
  | some cs' =>
   rw [hk] at ht; cases ht
   obtain ⟨q1, q2⟩ := hd.takeW hk
   exact ⟨_, by simp [part, isAgg_of d1, isAggD, hs, ext], .agg _ _ q1⟩
 ·rename_i n e hfs
  rw [hfs] at d2
  have d2 : d = .array n e := d2
  subst d2
  split at hr
  ·rename_i u m xs rest
   split at hr
   ·rename_i hb
    have hb := beq_ok hb
    have := ret_ok hr; subst this
    generalize hds : vs.drop off = ds at hd
    cases hd with
    | one _ _ _ _ h => simp [SVal.isArr] at h
    | arr _ _ _ us _ us' hlen hx hrest =>
     have lu : us.length = ti.size := by rw [hx.len_noarr (flat_noarr u xs), flat_w, hlen, hb]
     refine ⟨.agg us.toArray, ?_, .arr u m xs us hlen hx⟩
     have : vs.toArray.extract off (off + ti.size) = us.toArray := by rw [ext, hds, ← lu, List.take_left]
     simp only [part, Sem.run_bind, isAgg_of d1, isAggD, Result.andThen_ok, if_true, hs, this]; rfl
   ·cases hr
  ·cases hr
 ·rename_i h1 h2
  refine one ?_ hr
  cases hti : ti.d with
  | struct fs => exact (h1 _ hti).elim
  | arr n e => exact (h2 _ _ hti).elim
  | iface => rw [hti] at d2; obtain ⟨_, rfl⟩ := d2; rfl
  | func => rw [hti] at d2; obtain ⟨_, _, _, rfl⟩ := d2; rfl
  | other => rw [hti] at d2; exact d2
  | int k => rw [hti] at d2; have d2 : d = .int k := d2; subst d2; rfl
  | bool => rw [hti] at d2; have d2 : d = .bool := d2; subst d2; rfl
  | str => rw [hti] at d2; have d2 : d = .string := d2; subst d2; rfl
  | ptr e => rw [hti] at d2; have d2 : d = .pointer e := d2; subst d2; rfl
  | slice e => rw [hti] at d2; have d2 : d = .slice e := d2; subst d2; rfl
  | map k v => rw [hti] at d2; have d2 : d = .map k v := d2; subst d2; rfl
structure Sit (P : Program) (C : Ctx) (gl : List (Nat × SVal)) (E : Env) (W : World) (R : Nat → Prop) (ρ : Nat → Option Value) (h : Nat → Option Cont) (o : Oper) (a : Act) (ev : Operand → SVal) (next : Nat) (r : ORes) (l l' : List Nat) : Prop where
 EO : EnvOk P C gl E
 M : Mem C gl W R ρ h
 hev : ∀ x, Den C W R ρ (ev x) (a.eval x)
 hr : (sop E o ev next).run h l = .ok (r, l')
 hp : ∀ q, r.vc = some q → q
 hn : ∀ j, j < r.k → ρ (next + j) = none
variable {ev : Operand → SVal} {next : Nat} {r : ORes} {l l' : List Nat}
theorem sop_move (S : Sit P C gl E W R ρ h o a ev next r l l') {x} (hop : o.op = .move x) : Yields P C gl o a W R ρ h r := by
 obtain ⟨EO, M, hev, hr, hp, hn⟩ := S
 unfold sop at hr; rw [hop] at hr; simp only at hr
 have := ret_ok hr; subst this
 exact Yields.value M (by unfold execOp; rw [hop]) (hev x) rfl
theorem Trans.newNil (M : Mem C gl W R ρ h) {n : Nat} (hn : ρ n = none) (t : RT) : Trans C gl W R ρ h [(n, some (.recs t []))] W R (bindN ρ n (.slice none 0 0)) := by
 refine Trans.gen M rfl rfl rfl (Nat.le_refl _) (bindN_mono hn) (bindN_new (c := none) hn (by simp [keys])) (fun k hk _ => rfl) (fun kR r c' hf => ?_) (fun r r' c1 c2 h1 h2 => ?_)
 ·obtain ⟨rfl, e⟩ := find_one hf
  cases e
  exact ⟨_, bindN_at, ⟨0, [], ⟨by simp, .inl ⟨rfl, rfl⟩⟩, .nil⟩, fun b hb => by cases hb⟩
 ·rw [(find_one h1).1, (find_one h2).1]
theorem sop_assign (S : Sit P C gl E W R ρ h o a ev next r l l') {x} (hop : o.op = .assign x) : Yields P C gl o a W R ρ h r := by
 obtain ⟨EO, M, hev, hr, hp, hn⟩ := S
 unfold sop at hr; rw [hop] at hr; simp only at hr
 have he : execOp a.eval o = Pure.pure (Next.value (a.eval x)) := by unfold execOp; rw [hop]
 split at hr
 ·rename_i hx
  have hd := hev x
  rw [hx] at hd
  split at hr
  ·rename_i t ht
   have := ret_ok hr; subst this
   refine Yields.make (s := Pure.pure (a.eval x)) (by rw [he]; rfl) ⟨a.eval x, W, _, rfl, Trans.newNil M (hn 0 Nat.one_pos) t, ?_⟩
   generalize a.eval x = u at hd
   cases hd
   exact .own _ _ _ _ bindN_at
  ·have := ret_ok hr; subst this
   exact Yields.value M he hd rfl
 ·have := ret_ok hr; subst this
  exact Yields.value M he (hev x) rfl
theorem sop_alloc (S : Sit P C gl E W R ρ h o a ev next r l l') {t} (hop : o.op = .alloc t) : Yields P C gl o a W R ρ h r := by
 obtain ⟨EO, M, hev, hr, hp, hn⟩ := S
 unfold sop at hr; rw [hop] at hr; simp only at hr
 obtain ⟨ti, l1, h1, h2⟩ := Acc.bind_ok hr
 have := ret_ok h2; subst this
 refine Yields.make (by unfold execOp; rw [hop]) ?_
 obtain ⟨v, W', ρ', q1, q2, q3⟩ := alloc_ok (P := P) M (ti_ok EO h1) (hn 0 Nat.one_pos)
 exact ⟨v, W', ρ', q1, q2, q3⟩
theorem sop_box (S : Sit P C gl E W R ρ h o a ev next r l l') {t x} (hop : o.op = .box t x) : Yields P C gl o a W R ρ h r := by
 obtain ⟨EO, M, hev, hr, hp, hn⟩ := S
 unfold sop at hr; rw [hop] at hr; simp only at hr
 split at hr
 ·cases hr
 ·rename_i hagg
  have := ret_ok hr; subst this
  refine Yields.make (by unfold execOp; rw [hop]) ?_
  obtain ⟨v, W', ρ', q1, q2, q3⟩ := box_ok (P := P) (t := t) M hagg (hev x) (hn 0 Nat.one_pos)
  exact ⟨v, W', ρ', q1, q2, q3⟩
theorem sop_build (S : Sit P C gl E W R ρ h o a ev next r l l') {t ps} (hop : o.op = .build t ps) : Yields P C gl o a W R ρ h r := by
 obtain ⟨EO, M, hev, hr, hp, hn⟩ := S
 unfold sop at hr; rw [hop] at hr; simp only at hr
 obtain ⟨ti, l1, h1, h2⟩ := Acc.bind_ok hr
 refine Yields.pure M (by unfold execOp; rw [hop]) ?_
 have := build_ok EO.tab (ti_ok EO h1) (parts_of hev ps.toList) h2
 rw [arr_map]; exact this
theorem sop_buildSlice (S : Sit P C gl E W R ρ h o a ev next r l l') {t n ps} (hop : o.op = .buildSlice t n ps) : Yields P C gl o a W R ρ h r := by
 obtain ⟨EO, M, hev, hr, hp, hn⟩ := S
 unfold sop at hr; rw [hop] at hr; simp only at hr
 obtain ⟨ti, l1, h1, h2⟩ := Acc.bind_ok hr
 split at h2
 ·rename_i e htd
  obtain ⟨ei, l2, h3, h4⟩ := Acc.bind_ok h2
  obtain ⟨d, d1, d2⟩ := (ti_ok EO h1).d
  rw [htd] at d2
  have d2 : d = .slice e := d2
  subst d2
  have hk : 0 < r.k := by
   unfold buildSliceS at h4
   split at h4
   ·split at h4
    ·split at h4
     ·have := ret_ok h4; subst this; exact Nat.one_pos
     ·cases h4
    ·have := ret_ok h4; subst this; exact Nat.one_pos
   ·split at h4
    ·have := ret_ok h4; subst this; exact Nat.one_pos
    ·split at h4
     ·have := ret_ok h4; subst this; exact Nat.one_pos
     ·cases h4
    ·cases h4
  refine Yields.make (by unfold execOp; rw [hop]) ?_
  have := buildSlice_ok M d1 (ti_ok EO h3) (parts_of hev ps.toList) (hn 0 hk) h4
  rw [arr_map]; exact this
 ·cases h2
theorem sop_load (S : Sit P C gl E W R ρ h o a ev next r l l') {t x} (hop : o.op = .load t x) : Yields P C gl o a W R ρ h r := by
 obtain ⟨EO, M, hev, hr, hp, hn⟩ := S
 unfold sop at hr; rw [hop] at hr; simp only at hr
 obtain ⟨ti, l1, h1, h2⟩ := Acc.bind_ok hr
 obtain ⟨z, l2, h3, h4⟩ := Acc.bind_ok h2
 obtain ⟨v, l3, h5, h6⟩ := Acc.bind_ok h4
 have := ret_ok h6; subst this
 obtain ⟨b, off, vs, q1, q2, q3⟩ := atPtrV_ok M h3 (hev x) hp
 obtain ⟨u, u1, u2⟩ := load_ok (ti_ok EO h1) q2 q3 h5
 refine Yields.pure M (by unfold execOp; rw [hop]) ⟨u, ?_, u2, rfl, rfl⟩
 simp [Instr.loadAt, q1, Instr.sureAddr, u1]
theorem sop_store (S : Sit P C gl E W R ρ h o a ev next r l l') {t x y} (hop : o.op = .store t x y) : Yields P C gl o a W R ρ h r := by
 obtain ⟨EO, M, hev, hr, hp, hn⟩ := S
 unfold sop at hr; rw [hop] at hr; simp only at hr
 obtain ⟨ti, l1, h1, h2⟩ := Acc.bind_ok hr
 split at h2
 ·cases h2
 ·rename_i hagg
  split at h2
  ·rename_i hsz
   have hsz := beq_ok hsz
   obtain ⟨ws, l2, h3, h4⟩ := Acc.bind_ok h2
   have := ret_ok h4; subst this
   have hc := cells_den (hev y) hagg
   obtain ⟨b, off, W', q1, q2, q3⟩ := storeAt_ok (P := P) M h3 (hev x) hc
   obtain ⟨i, z, i1, i2, _⟩ := (ti_ok EO h1).i
   have hl : (a.eval y).cells.size = i.size := by
    have := hc.len
    rw [show (cellsOf (ev y) |>.map SVal.width).sum = ti.size from hsz] at this
    rw [i2]; simpa using this
   refine Yields.unit (by unfold execOp; rw [hop]) ⟨W', ρ, ?_, q3⟩ rfl
   simp [Instr.storeAt, q1, Instr.sureAddr, storeVar, run_siz i1, hl, q2]
  ·cases h2
theorem sop_nilCheck (S : Sit P C gl E W R ρ h o a ev next r l l') {x} (hop : o.op = .nilCheck x) : Yields P C gl o a W R ρ h r := by
 obtain ⟨EO, M, hev, hr, hp, hn⟩ := S
 unfold sop at hr; rw [hop] at hr; simp only at hr
 have hx := hev x
 obtain ⟨v, hv⟩ : ∃ v, a.eval x = v := ⟨_, rfl⟩
 rw [hv] at hx
 split at hr
 case h_9 => cases hr
 all_goals
  rename_i hs
  rw [hs] at hx
  have := ret_ok hr; subst this
 ·cases hx with
  | ptr _ _ b hb => exact Yields.value M (by unfold execOp; rw [hop]; simp only [hv]) (.ptr _ _ b hb) rfl
 ·cases hx with
  | eptr _ _ _ _ b n cap hb h1 h2 => exact Yields.value M (by unfold execOp; rw [hop]; simp only [hv]) (.eptr _ _ _ _ b n cap hb h1 h2) rfl
 ·cases hx with
  | aptr _ _ _ _ _ _ b hb h1 h2 => exact Yields.value M (by unfold execOp; rw [hop]; simp only [hv]) (.aptr _ _ _ _ _ _ b hb h1 h2) rfl
 ·cases hx with
  | rop _ vs b off h1 h2 h3 => exact Yields.value M (by unfold execOp; rw [hop]; simp only [hv]) (.rop _ vs b off h1 h2 h3) rfl
 ·have he := hp _ rfl
  subst he
  cases hx with
  | ropT _ vs b off h1 h2 h3 => exact Yields.value M (by unfold execOp; rw [hop]; simp only [hv]) (.rop _ vs b off h1 h2 h3) rfl
 ·have he := hp _ rfl
  cases hx with
  | atnil _ h => rw [h] at he; cases he
  | atp n p b off h1 h2 h3 h4 h5 => exact Yields.value M (by unfold execOp; rw [hop]; simp only [hv]) (.atp n p b off h1 h2 h3 h4 h5) rfl
 ·cases hx with
  | func _ _ vs h => exact Yields.value M (by unfold execOp; rw [hop]; simp only [hv]) (.func _ _ vs h) rfl
 ·cases hx with
  | bound _ _ vs h => exact Yields.value M (by unfold execOp; rw [hop]; simp only [hv]) (.bound _ _ vs h) rfl
theorem sop_binOp (S : Sit P C gl E W R ρ h o a ev next r l l') {op t x y ty} (hop : o.op = .binOp op t x y ty) : Yields P C gl o a W R ρ h r := by
 obtain ⟨EO, M, hev, hr, hp, hn⟩ := S
 unfold sop at hr; rw [hop] at hr; simp only at hr
 obtain ⟨z, q1, q2, q3, q4⟩ := binS_ok (P := P) M.base EO.err EO.tab EO.cmp (ox := x) (oy := y) (hev x) (hev y) hr hp
 exact Yields.pure M (by unfold execOp; rw [hop]) ⟨z, q1, q2, q3, q4⟩
theorem sop_unOp (S : Sit P C gl E W R ρ h o a ev next r l l') {op t x} (hop : o.op = .unOp op t x) : Yields P C gl o a W R ρ h r := by
 obtain ⟨EO, M, hev, hr, hp, hn⟩ := S
 unfold sop at hr; rw [hop] at hr; simp only at hr
 have hx := hev x
 obtain ⟨v, hv⟩ : ∃ v, a.eval x = v := ⟨_, rfl⟩
 rw [hv] at hx
 split at hr
 ·rename_i hs
  rw [hs] at hx
  have := ret_ok hr; subst this
  have := hx.bool_inv; subst this
  refine Yields.pure (s := Op.unary .not (a.eval x)) M (by unfold execOp; rw [hop]) ⟨_, by rw [hv]; rfl, ?_, rfl, rfl⟩
  show Den C W R ρ (.bool (notB _)) _
  rw [← notB_val]; exact .bool _
 ·rename_i k n hs
  rw [hs] at hx
  have := ret_ok hr; subst this
  obtain ⟨rfl, hi⟩ := hx.int_inv
  refine Yields.pure (s := Op.unary .neg (a.eval x)) M (by unfold execOp; rw [hop]) ⟨.int k (k.wrap (0 - n)), by rw [hv]; rfl, ?_, rfl, rfl⟩
  have : (0 : Int) - n = -n := by omega
  rw [this]
  exact .int k (.lit _) (.litw _ _)
 ·rename_i k n _ hs
  rw [hs] at hx
  have := ret_ok hr; subst this
  obtain ⟨rfl, hi⟩ := hx.int_inv
  have l1 := hi.lo'; have l2 := hi.hi'
  have := mkI_ok (k := k) (n := -n.val) (lo := -n.hi k) (hi := -n.lo k) (by omega) (by omega)
  refine Yields.pure (s := Op.unary .neg (a.eval x)) M (by unfold execOp; rw [hop]) ⟨.int k (k.wrap (0 - n.val)), by rw [hv]; rfl, ?_, rfl, rfl⟩
  have e : (0 : Int) - n.val = -n.val := by omega
  rw [e, ← this.1]
  exact .int k _ this.2
 ·cases hr
theorem sop_convert (S : Sit P C gl E W R ρ h o a ev next r l l') {s d x} (hop : o.op = .convert s d x) : Yields P C gl o a W R ρ h r := by
 obtain ⟨EO, M, hev, hr, hp, hn⟩ := S
 unfold sop at hr; rw [hop] at hr; simp only at hr
 obtain ⟨tsrc, l0, h0, h00⟩ := Acc.bind_ok hr
 obtain ⟨ti, l1, h1, h2⟩ := Acc.bind_ok h00
 obtain ⟨d', d1, d2⟩ := (ti_ok EO h1).d
 obtain ⟨ts, hts, hts2⟩ := (ti_ok EO h0).d
 split at h2
 ·rename_i e hse hde
  rw [hse] at hts2
  have hts2 : ts = .slice e := hts2
  subst hts2
  rw [hde] at d2
  have d2 : d' = .string := d2
  subst d2
  obtain ⟨ei, l2, h3, h4⟩ := Acc.bind_ok h2
  obtain ⟨p, l3, h5, h6⟩ := Acc.bind_ok h4
  obtain ⟨de, e1, e2⟩ := (ti_ok EO h3).d
  split at h6
  ·rename_i xs hei
   rw [hei] at e2
   have e2 : de = .int .u8 := e2
   subst e2
   have := ret_ok h6; subst this
   obtain ⟨q1, q2⟩ := txt_ok M hts e1 d1 (hev x) h5 (hp _ rfl)
   exact Yields.pure M (by unfold execOp; rw [hop]) ⟨_, q1, .str _ q2, rfl, rfl⟩
  ·cases h6
 ·exact Yields.pure M (by unfold execOp; rw [hop]) (conv_ok hts d1 d2 (hev x) h2)
theorem sop_makeInterface (S : Sit P C gl E W R ρ h o a ev next r l l') {t x} (hop : o.op = .makeInterface t x) : Yields P C gl o a W R ρ h r := by
 obtain ⟨EO, M, hev, hr, hp, hn⟩ := S
 unfold sop at hr; rw [hop] at hr; simp only at hr
 obtain ⟨ti, l1, h1, h2⟩ := Acc.bind_ok hr
 obtain ⟨d, d1, d2⟩ := (ti_ok EO h1).d
 have key : (∀ ms, d ≠ .interface ms) → r = { v := .iface t (ev x) } → Yields P C gl o a W R ρ h r := fun hd e => by
  subst e
  refine Yields.pure (s := Instr.makeInterface t (a.eval x)) M (by unfold execOp; rw [hop]) ⟨.iface t (a.eval x), ?_, .iface t _ _ (hev x), rfl, rfl⟩
  simp only [Instr.makeInterface, Sem.run_bind, run_und d1, Result.andThen_ok]
  cases d <;> first | rfl | exact (hd _ rfl).elim
 split at h2
 ·cases h2
 ·cases h2
 ·rename_i h3 h4
  refine key (fun ms e => ?_) (ret_ok h2).symm
  subst e
  cases hti : ti.d <;> rw [hti] at d2
  case iface => exact h3 hti
  case other => exact h4 hti
  case struct => obtain ⟨_, e, _⟩ := d2; cases e
  case func => obtain ⟨_, _, _, e⟩ := d2; cases e
  all_goals (first | (have d2 : TypeDesc.interface ms = _ := d2; cases d2))
theorem sop_makeFunc (S : Sit P C gl E W R ρ h o a ev next r l l') {fn first cap} (hop : o.op = .makeFunc fn first cap) : Yields P C gl o a W R ρ h r := by
 obtain ⟨EO, M, hev, hr, hp, hn⟩ := S
 unfold sop at hr; rw [hop] at hr; simp only at hr
 split at hr
 ·rename_i f hfirst
  have := ret_ok hr; subst this
  have hf : first = #[] := by cases first; simp at hfirst; rw [hfirst]
  subst hf
  refine Yields.pure (s := Instr.makeFunc (.func f) (#[].map a.eval) (cap.map a.eval)) M (by unfold execOp; rw [hop]) ⟨.func (.func f) #[] (cap.map a.eval), by simp [Instr.makeFunc], ?_, rfl, rfl⟩
  rw [arr_map cap]
  exact .func f _ _ (args_of hev cap.toList)
 ·rename_i f x fl hfirst
  split at hr
  ·rename_i hcap
   have := ret_ok hr; subst this
   have hc : cap = #[] := by cases cap; simp at hcap; rw [hcap]
   subst hc
   refine Yields.pure (s := Instr.makeFunc (.func f) (first.map a.eval) (#[].map a.eval)) M (by unfold execOp; rw [hop]) ⟨.func (.func f) (first.map a.eval) #[], by simp [Instr.makeFunc], ?_, rfl, rfl⟩
   rw [arr_map first, ← hfirst]
   exact .bound f _ _ (args_of hev first.toList)
  ·cases hr
 ·cases hr
theorem sop_makeSlice (S : Sit P C gl E W R ρ h o a ev next r l l') {t n c} (hop : o.op = .makeSlice t n c) : Yields P C gl o a W R ρ h r := by
 obtain ⟨EO, M, hev, hr, hp, hn⟩ := S
 unfold sop at hr; rw [hop] at hr; simp only at hr
 obtain ⟨ti, l1, h1, h2⟩ := Acc.bind_ok hr
 split at h2
 ·rename_i e htd
  obtain ⟨d, d1, d2⟩ := (ti_ok EO h1).d
  rw [htd] at d2
  have d2 : d = .slice e := d2
  subst d2
  obtain ⟨ei, l2, h3, h4⟩ := Acc.bind_ok h2
  obtain ⟨m, l3, h5, h6⟩ := Acc.bind_ok h4
  obtain ⟨c', l4, h7, h8⟩ := Acc.bind_ok h6
  split at h8
  ·rename_i u hu
   have := ret_ok h8; subst this
   obtain ⟨k, hk, ik⟩ := si_ok h5 (hev n)
   obtain ⟨k', hk', ik'⟩ := si_ok h7 (hev c)
   obtain ⟨v, W', ρ', q1, q2, q3⟩ := makeSlice_ok (P := P) M d1 (ti_ok EO h3) hu ik ik' (hn 0 Nat.one_pos) (hp _ rfl)
   refine Yields.make (s := Instr.makeSlice t (a.eval n) (a.eval c)) (by unfold execOp; rw [hop]) ⟨v, W', ρ', ?_, q2, q3⟩
   rw [hk, hk']; exact q1
  ·cases h8
 ·cases h2
theorem sop_slice (S : Sit P C gl E W R ρ h o a ev next r l l') {t x lo hi mx} (hop : o.op = .slice t x lo hi mx) : Yields P C gl o a W R ρ h r := by
 obtain ⟨EO, M, hev, hr, hp, hn⟩ := S
 unfold sop at hr; rw [hop] at hr; simp only at hr
 split at hr
 ·obtain ⟨ti, l1, h1, h2⟩ := Acc.bind_ok hr
  obtain ⟨lo', l2, h3, h4⟩ := Acc.bind_ok h2
  obtain ⟨hi', l3, h5, h6⟩ := Acc.bind_ok h4
  obtain ⟨d, d1, d2⟩ := (ti_ok EO h1).d
  have q1 := siOpt_ok hev h3
  have q2 := siOpt_ok hev h5
  split at h6
  ·rename_i e htd
   rw [htd] at d2
   have d2 : d = .slice e := d2
   subst d2
   obtain ⟨ei, l4, h7, h8⟩ := Acc.bind_ok h6
   exact Yields.pure M (by unfold execOp; rw [hop]; rfl) (sliceS_ok M d1 (ti_ok EO h7) (hev x) q1 q2 h8 hp)
  ·rename_i htd
   rw [htd] at d2
   have d2 : d = .string := d2
   subst d2
   exact Yields.pure M (by unfold execOp; rw [hop]; rfl) (sliceStr_ok d1 (hev x) q1 q2 h6 hp)
  ·rename_i m e htd
   rw [htd] at d2
   have d2 : d = .array m e := d2
   subst d2
   obtain ⟨ei, l4, h7, h8⟩ := Acc.bind_ok h6
   obtain ⟨v, R', r1, r2, r3⟩ := sliceArr_ok M d1 (ti_ok EO h7) (hev x) q1 q2 h8 hp
   intro K Q hK
   unfold Oper.wp
   have he : execOp a.eval o = (do Pure.pure (Next.value (← Instr.sliceAt t (a.eval x) (lo.map a.eval) (hi.map a.eval) none))) := by unfold execOp; rw [hop]; rfl
   rw [he]
   simp only [Sem.run_bind, r1, Result.andThen_ok, Sem.run_pure]
   exact hK _ _ _ _ r2 r3
  ·cases h6
 ·cases hr
theorem sop_fieldAddr (S : Sit P C gl E W R ρ h o a ev next r l l') {s x f} (hop : o.op = .fieldAddr s x f) : Yields P C gl o a W R ρ h r := by
 obtain ⟨EO, M, hev, hr, hp, hn⟩ := S
 unfold sop at hr; rw [hop] at hr; simp only at hr
 obtain ⟨ti, l1, h1, h2⟩ := Acc.bind_ok hr
 obtain ⟨d, d1, d2⟩ := (ti_ok EO h1).d
 split at h2
 ·rename_i fs htd
  rw [htd] at d2
  obtain ⟨fields, rfl, rfl, hfi⟩ := d2
  split at h2
  ·rename_i off ty n hf
   rw [List.getElem?_map] at hf
   cases hg : fields.toList[f]? with
   | none => rw [hg] at hf; cases hf
   | some fd =>
    rw [hg] at hf
    simp only [Option.map_some, Option.some.injEq, Prod.mk.injEq] at hf
    obtain ⟨rfl, rfl, rfl⟩ := hf
    obtain ⟨inf, i1, i2, i3⟩ := hfi fd (List.mem_of_getElem? hg)
    exact Yields.pure M (by unfold execOp; rw [hop]) (fieldAddr_ok M d1 (by rw [← Array.getElem?_toList]; exact hg) i1 i3 (hev x) h2 hp)
  ·cases h2
 ·cases h2
theorem sop_indexAddr (S : Sit P C gl E W R ρ h o a ev next r l l') {t x i} (hop : o.op = .indexAddr t x i) : Yields P C gl o a W R ρ h r := by
 obtain ⟨EO, M, hev, hr, hp, hn⟩ := S
 unfold sop at hr; rw [hop] at hr; simp only at hr
 obtain ⟨ti, l1, h1, h2⟩ := Acc.bind_ok hr
 obtain ⟨d, d1, d2⟩ := (ti_ok EO h1).d
 split at h2
 ·rename_i k n hi
  have hi' := hev i
  rw [hi] at hi'
  obtain ⟨e1, ik⟩ := hi'.int_inv
  split at h2
  ·rename_i e htd
   rw [htd] at d2
   have d2 : d = .slice e := d2
   subst d2
   obtain ⟨ei, l2, h3, h4⟩ := Acc.bind_ok h2
   have := indexSl_ok M d1 (ti_ok EO h3) (hev x) ik h4 hp
   rw [← e1] at this
   exact Yields.pure M (by unfold execOp; rw [hop]) this
  ·rename_i m e htd
   rw [htd] at d2
   have d2 : d = .array m e := d2
   subst d2
   obtain ⟨ei, l2, h3, h4⟩ := Acc.bind_ok h2
   have := indexAr_ok M d1 (ti_ok EO h3) (hev x) ik h4 hp
   rw [← e1] at this
   exact Yields.pure M (by unfold execOp; rw [hop]) this
  ·cases h2
 ·cases h2
theorem sop_extract (S : Sit P C gl E W R ρ h o a ev next r l l') {t i} (hop : o.op = .extract t i) : Yields P C gl o a W R ρ h r := by
 obtain ⟨EO, M, hev, hr, hp, hn⟩ := S
 unfold sop at hr; rw [hop] at hr; simp only at hr
 split at hr
 ·rename_i ls ht
  have hx := hev t
  rw [ht] at hx
  obtain ⟨v, hv⟩ : ∃ v, a.eval t = v := ⟨_, rfl⟩
  rw [hv] at hx
  split at hr
  ·rename_i s hs
   have := ret_ok hr; subst this
   cases hx with
   | tuple _ vs hh =>
    obtain ⟨u, u1, u2⟩ := hh.get hs
    refine Yields.pure (s := Instr.extract (a.eval t) i) M (by unfold execOp; rw [hop]) ⟨u, ?_, u2, rfl, rfl⟩
    rw [hv]; simp [Instr.extract, u1]
  ·cases hr
 ·cases hr
theorem sop_typeAssert (S : Sit P C gl E W R ρ h o a ev next r l l') {x xt t ok} (hop : o.op = .typeAssert x xt t ok) : Yields P C gl o a W R ρ h r := by
 obtain ⟨EO, M, hev, hr, hp, hn⟩ := S
 unfold sop at hr; rw [hop] at hr; simp only at hr
 obtain ⟨ti, l1, h1, h2⟩ := Acc.bind_ok hr
 split at h2
 ·rename_i e hx' hz
  split at h2
  ·rename_i ht
   have ht := beq_ok ht
   rw [EO.tAt] at ht; subst ht
   have := ret_ok h2; subst this
   obtain ⟨el, hel⟩ := EO.err.tAt
   obtain ⟨i, z, i1, i2, i3, i4, i5, i6, _⟩ := (ti_ok EO h1).i
   have hz0 := i6 C W R ρ
   rw [hz] at hz0
   cases hz0
   have hx := hev x
   rw [hx'] at hx
   obtain ⟨v, hv⟩ : ∃ v, a.eval x = v := ⟨_, rfl⟩
   rw [hv] at hx
   refine Yields.pure (s := Instr.typeAssert (a.eval x) xt C.tAt true) M (by unfold execOp; rw [hop]) ?_
   rw [hv]
   cases hx with
   | fine =>
    refine ⟨.tuple #[.pointer none, .bool false], ?_, .tuple _ [_, _] (.cons _ _ _ _ (.atnil _ rfl) (.cons _ _ _ _ (.bool (.sym false)) .nil)), rfl, rfl⟩
    simp [Instr.typeAssert, run_und hel, run_zero i1 i4]
   | bare n hn' =>
    refine ⟨.tuple #[.pointer none, .bool false], ?_, .tuple _ [_, _] (.cons _ _ _ _ (.atnil _ rfl) (.cons _ _ _ _ (.bool (.sym false)) .nil)), rfl, rfl⟩
    simp [Instr.typeAssert, run_und hel, run_zero i1 i4, EO.err, M.base.types]
   | placed n p b off g1 g2 g3 g4 g5 =>
    refine ⟨.tuple #[.pointer (some ⟨b, off, none⟩), .bool true], ?_, .tuple _ [_, _] (.cons _ _ _ _ (.atp n p b off g1 g2 g3 g4 g5) (.cons _ _ _ _ (.bool (.sym true)) .nil)), rfl, rfl⟩
    simp [Instr.typeAssert, run_und hel]
  ·cases h2
 ·cases h2
theorem sop_field (S : Sit P C gl E W R ρ h o a ev next r l l') {s x f} (hop : o.op = .field s x f) : Yields P C gl o a W R ρ h r := by
 obtain ⟨EO, M, hev, hr, hp, hn⟩ := S
 unfold sop at hr; rw [hop] at hr; simp only at hr
 obtain ⟨ti, l1, h1, h2⟩ := Acc.bind_ok hr
 obtain ⟨d, d1, d2⟩ := (ti_ok EO h1).d
 split at h2
 ·rename_i fs ls htd hx'
  rw [htd] at d2
  obtain ⟨fields, rfl, rfl, hfi⟩ := d2
  split at h2
  ·rename_i off ty n hf
   rw [List.getElem?_map] at hf
   cases hg : fields.toList[f]? with
   | none => rw [hg] at hf; cases hf
   | some fd =>
    rw [hg] at hf
    simp only [Option.map_some, Option.some.injEq, Prod.mk.injEq] at hf
    obtain ⟨rfl, rfl, rfl⟩ := hf
    obtain ⟨fi, l2, h3, h4⟩ := Acc.bind_ok h2
    split at h4
    ·rename_i cs hd
     obtain ⟨v, l3, h5, h6⟩ := Acc.bind_ok h4
     have := ret_ok h6; subst this
     have hx := hev x
     rw [hx'] at hx
     obtain ⟨u, hu⟩ : ∃ u, a.eval x = u := ⟨_, rfl⟩
     rw [hu] at hx
     refine Yields.pure (s := Instr.field s (a.eval x) f) M (by unfold execOp; rw [hop]) ?_
     rw [hu]
     cases hx with
     | agg _ vs hh =>
      obtain ⟨w, w1, w2⟩ := part_ok (P := P) (ti_ok EO h3) (hh.dropW hd) h5
      refine ⟨w, ?_, w2, rfl, rfl⟩
      have hf' : fields[f]? = some fd := by rw [← Array.getElem?_toList]; exact hg
      simp [Instr.field, run_und d1, hf', asAgg, w1]
    ·cases h4
  ·cases h2
 ·cases h2
end
end Go.Sy

set_option linter.unusedVariables false
set_option linter.unusedSimpArgs false
namespace Go.Sy
open Go.RowKit
def isZ : SI → Bool
 | .lit n => decide (n = 0)
 | .full n => decide (n = 0)
 | .sym .. => false
def zero1 : SVal → Value → Bool
 | .int k a, .int k' n => kEq k k' && isZ a && decide (n = 0)
 | .bool b, .bool c => decide (b.val = c)
 | .str a, .string b => decide (a.data.toList = []) && decide (b.data.toList = [])
 | .nilptr, .pointer none => true
 | .nilslice, .slice none 0 0 => true
 | .nilIface, .nilIface => true
 | .err .fine, .nilIface => true
 | .nilFunc, .nilFunc => true
 | .nilmap, .map none => true
 | .ro _ l, .slice none 0 0 => l.isEmpty
 | .rom _ _ m, .map none => m.isNone
 | _, _ => false
def zeroC : List SVal → List Value → Bool
 | [], [] => true
 | s :: l, v :: vs => zero1 s v && zeroC l vs
 | _, _ => false
def zeroA : SVal → List Value → Bool
 | .arr t n xs, vs => Nat.beq xs.length n && zeroC (xs.flatMap t.enc) vs
 | _, _ => false
def zeroL : List SVal → List Value → Bool
 | [], [] => true
 | s :: l, vs => match s.isArr, vs with
  | true, vs => zeroA s (vs.take s.width) && zeroL l (vs.drop s.width)
  | false, v :: vs => zero1 s v && zeroL l vs
  | _, _ => false
 | _, _ => false
def zeroV : SVal → Value → Bool
 | .agg l, .agg cs => zeroL l cs.toList
 | .arr t n xs, .agg cs => zeroA (.arr t n xs) cs.toList
 | s, v => zero1 s v
theorem ba_ext {a b : ByteArray} (h : a.data.toList = b.data.toList) : a = b := by
 cases a; cases b; simp at h; rw [h]
theorem zero1_ok {s : SVal} {v : Value} (h : zero1 s v = true) (C : Ctx) (W : World) (R : Nat → Prop) (ρ : Nat → Option Value) : Den C W R ρ s v ∧ s.isArr = false ∧ v.oneCell' = true := by
 unfold zero1 at h
 split at h
 ·rename_i k a k' n
  simp only [Bool.and_eq_true, decide_eq_true_eq] at h
  obtain ⟨⟨h1, h2⟩, rfl⟩ := h
  have : k = k' := by cases k <;> cases k' <;> first | rfl | cases h1
  subst this
  have : a.val = 0 := by
   cases a <;> simp [isZ] at h2 <;> simpa [SI.val] using h2
  refine ⟨?_, rfl, rfl⟩
  rw [← this]
  refine .int _ _ ?_
  cases a with
  | lit n => simp [isZ] at h2; subst h2; constructor <;> cases k <;> decide
  | full n => simp [isZ] at h2; subst h2; constructor <;> cases k <;> decide
  | sym => simp [isZ] at h2
 ·rename_i b c
  have := of_decide_eq_true h
  subst this
  exact ⟨.bool b, rfl, rfl⟩
 ·rename_i a b
  simp only [Bool.and_eq_true, decide_eq_true_eq] at h
  have : a = b := ba_ext (h.1.trans h.2.symm)
  subst this
  refine ⟨.str _ ?_, rfl, rfl⟩
  have : a.size = 0 := by show a.data.size = 0; rw [← Array.length_toList, h.1]; rfl
  rw [this]; exact Nat.zero_le _
 ·exact ⟨.nilptr, rfl, rfl⟩
 ·exact ⟨.nilslice, rfl, rfl⟩
 ·exact ⟨.nilIface, rfl, rfl⟩
 ·exact ⟨.fine, rfl, rfl⟩
 ·exact ⟨.nilFunc, rfl, rfl⟩
 ·exact ⟨.nilmap, rfl, rfl⟩
 ·rename_i t l
  have := List.isEmpty_iff.1 h
  subst this
  exact ⟨.ro t [] none 0 [] (Nat.le_refl _) (Nat.zero_le _) .nil (fun h => absurd rfl h) (fun _ => rfl), rfl, rfl⟩
 ·rename_i k t m
  cases m with
  | none => exact ⟨.romN k t, rfl, rfl⟩
  | some m => cases h
 ·cases h
theorem zeroC_ok : ∀ {l : List SVal} {vs : List Value}, zeroC l vs = true → ∀ (C : Ctx) (W : World) (R : Nat → Prop) (ρ : Nat → Option Value), DenL C W R ρ l vs
 | [], [], _, _, _, _, _ => .nil
 | s :: l, v :: vs, h, C, W, R, ρ => by
  simp only [zeroC, Bool.and_eq_true] at h
  obtain ⟨h1, h2, h3⟩ := zero1_ok h.1 C W R ρ
  exact .one _ _ _ _ h2 h3 h1 (zeroC_ok h.2 C W R ρ)
 | [], _ :: _, h, _, _, _, _ => by cases h
 | _ :: _, [], h, _, _, _, _ => by cases h
theorem zeroA_ok {s : SVal} {vs : List Value} (h : zeroA s vs = true) : ∃ t n xs, s = .arr t n xs ∧ xs.length = n ∧ ∀ (C : Ctx) (W : World) (R : Nat → Prop) (ρ : Nat → Option Value), DenL C W R ρ (xs.flatMap t.enc) vs := by
 unfold zeroA at h
 split at h
 ·rename_i t n xs
  rw [Bool.and_eq_true] at h
  exact ⟨t, n, xs, rfl, Nat.eq_of_beq_eq_true h.1, zeroC_ok h.2⟩
 ·cases h
theorem zeroL_ok : ∀ {l : List SVal} {vs : List Value}, zeroL l vs = true → ∀ (C : Ctx) (W : World) (R : Nat → Prop) (ρ : Nat → Option Value), DenL C W R ρ l vs
 | [], [], _, _, _, _, _ => .nil
 | s :: l, vs, h, C, W, R, ρ => by
  unfold zeroL at h
  split at h
  ·rw [Bool.and_eq_true] at h
   obtain ⟨t, n, xs, rfl, h1, h2⟩ := zeroA_ok h.1
   have := DenL.arr t n xs _ l _ h1 (h2 C W R ρ) (zeroL_ok h.2 C W R ρ)
   rwa [List.take_append_drop] at this
  ·rw [Bool.and_eq_true] at h
   obtain ⟨h1, h2, h3⟩ := zero1_ok h.1 C W R ρ
   exact .one _ _ _ _ h2 h3 h1 (zeroL_ok h.2 C W R ρ)
  ·cases h
 | [], _ :: _, h, _, _, _, _ => by cases h
theorem zeroV_ok {s : SVal} {v : Value} (h : zeroV s v = true) (C : Ctx) (W : World) (R : Nat → Prop) (ρ : Nat → Option Value) : Den C W R ρ s v := by
 unfold zeroV at h
 split at h
 ·rename_i l cs
  have := zeroL_ok h C W R ρ
  exact .agg l cs.toList this
 ·rename_i t n xs cs
  obtain ⟨t', n', xs', e, h1, h2⟩ := zeroA_ok h
  cases e
  exact .arr t n xs cs.toList h1 (h2 C W R ρ)
 ·exact (zero1_ok h C W R ρ).1
theorem ti_mk {P : Program} {t : Nat} {ti : TI} {d : TypeDesc} {i : TypeInfo} {z : Value} (h1 : P.underlying t = some d) (h2 : TDOk P d ti.d) (h3 : P.info? t = some i)
  (h4 : (i.size.beq ti.size && i.bytes.beq ti.bytes && z.cells.size.beq ti.size && zeroV ti.zero z && !ti.zero.isAgg) = true) (h5 : i.zero = some z)
  (h6 : (match ti.rt with | none => true | some u => ti.size.beq u.w && Nat.ble 1 u.w && Nat.ble ti.bytes 1024 && zeroC (u.enc u.dflt) z.cells.toList) = true) : TiOk P t ti := by
 simp only [Bool.and_eq_true, Bool.not_eq_true'] at h4
 obtain ⟨⟨⟨⟨a1, a2⟩, a3⟩, a4⟩, a5⟩ := h4
 refine ⟨⟨d, h1, h2⟩, ⟨i, z, h3, Nat.eq_of_beq_eq_true a1, Nat.eq_of_beq_eq_true a2, h5, Nat.eq_of_beq_eq_true a3, zeroV_ok a4, fun u hu => ?_⟩, a5⟩
 rw [hu] at h6
 simp only [Bool.and_eq_true] at h6
 exact ⟨Nat.eq_of_beq_eq_true h6.1.1.1, Nat.le_of_ble_eq_true h6.1.1.2, Nat.le_of_ble_eq_true h6.1.2, zeroC_ok h6.2⟩
inductive AllTi (P : Program) : List (Nat × TI) → Prop where
 | nil : AllTi P []
 | cons {t : Nat} {ti : TI} {l : List (Nat × TI)} : TiOk P t ti → AllTi P l → AllTi P ((t, ti) :: l)
theorem AllTi.find {P : Program} : ∀ {l : List (Nat × TI)}, AllTi P l → ∀ t ti, find t l = some ti → TiOk P t ti
 | _, .nil, t, ti, h => by cases h
 | _, .cons (t := u) h1 h2, t, ti, h => by
  have h := find_mem h
  rcases List.mem_cons.1 h with e | h
  ·cases e; exact h1
  ·exact AllTi.mem h2 _ _ h
where AllTi.mem : ∀ {l : List (Nat × TI)}, AllTi P l → ∀ t ti, (t, ti) ∈ l → TiOk P t ti
 | _, .nil, t, ti, h => by cases h
 | _, .cons h1 h2, t, ti, h => by
  rcases List.mem_cons.1 h with e | h
  ·cases e; exact h1
  ·exact AllTi.mem h2 _ _ h
end Go.Sy

set_option linter.unusedVariables false
set_option linter.unusedSimpArgs false
namespace Go.Sy
open Go.RowKit
section
variable {C : Ctx} {gl : List (Nat × SVal)} {W : World} {R : Nat → Prop} {ρ : Nat → Option Value} {h : Nat → Option Cont} {P : Program}
def gFind {α β : Type} [DecidableEq α] : List (α × β) → α → Nat → Option (Nat × β)
 | [], _, _ => none
 | (a, b) :: m, k, i => if a = k then some (i, b) else gFind m k (i + 1)
theorem gGet_find {α β : Type} [DecidableEq α] (d : β) : ∀ (m : List (α × β)) (k : α) (i : Nat), gGet d m k = (match gFind m k i with | some (_, b) => b | none => d) ∧ gHas m k = (gFind m k i).isSome
 | [], k, i => ⟨rfl, rfl⟩
 | (a, b) :: m, k, i => by
  simp only [gGet, gHas, gFind]
  by_cases hk : a = k
  ·simp [hk]
  ·simp only [hk, if_false]; exact gGet_find d m k (i + 1)
def keyD : FK → TypeDesc → Prop
 | .str, d => d = .string
 | .int k, d => d = .int k
 | .bool, _ => False
theorem same_key {k : FK} {d : TypeDesc} (hd : keyD k d) (x a : k.ty) : Instr.sameNow d (k.val x) (k.val a) = some (@decide (a = x) (k.deq a x)) := by
 cases k with
 | str => unfold keyD at hd; subst hd; rw [show FK.val .str x = Value.string x from rfl, show FK.val .str a = Value.string a from rfl, same_str]; rfl
 | int k =>
  unfold keyD at hd; subst hd
  show Instr.sameNow (.int k) (.int k x) (.int k a) = _
  simp only [Instr.sameNow, if_true]; congr 1
  have : @decide (a = x) ((FK.int k).deq a x) = decide ((a : Int) = x) := by congr
  rw [this, Bool.eq_iff_iff, decide_eq_true_eq]
  exact ⟨fun h => (of_decide_eq_true h).symm, fun h => decide_eq_true h.symm⟩
 | bool => cases hd
theorem same_bits {k : FK} {d : TypeDesc} (hd : keyD k d) (x : k.ty) : Instr.sameBits 10000 (k.val x) (k.val x) = true := by
 cases k with
 | str => simp [FK.val, Instr.sameBits, (beq_bytes _ _).2]
 | int k => simp [FK.val, Instr.sameBits]
 | bool => cases hd
theorem check_key {k : FK} {t : Nat} {d : TypeDesc} (hd : keyD k d) (ht : P.underlying t = some d) (e : Bool) (v : Value) : (Instr.checkKey e 10000 t v).run P W = .ok () W := by
 suffices ∀ n, (Instr.checkKey e (n + 1) t v).run P W = .ok () W from this 9999
 intro n
 cases k with
 | str => unfold keyD at hd; subst hd; simp [Instr.checkKey, run_und ht]
 | int k => unfold keyD at hd; subst hd; simp [Instr.checkKey, run_und ht]
 | bool => cases hd
abbrev EntG (C : Ctx) (W : World) (R : Nat → Prop) (ρ : Nat → Option Value) (k : FK) (t : RT) (es : List MapEntry) (m : List (k.ty × t.ty)) : Prop :=
 es.map (fun e => e.key) = m.map (fun p => k.val p.1) ∧ DenA C W R ρ (m.map fun p => recV t p.2) (es.map fun e => e.val)
theorem EntG.cons {k : FK} {t : RT} {e : MapEntry} {es : List MapEntry} {m : List (k.ty × t.ty)} (h : EntG C W R ρ k t (e :: es) m) : ∃ a b m', m = (a, b) :: m' ∧ e.key = k.val a ∧ Den C W R ρ (recV t b) e.val ∧ EntG C W R ρ k t es m' := by
 obtain ⟨h1, h2⟩ := h
 cases m with
 | nil => cases h1
 | cons p m' =>
  simp only [List.map_cons, List.cons.injEq] at h1 h2
  cases h2 with
  | cons _ _ _ _ a b => exact ⟨p.1, p.2, m', rfl, h1.1, a, h1.2, b⟩
theorem findG {k : FK} {t : RT} {d : TypeDesc} (hd : keyD k d) (x : k.ty) : ∀ {es : List MapEntry} {m : List (k.ty × t.ty)} (i : Nat), EntG C W R ρ k t es m →
  (∃ j y v, @gFind _ _ k.deq m x i = some (j, y) ∧ Instr.findNow d (k.val x) es i = some (some (j, v)) ∧ Den C W R ρ (recV t y) v) ∨ (@gFind _ _ k.deq m x i = none ∧ Instr.findNow d (k.val x) es i = some none)
 | [], m, i, h => by
  obtain ⟨h1, _⟩ := h
  cases m with
  | nil => exact .inr ⟨rfl, rfl⟩
  | cons p m => cases h1
 | e :: es, m, i, h => by
  obtain ⟨a, b, m', rfl, h1, h2, h3⟩ := h.cons
  simp only [Instr.findNow, h1, same_key hd, gFind]
  by_cases hk : a = x
  ·left
   refine ⟨i, b, e.val, by simp [hk], by simp [hk], h2⟩
  ·rcases findG hd x (i + 1) h3 with ⟨j, y, v, g1, g2, g3⟩ | ⟨g1, g2⟩
   ·left; exact ⟨j, y, v, by simp [hk, g1], by simp [hk, g2], g3⟩
   ·right; exact ⟨by simp [hk, g1], by simp [hk, g2]⟩
theorem lookupG_ok {t kt vt : Nat} {dk : TypeDesc} (ht : P.underlying t = some (.map kt vt)) (hk : P.underlying kt = some dk) {k : FK} (hd : keyD k dk) {inf : TypeInfo} {z : Value} (hv : P.info? vt = some inf) (hz : inf.zero = some z)
  {u : RT} (hu : Den C W R ρ (recV u u.dflt) z) {v : Value} {es : Array MapEntry} {m : List (k.ty × u.ty)} (x : k.ty)
  (hm : (v = .map none ∧ es = #[]) ∨ ∃ b clock, v = .map (some b) ∧ W.heap[b]? = some (.map es clock)) (he : EntG C W R ρ k u es.toList m) (ok : Bool) :
  ∃ y, (Instr.lookup t v (k.val x) ok).run P W = .ok (if ok then .tuple #[y, .bool (@gHas _ _ k.deq m x)] else y) W ∧ Den C W R ρ (recV u (@gGet _ _ k.deq u.dflt m x)) y := by
 have g := @gGet_find _ _ k.deq u.dflt m x 0
 have main : ∀ (load : Sem (Array MapEntry)), load.run P W = .ok es W → True := fun _ _ => trivial
 have hf : (Instr.findKey kt (k.val x) es.toList).run P W = .ok ((Instr.findNow dk (k.val x) es.toList 0).getD none) W := by
  rcases findG hd x 0 he with ⟨j, y, v, g1, g2, g3⟩ | ⟨g1, g2⟩
  ·simp [Instr.findKey, run_und hk, g2]
  ·simp [Instr.findKey, run_und hk, g2]
 rcases hm with ⟨rfl, rfl⟩ | ⟨b, clock, rfl, hb⟩
 ·rcases findG hd x 0 he with ⟨j, y, v, g1, g2, g3⟩ | ⟨g1, g2⟩
  ·rw [g2] at hf
   rw [g1] at g
   refine ⟨v, ?_, by rw [g.1]; exact g3⟩
   cases ok <;> simp [Instr.lookup, run_und ht, check_key hd hk, hf, g.2]
  ·rw [g2] at hf
   rw [g1] at g
   refine ⟨z, ?_, by rw [g.1]; exact hu⟩
   cases ok <;> simp [Instr.lookup, run_und ht, check_key hd hk, hf, run_zero hv hz, g.2]
 ·have hget : (getObj b).run P W = .ok (.map es clock) W := by simp [getObj, Sem.run, hb]
  rcases findG hd x 0 he with ⟨j, y, v, g1, g2, g3⟩ | ⟨g1, g2⟩
  ·rw [g2] at hf
   rw [g1] at g
   refine ⟨v, ?_, by rw [g.1]; exact g3⟩
   cases ok <;> simp [Instr.lookup, run_und ht, hget, check_key hd hk, hf, g.2]
  ·rw [g2] at hf
   rw [g1] at g
   refine ⟨z, ?_, by rw [g.1]; exact hu⟩
   cases ok <;> simp [Instr.lookup, run_und ht, hget, check_key hd hk, hf, run_zero hv hz, g.2]
theorem single_self {s : SVal} {v : Value} (hd : Den C W R ρ s v) (hs : single s = true) : v.cells.toList = [v] := by
 cases hd <;> first | (cases hs; done) | rfl
theorem recV_of {u : RT} {x : u.ty} {s : SVal} {v : Value} (hs : shapeOk u s = true) (hd : Den C W R ρ s v) (hx : DenL C W R ρ (u.enc x) v.cells.toList) : Den C W R ρ (recV u x) v := by
 cases h : u.isS with
 | true =>
  have hs : isAggS s = true := by unfold shapeOk at hs; rw [h] at hs; exact hs
  have e : recV u x = .agg (u.enc x) := by unfold recV; rw [h]
  rw [e]
  cases hd <;> first | (cases hs; done) | exact .agg _ _ hx
 | false =>
  have hs : single s = true := by unfold shapeOk at hs; rw [h] at hs; exact hs
  have e : recV u x = (u.enc x).headD .any := by unfold recV; rw [h]
  rw [e]
  rw [single_self hd hs] at hx
  cases u <;> first | (cases h; done) | (obtain ⟨v', us, e, _, h2, _⟩ := hx.inv_one rfl; cases e; exact h2)
theorem keyTD_ok {fk : FK} {D : TD} {d : TypeDesc} (h : keyTD fk D = true) (hd : TDOk P d D) : keyD fk d := by
 unfold keyTD at h
 split at h
 ·exact hd
 ·rename_i k k'
  have : k = k' := by cases k <;> cases k' <;> first | rfl | cases h
  subst this
  exact hd
 ·cases h
theorem key_den {fk : FK} {s : SVal} {a : fk.ty} {v : Value} (h : fk.dec s = some a) (hd : Den C W R ρ s v) : v = fk.val a := by
 unfold FK.dec at h
 split at h
 ·split at h
  ·rename_i hk; have := of_decide_eq_true hk; subst this; cases h
   exact hd.int_inv.1
  ·cases h
 ·cases h; exact hd.bool_inv
 ·cases h; exact hd.str_inv.1
 ·cases h
theorem ret_okG {α : Type} {x y : α} {look : Nat → Option Cont} {l l' : List Nat} (h : (Acc.ret x).run look l = .ok (y, l')) : x = y := by simp [Acc.run] at h; exact h.1
theorem lookG_ok {t kt vt : Nat} {ki vi : TI} (ht : P.underlying t = some (.map kt vt)) (Tk : TiOk P kt ki) (Tv : TiOk P vt vi) {ok : Bool} {key : SVal} {kv : Value} (hk : Den C W R ρ key kv) {fk : FK} {u : RT} {x : List (fk.ty × u.ty)} {r : ORes} {look : Nat → Option Cont} {l l' : List Nat}
  (hr : (lookG ok ki vi key fk u x).run look l = .ok (r, l')) {v : Value} {es : Array MapEntry} (hm : (v = .map none ∧ es = #[]) ∨ ∃ b clock, v = .map (some b) ∧ W.heap[b]? = some (.map es clock)) (he : EntG C W R ρ fk u es.toList x) :
  PureOk C W R ρ P (Instr.lookup t v kv ok) r := by
 obtain ⟨dk, k1, k2⟩ := Tk.d
 obtain ⟨inf, z, i1, i2, i3, i4, i5, i6, i7⟩ := Tv.i
 unfold lookG at hr
 split at hr
 ·rename_i a h1 h2 h3
  rw [Bool.and_eq_true] at h1
  have h2 := of_decide_eq_true h2
  obtain ⟨_, _, _, j4⟩ := i7 u h2
  have hu := recV_of h1.2 (i6 C W R ρ) (j4 C W R ρ)
  have hkv := key_den h3 hk
  subst hkv
  obtain ⟨y, y1, y2⟩ := lookupG_ok (P := P) ht k1 (keyTD_ok h1.1 k2) i1 i4 hu a hm he ok
  cases ok with
  | true =>
   have := ret_okG hr; subst this
   exact ⟨_, y1, .tuple _ [y, _] (.cons _ _ _ _ y2 (.cons _ _ _ _ (.bool (.sym _)) .nil)), rfl, rfl⟩
  | false =>
   have := ret_okG hr; subst this
   exact ⟨_, y1, y2, rfl, rfl⟩
 ·cases hr
theorem EntG.one {k : FK} {t : RT} {x : k.ty} {z : t.ty} {y : Value} (hz : Den C W R ρ (recV t z) y) (c : Nat) : EntG C W R ρ k t [⟨k.val x, y, c⟩] [(x, z)] := ⟨rfl, .cons _ _ _ _ hz .nil⟩
theorem EntG.app {k : FK} {t : RT} : ∀ {es es' : List MapEntry} {m m' : List (k.ty × t.ty)}, EntG C W R ρ k t es m → EntG C W R ρ k t es' m' → EntG C W R ρ k t (es ++ es') (m ++ m')
 | [], es', m, m', h, h' => by
  obtain ⟨h1, h2⟩ := h
  cases m with
  | nil => exact h'
  | cons p m => cases h1
 | e :: es, es', m, m', h, h' => by
  obtain ⟨a, b, m1, rfl, h1, h2, h3⟩ := h.cons
  obtain ⟨g1, g2⟩ := h3.app h'
  refine ⟨by simp only [List.cons_append, List.map_cons]; rw [h1, g1], ?_⟩
  simp only [List.cons_append, List.map_cons]
  exact .cons _ _ _ _ h2 g2
theorem EntG.mk_cons {k : FK} {t : RT} {e : MapEntry} {es : List MapEntry} {a : k.ty} {b : t.ty} {m : List (k.ty × t.ty)} (h1 : e.key = k.val a) (h2 : Den C W R ρ (recV t b) e.val) (h3 : EntG C W R ρ k t es m) : EntG C W R ρ k t (e :: es) ((a, b) :: m) :=
 ⟨by simp only [List.map_cons]; rw [h1, h3.1], .cons _ _ _ _ h2 h3.2⟩
theorem putG {k : FK} {t : RT} {d : TypeDesc} (hd : keyD k d) (x : k.ty) {z : t.ty} {y : Value} (hz : Den C W R ρ (recV t z) y) : ∀ {es : List MapEntry} {m : List (k.ty × t.ty)} (i : Nat), EntG C W R ρ k t es m →
  (Instr.findNow d (k.val x) es i = some none ∧ @gPut _ _ k.deq m x z = m ++ [(x, z)]) ∨
  (∃ j v e, Instr.findNow d (k.val x) es i = some (some (i + j, v)) ∧ es[j]? = some e ∧ e.key = k.val x ∧ EntG C W R ρ k t (es.set j ⟨k.val x, y, e.born⟩) (@gPut _ _ k.deq m x z))
 | [], m, i, h => by
  obtain ⟨h1, _⟩ := h
  cases m with
  | nil => exact .inl ⟨rfl, rfl⟩
  | cons p m => cases h1
 | e :: es, m, i, h => by
  obtain ⟨a, b, m', rfl, h1, h2, h3⟩ := h.cons
  simp only [Instr.findNow, h1, same_key hd, gPut]
  by_cases hk : a = x
  ·right
   subst hk
   refine ⟨0, e.val, e, by simp, rfl, h1, ?_⟩
   simp only [List.set_cons_zero, if_true]
   exact EntG.mk_cons (m := m') (a := a) rfl hz h3
  ·rcases putG hd x hz (i + 1) h3 with ⟨g1, g2⟩ | ⟨j, v, e', g1, g2, g3, g4⟩
   ·left; exact ⟨by simp [hk, g1], by simp [hk, g2]⟩
   ·right
    refine ⟨j + 1, v, e', by simp [hk, g1, Nat.add_assoc, Nat.add_comm 1], by simpa using g2, g3, ?_⟩
    simp only [hk, if_false, List.set_cons_succ]
    exact EntG.mk_cons h1 h2 g4
theorem updateG_ok {t kt vt b : Nat} {dk : TypeDesc} (ht : P.underlying t = some (.map kt vt)) (hk : P.underlying kt = some dk) {k : FK} (hd : keyD k dk) {u : RT} {x : k.ty} {z : u.ty} {y : Value} (hz : Den C W R ρ (recV u z) y)
  {es : Array MapEntry} {clock : Nat} {m : List (k.ty × u.ty)} (hb : W.heap[b]? = some (.map es clock)) (he : EntG C W R ρ k u es.toList m) :
  ∃ es' clock', (Instr.mapUpdate t (.map (some b)) (k.val x) y).run P W = .ok () { W with heap := W.heap.setIfInBounds b (.map es' clock') } ∧ EntG C W R ρ k u es'.toList (@gPut _ _ k.deq m x z) := by
 have hget : (getObj b).run P W = .ok (.map es clock) W := by simp [getObj, Sem.run, hb]
 have hset : ∀ o, (setObj b o).run P W = .ok () { W with heap := W.heap.setIfInBounds b o } := fun o => by simp [setObj, Sem.run, hb]
 rcases putG hd x hz 0 he with ⟨g1, g2⟩ | ⟨j, v, e, g1, g2, g3, g4⟩
 ·have hf : (Instr.findKey kt (k.val x) es.toList).run P W = .ok none W := by simp [Instr.findKey, run_und hk, g1]
  refine ⟨es.push ⟨k.val x, y, clock⟩, clock + 1, by simp [Instr.mapUpdate, run_und ht, hget, check_key hd hk, hf, hset], ?_⟩
  rw [g2, Array.toList_push]
  exact he.app (EntG.one hz clock)
 ·rw [Nat.zero_add] at g1
  have hf : (Instr.findKey kt (k.val x) es.toList).run P W = .ok (some (j, v)) W := by simp [Instr.findKey, run_und hk, g1]
  have g2' : es[j]? = some e := by rw [← Array.getElem?_toList]; exact g2
  have hkey : ((es[j]?).map (·.key)).getD (k.val x) = k.val x := by rw [g2']; simp [g3]
  refine ⟨es.modify j fun e => { e with key := k.val x, val := y }, clock, ?_, ?_⟩
  ·simp [Instr.mapUpdate, run_und ht, hget, check_key hd hk, hf, hset, hkey, Instr.keyThatStays, same_bits hd]
  ·have : (es.modify j fun e => { e with key := k.val x, val := y }).toList = es.toList.set j ⟨k.val x, y, e.born⟩ := by
    apply List.ext_getElem?
    intro i
    rw [Array.getElem?_toList, Array.getElem?_modify, List.getElem?_set]
    by_cases hij : j = i
    ·subst hij
     have : j < es.size := (Array.getElem?_eq_some_iff.1 g2').1
     simp [this, g2']
     rw [Array.getElem?_eq_getElem this] at g2'
     cases g2'; rfl
    ·simp only [hij, if_false, Array.getElem?_toList]
   rw [this]
   exact g4
end
end Go.Sy

set_option linter.unusedVariables false
set_option linter.unusedSimpArgs false
namespace Go.Sy
open Go.RowKit
section
variable {P : Program} {C : Ctx} {gl : List (Nat × SVal)} {E : Env} {W : World} {R : Nat → Prop} {ρ : Nat → Option Value} {h : Nat → Option Cont} {o : Oper} {a : Act}
variable {ev : Operand → SVal} {next : Nat} {r : ORes} {l l' : List Nat}
theorem heap_new (w : World) (o : Obj) : (w.alloc o).heap[w.heap.size]? = some o := by
 show (w.heap.push o)[w.heap.size]? = some o
 simp
theorem DenL.drop_recs {t : RT} {l : List t.ty} {vs : List Value} (h : DenL C W R ρ (l.flatMap t.enc) vs) {i : Nat} (hi : i < l.length) :
  DenL C W R ρ (t.enc (l.getD i t.dflt) ++ (l.drop (i + 1)).flatMap t.enc) (vs.drop (i * t.w)) := by
 have e : l = l.take i ++ l.getD i t.dflt :: l.drop (i + 1) := by
  rw [List.getD_eq_getElem?_getD, List.getElem?_eq_getElem hi]; simp
 rw [e, List.flatMap_append, List.flatMap_cons] at h
 obtain ⟨a, b, rfl, ha, hb⟩ := h.split
 have la : a.length = i * t.w := by
  rw [ha.len_noarr (flat_noarr t _), flat_w, List.length_take, Nat.min_eq_left (Nat.le_of_lt hi)]
 rw [← la, List.drop_left]
 exact hb
variable {look : Nat → Option Cont}
theorem look_ok {α : Type} {q : Nat} {f : Option Cont → Acc α} {look : Nat → Option Cont} {l l' : List Nat} {x : α} (h : (Acc.look q f).run look l = .ok (x, l')) : ∃ l1, (f (look q)).run look l1 = .ok (x, l') := by
 simp only [Acc.run] at h
 exact ⟨_, h⟩
theorem lookO_ok (EO : EnvOk P C gl E) (M : Mem C gl W R ρ h) (hev : ∀ x, Den C W R ρ (ev x) (a.eval x)) {t m k ok} (hop : o.op = .lookup t m k ok) (hr : (lookO E t m k ok ev).run h l = .ok (r, l')) : Yields P C gl o a W R ρ h r := by
 unfold lookO at hr
 obtain ⟨ti, l1, h1, h2⟩ := Acc.bind_ok hr
 obtain ⟨d, d1, d2⟩ := (ti_ok EO h1).d
 split at h2
 ·rename_i kt vt htd
  rw [htd] at d2
  have d2 : d = .map kt vt := d2
  subst d2
  obtain ⟨ki, l2, h3, h4⟩ := Acc.bind_ok h2
  obtain ⟨vi, l3, h5, h6⟩ := Acc.bind_ok h4
  obtain ⟨dk, k1, k2⟩ := (ti_ok EO h3).d
  obtain ⟨inf, z, i1, i2, i3, i4, i5, i6, _⟩ := (ti_ok EO h5).i
  have hm := hev m
  have hk := hev k
  obtain ⟨vm, hvm⟩ : ∃ v, a.eval m = v := ⟨_, rfl⟩
  rw [hvm] at hm
  split at h6
  ·rename_i r0 s hki hz em ek
   have hz0 := i6 C W R ρ
   rw [hz] at hz0
   obtain ⟨rfl, _⟩ := hz0.int_inv
   rw [em] at hm; rw [ek] at hk
   obtain ⟨l4, h7⟩ := look_ok h6
   split at h7
   ·rename_i mm hc
    have := ret_ok h7; subst this
    cases hm with
    | map _ b hb =>
     obtain ⟨v', hv', b', es, clock, e1, e2, e3, e4⟩ := M.at_ _ _ hc
     rw [hb] at hv'; cases hv'
     cases e1
     obtain ⟨es1, es2⟩ := hk.str_inv
     rw [hki] at k2
     have k2 : dk = .string := k2
     subst k2
     have := lookup_ok (P := P) (key := Value.string) (k := s) d1 k1 (.inl rfl) i1 (by rw [i4]; rfl) (fun a => same_str s a) e2 e3
     have g := get_mem (k := s) e4
     refine Yields.pure (s := Instr.lookup t (a.eval m) (a.eval k) false) M (by unfold execOp; rw [hop]) ⟨_, by rw [hvm, es1]; exact this, ?_, rfl, rfl⟩
     exact .int .i64 (.full _) ⟨g.1, g.2, g.1, g.2⟩
   ·cases h7
  ·rename_i r0 n hki hz em ek
   have hz0 := i6 C W R ρ
   rw [hz] at hz0
   obtain ⟨rfl, _⟩ := hz0.int_inv
   rw [em] at hm; rw [ek] at hk
   obtain ⟨l4, h7⟩ := look_ok h6
   split at h7
   ·rename_i mm hc
    have := ret_ok h7; subst this
    cases hm with
    | map _ b hb =>
     obtain ⟨v', hv', b', es, clock, e1, e2, e3, e4⟩ := M.at_ _ _ hc
     rw [hb] at hv'; cases hv'
     cases e1
     obtain ⟨es1, es2⟩ := hk.int_inv
     rw [hki] at k2
     have k2 : dk = .int .i64 := k2
     subst k2
     have := lookup_ok (P := P) (key := Value.int .i64) (k := n.val) d1 k1 (.inr rfl) i1 (by rw [i4]; rfl) (fun a => same_int n.val a) e2 e3
     have g := get_mem (k := n.val) e4
     refine Yields.pure (s := Instr.lookup t (a.eval m) (a.eval k) false) M (by unfold execOp; rw [hop]) ⟨_, by rw [hvm, es1]; exact this, ?_, rfl, rfl⟩
     exact .int .i64 (.full _) ⟨g.1, g.2, g.1, g.2⟩
   ·cases h7
  ·cases h6
 ·cases h2
theorem sop_lookup (S : Sit P C gl E W R ρ h o a ev next r l l') {t m k ok} (hop : o.op = .lookup t m k ok) : Yields P C gl o a W R ρ h r := by
 obtain ⟨EO, M, hev, hr, hp, hn⟩ := S
 unfold sop at hr; rw [hop] at hr; simp only at hr
 have hm := hev m
 have hk := hev k
 have he : execOp a.eval o = (do pure (Next.value (← Instr.lookup t (a.eval m) (a.eval k) ok))) := by unfold execOp; rw [hop]
 split at hr
 ·rename_i fk u x em
  rw [em] at hm
  obtain ⟨ti, l1, h1, h2⟩ := Acc.bind_ok hr
  obtain ⟨d, d1, d2⟩ := (ti_ok EO h1).d
  split at h2
  ·rename_i kt vt htd
   rw [htd] at d2
   have d2 : d = .map kt vt := d2
   subst d2
   obtain ⟨ki, l2, h3, h4⟩ := Acc.bind_ok h2
   obtain ⟨vi, l3, h5, h6⟩ := Acc.bind_ok h4
   refine Yields.pure M he ?_
   obtain ⟨vm, hvm⟩ : ∃ v, a.eval m = v := ⟨_, rfl⟩
   rw [hvm] at hm ⊢
   cases hm with
   | romN _ _ => exact lookG_ok d1 (ti_ok EO h3) (ti_ok EO h5) hk h6 (.inl ⟨rfl, rfl⟩) ⟨rfl, .nil⟩
   | rom _ _ m' b es cl q1 q2 q3 q4 => exact lookG_ok d1 (ti_ok EO h3) (ti_ok EO h5) hk h6 (.inr ⟨b, cl, rfl, q2⟩) ⟨q3, q4⟩
  ·cases h2
 ·rename_i r0 em
  rw [em] at hm
  obtain ⟨l4, h7⟩ := look_ok hr
  split at h7
  ·rename_i fk u x hc
   obtain ⟨ti, l1, h1, h2⟩ := Acc.bind_ok h7
   obtain ⟨d, d1, d2⟩ := (ti_ok EO h1).d
   split at h2
   ·rename_i kt vt htd
    rw [htd] at d2
    have d2 : d = .map kt vt := d2
    subst d2
    obtain ⟨ki, l2, h3, h4⟩ := Acc.bind_ok h2
    obtain ⟨vi, l3, h5, h6⟩ := Acc.bind_ok h4
    refine Yields.pure M he ?_
    obtain ⟨vm, hvm⟩ : ∃ v, a.eval m = v := ⟨_, rfl⟩
    rw [hvm] at hm ⊢
    cases hm with
    | map _ b hb =>
     obtain ⟨v', hv', b', es, clock, e1, e2, e3, e4⟩ := M.at_ _ _ hc
     rw [hb] at hv'; cases hv'
     cases e1
     exact lookG_ok d1 (ti_ok EO h3) (ti_ok EO h5) hk h6 (.inr ⟨b, clock, rfl, e2⟩) ⟨e3, e4⟩
   ·cases h2
  ·exact lookO_ok EO M hev hop h7
 ·cases hr
theorem updO_ok (EO : EnvOk P C gl E) (M : Mem C gl W R ρ h) (hev : ∀ x, Den C W R ρ (ev x) (a.eval x)) {t m k x} (hop : o.op = .mapUpdate t m k x) (hr : (updO E t m k x ev).run h l = .ok (r, l')) : Yields P C gl o a W R ρ h r := by
 unfold updO at hr
 obtain ⟨ti, l1, h1, h2⟩ := Acc.bind_ok hr
 obtain ⟨d, d1, d2⟩ := (ti_ok EO h1).d
 split at h2
 ·rename_i kt vt htd
  rw [htd] at d2
  have d2 : d = .map kt vt := d2
  subst d2
  obtain ⟨ki, l2, h3, h4⟩ := Acc.bind_ok h2
  obtain ⟨dk, k1, k2⟩ := (ti_ok EO h3).d
  have hm := hev m
  have hk := hev k
  have hx := hev x
  obtain ⟨vm, hvm⟩ : ∃ v, a.eval m = v := ⟨_, rfl⟩
  rw [hvm] at hm
  split at h4
  ·rename_i r0 s n hki em ek ex
   rw [em] at hm; rw [ek] at hk; rw [ex] at hx
   obtain ⟨l4, h7⟩ := look_ok h4
   split at h7
   ·rename_i mm hc
    have := ret_ok h7; subst this
    cases hm with
    | map _ b hb =>
     obtain ⟨v', hv', b', es, clock, e1, e2, e3, e4⟩ := M.at_ _ _ hc
     rw [hb] at hv'; cases hv'
     cases e1
     obtain ⟨es1, es2⟩ := hk.str_inv
     obtain ⟨ex1, ex2⟩ := hx.int_inv
     rw [hki] at k2
     have k2 : dk = .string := k2
     subst k2
     obtain ⟨es', clock', u1, u2⟩ := update_ok (P := P) (key := Value.string) (k := s) (x := n.val) d1 k1 (.inl rfl) (fun a => same_str s a) (by simp [Instr.sameBits, (beq_bytes _ _).2]) e2 e3
     refine Yields.unit (by unfold execOp; rw [hop]) ⟨_, ρ, by rw [hvm, es1, ex1]; exact u1, ?_⟩ rfl
     have hlt : b < W.heap.size := (Array.getElem?_eq_some_iff.1 e2).1
     refine Trans.write M hc hb rfl rfl rfl rfl (by simp) (fun k hk => by simp [Array.getElem?_setIfInBounds, Ne.symm hk]) fun _ => ⟨b, es', clock', rfl, by simp [Array.getElem?_setIfInBounds, hlt], u2, put_mem e4 ⟨ex2.lo, ex2.hi⟩⟩
   ·cases h7
  ·rename_i r0 s n hki em ek ex
   rw [em] at hm; rw [ek] at hk; rw [ex] at hx
   obtain ⟨l4, h7⟩ := look_ok h4
   split at h7
   ·rename_i mm hc
    have := ret_ok h7; subst this
    cases hm with
    | map _ b hb =>
     obtain ⟨v', hv', b', es, clock, e1, e2, e3, e4⟩ := M.at_ _ _ hc
     rw [hb] at hv'; cases hv'
     cases e1
     obtain ⟨es1, es2⟩ := hk.int_inv
     obtain ⟨ex1, ex2⟩ := hx.int_inv
     rw [hki] at k2
     have k2 : dk = .int .i64 := k2
     subst k2
     obtain ⟨es', clock', u1, u2⟩ := update_ok (P := P) (key := Value.int .i64) (k := s.val) (x := n.val) d1 k1 (.inr rfl) (fun a => same_int s.val a) (by simp [Instr.sameBits, (beq_bytes _ _).2]) e2 e3
     refine Yields.unit (by unfold execOp; rw [hop]) ⟨_, ρ, by rw [hvm, es1, ex1]; exact u1, ?_⟩ rfl
     have hlt : b < W.heap.size := (Array.getElem?_eq_some_iff.1 e2).1
     refine Trans.write M hc hb rfl rfl rfl rfl (by simp) (fun k hk => by simp [Array.getElem?_setIfInBounds, Ne.symm hk]) fun _ => ⟨b, es', clock', rfl, by simp [Array.getElem?_setIfInBounds, hlt], u2, put_mem e4 ⟨ex2.lo, ex2.hi⟩⟩
   ·cases h7
  ·cases h4
 ·cases h2
theorem shape_agg {u : RT} {s : SVal} (hs : shapeOk u s = true) : s.isAgg = false := by
 unfold shapeOk at hs
 split at hs <;> cases s <;> first | rfl | cases hs
theorem sop_mapUpdate (S : Sit P C gl E W R ρ h o a ev next r l l') {t m k x} (hop : o.op = .mapUpdate t m k x) : Yields P C gl o a W R ρ h r := by
 obtain ⟨EO, M, hev, hr, hp, hn⟩ := S
 unfold sop at hr; rw [hop] at hr; simp only at hr
 have hm := hev m
 have hk := hev k
 have hx := hev x
 split at hr
 ·rename_i r0 em
  rw [em] at hm
  obtain ⟨l4, h7⟩ := look_ok hr
  split at h7
  ·rename_i fk u y hc
   obtain ⟨ti, l1, h1, h2⟩ := Acc.bind_ok h7
   obtain ⟨d, d1, d2⟩ := (ti_ok EO h1).d
   split at h2
   ·rename_i kt vt htd
    rw [htd] at d2
    have d2 : d = .map kt vt := d2
    subst d2
    obtain ⟨ki, l2, h3, h4⟩ := Acc.bind_ok h2
    obtain ⟨dk, k1, k2⟩ := (ti_ok EO h3).d
    split at h4
    ·rename_i a' z g1 g2 g3
     have := ret_ok h4; subst this
     rw [Bool.and_eq_true] at g1
     obtain ⟨vm, hvm⟩ : ∃ v, a.eval m = v := ⟨_, rfl⟩
     rw [hvm] at hm
     have hkv := key_den g2 hk
     cases hm with
     | map _ b hb =>
      obtain ⟨v', hv', b', es, clock, e1, e2, e3, e4⟩ := M.at_ _ _ hc
      rw [hb] at hv'; cases hv'
      cases e1
      have hz : Den C W R ρ (recV u z) (a.eval x) := recV_of g1.2 hx (dec_den g3 (cells_den hx (shape_agg g1.2)))
      obtain ⟨es', clock', u1, u2⟩ := updateG_ok (P := P) d1 k1 (keyTD_ok g1.1 k2) (x := a') hz e2 ⟨e3, e4⟩
      refine Yields.unit (s := Instr.mapUpdate t (a.eval m) (a.eval k) (a.eval x)) (by unfold execOp; rw [hop]) ⟨_, ρ, by rw [hvm, hkv]; exact u1, ?_⟩ rfl
      have hlt : b < W.heap.size := (Array.getElem?_eq_some_iff.1 e2).1
      refine Trans.write M hc hb rfl rfl rfl rfl (by simp) (fun k hk => by simp [Array.getElem?_setIfInBounds, Ne.symm hk]) fun kR => ⟨b, es', clock', rfl, by simp [Array.getElem?_setIfInBounds, hlt], u2.1, DenA.mono (fun _ h => h) kR (fun _ _ h => h) u2.2⟩
    ·cases h4
   ·cases h2
  ·exact updO_ok EO M hev hop h7
 ·cases hr
theorem sop_makeMap (S : Sit P C gl E W R ρ h o a ev next r l l') {t n} (hop : o.op = .makeMap t n) : Yields P C gl o a W R ρ h r := by
 obtain ⟨EO, M, hev, hr, hp, hn⟩ := S
 unfold sop at hr; rw [hop] at hr; simp only at hr
 obtain ⟨ti, l1, h1, h2⟩ := Acc.bind_ok hr
 have hb : blk (.map (some W.heap.size)) = some W.heap.size := rfl
 have go : ∀ c : Cont, n = none → r = { v := .map next, ws := [(next, some c)], k := 1 } → (∀ W' ρ', W'.heap[W.heap.size]? = some (.map #[] 0) → HoldC C W' R ρ' (.map (some W.heap.size)) c) → Yields P C gl o a W R ρ h r := fun c en e hc => by
  subst e; subst en
  refine Yields.make (s := Instr.makeMap t none) (by unfold execOp; rw [hop]; rfl) ⟨.map (some W.heap.size), W.alloc (.map #[] 0), bindN ρ next (.map (some W.heap.size)), ?_, ?_, ?_⟩
  ·rfl
  ·exact Trans.new M (hn 0 Nat.one_pos) _ _ _ hb fun _ => hc _ _ (heap_new W _)
  ·exact .map _ _ bindN_at
 have goG : ∀ k u, n = none → r = { v := .map next, ws := [(next, some (.gmap k u []))], k := 1 } → Yields P C gl o a W R ρ h r := fun k u en e => go _ en e fun W' ρ' hh => ⟨_, #[], 0, rfl, hh, rfl, .nil⟩
 split at h2
 ·obtain ⟨ki, l2, h3, h4⟩ := Acc.bind_ok h2
  obtain ⟨vi, l3, h5, h6⟩ := Acc.bind_ok h4
  split at h6
  ·exact go _ rfl (ret_ok h6).symm fun W' ρ' hh => ⟨_, #[], 0, rfl, hh, rfl, fun p hp => by cases hp⟩
  ·exact go _ rfl (ret_ok h6).symm fun W' ρ' hh => ⟨_, #[], 0, rfl, hh, rfl, fun p hp => by cases hp⟩
  ·split at h6
   ·exact goG _ _ rfl (ret_ok h6).symm
   ·cases h6
  ·split at h6
   ·exact goG _ _ rfl (ret_ok h6).symm
   ·cases h6
  ·cases h6
 ·cases h2
theorem sop_index (S : Sit P C gl E W R ρ h o a ev next r l l') {t x i} (hop : o.op = .index t x i) : Yields P C gl o a W R ρ h r := by
 obtain ⟨EO, M, hev, hr, hp, hn⟩ := S
 unfold sop at hr; rw [hop] at hr; simp only at hr
 have hx := hev x
 have hi := hev i
 obtain ⟨vx, hvx⟩ : ∃ v, a.eval x = v := ⟨_, rfl⟩
 rw [hvx] at hx
 split at hr
 ·rename_i u n xs k i0 ex ei0
  rw [ex] at hx; rw [ei0] at hi
  obtain ⟨e1, e2⟩ := hi.int_inv
  obtain ⟨ti, l1, h1, h2⟩ := Acc.bind_ok hr
  obtain ⟨d, d1, d2⟩ := (ti_ok EO h1).d
  split at h2
  ·rename_i m e htd
   rw [htd] at d2
   have d2 : d = .array m e := d2
   subst d2
   obtain ⟨ei, l2, h3, h4⟩ := Acc.bind_ok h2
   split at h4
   ·rename_i hb
    have hb := beq_ok hb
    split at h4
    ·rename_i hb2
     have hb2 := beq_ok hb2
     obtain ⟨v, l3, h5, h6⟩ := Acc.bind_ok h4
     have := ret_ok h6; subst this
     have hc := hp _ rfl
     cases hx with
     | arr _ _ _ us hlen hh =>
      obtain ⟨inf, z, i1, i2, _⟩ := (ti_ok EO h3).i
      have hd := hh.drop_recs (i := i0.val.toNat) (by omega)
      have hs : (sizeOf e).run P W = .ok ei.size W := by rw [run_siz i1, i2]
      obtain ⟨w, w1, w2⟩ := part_ok (P := P) (ti_ok EO h3) hd h5
      refine Yields.pure (s := Instr.index t (a.eval x) (a.eval i)) M (by unfold execOp; rw [hop]) ⟨w, ?_, w2, rfl, rfl⟩
      rw [hvx, e1]
      subst hb2
      have h0 : 0 ≤ i0.val ∧ i0.val < (m : Int) := hc
      simp [Instr.index, run_und d1, asIntOf, h0, hs, hb, w1]
    ·cases h4
   ·cases h4
  ·cases h2
 ·rename_i s k i0 ex ei0
  rw [ex] at hx; rw [ei0] at hi
  obtain ⟨e1, e2⟩ := hi.int_inv
  obtain ⟨e3, e4⟩ := hx.str_inv
  obtain ⟨ti, l1, h1, h2⟩ := Acc.bind_ok hr
  obtain ⟨d, d1, d2⟩ := (ti_ok EO h1).d
  split at h2
  ·rename_i htd
   rw [htd] at d2
   have d2 : d = .string := d2
   subst d2
   have := ret_ok h2; subst this
   have hc : 0 ≤ i0.val ∧ i0.val < (s.size : Int) := hp _ rfl
   have hlt : i0.val.toNat < s.size := by omega
   refine Yields.pure (s := Instr.index t (a.eval x) (a.eval i)) M (by unfold execOp; rw [hop]) ⟨.int .u8 ((s.data.toList.getD i0.val.toNat 0).toNat : Nat), ?_, ?_, rfl, rfl⟩
   ·rw [hvx, e3, e1]
    have : s[i0.val.toNat]? = some (s.data.toList.getD i0.val.toNat 0) := by
     rw [getElem?_pos s _ hlt]
     have hl : i0.val.toNat < s.data.toList.length := by simpa using hlt
     rw [List.getD_eq_getElem?_getD, List.getElem?_eq_getElem hl]
     simp [ByteArray.getElem_eq_getElem_data]
     done
    simp [Instr.index, run_und d1, asIntOf, hc, this, ByteArray.getElem_eq_getElem_data]
   ·have hm := (s.data.toList.getD i0.val.toNat 0).toNat_lt
    generalize (s.data.toList.getD i0.val.toNat 0).toNat = m at hm ⊢
    have hm : m < 256 := hm
    exact .int .u8 (.sym _ _ _) ⟨by show (0 : Int) ≤ (m : Int); omega, by show (m : Int) ≤ (255 : Int); omega, by show (0 : Int) ≤ (m : Int); omega, by show (m : Int) ≤ (255 : Int); omega⟩
  ·cases h2
 ·cases hr
theorem append_k {t t' : Nat} {s x : SVal} {next : Nat} (h : (appendS E t t' s x next).run look l = .ok (r, l')) : 0 < r.k := by
 unfold appendS at h
 obtain ⟨ti, l1, h1, h2⟩ := Acc.bind_ok h
 split at h2
 ·obtain ⟨ei, l2, h3, h4⟩ := Acc.bind_ok h2
  split at h4
  ·obtain ⟨⟨u', new⟩, l3, h5, h6⟩ := Acc.bind_ok h4
   simp only at h6
   split at h6
   ·split at h6
    ·have := ret_ok h6; subst this; exact Nat.one_pos
    ·obtain ⟨l4, h7⟩ := look_ok h6
     split at h7
     ·split at h7
      ·have := ret_ok h7; subst this; exact Nat.one_pos
      ·cases h7
     ·cases h7
    ·cases h6
   ·cases h6
  ·cases h4
 ·cases h2
theorem appendStr_k {t t' : Nat} {s : SVal} {b : ByteArray} {next : Nat} (h : (appendStr E t t' s b next).run look l = .ok (r, l')) : 0 < r.k := by
 unfold appendStr at h
 obtain ⟨ti, l1, h1, h2⟩ := Acc.bind_ok h
 split at h2
 ·obtain ⟨ei, l2, h3, h4⟩ := Acc.bind_ok h2
  split at h4
  ·split at h4
   ·have := ret_ok h4; subst this; exact Nat.one_pos
   ·obtain ⟨l4, h7⟩ := look_ok h4
    split at h7
    ·have := ret_ok h7; subst this; exact Nat.one_pos
    ·cases h7
   ·cases h4
  ·cases h4
 ·cases h2
theorem appendZ_k {t t' : Nat} {s : SVal} {n : SI} {next : Nat} (h : (appendZ E t t' s n next).run look l = .ok (r, l')) : 0 < r.k := by
 unfold appendZ at h
 obtain ⟨ti, l1, h1, h2⟩ := Acc.bind_ok h
 obtain ⟨ti', l1', h1', h2'⟩ := Acc.bind_ok h2
 split at h2'
 ·obtain ⟨ei, l2, h3, h4⟩ := Acc.bind_ok h2'
  split at h4
  ·split at h4
   ·have := ret_ok h4; subst this; exact Nat.one_pos
   ·obtain ⟨l4, h7⟩ := look_ok h4
    split at h7
    ·split at h7
     ·have := ret_ok h7; subst this; exact Nat.one_pos
     ·cases h7
    ·cases h7
   ·cases h4
  ·cases h4
 ·cases h2'
theorem maxS_ok {lt : Bool} {x y : SVal} {u v : Value} (hx : Den C W R ρ x u) (hy : Den C W R ρ y v) (hr : (maxS lt x y).run look l = .ok (r, l')) :
  ∃ k n m, u = .int k n ∧ v = .int k m ∧ r = { v := r.v } ∧ Den C W R ρ r.v (.int k (if lt = true then (if n < m then m else n) else (if m < n then m else n))) := by
 unfold maxS at hr
 split at hr
 ·rename_i k a k' b
  split at hr
  ·rename_i hk
   have := kEq_iff.1 hk; subst this
   obtain ⟨rfl, ia⟩ := hx.int_inv
   obtain ⟨rfl, ib⟩ := hy.int_inv
   refine ⟨k, a.val, b.val, rfl, rfl, ?_⟩
   split at hr
   ·have := ret_ok hr; subst this
    refine ⟨rfl, ?_⟩
    show Den C W R ρ (iteV (decide (a.val < b.val)) (.int k b) (.int k a)) _
    refine iteV_den ?_
    by_cases h : a.val < b.val
    ·simp [h]; exact hy
    ·simp [h]; exact hx
   ·have := ret_ok hr; subst this
    refine ⟨rfl, ?_⟩
    show Den C W R ρ (iteV (decide (b.val < a.val)) (.int k b) (.int k a)) _
    refine iteV_den ?_
    by_cases h : b.val < a.val
    ·simp [h]; exact hy
    ·simp [h]; exact hx
  ·cases hr
 ·cases hr
theorem sop_call (S : Sit P C gl E W R ρ h o a ev next r l l') {c} (hop : o.op = .call c) : Yields P C gl o a W R ρ h r := by
 obtain ⟨EO, M, hev, hr, hp, hn⟩ := S
 unfold sop at hr; rw [hop] at hr; simp only at hr
 split at hr
 ·rename_i b hb
  have he : ∀ s, (∀ cs, invoke (.builtin b c.argTypes o.type cs) (c.args.map a.eval) = (do pure (Next.value (← s)))) → execOp a.eval o = (do pure (Next.value (← s))) := fun s e => by
   unfold execOp; rw [hop]; simp [resolve, hb]; exact e _
  have hargs := args_of hev c.args.toList
  unfold builtinS at hr
  split at hr
  ·rename_i t x ht ha
   rw [ha] at hargs
   obtain ⟨ti, l1, h1, h2⟩ := Acc.bind_ok hr
   obtain ⟨n, l2, h3, h4⟩ := Acc.bind_ok h2
   obtain ⟨d, d1, d2⟩ := (ti_ok EO h1).d
   have et : c.argTypes = #[t] := by rw [← Array.toList_inj]; exact ht
   generalize hvs : c.args.toList.map a.eval = vs at hargs
   cases hargs with
   | cons _ v _ us hx hr' =>
    cases hr'
    have ea : c.args.map a.eval = #[v] := by rw [arr_map, hvs]
    have go : (∃ e, d = .slice e) ∨ d = .string → (∀ s, x = .str s → d = .string) → (∀ t n l, x ≠ .arr t n l) → ((∀ s, x ≠ .str s) → ∃ e, d = .slice e) → r = { v := .int .i64 n } → Yields P C gl o a W R ρ h r := fun g1 g2 g4 g5 g3 => by
     subst g3
     obtain ⟨q1, q2⟩ := len_ok (P := P) M d1 g1 hx h3 g2 g4 g5 (ty := o.type)
     refine Yields.pure (s := Builtin.len_ #[t] o.type #[v]) M (he _ fun cs => ?_) ⟨_, q1, .int .i64 n q2, rfl, rfl⟩
     rw [et, ea]; rfl
    split at h4
    ·cases h4
    ·rename_i htd
     rw [htd] at d2
     have d2 : d = .string := d2
     exact go (.inr d2) (fun _ _ => d2) (fun _ _ _ e => by cases e) (fun e => (e _ rfl).elim) (ret_ok h4).symm
    ·cases h4
    ·rename_i e htd g1 g2
     rw [htd] at d2
     have d2 : d = .slice e := d2
     exact go (.inl ⟨e, d2⟩) (fun s e => (g2 s e).elim) (fun t n l e => g1 t n l e) (fun _ => ⟨e, d2⟩) (ret_ok h4).symm
    ·cases h4
  ·rename_i t t' s x ht ha
   rw [ha] at hargs
   have et : c.argTypes = #[t, t'] := by rw [← Array.toList_inj]; exact ht
   generalize hvs : c.args.toList.map a.eval = vs at hargs
   cases hargs with
   | cons _ v _ us hx hr' =>
    cases hr' with
    | cons _ v' _ us' hx' hr'' =>
     cases hr''
     have ea : c.args.map a.eval = #[v, v'] := by rw [arr_map, hvs]
     split at hr
     ·rename_i b
      have hk : 0 < r.k := appendStr_k hr
      obtain ⟨rfl, _⟩ := hx'.str_inv
      refine Yields.make (s := Builtin.append_ #[t, t'] o.type #[v, .string b]) (he _ fun cs => ?_) (appendStr_ok (P := P) M EO.tab hx (hn 0 hk) hr hp)
      rw [et, ea]; rfl
     ·rename_i k n
      have hk : 0 < r.k := appendZ_k hr
      obtain ⟨rfl, _⟩ := hx'.int_inv
      refine Yields.make (s := Builtin.append_ #[t, t'] o.type #[v, .int k n.val]) (he _ fun cs => ?_) (appendZ_ok (P := P) M EO.tab hx (hn 0 hk) hr hp)
      rw [et, ea]; rfl
     have hk : 0 < r.k := append_k hr
     refine Yields.make (s := Builtin.append_ #[t, t'] o.type #[v, v']) (he _ fun cs => ?_) (append_ok (P := P) M EO.tab hx hx' (hn 0 hk) hr hp)
     rw [et, ea]; rfl
  ·rename_i t t' x y ht ha
   rw [ha] at hargs
   generalize hvs : c.args.toList.map a.eval = vs at hargs
   cases hargs with
   | cons _ v _ us hx hr' =>
    cases hr' with
    | cons _ v' _ us' hx' hr'' =>
     cases hr''
     have ea : c.args.map a.eval = #[v, v'] := by rw [arr_map, hvs]
     obtain ⟨k, n, m, rfl, rfl, e, hd⟩ := maxS_ok hx hx' hr
     rw [e]
     refine Yields.pure (s := Builtin.max_ c.argTypes o.type #[.int k n, .int k m]) M (he _ fun cs => ?_) ⟨_, ?_, hd, rfl, rfl⟩
     ·rw [ea]; rfl
     ·simp [Builtin.max_, Builtin.max2]
  ·rename_i t t' x y ht ha
   rw [ha] at hargs
   generalize hvs : c.args.toList.map a.eval = vs at hargs
   cases hargs with
   | cons _ v _ us hx hr' =>
    cases hr' with
    | cons _ v' _ us' hx' hr'' =>
     cases hr''
     have ea : c.args.map a.eval = #[v, v'] := by rw [arr_map, hvs]
     obtain ⟨k, n, m, rfl, rfl, e, hd⟩ := maxS_ok hx hx' hr
     rw [e]
     refine Yields.pure (s := Builtin.min_ c.argTypes o.type #[.int k n, .int k m]) M (he _ fun cs => ?_) ⟨_, ?_, hd, rfl, rfl⟩
     ·rw [ea]; rfl
     ·simp [Builtin.min_, Builtin.min2]
  ·cases hr
 ·rename_i f hf
  have hx := hev f
  obtain ⟨vf, hvf⟩ : ∃ v, a.eval f = v := ⟨_, rfl⟩
  rw [hvf] at hx
  split at hr
  ·rename_i g cap hg
   rw [hg] at hx
   split at hr
   ·rename_i k hk
    have K := EO.con _ _ hk
    cases hx with
    | func _ _ vs hcap =>
     have hd := (args_of hev c.args.toList).app hcap
     have := K.does M hd hr hp hn
     intro KK Q hK
     unfold Oper.wp
     have he : execOp a.eval o = callFunc g (c.args.toList.map a.eval ++ vs).toArray := by
      unfold execOp; rw [hop]
      simp [resolve, hf, hvf, Deferred.ofValue, invoke]
      rw [arr_map]; simp
     rw [he, K.call, Oper.upon_enter]
     refine this.mono fun e W' hh => ?_
     obtain ⟨v, R', ρ', rfl, t1, t2⟩ := hh
     exact hK _ _ _ _ t1 t2
   ·cases hr
  ·rename_i g cap hg
   rw [hg] at hx
   split at hr
   ·rename_i k hk
    have K := EO.con _ _ hk
    cases hx with
    | bound _ _ vs hcap =>
     have hd := hcap.app (args_of hev c.args.toList)
     have := K.does M hd hr hp hn
     intro KK Q hK
     unfold Oper.wp
     have he : execOp a.eval o = callFunc g (vs ++ c.args.toList.map a.eval).toArray := by
      unfold execOp; rw [hop]
      simp [resolve, hf, hvf, Deferred.ofValue, invoke]
      rw [arr_map]; simp
     rw [he, K.call, Oper.upon_enter]
     refine this.mono fun e W' hh => ?_
     obtain ⟨v, R', ρ', rfl, t1, t2⟩ := hh
     exact hK _ _ _ _ t1 t2
   ·cases hr
  ·cases hr
 ·cases hr
end
end Go.Sy

set_option linter.unusedVariables false
set_option linter.unusedSimpArgs false
namespace Go.Sy
open Go.RowKit
section
variable {P : Program} {C : Ctx} {gl : List (Nat × SVal)} {E : Env} {W : World} {R : Nat → Prop} {ρ : Nat → Option Value} {h : Nat → Option Cont} {o : Oper} {a : Act}
variable {ev : Operand → SVal} {next : Nat} {r : ORes} {l l' : List Nat}
theorem sop_ok (S : Sit P C gl E W R ρ h o a ev next r l l') (hnp : ∀ c x y, o.op ≠ .pick c x y) : Yields P C gl o a W R ρ h r := by
 cases hop : o.op
 case pick => exact (hnp _ _ _ hop).elim
 case move => exact sop_move S hop
 case assign => exact sop_assign S hop
 case alloc => exact sop_alloc S hop
 case box => exact sop_box S hop
 case build => exact sop_build S hop
 case buildSlice => exact sop_buildSlice S hop
 case load => exact sop_load S hop
 case store => exact sop_store S hop
 case nilCheck => exact sop_nilCheck S hop
 case binOp => exact sop_binOp S hop
 case unOp => exact sop_unOp S hop
 case convert => exact sop_convert S hop
 case makeInterface => exact sop_makeInterface S hop
 case makeFunc => exact sop_makeFunc S hop
 case makeSlice => exact sop_makeSlice S hop
 case slice => exact sop_slice S hop
 case fieldAddr => exact sop_fieldAddr S hop
 case field => exact sop_field S hop
 case indexAddr => exact sop_indexAddr S hop
 case index => exact sop_index S hop
 case extract => exact sop_extract S hop
 case lookup => exact sop_lookup S hop
 case mapUpdate => exact sop_mapUpdate S hop
 case makeMap => exact sop_makeMap S hop
 case typeAssert => exact sop_typeAssert S hop
 case call => exact sop_call S hop
 all_goals (have hr := S.hr; unfold sop at hr; rw [hop] at hr; cases hr)
theorem Acc.run_look {α : Type} {look look' : Nat → Option Cont} : ∀ {A : Acc α} {l l' : List Nat} {x : α}, A.run look l = .ok (x, l') → (∀ n ∈ l', look' n = look n) → A.run look' l = .ok (x, l') ∧ (∀ n ∈ l, n ∈ l') := by
 intro A
 induction A with
 | ret y => intro l l' x h _; simp only [Acc.run] at h ⊢; cases h; exact ⟨rfl, fun _ h => h⟩
 | fail s => intro l l' x h; cases h
 | look q f ih =>
  intro l l' x h hl
  simp only [Acc.run] at h ⊢
  have := ih (look q) h hl
  have hq : q ∈ l' := this.2 q (by simp)
  rw [hl q hq]
  exact ⟨this.1, fun n hn => this.2 n (by simp [hn])⟩
theorem Call.operands_eq (c : Call) : ∀ x ∈ c.args.toList, x ∈ c.operands.toList := by
 intro x hx
 unfold Call.operands
 cases c.callee <;> simp_all
theorem sop_congr {ev ev' : Operand → SVal} (hev : ∀ x ∈ o.op.operands.toList, ev x = ev' x) : sop E o ev next = sop E o ev' next := by
 unfold sop
 cases hop : o.op <;> rw [hop] at hev <;> simp only [Op.operands] at hev <;> simp only
 case move x => rw [hev x (by simp)]
 case assign x => rw [hev x (by simp)]
 case pick c x y => rw [hev c (by simp), hev x (by simp), hev y (by simp)]
 case box t x => rw [hev x (by simp)]
 case build t ps =>
  have : (ps.toList.map fun (i, x) => (i, ev x)) = ps.toList.map fun (i, x) => (i, ev' x) := List.map_congr_left fun p hp => by
   have := hev p.2 (by simp; exact ⟨p.1, by simpa using hp⟩)
   exact congrArg (Prod.mk p.1) this
  rw [this]
 case buildSlice t n ps =>
  have : (ps.toList.map fun (i, x) => (i, ev x)) = ps.toList.map fun (i, x) => (i, ev' x) := List.map_congr_left fun p hp => by
   have := hev p.2 (by simp; exact ⟨p.1, by simpa using hp⟩)
   exact congrArg (Prod.mk p.1) this
  rw [this]
 case load t x => rw [hev x (by simp)]
 case store t x y => rw [hev x (by simp), hev y (by simp)]
 case nilCheck x => rw [hev x (by simp)]
 case binOp op t x y ty => rw [hev x (by simp), hev y (by simp)]
 case unOp op t x => rw [hev x (by simp)]
 case convert s d x => rw [hev x (by simp)]
 case makeInterface t x => rw [hev x (by simp)]
 case makeFunc f fi cap =>
  have : cap.toList.map ev = cap.toList.map ev' := List.map_congr_left fun p hp => hev p (by simp; exact .inr (by simpa using hp))
  have h2 : fi.toList.map ev = fi.toList.map ev' := List.map_congr_left fun p hp => hev p (by simp; exact .inl (by simpa using hp))
  split
  ·rw [this]
  ·rename_i g x l hl
   rw [hl] at h2
   rw [h2]
  ·rfl
 case makeSlice t n c => rw [hev n (by simp), hev c (by simp)]
 case slice t x lo hi mx =>
  have h1 : lo.map ev = lo.map ev' := by cases lo with | none => rfl | some y => simp; exact hev y (by simp)
  have h2 : hi.map ev = hi.map ev' := by cases hi with | none => rfl | some y => simp; exact hev y (by simp)
  rw [hev x (by simp), h1, h2]
 case fieldAddr s x f => rw [hev x (by simp)]
 case field s x f => rw [hev x (by simp)]
 case indexAddr t x i => rw [hev x (by simp), hev i (by simp)]
 case index t x i => rw [hev x (by simp), hev i (by simp)]
 case extract t i => rw [hev t (by simp)]
 case lookup t m k ok =>
  have : lookO E t m k ok ev = lookO E t m k ok ev' := by unfold lookO; rw [hev m (by simp), hev k (by simp)]
  rw [this, hev m (by simp), hev k (by simp)]
 case mapUpdate t m k x =>
  have : updO E t m k x ev = updO E t m k x ev' := by unfold updO; rw [hev m (by simp), hev k (by simp), hev x (by simp)]
  rw [this, hev m (by simp), hev k (by simp), hev x (by simp)]
 case typeAssert x xt t ok => rw [hev x (by simp)]
 case call c =>
  have h1 : c.args.toList.map ev = c.args.toList.map ev' := List.map_congr_left fun p hp => hev p (Call.operands_eq c p hp)
  rw [h1]
  cases hc : c.callee with
  | builtin b => rfl
  | value f => simp only; rw [hev f (by unfold Call.operands; rw [hc]; simp)]
  | invoke x n => rfl
end
end Go.Sy

set_option linter.unusedVariables false
set_option linter.unusedSimpArgs false
namespace Go.Sy
structure SState where
 fr : List (Nat × SVal)
 hp : List (Nat × Option Cont)
 next : Nat
 sz : Nat            -- how many slots the frame has
abbrev Key := Option (Nat × Bool)
def keyEq : Key → Key → Bool
 | none, none => true
 | some (i, true), some (j, true) => i.beq j
 | some (i, false), some (j, false) => i.beq j
 | _, _ => false
structure Rec where
 idx : Nat
 dst : Option Nat
 key : Key
 g : SB
 v : SVal
 ws : List (Nat × Option Cont)
 next : Nat
 k : Nat
 tch : List Nat
def isDst : Option Nat → Nat → Bool
 | some d', d => d'.beq d
 | none, _ => false
def slotOf : List Rec → Nat → Option (Key × SVal)
 | [], _ => none
 | r :: l, d => match isDst r.dst d with
  | true => some (r.key, r.v)
  | false => slotOf l d
def contOf (hp : List (Nat × Option Cont)) : List Rec → Nat → Option (Key × Option Cont)
 | [], n => match find n hp with
  | some c => some (none, c)
  | none => none
 | r :: l, n => match find n r.ws with
  | some c => some (r.key, c)
  | none => contOf hp l n
def readable (κ κ' : Key) : Bool := match κ' with
 | none => true
 | κ' => keyEq κ κ'
def evR (E : Env) (fr : List (Nat × SVal)) (recs : List Rec) (κ κx : Key) : Operand → SVal
 | .tmp t => match slotOf recs t with
  | some (κ', v) => match readable κ κ' || readable κx κ' with
   | true => v
   | false => .any
  | none => (find t fr).getD .any
 | .const v => ofVal v
 | .global g => (find g E.glob).getD .any
 | .func f => .func f []
def lookR (hp : List (Nat × Option Cont)) (recs : List Rec) (κ : Key) (r : Nat) : Option Cont := match contOf hp recs r with
 | some (κ', c) => match readable κ κ' with
  | true => c
  | false => none
 | none => none
def andB : SB → SB → SB
 | .lit true, b => b
 | .lit false, _ => .lit false
 | a, .lit true => a
 | _, .lit false => .lit false
 | a, b => .sym (a.val && b.val)
def recAt : List Rec → Nat → Option Rec
 | [], _ => none
 | r :: l, i => match r.idx.beq i with
  | true => some r
  | false => recAt l i
def writerOf : List Rec → Nat → Option Nat
 | [], _ => none
 | r :: l, d => match isDst r.dst d with
  | true => some r.idx
  | false => writerOf l d
def keyOf (recs : List Rec) (x : Operand) (b : Bool) : Key := match x with
 | .tmp t => match writerOf recs t with
  | some j => some (j, b)
  | none => none
 | _ => none
def allKnown (look : Nat → Option Cont) : List Nat → Bool
 | [] => true
 | r :: l => match look r with
  | some _ => allKnown look l
  | none => false
def memN (r : Nat) : List Nat → Bool
 | [] => false
 | q :: l => q.beq r || memN r l
def wsFit (tch : List Nat) (next k : Nat) : List (Nat × Option Cont) → Bool
 | [] => true
 | (r, _) :: l => (memN r tch || (Nat.ble next r && Nat.ble (r + 1) (next + k))) && wsFit tch next k l
def stepR (E : Env) (fr : List (Nat × SVal)) (hp : List (Nat × Option Cont)) (recs : List Rec) (next : Nat) (o : Oper) (κ : Key) : Except String (ORes × List Nat) :=
 match o.op with
 | .pick c a b =>
  match pickS (evR E fr recs κ none c) (evR E fr recs κ (keyOf recs c true) a) (evR E fr recs κ (keyOf recs c false) b) with
  | some v => .ok ({ v := v }, [])
  | none => .error "pick"
 | _ => match (sop E o (evR E fr recs κ none) next).run (lookR hp recs κ) [] with
  | .error s => .error s
  | .ok (r, tch) => match allKnown (lookR hp recs κ) tch && wsFit tch next r.k r.ws with
   | true => .ok (r, tch)
   | false => .error "names"
def guardOf (recs : List Rec) : Option (Nat × Bool) → Option SB
 | none => some (.lit true)
 | some (j, b) => match recAt recs j with
  | some r => match r.dst, r.g, r.v with
   | none, _, _ => none
   | _, .lit false, _ => some (.lit false)
   | _, _, .bool β => some (andB r.g (match b with | true => β | false => notB β))
   | _, _, _ => none
  | none => none
def vcOf (g : SB) : Option Prop → List Prop → List Prop
 | none, l => l
 | some p, l => match g with
  | .sym g => (g = true → p) :: l
  | .lit _ => p :: l
def dstFit (sz : Nat) (recs : List Rec) : Option Nat → Bool
 | none => true
 | some d => Nat.ble (d + 1) sz && match slotOf recs d with
  | none => true
  | some _ => false
structure RS where
 next : Nat
 recs : List Rec     -- the last first
 vc : List Prop      -- the last first
def forced (fz : List (Nat × Bool)) (i : Nat) (r : ORes) : ORes := match find i fz with
 | none => r
 | some b => match r.v with
  | .bool (.sym g) => { r with v := .bool (.lit b), vc := some ((match r.vc with | some p => p | none => True) ∧ g = b) }
  | _ => r
def runR (E : Env) (fr : List (Nat × SVal)) (hp : List (Nat × Option Cont)) (sz : Nat) : List Oper → Nat → RS → Except String RS
 | [], _, rs => .ok rs
 | o :: rest, i, rs =>
  match dstFit sz rs.recs o.dst with
  | false => .error "dst"
  | true => match guardOf rs.recs o.guard with
   | none => .error "guard"
   | some (.lit false) =>
    runR E fr hp sz rest (i + 1) { rs with recs := { idx := i, dst := o.dst, key := none, g := .lit false, v := .any, ws := [], next := rs.next, k := 0, tch := [] } :: rs.recs }
   | some g =>
    let κ : Key := match g with | .lit _ => none | .sym _ => o.guard
    match stepR E fr hp rs.recs rs.next o κ with
    | .error s => .error s
    | .ok (r0, tch) =>
     let r := forced E.fz i r0
     runR E fr hp sz rest (i + 1) {
      next := rs.next + r.k
      recs := { idx := i, dst := o.dst, key := κ, g := g, v := r.v, ws := r.ws, next := rs.next, k := r.k, tch := tch } :: rs.recs
      vc := vcOf g r.vc rs.vc }
def bindsB : Ground → Bool
 | .textOnly _ => false
 | .gcOnly _ => false
 | _ => true
def maskAt : List Nat → Nat → Nat → Nat
 | [], _, _ => 0
 | m :: l, n, i => match n.beq (i + 1) with
  | true => m
  | false => maskAt l (n - 1) i
def masks : List Oper → Nat → List Nat → List Nat
 | [], _, acc => acc
 | o :: l, n, acc => masks l (n + 1) ((o.after.toList.foldl (fun m e => match bindsB e.ground with | true => Nat.lor m (Nat.lor (Nat.pow 2 e.on) (maskAt acc n e.on)) | false => m) 0) :: acc)
def readsOf (ops : List Oper) (o : Oper) : List Nat :=
 (o.op.operands.toList.filterMap fun | .tmp t => some t | _ => none) ++ match o.guard with
  | some (j, _) => match ops[j]? with
   | some p => match p.dst with | some d => [d] | none => []
   | none => []
  | none => []
def meets (a b : List Nat) : Bool := a.any fun x => memN x b
def memD : Option Nat → List Nat → Bool
 | some d, l => memN d l
 | none, _ => false
def keysN : List (Nat × Option Cont) → List Nat
 | [] => []
 | (r, _) :: l => r :: keysN l
def hard (a b : Rec) (ra rb : List Nat) : Bool :=
 memD a.dst rb || memD b.dst ra || meets (keysN a.ws) b.tch || meets (keysN a.ws) (keysN b.ws)
def soft (a b : Rec) : Bool := meets (keysN b.ws) a.tch
def isNext (sb : Option Nat) (i : Nat) : Bool := match sb with
 | some j => j.beq i
 | none => false
def orderedAll (ops : List Oper) (ms : List Nat) (n : Nat) (sb : Option Nat) : List (Rec × List Nat) → Bool
 | [] => true
 | (b, rb) :: l => l.all (fun (a, ra) => match hard a b ra rb with
   | true => Nat.testBit (maskAt ms n b.idx) a.idx
   | false => match soft a b with
    | true => Nat.testBit (maskAt ms n b.idx) a.idx || isNext sb b.idx
    | false => true) && orderedAll ops ms n sb l
def edgesOk : List Oper → Nat → Bool
 | [], _ => true
 | o :: l, n => o.after.toList.all (fun e => match bindsB e.ground with | true => Nat.ble (e.on + 1) n | false => true) && edgesOk l (n + 1)
def softIdx (ms : List Nat) (n : Nat) : List Rec → Option Nat
 | [] => none
 | b :: l => match l.any (fun a => soft a b && !Nat.testBit (maskAt ms n b.idx) a.idx) with
  | true => some b.idx
  | false => softIdx ms n l
def drawOk (ops : List Oper) (recs : List Rec) : Bool :=
 edgesOk ops 0 && orderedAll ops (masks ops 0 []) ops.length (softIdx (masks ops 0 []) ops.length recs) (recs.map fun r => (r, match ops[r.idx]? with | some o => readsOf ops o | none => []))
def subN (l l' : List Nat) : Bool := match l with
 | [] => true
 | n :: l => memN n l' && subN l l'
def nilB {α : Type} : List α → Bool
 | [] => true
 | _ => false
def commP (E : Env) (fr : List (Nat × SVal)) (hp : List (Nat × Option Cont)) (l : List Rec) (a : Rec) (o : Oper) (b : Rec) : Prop :=
 match (sop E o (evR E fr l a.key none) a.next).run (fun n => match find n b.ws with | some c => c | none => lookR hp l a.key n) [] with
 | .ok (r, tch) => (subN tch a.tch = true ∧ nilB a.ws = true ∧ nilB r.ws = true ∧ a.k = 0 ∧ r.k = 0) ∧ (a.g.val = true → r.v = a.v ∧ match r.vc with | none => True | some p => p)
 | .error _ => False
def commsAt (E : Env) (fr : List (Nat × SVal)) (hp : List (Nat × Option Cont)) (ops : List Oper) (ms : List Nat) (b : Rec) : List Rec → List Prop
 | [] => []
 | a :: l => (match Nat.ble (a.idx + 1) b.idx && (soft a b && !Nat.testBit (maskAt ms ops.length b.idx) a.idx) with
  | true => match ops[a.idx]? with
   | some o => [commP E fr hp l a o b]
   | none => [False]
  | false => []) ++ commsAt E fr hp ops ms b l
def comms (E : Env) (fr : List (Nat × SVal)) (hp : List (Nat × Option Cont)) (ops : List Oper) (recs : List Rec) : List Prop :=
 match softIdx (masks ops 0 []) ops.length recs with
 | none => []
 | some i => match recAt recs i with
  | some b => commsAt E fr hp ops (masks ops 0 []) b recs
  | none => [False]
def keyed {α : Type} (d a : α) : Key → α
 | none => a
 | some _ => d
def leaveF (fr : List (Nat × SVal)) : List Rec → List (Nat × SVal)
 | [] => fr
 | r :: l => match r.dst with
  | some d => (d, keyed .any r.v r.key) :: leaveF fr l
  | none => leaveF fr l
def leaveH (hp : List (Nat × Option Cont)) : List Rec → List (Nat × Option Cont)
 | [] => hp
 | r :: l => r.ws.map (fun (n, c) => (n, keyed none c r.key)) ++ leaveH hp l
inductive Exi where
 | normal | ret | exit (id : Nat)
inductive Tr where
 | leaf (e : Exi) (s : SState)
 | ite (b : Bool) (t f : Tr)
 | req (p : Prop) (t : Tr)
 | prop (p : Prop)
 | both (t u : Tr)
 | fail (why : String)
def Tr.sat (Q : Exi → SState → Prop) : Tr → Prop
 | .leaf e s => Q e s
 | .ite b t f => (b = true → t.sat Q) ∧ (b = false → f.sat Q)
 | .req p t => p ∧ (p → t.sat Q)
 | .prop p => p
 | .both t u => t.sat Q ∧ u.sat Q
 | .fail _ => False
def reqs : List Prop → Tr → Tr
 | [], t => t
 | p :: l, t => reqs l (.req p t)
structure LSum where
 head : SState
 out : (Exi → SState → Tr) → Tr
 pre : Prop
def subI (k : IntKind) (a b : SI) : List Prop := match b with
 | .lit n => [a.val = n]
 | .full n => [a.val = n]
 | .sym n lo hi => match leB lo (a.lo k) && leB (a.hi k) hi with
  | true => [a.val = n]
  | false => [a.val = n, lo ≤ n ∧ n ≤ hi]
def rng : List (Nat × Nat) → Nat → Bool
 | [], _ => false
 | (_, q) :: l, r => q.beq r || rng l r
def eqB : Bool → Bool → Bool
 | true, true => true
 | false, false => true
 | _, _ => false
def nilN : Nat := 1099511627776
def same (q r : Nat) : Bool := match Nat.ble nilN q with
 | true => false
 | false => q.beq r
def castM {k k' : FK} {t t' : RT} (h : k = k') (h' : t = t') (m : Option (List (k.ty × t.ty))) : Option (List (k'.ty × t'.ty)) := h ▸ h' ▸ m
mutual
def sub (tAt : Nat) (look : Nat → Option Cont) (σ : List (Nat × Nat)) : Nat → SVal → SVal → List Prop
 | _, _, .any => []
 | _, .int k a, .int k' b => match kEq k k' with
  | true => subI k a b
  | false => [False]
 | _, .bool a, .bool b => [a.val = b.val]
 | _, .str a, .str b => [a = b]
 | _, .nilptr, .nilptr => []
 | _, .ptr r off, .ptr r' off' => match find r' σ with
  | some q => match same q r && off.beq off' with | true => [] | false => [False]
  | none => [False]
 | n + 1, .ptr r 0, .rop l' => match rng σ r, look r with
  | false, some (.cells l) => subL tAt look σ n l l'
  | _, _ => [False]
 | n + 1, .ptr r 0, .ropO c l' => match rng σ r, look r with
  | false, some (.cells l) => (c = true) :: subL tAt look σ n l l'
  | _, _ => [False]
 | _, .nilptr, .ropO c l' => [c = false]
 | n + 1, .rop l, .ropO c l' => (c = true) :: subL tAt look σ n l l'
 | n + 1, .ropO c l, .rop l' => (c = true) :: subL tAt look σ n l l'
 | n + 1, .ropO c l, .ropO c' l' => (c = c') :: subL tAt look σ n l l'
 | _, .own r, .own r' => match find r' σ with
  | some q => match same q r with | true => [] | false => [False]
  | none => [False]
 | _, .nilslice, .own r' => match find r' σ with
  | some q => match Nat.ble nilN q with | true => [] | false => [False]
  | none => [False]
 | _, .own r, .ro t l => match rng σ r, look r with
  | false, some (.recs t' l') => match decEq t' t with
   | .isTrue h => [h ▸ l' = l]
   | .isFalse _ => [False]
  | _, _ => [False]
 | _, .view t r k n, .view t' r' k' n' => match find r' σ, decide (t = t') with
  | some q, true => match same q r with | true => [k = k', n = n'] | false => [False]
  | _, _ => [False]
 | _, .ro t l, .ro t' l' => match decEq t t' with
  | .isTrue h => [h ▸ l = l']
  | .isFalse _ => [False]
 | _, .nilslice, .nilslice => []
 | _, .nilslice, .ro t l => [l = []]
 | _, .nilmap, .nilmap => []
 | _, .nilmap, .rom k t m => [m = none]
 | _, .rom k t m, .rom k' t' m' => match decEq k k', decEq t t' with
  | .isTrue h, .isTrue h' => [castM h h' m = m']
  | _, _ => [False]
 | _, .map r, .rom k t m => match rng σ r, look r with
  | false, some (.gmap k' t' m') => match decEq k' k, decEq t' t with
   | .isTrue h, .isTrue h' => [castM h h' (some m') = m]
   | _, _ => [False]
  | false, some (.intMap m') => match decEq (FK.int .i64) k, decEq RT.i64 t with
   | .isTrue h, .isTrue h' => [castM (k := .int .i64) (t := .i64) h h' (some m') = m]
   | _, _ => [False]
  | _, _ => [False]
 | _, .map r, .map r' => match find r' σ with
  | some q => match same q r with | true => [] | false => [False]
  | none => [False]
 | _, .nilFunc, .nilFunc => []
 | n + 1, .func f c, .func f' c' => match f.beq f' with
  | true => subL tAt look σ n c c'
  | false => [False]
 | n + 1, .bound f c, .bound f' c' => match f.beq f' with
  | true => subL tAt look σ n c c'
  | false => [False]
 | _, .nilIface, .nilIface => []
 | _, .err e, .err e' => [e = e']
 | _, .nilIface, .err e => [FErr.fine = e]
 | _, .iface t (.ptr r 0), .err e => match t.beq tAt, rng σ r, look r with
  | true, false, some (.cells [.int .i64 p, .err e']) => [e = match e' with | .bare n => .placed n p.val | _ => .fine, e'.isErr = true, e'.isPlaced = false]
  | _, _, _ => [False]
 | n + 1, .iface t v, .iface t' v' => match t.beq t' with
  | true => sub tAt look σ n v v'
  | false => [False]
 | n + 1, .agg l, .agg l' => subL tAt look σ n l l'
 | n + 1, .tuple l, .tuple l' => subL tAt look σ n l l'
 | n + 1, .rop l, .rop l' => subL tAt look σ n l l'
 | _, .arr t n l, .arr t' n' l' => match decEq t t', n.beq n' with
  | .isTrue h, true => [h ▸ l = l']
  | _, _ => [False]
 | _, .eptr r w i j, .eptr r' w' i' j' => match find r' σ with
  | some q => match same q r && w.beq w' && j.beq j' with | true => [i = i'] | false => [False]
  | none => [False]
 | _, _, _ => [False]
def subL (tAt : Nat) (look : Nat → Option Cont) (σ : List (Nat × Nat)) : Nat → List SVal → List SVal → List Prop
 | _, [], [] => []
 | n + 1, a :: l, b :: l' => match eqB a.isArr b.isArr with
  | true => sub tAt look σ n a b ++ subL tAt look σ n l l'
  | false => [False]
 | _, _, _ => [False]
end
def deep : Nat := 100
def castL {k k' : FK} {t t' : RT} (h : k = k') (h' : t = t') (l : List (Option (List (k.ty × t.ty)))) : List (Option (List (k'.ty × t'.ty))) := h ▸ h' ▸ l
def subC (tAt : Nat) (look : Nat → Option Cont) (σ : List (Nat × Nat)) : Option Cont → Option Cont → List Prop
 | _, none => []
 | some (.cells l), some (.cells l') => subL tAt look σ deep l l'
 | some (.recs t l), some (.recs t' l') => match decEq t t' with
  | .isTrue h => [h ▸ l = l']
  | .isFalse _ => [False]
 | some (.row w l), some (.row w' l') => match w.beq w' with
  | true => subL tAt look σ deep l l'
  | false => [False]
 | some (.strMap m), some (.strMap m') => [m = m']
 | some (.intMap m), some (.intMap m') => [m = m']
 | some (.gmap k t m), some (.gmap k' t' m') => match decEq k k', decEq t t' with
  | .isTrue h, .isTrue h' => [castM h h' (some m) = some m']
  | _, _ => [False]
 | some (.opn k t l i v), some (.recs (.fmap k' t') l') => match v, decEq k k', decEq t t' with
  | .map q, .isTrue h, .isTrue h' => match rng σ q, look q with
   | false, some (.gmap k2 t2 m) => match decEq k2 k', decEq t2 t' with
    | .isTrue g, .isTrue g' => [castL h h' (l.set i.toNat (castM (g.trans h.symm) (g'.trans h'.symm) (some m))) = l']
    | _, _ => [False]
   | _, _ => [False]
  | _, _, _ => [False]
 | some (.opn k t l i v), some (.opn k' t' l' i' v') => match decEq k k', decEq t t' with
  | .isTrue h, .isTrue h' => [castL h h' l = l', i = i'] ++ match v, v' with
   | .map q, .map q' => sub tAt look σ deep (.map q) (.map q')
   | _, _ => [False]
  | _, _ => [False]
 | _, _ => [False]
def lookS (hp : List (Nat × Option Cont)) (r : Nat) : Option Cont := (find r hp).getD none
def all : List Prop → Prop
 | [] => True
 | [p] => p
 | p :: l => p ∧ all l
def sndN : List (Nat × Nat) → List Nat
 | [] => []
 | (_, q) :: l => q :: sndN l
def nodupB : List Nat → Bool
 | [] => true
 | r :: l => match memN r l with
  | true => false
  | false => nodupB l
def fstLt (next : Nat) : List (Nat × Nat) → Bool
 | [] => true
 | (r, _) :: l => Nat.ble (r + 1) next && fstLt next l
def oldOk (old : List Nat) (σ : List (Nat × Nat)) : Bool := match old with
 | [] => true
 | n :: l => (match find n σ with | some q => same q n | none => false) && oldOk l σ
def nilC : Option Cont → List Prop
 | none => []
 | some (.recs t l) => [l = []]
 | _ => [False]
def subSt (E : Env) (σ : List (Nat × Nat)) (s t : SState) : List Prop :=
 t.fr.flatMap (fun (n, v) => sub E.tAt (lookS s.hp) σ deep ((find n s.fr).getD .any) v) ++
 t.hp.flatMap (fun (r, c) => match find r σ with
  | some q => match Nat.ble nilN q with
   | true => nilC c
   | false => subC E.tAt (lookS s.hp) σ (lookS s.hp q) c
  | none => [False]) ++ match s.sz.beq t.sz && nodupB (sndN σ) && fstLt t.next σ && oldOk E.old σ with | true => [] | false => [False]
def addN (r' r : Nat) (σ : List (Nat × Nat)) : List (Nat × Nat) := match find r' σ with
 | some _ => σ
 | none => (r', r) :: σ
mutual
def mt : Nat → SVal → SVal → List (Nat × Nat) → List (Nat × Nat)
 | _, .ptr r _, .ptr r' _, σ => addN r' r σ
 | _, .own r, .own r', σ => addN r' r σ
 | _, .nilslice, .own r', σ => addN r' (Nat.add nilN r') σ
 | _, .map r, .map r', σ => addN r' r σ
 | _, .view _ r _ _, .view _ r' _ _, σ => addN r' r σ
 | _, .eptr r _ _ _, .eptr r' _ _ _, σ => addN r' r σ
 | n + 1, .iface _ v, .iface _ v', σ => mt n v v' σ
 | n + 1, .agg l, .agg l', σ => mtL n l l' σ
 | n + 1, .tuple l, .tuple l', σ => mtL n l l' σ
 | n + 1, .rop l, .rop l', σ => mtL n l l' σ
 | n + 1, .ropO _ l, .rop l', σ => mtL n l l' σ
 | n + 1, .ropO _ l, .ropO _ l', σ => mtL n l l' σ
 | n + 1, .func _ l, .func _ l', σ => mtL n l l' σ
 | n + 1, .bound _ l, .bound _ l', σ => mtL n l l' σ
 | _, _, _, σ => σ
def mtL : Nat → List SVal → List SVal → List (Nat × Nat) → List (Nat × Nat)
 | n + 1, a :: l, b :: l', σ => mtL n l l' (mt n a b σ)
 | _, _, _, σ => σ
end
def mtF (fr : List (Nat × SVal)) : List (Nat × SVal) → List (Nat × Nat) → List (Nat × Nat)
 | [], σ => σ
 | (n, v) :: l, σ => mtF fr l (mt deep ((find n fr).getD .any) v σ)
def mtC : Option Cont → Option Cont → List (Nat × Nat) → List (Nat × Nat)
 | some (.cells l), some (.cells l'), σ => mtL deep l l' σ
 | some (.opn _ _ _ _ v), some (.opn _ _ _ _ v'), σ => mt deep v v' σ
 | some (.row _ l), some (.row _ l'), σ => mtL deep l l' σ
 | _, _, σ => σ
def mtH (hp : List (Nat × Option Cont)) : List (Nat × Option Cont) → List (Nat × Nat) → List (Nat × Nat)
 | [], σ => σ
 | (r, c) :: l, σ => mtH hp l (match find r σ with
  | some q => mtC (lookS hp q) c σ
  | none => σ)
def mtch (old : List Nat) (s t : SState) : List (Nat × Nat) :=
 let σ := mtF s.fr t.fr (old.map fun n => (n, n))
 mtH s.hp t.hp (mtH s.hp t.hp σ)
def headId : Code → Nat
 | .region id _ _ => id
 | .seq a _ => headId a
 | .block _ b => headId b
 | _ => 0
def SState.known (s : SState) (c : Operand) (b : Bool) : SState := match c with
 | .tmp t => { s with fr := (t, .bool (.lit b)) :: s.fr }
 | _ => s
def cut (E : Env) (ls : List (Nat × LSum)) (id : Nat) (s : SState) (k : Exi → SState → Tr) : Tr := match find (Nat.add id 1000000) ls with
 | some L => .req (all (subSt E (mtch E.old s L.head) s L.head)) (k .normal L.head)
 | none => k .normal s
def splitN (s : SState) (t : Nat) (kk : IntKind) (n : Int) (f : SState → Tr) : Nat → Int → Tr
 | 0, c => .req (n = c) (f { s with fr := (t, .int kk (.lit c)) :: s.fr })
 | m + 1, c => .ite (decide (n = c)) (f { s with fr := (t, .int kk (.lit c)) :: s.fr }) (splitN s t kk n f m (c + 1))
def forkI (s : SState) (t : Nat) (c : Int) (f : SState → Tr) : Tr := match find t s.fr with
 | some (.int kk x) => .ite (decide (x.val < c)) (f { s with fr := (t, .int kk (.sym x.val (x.lo kk) (c - 1))) :: s.fr }) (f { s with fr := (t, .int kk (.sym x.val c (x.hi kk))) :: s.fr })
 | _ => .fail "fork"
def split (ls : List (Nat × LSum)) (id : Nat) (k : Exi → SState → Tr) (e : Exi) (s : SState) : Tr := match find (Nat.add id 3000000) ls with
 | none => k e s
 | some L => match L.head.fr with
  | (t, .int _ (.lit c)) :: _ => forkI s t c (k e)
  | (t, _) :: _ => match find t s.fr with
   | some (.int kk (.sym n lo hi)) => splitN s t kk n (k e) (hi - lo).toNat lo
   | some (.bool (.sym b)) => .ite b (k e { s with fr := (t, .bool (.lit true)) :: s.fr }) (k e { s with fr := (t, .bool (.lit false)) :: s.fr })
   | _ => .fail "split"
  | [] => .fail "split"
def unroll (f : SState → (Exi → SState → Tr) → Tr) : Nat → SState → (Exi → SState → Tr) → Tr
 | 0, _, _ => .fail "loop"
 | n + 1, s, k => f s fun e s' => match e with
  | .normal => unroll f n s' k
  | e => k e s'
def regionT (E : Env) (ls : List (Nat × LSum)) (id : Nat) (ops : Array Oper) (draw : Bool) (s : SState) (k : Exi → SState → Tr) : Tr :=
 match runR E s.fr s.hp s.sz ops.toList 0 { next := s.next, recs := [], vc := [] } with
  | .error why => .fail why
  | .ok rs => match draw with
   | false => reqs rs.vc (cut E ls id { fr := leaveF s.fr rs.recs, hp := leaveH s.hp rs.recs, next := rs.next, sz := s.sz } (split ls id k))
   | true => match drawOk ops.toList rs.recs with
    | true => reqs (comms E s.fr s.hp ops.toList rs.recs ++ rs.vc) (cut E ls id { fr := leaveF s.fr rs.recs, hp := leaveH s.hp rs.recs, next := rs.next, sz := s.sz } (split ls id k))
    | false => .fail "draw"
def truthAt (j : Nat) : List Rec → Option Bool
 | [] => none
 | r :: l => match r.idx.beq j with
  | true => match r.v with
   | .bool (.sym g) => some g
   | _ => none
  | false => truthAt j l
def regionS (E : Env) (ls : List (Nat × LSum)) (id : Nat) (ops : Array Oper) (draw : Bool) (s : SState) (k : Exi → SState → Tr) : List (Nat × SVal) → List (Nat × Bool) → Tr
 | [], fz => regionT { E with fz := fz } ls id ops draw s k
 | (j, _) :: js, fz => match runR { E with fz := fz } s.fr s.hp s.sz ops.toList 0 { next := s.next, recs := [], vc := [] } with
  | .error why => .fail why
  | .ok rs => match truthAt j rs.recs with
   | some g => .ite g (regionS E ls id ops draw s k js ((j, true) :: fz)) (regionS E ls id ops draw s k js ((j, false) :: fz))
   | none => regionS E ls id ops draw s k js fz
def run (E : Env) (ls : List (Nat × LSum)) : Code → SState → (Exi → SState → Tr) → Tr
 | .skip, s, k => k .normal s
 | .label _, s, k => k .normal s
 | .ret, s, k => k .ret s
 | .exit id, s, k => k (.exit id) s
 | .region id ops draw, s, k => match find (Nat.add id 4000000) ls with
  | none => regionT E ls id ops draw s k
  | some L => regionS E ls id ops draw s k L.head.fr []
 | .seq a b, s, k => match find (Nat.add (headId b) 2000000) ls with
  | none => run E ls a s fun e s' => match e with
   | .normal => run E ls b s' k
   | e => k e s'
  | some L => .both (run E ls a s fun e s' => match e with
   | .normal => .prop (all (subSt E (mtch E.old s' L.head) s' L.head))
   | e => k e s') (run E ls b L.head k)
 | .cond c a b, s, k => match evR E s.fr [] none none c with
  | .bool (.lit true) => run E ls a s k
  | .bool (.lit false) => run E ls b s k
  | .bool (.sym β) => .ite β (run E ls a (s.known c true) k) (run E ls b (s.known c false) k)
  | _ => .fail "cond"
 | .block id b, s, k => run E ls b s fun e s' => match e with
  | .exit id' => match id'.beq id with
   | true => k .normal s'
   | false => k (.exit id') s'
  | e => k e s'
 | .loop b, s, k => match find (headId b) ls with
  | some L => .req (all (L.pre :: subSt E (mtch E.old s L.head) s L.head)) (L.out k)
  | none => unroll (run E [] b) 40 s k
 | _, _, _ => .fail "code"
end Go.Sy
namespace Go.Sy
mutual
def names : Nat → SVal → List Nat
 | _, .ptr r _ => [r]
 | _, .eptr r _ _ _ => [r]
 | _, .aptr r _ _ _ _ _ => [r]
 | _, .own r => [r]
 | _, .view _ r _ _ => [r]
 | _, .map r => [r]
 | n + 1, .func _ c => namesL n c
 | n + 1, .bound _ c => namesL n c
 | n + 1, .iface _ v => names n v
 | n + 1, .agg l => namesL n l
 | n + 1, .tuple l => namesL n l
 | n + 1, .rop l => namesL n l
 | n + 1, .ropO _ l => namesL n l
 | _, _ => []
def namesL : Nat → List SVal → List Nat
 | n + 1, a :: l => names n a ++ namesL n l
 | _, _ => []
end
def namesC : Option Cont → List Nat
 | some (.cells l) => namesL deep l
 | some (.row _ l) => namesL deep l
 | some (.opn _ _ _ _ v) => names deep v
 | _ => []
def reach (hp : List (Nat × Option Cont)) : Nat → List Nat → List Nat → List Nat
 | 0, _, acc => acc
 | _, [], acc => acc
 | n + 1, r :: l, acc => match memN r acc with
  | true => reach hp n l acc
  | false => reach hp n (namesC (lookS hp r) ++ l) (acc ++ [r])
def resV (E : Env) (s : SState) : ResultVar → Option SVal
 | .tmp t => some ((find t s.fr).getD .any)
 | .cell a t => match find a s.fr, find t E.tab with
  | some (.ptr r 0), some ti => match lookS s.hp r with
   | some (.cells l) => match (valOf ti l).run (lookS s.hp) [] with
    | .ok (v, _) => some v
    | .error _ => none
   | _ => none
  | _, _ => none
def resVs (E : Env) (s : SState) : List ResultVar → Option (List SVal)
 | [] => some []
 | r :: l => match resV E s r, resVs E s l with
  | some v, some vs => some (v :: vs)
  | _, _ => none
def oneOf : List SVal → SVal
 | [v] => v
 | l => .tuple l
def ends (E : Env) (rv : List ResultVar) (e : Exi) (s : SState) : Tr :=
 match e with
 | .exit _ => .fail "exit"
 | _ => match resVs E s rv with
  | some vs =>
   let v := oneOf vs
   .leaf .ret { fr := [(0, v)], hp := (reach s.hp deep (E.old ++ names deep v) []).map fun r => (r, lookS s.hp r), next := s.next, sz := 1 }
  | none => .fail "results"
end Go.Sy

set_option linter.unusedVariables false
set_option linter.unusedSimpArgs false
namespace Go.Sy
open Go.RowKit
def ownOf (ρ : Nat → Option Value) (h : Nat → Option Cont) (b : Nat) : Prop := ∃ r c v, h r = some c ∧ ρ r = some v ∧ blk v = some b
structure Bt (W : World) (R own : Nat → Prop) (W' : World) (R' own' : Nat → Prop) : Prop where
 os : W'.os = W.os
 tape : W'.tape = W.tape
 output : W'.output = W.output
 size : W.heap.size ≤ W'.heap.size
 Rm : ∀ b, R b → R' b
 Rn : ∀ b, R' b → R b ∨ W.heap.size ≤ b ∨ own b
 keep : ∀ k, k < W.heap.size → ¬ own k → W'.heap[k]? = W.heap[k]?
 owned : ∀ b, own' b → own b ∨ W.heap.size ≤ b
section
variable {C : Ctx} {gl : List (Nat × SVal)} {W W' W'' : World} {R R' R'' own own' own'' : Nat → Prop} {ρ ρ' : Nat → Option Value} {h h' : Nat → Option Cont}
theorem Bt.refl : Bt W R own W R own := ⟨rfl, rfl, rfl, Nat.le_refl _, fun _ h => h, fun _ h => .inl h, fun _ _ _ => rfl, fun _ h => .inl h⟩
theorem Bt.trans (a : Bt W R own W' R' own') (b : Bt W' R' own' W'' R'' own'') : Bt W R own W'' R'' own'' where
 os := b.os.trans a.os
 tape := b.tape.trans a.tape
 output := b.output.trans a.output
 size := Nat.le_trans a.size b.size
 Rm x h := b.Rm x (a.Rm x h)
 Rn x h := (b.Rn x h).elim (a.Rn x) fun g => g.elim (fun g => .inr (.inl (Nat.le_trans a.size g))) fun g => (a.owned x g).elim (fun g => .inr (.inr g)) fun g => .inr (.inl g)
 keep k hk ho := (b.keep k (Nat.lt_of_lt_of_le hk a.size) fun h => (a.owned k h).elim ho fun g => absurd hk (Nat.not_lt.2 g)).trans (a.keep k hk ho)
 owned x h := (b.owned x h).elim (a.owned x) fun g => .inr (Nat.le_trans a.size g)
theorem Bt.weaken (a : Bt W R own W' R' own') (hw : ∀ b, own'' b → own' b) : Bt W R own W' R' own'' :=
 { a with owned := fun b h => a.owned b (hw b h) }
theorem Bt.world (a : Bt W R own W' R' own') (e : W''.os = W'.os ∧ W''.tape = W'.tape ∧ W''.output = W'.output ∧ W''.heap = W'.heap) : Bt W R own W'' R' own' where
 os := e.1.trans a.os
 tape := e.2.1.trans a.tape
 output := e.2.2.1.trans a.output
 size := by rw [e.2.2.2]; exact a.size
 Rm := a.Rm
 Rn := a.Rn
 keep k h1 h2 := by rw [e.2.2.2]; exact a.keep k h1 h2
 owned := a.owned
theorem Trans.bt {ws : List (Nat × Option Cont)} (t : Trans C gl W R ρ h ws W' R' ρ') : Bt W R (ownOf ρ h) W' R' (ownOf ρ' (upd h ws)) where
 os := t.os
 tape := t.tape
 output := t.output
 size := t.size
 Rm := t.Rm
 Rn b hb := (t.Rn b hb).imp id fun g => g.imp id fun ⟨r, c, v, _, h1, h2, h3⟩ => ⟨r, c, v, h1, h2, h3⟩
 keep k h1 h2 := t.keep k h1 fun r c v _ hc hv hb => h2 ⟨r, c, v, hc, hv, hb⟩
 owned b hb := by
  obtain ⟨r, c, v, hc, hv, hb⟩ := hb
  exact (t.owned r c v b hc hv hb).imp (fun ⟨r0, c0, v0, _, g1, g2, g3⟩ => ⟨r0, c0, v0, g1, g2, g3⟩) id
theorem ownOf.weaken (hw : ∀ r c, h' r = some c → h r = some c) : ∀ b, ownOf ρ h' b → ownOf ρ h b := fun b ⟨r, c, v, h1, h2, h3⟩ => ⟨r, c, v, hw r c h1, h2, h3⟩
theorem Mem.weaken (M : Mem C gl W R ρ h) (hw : ∀ r c, h' r = some c → h r = some c) : Mem C gl W R ρ h' where
 base := M.base
 at_ r c hc := M.at_ r c (hw r c hc)
 apart r r' c c' v v' b h1 h2 h3 h4 h5 h6 := M.apart r r' c c' v v' b (hw _ _ h1) (hw _ _ h2) h3 h4 h5 h6
 off r c v b h1 h2 h3 := M.off r c v b (hw _ _ h1) h2 h3
end
end Go.Sy

set_option linter.unusedVariables false
set_option linter.unusedSimpArgs false
namespace Go.Sy
open Go.RowKit
section
variable {p q : Rec → Bool} {recs : List Rec} {hp : List (Nat × Option Cont)}
theorem slotOf_filter {d : Nat} (h : ∀ r ∈ recs, isDst r.dst d = true → p r = q r) : slotOf (recs.filter p) d = slotOf (recs.filter q) d := by
 induction recs with
 | nil => rfl
 | cons r l ih =>
  have ih := ih fun r hr => h r (List.mem_cons_of_mem _ hr)
  cases hd : isDst r.dst d with
  | true =>
   have := h r (List.mem_cons_self ..) hd
   simp only [List.filter_cons, this]
   split
   ·simp only [slotOf, hd]
   ·exact ih
  | false =>
   simp only [List.filter_cons]
   split <;> split <;> simp only [slotOf, hd, ih]
theorem contOf_filter {n : Nat} (h : ∀ r ∈ recs, (∃ c, find n r.ws = some c) → p r = q r) : contOf hp (recs.filter p) n = contOf hp (recs.filter q) n := by
 induction recs with
 | nil => rfl
 | cons r l ih =>
  have ih := ih fun r hr => h r (List.mem_cons_of_mem _ hr)
  cases hd : find n r.ws with
  | some c =>
   have := h r (List.mem_cons_self ..) ⟨c, hd⟩
   simp only [List.filter_cons, this]
   split
   ·simp only [contOf, hd]
   ·exact ih
  | none =>
   simp only [List.filter_cons]
   split <;> split <;> simp only [contOf, hd, ih]
end
structure Added (E : Env) (ops : List Oper) (fr : List (Nat × SVal)) (hp : List (Nat × Option Cont)) (sz : Nat) (l : List Rec) (r : Rec) (o : Oper) : Prop where
 idx : r.idx = l.length
 op : ops[l.length]? = some o
 dst : r.dst = o.dst
 fit : dstFit sz l o.dst = true
 how : (guardOf l o.guard = some (.lit false) ∧ r.key = none ∧ r.g = .lit false ∧ r.v = .any ∧ r.ws = [] ∧ r.k = 0 ∧ r.tch = []) ∨
  ∃ res : ORes, guardOf l o.guard = some r.g ∧ r.g ≠ .lit false ∧ r.key = (match r.g with | .lit _ => none | .sym _ => o.guard) ∧
   stepR E fr hp l r.next o r.key = .ok (res, r.tch) ∧ (r.g.val = true → ∀ (C : Ctx) (W : World) (R : Nat → Prop) (ρ : Nat → Option Value) (v : Value), Den C W R ρ res.v v → Den C W R ρ r.v v) ∧ r.ws = res.ws ∧ r.k = res.k ∧ (∀ p, res.vc = some p → r.g.val = true → p)
inductive Built (E : Env) (ops : List Oper) (fr : List (Nat × SVal)) (hp : List (Nat × Option Cont)) (sz next0 : Nat) : List Rec → Nat → Prop
 | nil : Built E ops fr hp sz next0 [] next0
 | cons (l : List Rec) (r : Rec) (o : Oper) (next : Nat) : Built E ops fr hp sz next0 l next → Added E ops fr hp sz l r o → r.next = next → Built E ops fr hp sz next0 (r :: l) (next + r.k)
theorem vc_of {g : SB} {c : Option Prop} {l : List Prop} (h : ∀ p ∈ vcOf g c l, p) : (∀ p ∈ l, p) ∧ ∀ p, c = some p → g.val = true → p := by
 cases c with
 | none => exact ⟨h, fun p hp => by cases hp⟩
 | some q =>
  cases g with
  | lit b => exact ⟨fun p hp => h p (List.mem_cons_of_mem _ hp), fun p hp _ => by cases hp; exact h _ (List.mem_cons_self ..)⟩
  | sym b => exact ⟨fun p hp => h p (List.mem_cons_of_mem _ hp), fun p hp hg => by cases hp; exact h (b = true → q) (List.mem_cons_self ..) hg⟩
theorem forced_same (fz : List (Nat × Bool)) (i : Nat) (r : ORes) : (forced fz i r).ws = r.ws ∧ (forced fz i r).k = r.k := by
 unfold forced
 split
 ·exact ⟨rfl, rfl⟩
 ·split <;> exact ⟨rfl, rfl⟩
theorem forced_vc {fz : List (Nat × Bool)} {i : Nat} {r : ORes} {G : Prop} (h : ∀ p, (forced fz i r).vc = some p → G → p) : ∀ p, r.vc = some p → G → p := by
 unfold forced at h
 split at h
 ·exact h
 ·split at h
  ·intro p hp hg
   have := (h _ rfl hg).1
   rw [hp] at this
   exact this
  ·exact h
theorem forced_den {fz : List (Nat × Bool)} {i : Nat} {r : ORes} {G : Prop} (h : ∀ p, (forced fz i r).vc = some p → G → p) (hg : G) (C : Ctx) (W : World) (R : Nat → Prop) (ρ : Nat → Option Value) (v : Value) (hd : Den C W R ρ r.v v) : Den C W R ρ (forced fz i r).v v := by
 unfold forced at h ⊢
 split at h
 ·exact hd
 ·split at h
  ·rename_i b _ g e
   have hb := (h _ rfl hg).2
   rw [e] at hd
   cases hd with
   | bool _ =>
    subst hb
    exact .bool (.lit g)
  ·exact hd
theorem runR_built {E : Env} {ops : List Oper} {fr : List (Nat × SVal)} {hp : List (Nat × Option Cont)} {sz next0 : Nat} : ∀ {rest : List Oper} {i : Nat} {rs rs' : RS}, runR E fr hp sz rest i rs = .ok rs' → (∀ p ∈ rs'.vc, p) →
  ops.drop i = rest → i = rs.recs.length → i ≤ ops.length → ((∀ p ∈ rs.vc, p) → Built E ops fr hp sz next0 rs.recs rs.next) →
  (∀ p ∈ rs.vc, p) ∧ Built E ops fr hp sz next0 rs'.recs rs'.next ∧ rs'.recs.length = ops.length := by
 intro rest
 induction rest with
 | nil =>
  intro i rs rs' h hv hd hi hle hb
  simp only [runR, Except.ok.injEq] at h
  subst h
  refine ⟨hv, hb hv, ?_⟩
  have := List.drop_eq_nil_iff.1 hd
  omega
 | cons o rest ih =>
  intro i rs rs' h hv hd hi hle hb
  have hlt : i < ops.length := by
   apply Nat.lt_of_not_le; intro hc
   rw [List.drop_eq_nil_of_le hc] at hd; cases hd
  have ho : ops[i]? = some o := by
   have := congrArg (·[0]?) hd
   simpa using this
  have hd' : ops.drop (i + 1) = rest := by rw [← List.drop_drop, hd]; rfl
  simp only [runR] at h
  split at h
  ·cases h
  ·rename_i hfit
   split at h
   ·cases h
   ·rename_i hg
    have := ih h hv hd' (by simp [hi]) hlt fun hvv => Built.cons _ _ o _ (hb hvv) ⟨hi, by rw [← hi]; exact ho, rfl, hfit, .inl ⟨hg, rfl, rfl, rfl, rfl, rfl, rfl⟩⟩ rfl
    exact this
   ·rename_i g hng hg
    split at h
    ·cases h
    ·rename_i r0 tch hs
     have key := fun hvv : ∀ p ∈ vcOf g (forced E.fz i r0).vc rs.vc, p => vc_of hvv
     have same := forced_same E.fz i r0
     have := ih h hv hd' (by simp [hi]) hlt fun hvv => Built.cons _ _ o _ (hb (key hvv).1) ⟨hi, by rw [← hi]; exact ho, rfl, hfit, .inr ⟨r0, hg, fun e => hng e, rfl, hs, fun hgt => forced_den (key hvv).2 hgt, same.1, same.2, forced_vc (key hvv).2⟩⟩ rfl
     exact ⟨(key this.1).1, this.2⟩
end Go.Sy

set_option linter.unusedVariables false
set_option linter.unusedSimpArgs false
namespace Go.Sy
open Go.RowKit
def lastOf : List Rec → Nat → Option Rec
 | [], _ => none
 | r :: l, d => match isDst r.dst d with
  | true => some r
  | false => lastOf l d
def slotIs (C : Ctx) (W : World) (R : Nat → Prop) (ρ : Nat → Option Value) (fr : List (Nat × SVal)) (l : List Rec) (tmps : Array Value) (d : Nat) : Prop :=
 match lastOf l d with
 | some r => (r.g.val = true → Den C W R ρ r.v (tmps.getD d undef)) ∧ (r.g.val = false → tmps.getD d undef = undef)
 | none => Den C W R ρ ((find d fr).getD .any) (tmps.getD d undef)
def contT (hp : List (Nat × Option Cont)) : List Rec → Nat → Option Cont
 | [], n => (find n hp).getD none
 | r :: l, n => match r.g.val with
  | true => match find n r.ws with
   | some c => c
   | none => contT hp l n
  | false => contT hp l n
structure InvR (E : Env) (C : Ctx) (gl : List (Nat × SVal)) (W0 : World) (R0 own0 : Nat → Prop) (ρs : Nat → Option Value) (fr : List (Nat × SVal)) (hp : List (Nat × Option Cont)) (sz next1 : Nat) (recs : List Rec) (L : Rec → Bool)
  (a : Act) (W : World) (R : Nat → Prop) (ρ : Nat → Option Value) : Prop where
 slots : ∀ d, slotIs C W R ρ fr (recs.filter L) a.tmps d
 mem : Mem C gl W R ρ (contT hp (recs.filter L))
 size : a.tmps.size = sz
 bt : Bt W0 R0 own0 W R (ownOf ρ (contT hp (recs.filter L)))
 fresh : ∀ r ∈ recs, L r = false → ∀ j, j < r.k → ρ (r.next + j) = none
 above : ∀ n, next1 ≤ n → ρ n = none
 defers : a.defers = E.df
 ext : ∀ n v, ρs n = some v → ρ n = some v
section
variable {p q : Rec → Bool} {recs : List Rec} {hp : List (Nat × Option Cont)}
theorem lastOf_filter {d : Nat} (h : ∀ r ∈ recs, isDst r.dst d = true → p r = q r) : lastOf (recs.filter p) d = lastOf (recs.filter q) d := by
 induction recs with
 | nil => rfl
 | cons r l ih =>
  have ih := ih fun r hr => h r (List.mem_cons_of_mem _ hr)
  cases hd : isDst r.dst d with
  | true =>
   have := h r (List.mem_cons_self ..) hd
   simp only [List.filter_cons, this]
   split
   ·simp only [lastOf, hd]
   ·exact ih
  | false =>
   simp only [List.filter_cons]
   split <;> split <;> simp only [lastOf, hd, ih]
theorem contT_filter {n : Nat} (h : ∀ r ∈ recs, (∃ c, find n r.ws = some c) → p r = q r) : contT hp (recs.filter p) n = contT hp (recs.filter q) n := by
 induction recs with
 | nil => rfl
 | cons r l ih =>
  have ih := ih fun r hr => h r (List.mem_cons_of_mem _ hr)
  cases hd : find n r.ws with
  | some c =>
   have := h r (List.mem_cons_self ..) ⟨c, hd⟩
   simp only [List.filter_cons, this]
   split
   ·simp only [contT, hd, ih]
   ·exact ih
  | none =>
   simp only [List.filter_cons]
   split <;> split <;> simp only [contT, hd, ih] <;> split <;> rfl
theorem contT_filter2 {n : Nat} (h : ∀ r ∈ recs, r.g.val = true → (∃ c, find n r.ws = some c) → p r = q r) : contT hp (recs.filter p) n = contT hp (recs.filter q) n := by
 induction recs with
 | nil => rfl
 | cons r l ih =>
  have ih := ih fun r hr => h r (List.mem_cons_of_mem _ hr)
  cases hg : r.g.val with
  | false =>
   simp only [List.filter_cons]
   split <;> split <;> simp only [contT, hg, ih]
  | true =>
   cases hd : find n r.ws with
   | some c =>
    have := h r (List.mem_cons_self ..) hg ⟨c, hd⟩
    simp only [List.filter_cons, this]
    split
    ·simp only [contT, hd, ih]
    ·exact ih
   | none =>
    simp only [List.filter_cons]
    split <;> split <;> simp only [contT, hd, hg, ih]
theorem slotOf_last (l : List Rec) (d : Nat) : slotOf l d = (lastOf l d).map fun r => (r.key, r.v) := by
 induction l with
 | nil => rfl
 | cons r l ih => simp only [slotOf, lastOf]; split <;> simp_all
end
end Go.Sy
