/- Operations on memory: new slices, structs, lengths, conversions, maps. -/
import Derived.Test.YtbdfibaljoedpaaDoorSyMops5
import Derived.Great.BuildSlice
import Derived.Great.FillDense
import Derived.Laws.Tables
set_option linter.unusedVariables false
set_option linter.unusedSimpArgs false
namespace Go.Sy
open Go.RowKit

section
variable {C : Ctx} {gl : List (Nat × SVal)} {W : World} {R : Nat → Prop} {ρ : Nat → Option Value} {h : Nat → Option Cont} {P : Program}

/-- The parts' values. -/
def Parts (C : Ctx) (W : World) (R : Nat → Prop) (ρ : Nat → Option Value) : List (Nat × SVal) → List (Nat × Value) → Prop
  | [], [] => True
  | (i, s) :: l, (j, v) :: l' => i = j ∧ Den C W R ρ s v ∧ Parts C W R ρ l l'
  | _, _ => False

theorem inOrder_ok {sz : Nat} : ∀ {i : Nat} {ps : List (Nat × SVal)} {vs : List (Nat × Value)}, inOrder sz i ps = true → Parts C W R ρ ps vs →
    vs = ((vs.map (·.2)).zipIdx i).map (fun x => (x.2, x.1)) ∧ (∀ v ∈ vs.map (·.2), v.cells.size = sz) ∧ DenL C W R ρ (ps.flatMap fun p => cellsOf p.2) ((vs.map (·.2)).flatMap fun v => v.cells.toList) ∧ ps.length = vs.length
  | _, [], [], _, _ => ⟨rfl, by simp, .nil, rfl⟩
  | i, (j, s) :: ps, (j', v) :: vs, ho, ⟨e, hd, hp⟩ => by
    subst e
    simp only [inOrder, Bool.and_eq_true, Bool.not_eq_true'] at ho
    obtain ⟨⟨⟨o1, o2⟩, o3⟩, o4⟩ := ho
    have := beq_ok o1; subst this
    have o3 := beq_ok o3
    obtain ⟨q1, q2, q3, q4⟩ := inOrder_ok o4 hp
    have hc := cells_den hd o2
    have hl : v.cells.size = sz := by
      have := hc.len
      rw [show (cellsOf s |>.map SVal.width).sum = sz from o3] at this
      simpa using this
    refine ⟨?_, ?_, ?_, by simp [q4]⟩
    · simp only [List.map_cons, List.zipIdx_cons]
      rw [← q1]
    · intro u hu
      simp only [List.map_cons, List.mem_cons] at hu
      rcases hu with rfl | hu
      · exact hl
      · exact q2 u hu
    · simpa using hc.app q3
  | _, [], _ :: _, _, h => h.elim
  | _, _ :: _, [], _, h => h.elim

theorem recsOf_ok {t : RT} : ∀ {ps : List (Nat × SVal)} {l : List t.ty} {us : List Value}, recsOf t ps = some l → DenL C W R ρ (ps.flatMap fun p => cellsOf p.2) us → DenL C W R ρ (l.flatMap t.enc) us ∧ l.length = ps.length
  | [], l, us, he, hd => by
    simp [recsOf] at he
    subst he; exact ⟨hd, rfl⟩
  | (i, s) :: ps, l, us, he, hd => by
    simp only [recsOf] at he
    split at he
    · rename_i x l' h1 h2
      cases he
      rw [List.flatMap_cons] at hd
      obtain ⟨a, b, rfl, ha, hb⟩ := hd.split
      obtain ⟨q1, q2⟩ := recsOf_ok h2 hb
      exact ⟨by rw [List.flatMap_cons]; exact (dec_den h1 ha).app q1, by simp [q2]⟩
    · cases he

theorem own_new {cells : Array Value} {e n w : Nat} {xs : List Value} (hc : cells.toList = xs) (hl : xs.length = n * w) (hn : n ≤ maxLen) : (W.alloc (.cells cells e)).ownsRow 0 e w (.slice (some ⟨W.heap.size, 0, none⟩) n n) n xs :=
  ⟨hl, .inr ⟨W.heap.size, n, cells, rfl, Nat.zero_le _, Go.heap_alloc_new W _, Nat.le_refl _, hn, by rw [← hl, ← hc]; simp, by rw [hc, ← hl, List.take_length]⟩⟩

theorem buildSlice_ok (M : Mem C gl W R ρ h) {t e n next : Nat} {ei : TI} (ht : P.underlying t = some (.slice e)) (Te : TiOk P e ei) {ps : List (Nat × SVal)} {vs : List (Nat × Value)} (hps : Parts C W R ρ ps vs) (hn : ρ next = none)
    {r : ORes} {l l' : List Nat} (hr : (buildSliceS ei n next ps).run h l = .ok (r, l')) : MakeOk C gl W R ρ h P (Instr.buildSlice t n vs.toArray) r := by
  obtain ⟨i, z, i1, i2, i3, i4, i5, i6, i7⟩ := Te.i
  unfold buildSliceS at hr
  split at hr
  case h_2 => cases hr
  rename_i hb
  simp only [Bool.and_eq_true] at hb
  obtain ⟨⟨⟨⟨b1, b2⟩, b3⟩, b4⟩, b5⟩ := hb
  have b1 := Nat.le_of_ble_eq_true b1
  have b2 := beq_ok b2
  have b3 := Nat.le_of_ble_eq_true b3
  have b4 := Nat.le_of_ble_eq_true b4
  obtain ⟨q1, q2, q3, q4⟩ := inOrder_ok b5 hps
  have hlen : (vs.map (·.2)).length = n := by rw [List.length_map, ← q4, b2]
  have hfill := Great.fill_whole (s := ei.size) b4 (vs.map (·.2)) ((Array.range (n * ei.size)).map (z.cells[· % z.cells.size]!)) q2 (by rw [hlen]; simp)
  rw [← q1] at hfill
  have hrun := Go.run_buildSlice (P := P) W t e n vs.toArray _ i z ht i1 i4 (by rw [i2]; omega) (by rw [i2]; have := Nat.mul_pos b1 b4; omega) (by rw [i2]; simpa using hfill)
  have hxl : ((vs.map (·.2)).flatMap fun v => v.cells.toList).length = n * ei.size := by
    have : ∀ l : List Value, (∀ v ∈ l, v.cells.size = ei.size) → (l.flatMap fun v => v.cells.toList).length = l.length * ei.size := by
      intro l hl
      induction l with
      | nil => simp
      | cons v l ih =>
        rw [List.flatMap_cons, List.length_append, ih (fun u hu => hl u (List.mem_cons_of_mem _ hu)), List.length_cons, Nat.succ_mul]
        have := hl v (List.mem_cons_self ..)
        simp; omega
    rw [this _ q2, hlen]
  have hmax : n ≤ maxLen := by unfold maxLen; have := Nat.le_mul_of_pos_right n b4; omega
  split at hr
  · rename_i u hu
    obtain ⟨j1, j2, j3, j4⟩ := i7 u hu
    split at hr
    · rename_i xs hxs
      simp [Acc.run] at hr
      obtain ⟨rfl, _⟩ := hr
      obtain ⟨w1, w2⟩ := recsOf_ok hxs q3
      refine ⟨_, _, _, hrun, Trans.new M hn _ _ _ rfl fun kR => ⟨e, _, ?_, w1.mono (fun _ h => h) kR (bindN_mono hn)⟩, .own _ _ _ _ bindN_at⟩
      rw [w2, ← b2, ← j1]
      exact own_new rfl hxl hmax
    · cases hr
  · simp [Acc.run] at hr
    obtain ⟨rfl, _⟩ := hr
    refine ⟨_, _, _, hrun, Trans.new M hn _ _ _ rfl fun kR => ⟨e, _, n, own_new rfl hxl hmax, q3.mono (fun _ h => h) kR (bindN_mono hn), b4⟩, .own _ _ _ _ bindN_at⟩

theorem made_flat {t : RT} {zs : List Value} (hz : DenL C W R ρ (t.enc t.dflt) zs) : ∀ n, DenL C W R ρ ((List.replicate n t.dflt).flatMap t.enc) (List.replicate n zs).flatten
  | 0 => by simp; exact .nil
  | n + 1 => by
    rw [List.replicate_succ, List.replicate_succ, List.flatMap_cons, List.flatten_cons]
    exact hz.app (made_flat hz n)

theorem flat_at : ∀ (n : Nat) (zs : List Value) (k : Nat), 0 < zs.length → k < n * zs.length → (List.replicate n zs).flatten[k]? = zs[k % zs.length]?
  | 0, zs, k, h0, hk => by simp at hk
  | n + 1, zs, k, h0, hk => by
    rw [List.replicate_succ, List.flatten_cons]
    by_cases h : k < zs.length
    · rw [List.getElem?_append_left h, Nat.mod_eq_of_lt h]
    · rw [List.getElem?_append_right (by omega), flat_at n zs (k - zs.length) h0 (by rw [Nat.succ_mul] at hk; omega)]
      congr 1
      exact (Nat.mod_eq_sub_mod (by omega)).symm

theorem made_cells {z : Array Value} {c n : Nat} (h0 : 0 < z.size) (hn : n ≤ c) : ((madeCells z (c * z.size)).toList).take (n * z.size) = (List.replicate n z.toList).flatten := by
  apply List.ext_getElem?
  intro k
  rw [List.getElem?_take]
  by_cases hk : k < n * z.size
  · have hk' : k < c * z.size := Nat.lt_of_lt_of_le hk (Nat.mul_le_mul_right _ hn)
    rw [if_pos hk, flat_at n z.toList k (by simpa using h0) (by simpa using hk)]
    have hm : k % z.size < z.size := Nat.mod_lt _ h0
    simp [madeCells, hk', hm]
  · rw [if_neg hk]
    symm
    apply List.getElem?_eq_none
    simp; omega

theorem makeSlice_ok (M : Mem C gl W R ρ h) {t e next : Nat} {ei : TI} (ht : P.underlying t = some (.slice e)) (Te : TiOk P e ei) {u : RT} (hu : ei.rt = some u) {k k' : IntKind} {a b : SI} (ha : InI k a) (hb : InI k' b) (hn : ρ next = none)
    (hp : 0 ≤ a.val ∧ a.val ≤ b.val ∧ b.val ≤ 137438953472) :
    ∃ v W' ρ', (Instr.makeSlice t (.int k a.val) (.int k' b.val)).run P W = .ok v W' ∧ Trans C gl W R ρ h [(next, some (.recs u (List.replicate a.val.toNat u.dflt)))] W' R ρ' ∧ Den C W' R ρ' (.own next) v := by
  obtain ⟨i, z, i1, i2, i3, i4, i5, i6, i7⟩ := Te.i
  obtain ⟨j1, j2, j3, j4⟩ := i7 u hu
  obtain ⟨p0, p1, p2⟩ := hp
  have hby : (i.bytes : Int) * b.val ≤ 281474976710656 := by
    have h1 : (i.bytes : Int) ≤ 1024 := by omega
    have : (i.bytes : Int) * b.val ≤ 1024 * 137438953472 := Int.mul_le_mul h1 p2 (by omega) (by decide)
    omega
  have hrun := run_make (P := P) W t e i z ht i1 i4 k k' a.val b.val p0 p1 hby (by omega)
  have hzs : z.cells.size = u.w := i5.trans j1
  have his : i.size = z.cells.size := by rw [i2, i5]
  have hzl := j4 C W R ρ
  refine ⟨_, _, _, hrun, Trans.new M hn _ _ _ rfl fun kR => ⟨e, (List.replicate a.val.toNat z.cells.toList).flatten, ?_, (made_flat hzl _).mono (fun _ h => h) kR (bindN_mono hn)⟩, .own _ _ _ _ bindN_at⟩
  have hpos : 0 < z.cells.size := by omega
  refine ⟨by simp [hzs], .inr ⟨W.heap.size, b.val.toNat, _, ?_, Nat.zero_le _, Go.heap_alloc_new W _, ?_, by unfold maxLen; omega, ?_, ?_⟩⟩
  · simp
  · simp; omega
  · rw [his, size_madeCells, hzs]
  · rw [List.length_replicate, his, ← hzs]
    exact made_cells hpos (by omega)

end
end Go.Sy
