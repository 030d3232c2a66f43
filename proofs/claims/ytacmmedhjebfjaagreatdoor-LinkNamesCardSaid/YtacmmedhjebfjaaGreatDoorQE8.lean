/- Words that the proofs use, part 8. -/
import Derived.Test.YtacmmedhjebfjaaGreatDoorQE7
import Derived.Laws.MakeOwn
set_option linter.unusedVariables false
set_option linter.unusedSimpArgs false
namespace Go.Sy
open Go.RowKit
section
variable {C : Ctx} {gl : List (Nat × SVal)} {W : World} {R : Nat → Prop} {ρ : Nat → Option Value} {h : Nat → Option Cont} {P : Program}
def IntOf : Option SI → Option Value → Prop
 | none, none => True
 | some a, some v => ∃ k, v = .int k a.val
 | _, _ => False
theorem run_bound {k : IntKind} {x : Int} {y : Nat} {c : BoundsCode} (h0 : 0 ≤ x) (h1 : x ≤ y) : (Instr.sliceBound (.int k x) y c).run P W = .ok x.toNat W := by
 have : 0 ≤ x ∧ x ≤ (y : Int) := ⟨h0, h1⟩
 simp [Instr.sliceBound, asIntOf, this]
theorem run_bounds {n cap : Nat} (hn : n ≤ cap) {s : Bool} {lo hi : Option SI} {vl vh : Option Value} (hl : IntOf lo vl) (hh : IntOf hi vh) (hp : ∀ q, (pieceOf n lo hi).2.2 = some q → q) :
  (Instr.sliceBounds s n cap vl vh none).run P W = .ok ((pieceOf n lo hi).1, (pieceOf n lo hi).2.1, cap) W ∧ (pieceOf n lo hi).1 ≤ (pieceOf n lo hi).2.1 ∧ (pieceOf n lo hi).2.1 ≤ n := by
 cases lo with
 | none =>
  cases vl with
  | some v => cases hl
  | none =>
   cases hi with
   | none =>
    cases vh with
    | some v => cases hh
    | none => exact ⟨by simp [Instr.sliceBounds, pieceOf], by simp [pieceOf], by simp [pieceOf]⟩
   | some b =>
    cases vh with
    | none => cases hh
    | some v =>
     obtain ⟨k, rfl⟩ := hh
     obtain ⟨p0, p1⟩ := hp _ rfl
     refine ⟨?_, by simp [pieceOf], by simp only [pieceOf]; omega⟩
     simp only [Instr.sliceBounds, Sem.run_bind, Sem.run_pure, Result.andThen_ok, run_bound p0 (show b.val ≤ (cap : Int) by omega)]; rfl
 | some a =>
  cases vl with
  | none => cases hl
  | some v =>
   obtain ⟨k, rfl⟩ := hl
   cases hi with
   | none =>
    cases vh with
    | some v => cases hh
    | none =>
     obtain ⟨p0, p1⟩ := hp _ rfl
     refine ⟨?_, by simp only [pieceOf]; omega, by simp [pieceOf]⟩
     simp only [Instr.sliceBounds, Sem.run_bind, Sem.run_pure, Result.andThen_ok, Option.isSome_none, Bool.false_eq_true, if_false, run_bound p0 p1]; rfl
   | some b =>
    cases vh with
    | none => cases hh
    | some v =>
     obtain ⟨k', rfl⟩ := hh
     obtain ⟨p0, p1, p2⟩ := hp _ rfl
     refine ⟨?_, by simp only [pieceOf]; omega, by simp only [pieceOf]; omega⟩
     simp only [Instr.sliceBounds, Sem.run_bind, Sem.run_pure, Result.andThen_ok, Option.isSome_none, Bool.false_eq_true, if_false, run_bound (show 0 ≤ b.val by omega) (show b.val ≤ (cap : Int) by omega),
      run_bound p0 (show a.val ≤ ((b.val.toNat : Nat) : Int) by omega)]; rfl
theorem pieceL_eq {α : Type} (l : List α) {lo hi : Option SI} (hp : ∀ q, (pieceOf l.length lo hi).2.2 = some q → q) :
  pieceL l lo hi = (l.drop (pieceOf l.length lo hi).1).take ((pieceOf l.length lo hi).2.1 - (pieceOf l.length lo hi).1) := by
 cases lo <;> cases hi <;> simp only [pieceL, pieceOf]
 ·simp
 ·simp
 ·rw [List.take_of_length_le (by simp)]
 ·rw [List.drop_take]
theorem run_slice {t e : Nat} (ht : P.underlying t = some (.slice e)) {i : TypeInfo} (hinf : P.info? e = some i) {A : Option Addr} {n cap : Nat} (hn : n ≤ cap) {lo hi : Option SI} {vl vh : Option Value} (hl : IntOf lo vl) (hh : IntOf hi vh)
  (hp : ∀ q, (pieceOf n lo hi).2.2 = some q → q) : (Instr.sliceAt t (.slice A n cap) vl vh none).run P W =
   .ok (.slice (if cap = (pieceOf n lo hi).1 then A else A.map (·.add ((pieceOf n lo hi).1 * i.size))) ((pieceOf n lo hi).2.1 - (pieceOf n lo hi).1) (cap - (pieceOf n lo hi).1)) W := by
 obtain ⟨b1, _, _⟩ := run_bounds (P := P) (W := W) hn (s := true) hl hh hp
 simp only [Instr.sliceAt, Instr.slice, Sem.run_bind, run_und ht, Result.andThen_ok, b1, run_siz hinf, Sem.run_pure]
theorem sliceS_ok (M : Mem C gl W R ρ h) {t e : Nat} {ei : TI} (ht : P.underlying t = some (.slice e)) (Te : TiOk P e ei) {x : SVal} {u : Value} (hx : Den C W R ρ x u) {lo hi : Option SI} {vl vh : Option Value} (hl : IntOf lo vl) (hh : IntOf hi vh)
  {r : ORes} {l l' : List Nat} (hr : (sliceS ei.size x lo hi).run h l = .ok (r, l')) (hp : ∀ q, r.vc = some q → q) : PureOk C W R ρ P (Instr.sliceAt t u vl vh none) r := by
 obtain ⟨inf, z, i1, i2, _⟩ := Te.i
 unfold sliceS at hr
 split at hr
 ·rename_i T l0
  split at hr
  ·rename_i a b p hw hpc
   have hw := beq_ok hw
   simp [Acc.run] at hr
   obtain ⟨rfl, _⟩ := hr
   have hp' : ∀ q, (pieceOf l0.length lo hi).2.2 = some q → q := by rw [hpc]; exact hp
   have eL := pieceL_eq l0 hp'
   cases hx with
   | ro _ _ A cap vs h1 h2 h3 h4 h5 =>
    obtain ⟨_, b2, b3⟩ := run_bounds (P := P) (W := W) h1 (s := true) hl hh hp'
    refine ⟨_, run_slice ht i1 h1 hl hh hp', ?_, rfl, rfl⟩
    show Den C W R ρ (.ro T (pieceL l0 lo hi)) _
    rw [eL]
    generalize pieceOf l0.length lo hi = pc at b2 b3
    have hlen : ((l0.drop pc.1).take (pc.2.1 - pc.1)).length = pc.2.1 - pc.1 := by simp; omega
    have := Den.ro (C := C) (W := W) (R := R) (ρ := ρ) T ((l0.drop pc.1).take (pc.2.1 - pc.1)) (if cap = pc.1 then A else A.map (·.add (pc.1 * inf.size))) (cap - pc.1) _ (by rw [hlen]; omega) (by omega) (h3.sub pc.1 (pc.2.1 - pc.1)) ?_ ?_
    ·rwa [hlen] at this
    ·intro hne
     have hpos : 0 < pc.2.1 - pc.1 := by
      rw [← hlen]; exact List.length_pos_iff.2 hne
     obtain ⟨b', off, rfl, hb, hc⟩ := h4 (by rintro rfl; simp at hne)
     rw [if_neg (by omega)]
     refine ⟨b', off + pc.1 * T.w, by rw [Option.map_some, addA, i2, hw], hb, (hc.drop _).take _⟩
    ·intro hn
     split at hn
     ·omega
     ·have := h5 (by simpa using hn)
      omega
  ·cases hr
 ·rename_i q
  simp only [Acc.run] at hr
  split at hr
  ·rename_i T l0 hc
   split at hr
   ·rename_i a b p hw hpc
    have hw := beq_ok hw
    simp [Acc.run] at hr
    obtain ⟨rfl, _⟩ := hr
    have hp' : ∀ q, (pieceOf l0.length lo hi).2.2 = some q → q := by rw [hpc]; exact hp
    cases hx with
    | own _ A n cap hq =>
     obtain ⟨v', hv', e', vs, ho, hl'⟩ := M.at_ _ _ hc
     rw [hq] at hv'; cases hv'
     obtain ⟨e1, e2⟩ := own_cells ho
     have hcap : n ≤ cap ∧ cap ≤ maxLen ∧ (A = none → cap = 0) := by
      rcases ho.2 with ⟨h1, _⟩ | ⟨g, c, cur, h1, _, _, h4, h5, _, _⟩
      ·cases h1; exact ⟨Nat.le_refl _, by simp [maxLen], fun _ => rfl⟩
      ·cases h1; exact ⟨by omega, h5, fun h => by cases h⟩
     subst e1
     obtain ⟨_, b2, b3⟩ := run_bounds (P := P) (W := W) hcap.1 (s := true) hl hh hp'
     refine ⟨_, run_slice ht i1 hcap.1 hl hh hp', ?_, rfl, rfl⟩
     rw [hpc] at b2 b3 ⊢
     simp only at b2 b3 ⊢
     refine .view T q a (b - a) A _ _ cap _ hq (by omega) (by omega) (by omega) (fun hpos => ?_) (fun hn => ?_)
     rotate_left
     ·split at hn
      ·omega
      ·have := hcap.2.2 (by simpa using hn); omega
     obtain ⟨b', rfl, _⟩ := e2 (by omega)
     refine ⟨b', rfl, ?_⟩
     rw [if_neg (by omega), Option.map_some, addA, i2, hw, Nat.zero_add]
   ·cases hr
  ·cases hr
 ·rename_i T q k0 n
  split at hr
  ·rename_i a b p hw hpc
   have hw := beq_ok hw
   simp [Acc.run] at hr
   obtain ⟨rfl, _⟩ := hr
   have hp' : ∀ q, (pieceOf n lo hi).2.2 = some q → q := by rw [hpc]; exact hp
   cases hx with
   | view _ _ _ _ A A' m cap cap' hq h1 h2 h3 h4 h5 =>
    obtain ⟨_, b2, b3⟩ := run_bounds (P := P) (W := W) h2 (s := true) hl hh hp'
    refine ⟨_, run_slice ht i1 h2 hl hh hp', ?_, rfl, rfl⟩
    rw [hpc] at b2 b3 ⊢
    simp only at b2 b3 ⊢
    refine .view T q (k0 + a) (b - a) A _ _ cap _ hq (by omega) (by omega) (by omega) (fun hpos => ?_) (fun hn => ?_)
    rotate_left
    ·split at hn
     ·omega
     ·have := h5 (by simpa using hn); omega
    obtain ⟨b', rfl, rfl⟩ := h4 (by omega)
    refine ⟨b', rfl, ?_⟩
    rw [if_neg (by omega), Option.map_some, addA, i2, hw, Nat.add_mul]
  ·cases hr
 ·split at hr
  ·simp [Acc.run] at hr
   obtain ⟨rfl, _⟩ := hr
   cases hx
   cases vl with
   | some _ => cases hl
   | none =>
    cases vh with
    | some _ => cases hh
    | none =>
     refine ⟨_, run_slice (lo := none) (hi := none) ht (hinf := i1) (Nat.le_refl _) trivial trivial (by intro q hq; cases hq), ?_, rfl, rfl⟩
     exact .nilslice
  ·cases hr
 ·cases hr
theorem Trans.freeze (M : Mem C gl W R ρ h) {r : Nat} {c : Cont} {v : Value} {b : Nat} (hr : h r = some c) (hv : ρ r = some v) (hb : blk v = some b) (hlt : b < W.heap.size) : Trans C gl W R ρ h [(r, none)] W (fun x => R x ∨ x = b) ρ := by
 have hu : ∀ r' c', upd h [(r, none)] r' = some c' → r' ≠ r ∧ h r' = some c' := fun r' c' hc => by
  unfold upd at hc
  simp only [find] at hc
  cases hbq : Nat.beq r r' with
  | true => rw [hbq] at hc; cases hc
  | false =>
   rw [hbq] at hc
   exact ⟨(fun e => by rw [e, Nat.beq_refl] at hbq; cases hbq), hc⟩
 refine ⟨⟨M.base.mono (fun _ h => .inl h) (fun x hx => hx.elim (M.base.inR x) (fun e => e ▸ hlt)) (fun _ _ => rfl), fun r' c' hc => ?_, fun r1 r2 c1 c2 v1 v2 b' h1 h2 hv1 hv2 hb1 hb2 => M.apart r1 r2 c1 c2 v1 v2 b' (hu _ _ h1).2 (hu _ _ h2).2 hv1 hv2 hb1 hb2, fun r' c' v' b' hc hv' hb' => ?_⟩,
  rfl, rfl, rfl, Nat.le_refl _, fun _ h => .inl h, fun x hx => ?_, fun _ _ h => h, fun _ _ h => .inl h, fun _ _ _ => rfl, fun r' c' v' b' hc hv' hb' => .inl ⟨r', c', v', .inl rfl, (hu _ _ hc).2, hv', hb'⟩⟩
 ·obtain ⟨v', h1, h2⟩ := M.at_ r' c' (hu _ _ hc).2
  exact ⟨v', h1, h2.mono (fun _ h => .inl h) (fun _ _ => rfl) (fun _ _ h => h) (fun _ _ => rfl)⟩
 ·rintro (hR | rfl)
  ·exact M.off r' c' v' b' (hu _ _ hc).2 hv' hb' hR
  ·exact (hu _ _ hc).1 (M.apart r' r c' c v' v b' (hu _ _ hc).2 hr hv' hv hb' hb)
 ·rcases hx with hx | rfl
  ·exact .inl hx
  ·exact .inr (.inr ⟨r, c, v, by simp [keys], hr, hv, hb⟩)
theorem sliceArr_ok (M : Mem C gl W R ρ h) {t m e : Nat} {ei : TI} (ht : P.underlying t = some (.array m e)) (Te : TiOk P e ei) {x : SVal} {u : Value} (hx : Den C W R ρ x u) {lo hi : Option SI} {vl vh : Option Value} (hl : IntOf lo vl) (hh : IntOf hi vh)
  {r : ORes} {l l' : List Nat} (hr : (sliceArr m ei.size x lo hi).run h l = .ok (r, l')) (hp : ∀ q, r.vc = some q → q) :
  ∃ v R', (Instr.sliceAt t u vl vh none).run P W = .ok v W ∧ Trans C gl W R ρ h r.ws W R' ρ ∧ Den C W R' ρ r.v v := by
 obtain ⟨inf, z, i1, i2, _⟩ := Te.i
 unfold sliceArr at hr
 split at hr
 ·rename_i q
  simp only [Acc.run] at hr
  split at hr
  ·rename_i T n xs hq
   split at hr
   ·rename_i a b p hw hpc
    have hw3' := Bool.and_eq_true_iff.1 hw
    have hw' := Bool.and_eq_true_iff.1 hw3'.1
    have hw1 := beq_ok hw'.1
    have hw2 := beq_ok hw'.2
    have hmx : n ≤ 1048576 := Nat.le_of_ble_eq_true hw3'.2
    simp only [Acc.run, Except.ok.injEq, Prod.mk.injEq] at hr
    obtain ⟨rfl, _⟩ := hr
    obtain ⟨w, hw3, hold⟩ := M.at_ q _ hq
    obtain ⟨bb, vs, TT, rfl, hheap, hden⟩ := hold
    cases hx with
    | ptr _ _ b0 hρ =>
     rw [hw3] at hρ
     simp only [Option.some.injEq, Value.pointer.injEq, Addr.mk.injEq, and_true] at hρ
     subst hρ
     have hlt : bb < W.heap.size := (Array.getElem?_eq_some_iff.1 hheap).1
     have T0 := Trans.freeze M hq hw3 rfl hlt
     obtain ⟨us, us', rfl, d1, d2⟩ : ∃ us us', vs = us ++ us' ∧ DenL C W R ρ (xs.flatMap T.enc) us ∧ xs.length = n := by
      cases hden with
      | one _ _ _ _ hf _ _ _ => simp [SVal.isArr] at hf
      | arr _ _ _ us _ us' e1 e2 e3 => exact ⟨us, us', rfl, e2, e1⟩
     have hp' : ∀ q, (pieceOf xs.length lo hi).2.2 = some q → q := by rw [d2, hpc]; exact hp
     have eL := pieceL_eq xs hp'
     have hn : n ≤ maxLen := by unfold maxLen; omega
     obtain ⟨b1, b2, b3⟩ := run_bounds (P := P) (W := W) (Nat.le_refl xs.length) (s := false) hl hh hp'
     have hrun : (Instr.sliceAt t (.pointer (some ⟨bb, 0, none⟩)) vl vh none).run P W = .ok (.slice (some (if xs.length = (pieceOf xs.length lo hi).1 then ⟨bb, 0, none⟩ else Addr.add ⟨bb, 0, none⟩ ((pieceOf xs.length lo hi).1 * inf.size))) ((pieceOf xs.length lo hi).2.1 - (pieceOf xs.length lo hi).1) (xs.length - (pieceOf xs.length lo hi).1)) W := by
      have hmn : m = xs.length := by omega
      subst hmn
      simp only [Instr.sliceAt, Sem.run_bind, run_und ht, Result.andThen_ok, Instr.sureAddr, Sem.run_pure, b1, run_siz i1]
     refine ⟨_, _, hrun, T0, ?_⟩
     show Den C W _ ρ (.roN T (pieceL xs lo hi)) _
     rw [eL]
     generalize pieceOf xs.length lo hi = pc at b2 b3
     have hlen : ((xs.drop pc.1).take (pc.2.1 - pc.1)).length = pc.2.1 - pc.1 := by simp; omega
     have hcells : CellsAt W bb 0 (us ++ us') := fun j v hv => by
      simp only [World.cell?, Nat.zero_add, hheap]
      simp only [List.getElem?_toArray, hv]; rfl
     have d1' := DenL.mono (R' := fun x => R x ∨ x = bb) (W' := W) (ρ' := ρ) (fun _ h => .inl h) (fun _ _ => rfl) (fun _ _ h => h) d1
     have := Den.roN (C := C) (W := W) (R := fun x => R x ∨ x = bb) (ρ := ρ) T ((xs.drop pc.1).take (pc.2.1 - pc.1)) (if xs.length = pc.1 then ⟨bb, 0, none⟩ else Addr.add ⟨bb, 0, none⟩ (pc.1 * inf.size)) (xs.length - pc.1) _ (by rw [hlen]; omega) (by omega) (d1'.sub pc.1 (pc.2.1 - pc.1)) ?_
     ·rwa [hlen] at this
     ·intro hne
      have hpos : 0 < pc.2.1 - pc.1 := by
       rw [← hlen]; exact List.length_pos_iff.2 hne
      rw [if_neg (by omega)]
      refine ⟨bb, 0 + pc.1 * T.w, by rw [addA, i2, hw1], .inr rfl, ((hcells.left).drop _).take _⟩
   ·cases hr
  ·cases hr
 ·cases hr
theorem sliceStr_ok {t : Nat} (ht : P.underlying t = some .string) {x : SVal} {u : Value} (hx : Den C W R ρ x u) {lo hi : Option SI} {vl vh : Option Value} (hl : IntOf lo vl) (hh : IntOf hi vh)
  {look : Nat → Option Cont} {r : ORes} {l l' : List Nat} (hr : (sliceStr x lo hi).run look l = .ok (r, l')) (hp : ∀ q, r.vc = some q → q) : PureOk C W R ρ P (Instr.sliceAt t u vl vh none) r := by
 unfold sliceStr at hr
 split at hr
 ·rename_i s
  simp [Acc.run] at hr
  obtain ⟨rfl, _⟩ := hr
  obtain ⟨rfl, hs⟩ := hx.str_inv
  have hp' : ∀ q, (pieceOf s.size lo hi).2.2 = some q → q := hp
  obtain ⟨b1, b2, b3⟩ := run_bounds (P := P) (W := W) (Nat.le_refl s.size) (s := false) hl hh hp'
  refine ⟨.string (s.extract (pieceOf s.size lo hi).1 (pieceOf s.size lo hi).2.1), ?_, .str _ (by rw [ByteArray.size_extract]; omega), rfl, rfl⟩
  simp [Instr.sliceAt, Instr.slice, run_und ht, b1]
 ·cases hr
theorem elems_ok (M : Mem C gl W R ρ h) {x : SVal} {u : Value} (hx : Den C W R ρ x u) {T : RT} {xs : List T.ty} {l l' : List Nat} (hr : (elems x).run h l = .ok (⟨T, xs⟩, l')) :
  ∃ A cap vs, u = .slice A xs.length cap ∧ DenL C W R ρ (xs.flatMap T.enc) vs ∧ vs.length = xs.length * T.w ∧ (0 < xs.length → ∃ a, A = some a ∧ ∀ j v, vs[j]? = some v → W.cell? (a.add j) = some v) := by
 have fin : ∀ {A : Option Addr} {cap : Nat} {vs : List Value}, u = .slice A xs.length cap → DenL C W R ρ (xs.flatMap T.enc) vs → (0 < xs.length → ∃ b off, A = some ⟨b, off, none⟩ ∧ CellsAt W b off vs) → _ := fun {A cap vs} h1 h2 h3 =>
  (⟨A, cap, vs, h1, h2, by rw [h2.len_noarr (flat_noarr T xs), flat_w], fun hpos => by
   obtain ⟨b, off, rfl, hc⟩ := h3 hpos
   exact ⟨_, rfl, fun j v hj => by rw [addA]; exact hc j v hj⟩⟩ : ∃ A cap vs, u = .slice A xs.length cap ∧ DenL C W R ρ (xs.flatMap T.enc) vs ∧ vs.length = xs.length * T.w ∧ (0 < xs.length → ∃ a, A = some a ∧ ∀ j v, vs[j]? = some v → W.cell? (a.add j) = some v))
 unfold elems at hr
 split at hr
 ·simp [Acc.run] at hr
  obtain ⟨⟨rfl, hxs⟩, _⟩ := hr
  have hxs := eq_of_heq hxs; subst hxs
  cases hx with
  | ro _ _ A cap vs h1 h2 h3 h4 _ =>
   exact fin rfl h3 fun hpos => by
    obtain ⟨b, off, e, _, hc⟩ := h4 (List.length_pos_iff.1 hpos)
    exact ⟨b, off, e, hc⟩
 ·simp [Acc.run] at hr
  obtain ⟨⟨rfl, hxs⟩, _⟩ := hr
  have hxs := eq_of_heq hxs; subst hxs
  cases hx with
  | roN _ _ A cap vs h1 h2 h3 h4 =>
   exact fin rfl h3 fun hpos => by
    obtain ⟨b, off, e, _, hc⟩ := h4 (List.length_pos_iff.1 hpos)
    exact ⟨b, off, by rw [e], hc⟩
 ·rename_i q
  simp only [Acc.run] at hr
  split at hr
  ·rename_i T' l0 hc
   simp [Acc.run] at hr
   obtain ⟨⟨rfl, hxs⟩, _⟩ := hr
   have hxs := eq_of_heq hxs; subst hxs
   cases hx with
   | own _ A n cap hq =>
    obtain ⟨v', hv', e', vs, ho, hl'⟩ := M.at_ _ _ hc
    rw [hq] at hv'; cases hv'
    obtain ⟨rfl, e2⟩ := own_cells ho
    exact fin rfl hl' fun hpos => by
     obtain ⟨b, e, hcs⟩ := e2 hpos
     exact ⟨b, 0, e, hcs⟩
  ·cases hr
 ·rename_i T' q k n
  simp only [Acc.run] at hr
  split at hr
  ·rename_i T'' l0 hc
   split at hr
   ·rename_i hT
    simp at hT; subst hT
    simp [Acc.run] at hr
    obtain ⟨⟨rfl, hxs⟩, _⟩ := hr
    have hxs := eq_of_heq hxs; subst hxs
    cases hx with
    | view _ _ _ _ A A' m cap cap' hq h1 h2 h3 h4 _ =>
     obtain ⟨v', hv', e', vs, ho, hl'⟩ := M.at_ _ _ hc
     rw [hq] at hv'; cases hv'
     obtain ⟨rfl, e2⟩ := own_cells ho
     have hlen : ((l0.drop k).take n).length = n := by simp; omega
     refine fin (A := A') (cap := cap') (vs := (vs.drop (k * T''.w)).take (n * T''.w)) (by rw [hlen]) (hl'.sub k n) fun hpos => ?_
     rw [hlen] at hpos
     obtain ⟨b, e3, rfl⟩ := h4 hpos
     obtain ⟨b', e4, hcs⟩ := e2 (by omega)
     rw [e3] at e4; cases e4
     exact ⟨b, k * T''.w, rfl, by simpa using (hcs.drop (k * T''.w)).take (n * T''.w)⟩
   ·cases hr
  ·cases hr
 ·cases hr
end
end Go.Sy
