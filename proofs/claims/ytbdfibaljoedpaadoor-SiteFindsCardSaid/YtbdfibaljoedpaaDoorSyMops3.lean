/- Operations on memory: addresses of elements and fields, pieces of slices, appends, new slices. -/
import Derived.Test.YtbdfibaljoedpaaDoorSyMops2
set_option linter.unusedVariables false
set_option linter.unusedSimpArgs false
namespace Go.Sy
open Go.RowKit

section
variable {C : Ctx} {gl : List (Nat × SVal)} {W : World} {R : Nat → Prop} {ρ : Nat → Option Value} {h : Nat → Option Cont} {P : Program}

/-- What yields a value and turns nothing. -/
def PureOk (C : Ctx) (W : World) (R : Nat → Prop) (ρ : Nat → Option Value) (P : Program) (s : Sem Value) (r : ORes) : Prop :=
  ∃ v, s.run P W = .ok v W ∧ Den C W R ρ r.v v ∧ r.ws = [] ∧ r.k = 0

theorem run_indexAt {t e : Nat} (ht : P.underlying t = some (.slice e)) {i : TypeInfo} (hi : P.info? e = some i) {k : IntKind} {n : Int} {a : Addr} {len cap : Nat} (h0 : 0 ≤ n) (h1 : n < len) :
    (Instr.indexAt t (.slice (some a) len cap) (.int k n)).run P W = .ok (.pointer (some (a.add (n.toNat * i.size)))) W := by
  have : (0 ≤ n ∧ n < (len : Int)) := ⟨h0, h1⟩
  simp [Instr.indexAt, asIntOf, run_und ht, run_siz hi, this]

theorem indexSl_ok (M : Mem C gl W R ρ h) {t e : Nat} {ei : TI} (ht : P.underlying t = some (.slice e)) (Te : TiOk P e ei) {x : SVal} {u : Value} {k : IntKind} {i : SI} (hx : Den C W R ρ x u) (hi : InI k i) {r : ORes} {l l' : List Nat}
    (hr : (indexSl ei.size x i).run h l = .ok (r, l')) (hp : ∀ q, r.vc = some q → q) : PureOk C W R ρ P (Instr.indexAt t u (.int k i.val)) r := by
  obtain ⟨inf, z, i1, i2, _⟩ := Te.i
  unfold indexSl at hr
  split at hr
  · rename_i T l0
    split at hr
    · rename_i hw
      have hw := beq_ok hw
      simp [Acc.run] at hr
      obtain ⟨rfl, _⟩ := hr
      obtain ⟨p0, p1⟩ := hp _ rfl
      cases hx with
      | ro _ _ A cap vs h1 h2 h3 h4 =>
        have hi' : i.val.toNat < l0.length := by omega
        obtain ⟨b, off, rfl, hb, hc⟩ := h4 (by intro h; subst h; simp at hi')
        obtain ⟨q1, q2⟩ := h3.elem hi'
        refine ⟨_, run_indexAt ht i1 p0 p1, ?_, rfl, rfl⟩
        rw [addA, i2, hw]
        exact .rop _ _ _ _ hb q1 ((hc.drop _).take _)
    · cases hr
  · rename_i q
    simp only [Acc.run] at hr
    split at hr
    · rename_i T l0 hc
      split at hr
      · rename_i hw
        have hw := beq_ok hw
        simp [Acc.run] at hr
        obtain ⟨rfl, _⟩ := hr
        obtain ⟨p0, p1⟩ := hp _ rfl
        cases hx with
        | own _ A n cap hq =>
          obtain ⟨v', hv', e', vs, ho, hl⟩ := M.at_ _ _ hc
          rw [hq] at hv'; cases hv'
          obtain ⟨e1, e2⟩ := own_cells ho
          obtain ⟨b, rfl, _⟩ := e2 (by omega)
          refine ⟨_, run_indexAt ht i1 p0 (by omega), ?_, rfl, rfl⟩
          rw [addA, i2, hw, Nat.zero_add]
          exact .eptr q T.w i.val 0 b n cap hq p0 (by omega)
      · cases hr
    · rename_i w0 l0 hc
      split at hr
      · rename_i j hw
        have hw := beq_ok hw
        simp [Acc.run] at hr
        obtain ⟨rfl, _⟩ := hr
        have p0 := hp _ rfl
        cases hx with
        | own _ A n cap hq =>
          obtain ⟨v', hv', e', vs, n', ho, hl, hpos⟩ := M.at_ _ _ hc
          rw [hq] at hv'; cases hv'
          obtain ⟨e1, e2⟩ := own_cells ho
          have hlen : sumW l0 = n' * w0 := by rw [← ho.1]; exact hl.len.symm
          have hj : j < n' := by
            rw [hlen] at p0
            rcases Nat.lt_or_ge j n' with h | h
            · exact h
            · have := Nat.mul_le_mul_right w0 h; omega
          obtain ⟨b, rfl, _⟩ := e2 (by omega)
          have hj' : (j : Int) < n := by omega
          refine ⟨_, run_indexAt ht i1 (show (0 : Int) ≤ Int.ofNat j by simp) hj', ?_, rfl, rfl⟩
          rw [addA, i2, hw, Nat.zero_add]
          exact .eptr q w0 j 0 b n cap hq (by simp) hj'
      · cases hr
    · cases hr
  · rename_i T q k0 n
    split at hr
    · rename_i hw
      have hw := beq_ok hw
      simp [Acc.run] at hr
      obtain ⟨rfl, _⟩ := hr
      obtain ⟨p0, p1⟩ := hp _ rfl
      cases hx with
      | view _ _ _ _ A A' m cap cap' hq h1 h2 h3 h4 =>
        obtain ⟨b, rfl, rfl⟩ := h4 (by omega)
        refine ⟨_, run_indexAt ht i1 p0 p1, ?_, rfl, rfl⟩
        rw [addA, i2, hw]
        have : k0 * T.w + i.val.toNat * T.w = ((k0 : Int) + i.val).toNat * T.w + 0 := by
          rw [← Nat.add_mul, Nat.add_zero]; congr 1; omega
        rw [this]
        exact .eptr q T.w _ 0 b m cap hq (by omega) (by omega)
    · cases hr
  · cases hr

theorem run_indexAr {t m e : Nat} (ht : P.underlying t = some (.array m e)) {i : TypeInfo} (hi : P.info? e = some i) {k : IntKind} {n : Int} {a : Addr} (h0 : 0 ≤ n) (h1 : n < m) :
    (Instr.indexAt t (.pointer (some a)) (.int k n)).run P W = .ok (.pointer (some (a.add (n.toNat * i.size)))) W := by
  have : (0 ≤ n ∧ n < (m : Int)) := ⟨h0, h1⟩
  simp [Instr.indexAt, asIntOf, run_und ht, run_siz hi, this, Instr.sureAddr]

theorem indexAr_ok (M : Mem C gl W R ρ h) {t m e : Nat} {ei : TI} (ht : P.underlying t = some (.array m e)) (Te : TiOk P e ei) {x : SVal} {u : Value} {k : IntKind} {i : SI} (hx : Den C W R ρ x u) (hi : InI k i) {r : ORes} {l l' : List Nat}
    (hr : (indexAr m ei.size x i).run h l = .ok (r, l')) (hp : ∀ q, r.vc = some q → q) : PureOk C W R ρ P (Instr.indexAt t u (.int k i.val)) r := by
  obtain ⟨inf, z, i1, i2, _⟩ := Te.i
  unfold indexAr at hr
  split at hr
  · rename_i T n l0 rest
    split at hr
    · rename_i hw hm
      have hw := beq_ok hw
      have hm := beq_ok hm; subst hm
      simp [Acc.run] at hr
      obtain ⟨rfl, _⟩ := hr
      obtain ⟨p0, p1⟩ := hp _ rfl
      cases hx with
      | rop _ vs b off h1 h2 h3 =>
        cases h2 with
        | one _ _ _ _ h => simp [SVal.isArr] at h
        | arr _ _ _ as _ as' hlen hxs hrest =>
          have hi' : i.val.toNat < l0.length := by omega
          obtain ⟨q1, q2⟩ := hxs.elem hi'
          refine ⟨_, run_indexAr ht i1 p0 p1, ?_, rfl, rfl⟩
          rw [addA, i2, hw]
          exact .rop _ _ _ _ h1 q1 ((h3.left.drop _).take _)
    · cases hr
  · rename_i q off
    simp only [Acc.run] at hr
    split at hr
    · rename_i cs hc
      split at hr
      · rename_i T n l0 rest hd
        split at hr
        · rename_i hw hm
          have hw := beq_ok hw
          have hm := beq_ok hm; subst hm
          simp [Acc.run] at hr
          obtain ⟨rfl, _⟩ := hr
          obtain ⟨p0, p1⟩ := hp _ rfl
          cases hx with
          | ptr _ _ b hb =>
            refine ⟨_, run_indexAr ht i1 p0 p1, ?_, rfl, rfl⟩
            rw [addA, i2, hw]
            exact .aptr q off T.w m i.val 0 b hb p0 p1
        · cases hr
      · cases hr
    · cases hr
  · cases hr

theorem fieldAddr_ok (M : Mem C gl W R ρ h) {s : Nat} {fields : Array Field} (ht : P.underlying s = some (.struct fields)) {i : Nat} {f : Field} (hf : fields[i]? = some f) {inf : TypeInfo} (hi : P.info? f.type = some inf) (h0 : 0 < inf.size)
    {x : SVal} {u : Value} (hx : Den C W R ρ x u) {r : ORes} {l l' : List Nat} (hr : (addOff x f.offset).run h l = .ok (r, l')) (hp : ∀ q, r.vc = some q → q) : PureOk C W R ρ P (Instr.fieldAt s u i) r := by
  have go : ∀ b off, (Instr.fieldAt s (.pointer (some ⟨b, off, none⟩)) i).run P W = .ok (.pointer (some ⟨b, off + f.offset, none⟩)) W := fun b off => by
    have : ¬ inf.size = 0 := by omega
    simp [Instr.fieldAt, run_und ht, hf, Instr.sureAddr, fieldPlace, run_siz hi, this, addA]
  unfold addOff at hr
  split at hr
  · simp [Acc.run] at hr; obtain ⟨rfl, _⟩ := hr
    cases hx with
    | ptr _ _ b hb => exact ⟨_, go _ _, .ptr _ _ b hb, rfl, rfl⟩
  · simp [Acc.run] at hr; obtain ⟨rfl, _⟩ := hr
    cases hx with
    | eptr _ _ _ _ b n cap hb h1 h2 => exact ⟨_, go _ _, by rw [Nat.add_assoc]; exact .eptr _ _ _ _ b n cap hb h1 h2, rfl, rfl⟩
  · simp [Acc.run] at hr; obtain ⟨rfl, _⟩ := hr
    cases hx with
    | aptr _ _ _ _ _ _ b hb h1 h2 => exact ⟨_, go _ _, by rw [Nat.add_assoc]; exact .aptr _ _ _ _ _ _ b hb h1 h2, rfl, rfl⟩
  · split at hr
    · rename_i l0 l1 hd
      simp [Acc.run] at hr; obtain ⟨rfl, _⟩ := hr
      cases hx with
      | rop _ vs b off h1 h2 h3 => exact ⟨_, go _ _, .rop _ _ _ _ h1 (h2.dropW hd) (h3.drop _), rfl, rfl⟩
    · cases hr
  · rename_i e
    have key : e.isPlaced = true → ∀ l1, dropW [.int .i64 (.full e.pos), .err e.inner] f.offset = some l1 → ∃ v, (Instr.fieldAt s u i).run P W = .ok v W ∧ Den C W R ρ (.rop l1) v := by
      intro he l1 hl1
      cases hx with
      | atnil _ h => rw [h] at he; cases he
      | atp n p b off h1 h2 h3 h4 h5 =>
        have hl : DenL C W R ρ [.int .i64 (.full p), .err (.bare n)] [.int .i64 p, .iface C.tE (.pointer (some (C.ea n)))] :=
          .one _ _ _ _ rfl rfl (.int .i64 (.full p) (.full h3 h4)) (.one _ _ _ _ rfl rfl (.bare n h1) .nil)
        exact ⟨_, go _ _, .rop _ _ _ _ h2 (hl.dropW hl1) (h5.drop _)⟩
    split at hr
    · rename_i hoff
      simp [Acc.run] at hr; obtain ⟨rfl, _⟩ := hr
      obtain ⟨v, q1, q2⟩ := key (hp _ rfl) _ (by rw [hoff]; rfl)
      exact ⟨v, q1, q2, rfl, rfl⟩
    · rename_i hoff
      simp [Acc.run] at hr; obtain ⟨rfl, _⟩ := hr
      obtain ⟨v, q1, q2⟩ := key (hp _ rfl) _ (by rw [hoff]; rfl)
      exact ⟨v, q1, q2, rfl, rfl⟩
    · cases hr
  · cases hr
end
end Go.Sy
