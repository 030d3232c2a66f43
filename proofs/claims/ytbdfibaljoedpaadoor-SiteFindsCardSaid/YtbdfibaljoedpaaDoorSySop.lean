/- An operation yields what 'sop' reckons. -/
import Derived.Test.YtbdfibaljoedpaaDoorSyMops8
set_option linter.unusedVariables false
set_option linter.unusedSimpArgs false
namespace Go.Sy
open Go.RowKit

/-- What a function that is called does, as it is told: a contract. -/
structure ConOk (P : Program) (C : Ctx) (gl : List (Nat × SVal)) (f : Nat) (k : List SVal → Nat → Acc ORes) : Prop where
  call : ∀ args w, (callFunc f args).run P w = .ok (.enter f args) w
  does : ∀ {W : World} {R : Nat → Prop} {ρ : Nat → Option Value} {h : Nat → Option Cont} {args : List SVal} {vs : List Value} {next : Nat} {r : ORes} {l l' : List Nat},
    Mem C gl W R ρ h → DenA C W R ρ args vs → (k args next).run h l = .ok (r, l') → (∀ q, r.vc = some q → q) → (∀ j, j < r.k → ρ (next + j) = none) →
    Calls P f vs.toArray W fun e W' => ∃ v R' ρ', e = .returned v ∧ Trans C gl W R ρ h r.ws W' R' ρ' ∧ Den C W' R' ρ' r.v v

structure EnvOk (P : Program) (C : Ctx) (gl : List (Nat × SVal)) (E : Env) : Prop where
  tab : ∀ t ti, find t E.tab = some ti → TiOk P t ti
  err : ErrOk P C
  glob : E.glob = gl
  tAt : E.tAt = C.tAt
  mixed : P.follows .mixedOrders = true
  con : ∀ f k, find f E.con = some k → ConOk P C gl f k

section
variable {P : Program} {C : Ctx} {gl : List (Nat × SVal)} {E : Env} {W : World} {R : Nat → Prop} {ρ : Nat → Option Value} {h : Nat → Option Cont} {o : Oper} {a : Act}

/-- An operation yields a value and turns named memory as it is told. -/
def Yields (P : Program) (C : Ctx) (gl : List (Nat × SVal)) (o : Oper) (a : Act) (W : World) (R : Nat → Prop) (ρ : Nat → Option Value) (h : Nat → Option Cont) (r : ORes) : Prop :=
  ∀ (K : Act → World → Prop) (Q : Exit → Act → World → Prop), (∀ v W' R' ρ', Trans C gl W R ρ h r.ws W' R' ρ' → Den C W' R' ρ' r.v v → K (a.put o.dst v) W') → o.wp P a W K Q

theorem Yields.make {s : Sem Value} {r : ORes} (he : execOp a.eval o = (do pure (Next.value (← s)))) (hm : MakeOk C gl W R ρ h P s r) : Yields P C gl o a W R ρ h r := fun K Q hK => by
  obtain ⟨v, W', ρ', h1, h2, h3⟩ := hm
  unfold Oper.wp
  rw [he]
  simp only [Sem.run_bind, h1, Result.andThen_ok, Sem.run_pure]
  exact hK _ _ _ _ h2 h3
theorem Yields.pure {s : Sem Value} {r : ORes} (M : Mem C gl W R ρ h) (he : execOp a.eval o = (do Pure.pure (Next.value (← s)))) (hm : PureOk C W R ρ P s r) : Yields P C gl o a W R ρ h r := by
  obtain ⟨v, h1, h2, h3, h4⟩ := hm
  exact Yields.make he ⟨v, W, ρ, h1, by rw [h3]; exact Trans.refl M, h2⟩
theorem Yields.unit {s : Sem Unit} {r : ORes} (he : execOp a.eval o = (do s; Pure.pure Next.skip)) (hm : ∃ W' ρ', s.run P W = .ok () W' ∧ Trans C gl W R ρ h r.ws W' R ρ') (hv : r.v = .any) : Yields P C gl o a W R ρ h r := fun K Q hK => by
  obtain ⟨W', ρ', h1, h2⟩ := hm
  unfold Oper.wp
  rw [he]
  simp only [Sem.run_bind, h1, Result.andThen_ok, Sem.run_pure]
  exact hK _ _ _ _ h2 (by rw [hv]; exact .any _)
theorem Yields.value {v : Value} {r : ORes} (M : Mem C gl W R ρ h) (he : execOp a.eval o = Pure.pure (Next.value v)) (hv : Den C W R ρ r.v v) (hw : r.ws = []) : Yields P C gl o a W R ρ h r := fun K Q hK => by
  unfold Oper.wp
  rw [he]
  exact hK _ _ _ _ (by rw [hw]; exact Trans.refl M) hv

theorem ret_ok {α : Type} {x y : α} {look : Nat → Option Cont} {l l' : List Nat} (h : (Acc.ret x).run look l = .ok (y, l')) : x = y := by simp [Acc.run] at h; exact h.1

theorem parts_of {ev : Operand → SVal} (hev : ∀ x, Den C W R ρ (ev x) (a.eval x)) : ∀ l : List (Nat × Operand), Parts C W R ρ (l.map fun (i, x) => (i, ev x)) (l.map fun (i, x) => (i, a.eval x))
  | [] => trivial
  | (i, x) :: l => ⟨rfl, hev x, parts_of hev l⟩
theorem args_of {ev : Operand → SVal} (hev : ∀ x, Den C W R ρ (ev x) (a.eval x)) : ∀ l : List Operand, DenA C W R ρ (l.map ev) (l.map a.eval)
  | [] => .nil
  | x :: l => .cons _ _ _ _ (hev x) (args_of hev l)
theorem DenA.app {l l' : List SVal} {vs vs' : List Value} (h : DenA C W R ρ l vs) (h' : DenA C W R ρ l' vs') : DenA C W R ρ (l ++ l') (vs ++ vs') := by
  induction l generalizing vs with
  | nil => cases h; exact h'
  | cons s l ih => cases h with | cons _ v _ us h1 h2 => exact .cons _ _ _ _ h1 (ih h2)
theorem DenA.get {l : List SVal} {vs : List Value} (h : DenA C W R ρ l vs) {i : Nat} {s : SVal} (hi : l[i]? = some s) : ∃ v, vs[i]? = some v ∧ Den C W R ρ s v := by
  induction l generalizing vs i with
  | nil => simp at hi
  | cons t l ih =>
    cases h with
    | cons _ v _ us h1 h2 =>
      cases i with
      | zero => simp at hi; subst hi; exact ⟨v, rfl, h1⟩
      | succ i => simpa using ih h2 (by simpa using hi)

theorem arr_map {α β : Type} (ps : Array α) (f : α → β) : ps.map f = (ps.toList.map f).toArray := Array.ext' (by simp)

theorem ti_ok (EO : EnvOk P C gl E) {t : Nat} {ti : TI} {look : Nat → Option Cont} {l l' : List Nat} (h : (E.ti t).run look l = .ok (ti, l')) : TiOk P t ti := EO.tab _ _ (ofOpt_ok h).1

theorem si_ok {s : SVal} {n : SI} {look : Nat → Option Cont} {l l' : List Nat} (h : (si s).run look l = .ok (n, l')) {v : Value} (hd : Den C W R ρ s v) : ∃ k, v = .int k n.val ∧ InI k n := by
  unfold si at h
  split at h
  · have := ret_ok h; subst this; exact ⟨_, hd.int_inv.1, hd.int_inv.2⟩
  · cases h
theorem siOpt_ok {ev : Operand → SVal} (hev : ∀ x, Den C W R ρ (ev x) (a.eval x)) {x : Option Operand} {n : Option SI} {look : Nat → Option Cont} {l l' : List Nat} (h : (siOpt (x.map ev)).run look l = .ok (n, l')) : IntOf n (x.map a.eval) := by
  cases x with
  | none => have := ret_ok h; subst this; trivial
  | some x =>
    obtain ⟨m, l1, h1, h2⟩ := Acc.bind_ok h
    have := ret_ok h2; subst this
    obtain ⟨k, hk, _⟩ := si_ok h1 (hev x)
    exact ⟨k, hk⟩

/-- A part of a struct's cells. -/
theorem part_ok {t : Nat} {ti : TI} (T : TiOk P t ti) {vs : List Value} {off : Nat} {cs : List SVal} (hd : DenL C W R ρ cs (vs.drop off)) {look : Nat → Option Cont} {s : SVal} {l l' : List Nat}
    (hr : (valOf ti cs).run look l = .ok (s, l')) : ∃ v, (part t vs.toArray off).run P W = .ok v W ∧ Den C W R ρ s v := by
  obtain ⟨d, d1, d2⟩ := T.d
  obtain ⟨i, z, i1, i2, i3, i4, i5, i6, _⟩ := T.i
  have hs : (sizeOf t).run P W = .ok ti.size W := by rw [run_siz i1, i2]
  have one : isAggD d = false → (valOne cs).run look l = .ok (s, l') → ∃ v, (part t vs.toArray off).run P W = .ok v W ∧ Den C W R ρ s v := by
    intro hda hr
    cases cs with
    | nil => cases hr
    | cons s0 rest =>
      simp only [valOne] at hr
      split at hr
      · cases hr
      · rename_i hna
        have := ret_ok hr; subst this
        obtain ⟨v, us, e, h1, h2, h3⟩ := hd.inv_one hna
        have hv : vs[off]? = some v := by
          have := congrArg (·[0]?) e
          simpa using this
        exact ⟨v, by simp [part, isAgg_of d1, hda, hv], h2⟩
  have ext : ∀ n, (vs.toArray.extract off (off + n)) = ((vs.drop off).take n).toArray := fun n => by
    apply Array.ext'
    simp [List.extract_eq_take_drop]
  unfold valOf at hr
  split at hr
  · rename_i fs hfs
    rw [hfs] at d2
    obtain ⟨fields, rfl, _⟩ := d2
    obtain ⟨ht, _⟩ := ofOpt_ok hr
    cases hk : takeW cs ti.size with
    | none => rw [hk] at ht; cases ht
    | some cs' =>
      rw [hk] at ht; cases ht
      obtain ⟨q1, q2⟩ := hd.takeW hk
      exact ⟨_, by simp [part, isAgg_of d1, isAggD, hs, ext], .agg _ _ q1⟩
  · rename_i n e hfs
    rw [hfs] at d2
    have d2 : d = .array n e := d2
    subst d2
    split at hr
    · rename_i u m xs rest
      split at hr
      · rename_i hb
        have hb := beq_ok hb
        have := ret_ok hr; subst this
        generalize hds : vs.drop off = ds at hd
        cases hd with
        | one _ _ _ _ h => simp [SVal.isArr] at h
        | arr _ _ _ us _ us' hlen hx hrest =>
          have lu : us.length = ti.size := by rw [hx.len_noarr (flat_noarr u xs), flat_w, hlen, hb]
          refine ⟨.agg us.toArray, ?_, .arr u m xs us hlen hx⟩
          have : vs.toArray.extract off (off + ti.size) = us.toArray := by rw [ext, hds, ← lu, List.take_left]
          simp only [part, Sem.run_bind, isAgg_of d1, isAggD, Result.andThen_ok, if_true, hs, this]; rfl
      · cases hr
    · cases hr
  · rename_i h1 h2
    refine one ?_ hr
    cases hti : ti.d with
    | struct fs => exact (h1 _ hti).elim
    | arr n e => exact (h2 _ _ hti).elim
    | iface => rw [hti] at d2; obtain ⟨_, rfl⟩ := d2; rfl
    | func => rw [hti] at d2; obtain ⟨_, _, _, rfl⟩ := d2; rfl
    | other => rw [hti] at d2; exact d2
    | int k => rw [hti] at d2; have d2 : d = .int k := d2; subst d2; rfl
    | bool => rw [hti] at d2; have d2 : d = .bool := d2; subst d2; rfl
    | str => rw [hti] at d2; have d2 : d = .string := d2; subst d2; rfl
    | ptr e => rw [hti] at d2; have d2 : d = .pointer e := d2; subst d2; rfl
    | slice e => rw [hti] at d2; have d2 : d = .slice e := d2; subst d2; rfl
    | map k v => rw [hti] at d2; have d2 : d = .map k v := d2; subst d2; rfl

/-- Where an operation stands. -/
structure Sit (P : Program) (C : Ctx) (gl : List (Nat × SVal)) (E : Env) (W : World) (R : Nat → Prop) (ρ : Nat → Option Value) (h : Nat → Option Cont) (o : Oper) (a : Act) (ev : Operand → SVal) (next : Nat) (r : ORes) (l l' : List Nat) : Prop where
  EO : EnvOk P C gl E
  M : Mem C gl W R ρ h
  hev : ∀ x, Den C W R ρ (ev x) (a.eval x)
  hr : (sop E o ev next).run h l = .ok (r, l')
  hp : ∀ q, r.vc = some q → q
  hn : ∀ j, j < r.k → ρ (next + j) = none

variable {ev : Operand → SVal} {next : Nat} {r : ORes} {l l' : List Nat}

theorem sop_move (S : Sit P C gl E W R ρ h o a ev next r l l') {x} (hop : o.op = .move x) : Yields P C gl o a W R ρ h r := by
  obtain ⟨EO, M, hev, hr, hp, hn⟩ := S
  unfold sop at hr; rw [hop] at hr; simp only at hr
  have := ret_ok hr; subst this
  exact Yields.value M (by unfold execOp; rw [hop]) (hev x) rfl

theorem Trans.newNil (M : Mem C gl W R ρ h) {n : Nat} (hn : ρ n = none) (t : RT) : Trans C gl W R ρ h [(n, some (.recs t []))] W R (bindN ρ n (.slice none 0 0)) := by
  refine Trans.gen M rfl rfl rfl (Nat.le_refl _) (bindN_mono hn) (bindN_new (c := none) hn (by simp [keys])) (fun k hk _ => rfl) (fun kR r c' hf => ?_) (fun r r' c1 c2 h1 h2 => ?_)
  · obtain ⟨rfl, e⟩ := find_one hf
    cases e
    exact ⟨_, bindN_at, ⟨0, [], ⟨by simp, .inl ⟨rfl, rfl⟩⟩, .nil⟩, fun b hb => by cases hb⟩
  · rw [(find_one h1).1, (find_one h2).1]
theorem sop_assign (S : Sit P C gl E W R ρ h o a ev next r l l') {x} (hop : o.op = .assign x) : Yields P C gl o a W R ρ h r := by
  obtain ⟨EO, M, hev, hr, hp, hn⟩ := S
  unfold sop at hr; rw [hop] at hr; simp only at hr
  have he : execOp a.eval o = Pure.pure (Next.value (a.eval x)) := by unfold execOp; rw [hop]
  split at hr
  · rename_i hx
    have hd := hev x
    rw [hx] at hd
    split at hr
    · rename_i t ht
      have := ret_ok hr; subst this
      refine Yields.make (s := Pure.pure (a.eval x)) (by rw [he]; rfl) ⟨a.eval x, W, _, rfl, Trans.newNil M (hn 0 Nat.one_pos) t, ?_⟩
      generalize a.eval x = u at hd
      cases hd
      exact .own _ _ _ _ bindN_at
    · have := ret_ok hr; subst this
      exact Yields.value M he hd rfl
  · have := ret_ok hr; subst this
    exact Yields.value M he (hev x) rfl

theorem sop_alloc (S : Sit P C gl E W R ρ h o a ev next r l l') {t} (hop : o.op = .alloc t) : Yields P C gl o a W R ρ h r := by
  obtain ⟨EO, M, hev, hr, hp, hn⟩ := S
  unfold sop at hr; rw [hop] at hr; simp only at hr
  obtain ⟨ti, l1, h1, h2⟩ := Acc.bind_ok hr
  have := ret_ok h2; subst this
  refine Yields.make (by unfold execOp; rw [hop]) ?_
  obtain ⟨v, W', ρ', q1, q2, q3⟩ := alloc_ok (P := P) M (ti_ok EO h1) (hn 0 Nat.one_pos)
  exact ⟨v, W', ρ', q1, q2, q3⟩

theorem sop_box (S : Sit P C gl E W R ρ h o a ev next r l l') {t x} (hop : o.op = .box t x) : Yields P C gl o a W R ρ h r := by
  obtain ⟨EO, M, hev, hr, hp, hn⟩ := S
  unfold sop at hr; rw [hop] at hr; simp only at hr
  split at hr
  · cases hr
  · rename_i hagg
    have := ret_ok hr; subst this
    refine Yields.make (by unfold execOp; rw [hop]) ?_
    obtain ⟨v, W', ρ', q1, q2, q3⟩ := box_ok (P := P) (t := t) M hagg (hev x) (hn 0 Nat.one_pos)
    exact ⟨v, W', ρ', q1, q2, q3⟩

theorem sop_build (S : Sit P C gl E W R ρ h o a ev next r l l') {t ps} (hop : o.op = .build t ps) : Yields P C gl o a W R ρ h r := by
  obtain ⟨EO, M, hev, hr, hp, hn⟩ := S
  unfold sop at hr; rw [hop] at hr; simp only at hr
  obtain ⟨ti, l1, h1, h2⟩ := Acc.bind_ok hr
  refine Yields.pure M (by unfold execOp; rw [hop]) ?_
  have := build_ok (ti_ok EO h1) (parts_of hev ps.toList) h2
  rw [arr_map]; exact this

theorem sop_buildSlice (S : Sit P C gl E W R ρ h o a ev next r l l') {t n ps} (hop : o.op = .buildSlice t n ps) : Yields P C gl o a W R ρ h r := by
  obtain ⟨EO, M, hev, hr, hp, hn⟩ := S
  unfold sop at hr; rw [hop] at hr; simp only at hr
  obtain ⟨ti, l1, h1, h2⟩ := Acc.bind_ok hr
  split at h2
  · rename_i e htd
    obtain ⟨ei, l2, h3, h4⟩ := Acc.bind_ok h2
    obtain ⟨d, d1, d2⟩ := (ti_ok EO h1).d
    rw [htd] at d2
    have d2 : d = .slice e := d2
    subst d2
    have hk : 0 < r.k := by
      unfold buildSliceS at h4
      split at h4
      · split at h4
        · split at h4
          · have := ret_ok h4; subst this; exact Nat.one_pos
          · cases h4
        · have := ret_ok h4; subst this; exact Nat.one_pos
      · cases h4
    refine Yields.make (by unfold execOp; rw [hop]) ?_
    have := buildSlice_ok M d1 (ti_ok EO h3) (parts_of hev ps.toList) (hn 0 hk) h4
    rw [arr_map]; exact this
  · cases h2

theorem sop_load (S : Sit P C gl E W R ρ h o a ev next r l l') {t x} (hop : o.op = .load t x) : Yields P C gl o a W R ρ h r := by
  obtain ⟨EO, M, hev, hr, hp, hn⟩ := S
  unfold sop at hr; rw [hop] at hr; simp only at hr
  obtain ⟨ti, l1, h1, h2⟩ := Acc.bind_ok hr
  obtain ⟨cs, l2, h3, h4⟩ := Acc.bind_ok h2
  obtain ⟨v, l3, h5, h6⟩ := Acc.bind_ok h4
  have := ret_ok h6; subst this
  obtain ⟨b, off, vs, q1, q2, q3⟩ := atPtr_ok M h3 (hev x)
  obtain ⟨u, u1, u2⟩ := load_ok (ti_ok EO h1) q2 q3 h5
  refine Yields.pure M (by unfold execOp; rw [hop]) ⟨u, ?_, u2, rfl, rfl⟩
  simp [Instr.loadAt, q1, Instr.sureAddr, u1]

theorem sop_store (S : Sit P C gl E W R ρ h o a ev next r l l') {t x y} (hop : o.op = .store t x y) : Yields P C gl o a W R ρ h r := by
  obtain ⟨EO, M, hev, hr, hp, hn⟩ := S
  unfold sop at hr; rw [hop] at hr; simp only at hr
  obtain ⟨ti, l1, h1, h2⟩ := Acc.bind_ok hr
  split at h2
  · cases h2
  · rename_i hagg
    split at h2
    · rename_i hsz
      have hsz := beq_ok hsz
      obtain ⟨ws, l2, h3, h4⟩ := Acc.bind_ok h2
      have := ret_ok h4; subst this
      have hc := cells_den (hev y) hagg
      obtain ⟨b, off, W', q1, q2, q3⟩ := storeAt_ok (P := P) M h3 (hev x) hc
      obtain ⟨i, z, i1, i2, _⟩ := (ti_ok EO h1).i
      have hl : (a.eval y).cells.size = i.size := by
        have := hc.len
        rw [show (cellsOf (ev y) |>.map SVal.width).sum = ti.size from hsz] at this
        rw [i2]; simpa using this
      refine Yields.unit (by unfold execOp; rw [hop]) ⟨W', ρ, ?_, q3⟩ rfl
      simp [Instr.storeAt, q1, Instr.sureAddr, storeVar, run_siz i1, hl, q2]
    · cases h2

theorem sop_nilCheck (S : Sit P C gl E W R ρ h o a ev next r l l') {x} (hop : o.op = .nilCheck x) : Yields P C gl o a W R ρ h r := by
  obtain ⟨EO, M, hev, hr, hp, hn⟩ := S
  unfold sop at hr; rw [hop] at hr; simp only at hr
  have hx := hev x
  obtain ⟨v, hv⟩ : ∃ v, a.eval x = v := ⟨_, rfl⟩
  rw [hv] at hx
  split at hr
  case h_7 => cases hr
  all_goals
    rename_i hs
    rw [hs] at hx
    have := ret_ok hr; subst this
  · cases hx with
    | ptr _ _ b hb => exact Yields.value M (by unfold execOp; rw [hop]; simp only [hv]) (.ptr _ _ b hb) rfl
  · cases hx with
    | eptr _ _ _ _ b n cap hb h1 h2 => exact Yields.value M (by unfold execOp; rw [hop]; simp only [hv]) (.eptr _ _ _ _ b n cap hb h1 h2) rfl
  · cases hx with
    | aptr _ _ _ _ _ _ b hb h1 h2 => exact Yields.value M (by unfold execOp; rw [hop]; simp only [hv]) (.aptr _ _ _ _ _ _ b hb h1 h2) rfl
  · cases hx with
    | rop _ vs b off h1 h2 h3 => exact Yields.value M (by unfold execOp; rw [hop]; simp only [hv]) (.rop _ vs b off h1 h2 h3) rfl
  · have he := hp _ rfl
    cases hx with
    | atnil _ h => rw [h] at he; cases he
    | atp n p b off h1 h2 h3 h4 h5 => exact Yields.value M (by unfold execOp; rw [hop]; simp only [hv]) (.atp n p b off h1 h2 h3 h4 h5) rfl
  · cases hx with
    | func _ _ vs h => exact Yields.value M (by unfold execOp; rw [hop]; simp only [hv]) (.func _ _ vs h) rfl

theorem sop_binOp (S : Sit P C gl E W R ρ h o a ev next r l l') {op t x y ty} (hop : o.op = .binOp op t x y ty) : Yields P C gl o a W R ρ h r := by
  obtain ⟨EO, M, hev, hr, hp, hn⟩ := S
  unfold sop at hr; rw [hop] at hr; simp only at hr
  obtain ⟨z, q1, q2, q3, q4⟩ := binS_ok (P := P) M.base EO.err EO.tab (ox := x) (oy := y) (hev x) (hev y) hr hp
  exact Yields.pure M (by unfold execOp; rw [hop]) ⟨z, q1, q2, q3, q4⟩

theorem sop_unOp (S : Sit P C gl E W R ρ h o a ev next r l l') {op t x} (hop : o.op = .unOp op t x) : Yields P C gl o a W R ρ h r := by
  obtain ⟨EO, M, hev, hr, hp, hn⟩ := S
  unfold sop at hr; rw [hop] at hr; simp only at hr
  have hx := hev x
  obtain ⟨v, hv⟩ : ∃ v, a.eval x = v := ⟨_, rfl⟩
  rw [hv] at hx
  split at hr
  · rename_i hs
    rw [hs] at hx
    have := ret_ok hr; subst this
    have := hx.bool_inv; subst this
    refine Yields.pure (s := Op.unary .not (a.eval x)) M (by unfold execOp; rw [hop]) ⟨_, by rw [hv]; rfl, ?_, rfl, rfl⟩
    show Den C W R ρ (.bool (notB _)) _
    rw [← notB_val]; exact .bool _
  · rename_i k n hs
    rw [hs] at hx
    have := ret_ok hr; subst this
    obtain ⟨rfl, hi⟩ := hx.int_inv
    refine Yields.pure (s := Op.unary .neg (a.eval x)) M (by unfold execOp; rw [hop]) ⟨.int k (k.wrap (0 - n)), by rw [hv]; rfl, ?_, rfl, rfl⟩
    have : (0 : Int) - n = -n := by omega
    rw [this]
    exact .int k (.lit _) (.litw _ _)
  · rename_i k n _ hs
    rw [hs] at hx
    have := ret_ok hr; subst this
    obtain ⟨rfl, hi⟩ := hx.int_inv
    have l1 := hi.lo'; have l2 := hi.hi'
    have := mkI_ok (k := k) (n := -n.val) (lo := -n.hi k) (hi := -n.lo k) (by omega) (by omega)
    refine Yields.pure (s := Op.unary .neg (a.eval x)) M (by unfold execOp; rw [hop]) ⟨.int k (k.wrap (0 - n.val)), by rw [hv]; rfl, ?_, rfl, rfl⟩
    have e : (0 : Int) - n.val = -n.val := by omega
    rw [e, ← this.1]
    exact .int k _ this.2
  · cases hr

theorem sop_convert (S : Sit P C gl E W R ρ h o a ev next r l l') {s d x} (hop : o.op = .convert s d x) : Yields P C gl o a W R ρ h r := by
  obtain ⟨EO, M, hev, hr, hp, hn⟩ := S
  unfold sop at hr; rw [hop] at hr; simp only at hr
  obtain ⟨tsrc, l0, h0, h00⟩ := Acc.bind_ok hr
  obtain ⟨ti, l1, h1, h2⟩ := Acc.bind_ok h00
  obtain ⟨d', d1, d2⟩ := (ti_ok EO h1).d
  obtain ⟨ts, hts, _⟩ := (ti_ok EO h0).d
  exact Yields.pure M (by unfold execOp; rw [hop]) (conv_ok hts d1 d2 (hev x) h2)

theorem sop_makeInterface (S : Sit P C gl E W R ρ h o a ev next r l l') {t x} (hop : o.op = .makeInterface t x) : Yields P C gl o a W R ρ h r := by
  obtain ⟨EO, M, hev, hr, hp, hn⟩ := S
  unfold sop at hr; rw [hop] at hr; simp only at hr
  obtain ⟨ti, l1, h1, h2⟩ := Acc.bind_ok hr
  obtain ⟨d, d1, d2⟩ := (ti_ok EO h1).d
  have key : (∀ ms, d ≠ .interface ms) → r = { v := .iface t (ev x) } → Yields P C gl o a W R ρ h r := fun hd e => by
    subst e
    refine Yields.pure (s := Instr.makeInterface t (a.eval x)) M (by unfold execOp; rw [hop]) ⟨.iface t (a.eval x), ?_, .iface t _ _ (hev x), rfl, rfl⟩
    simp only [Instr.makeInterface, Sem.run_bind, run_und d1, Result.andThen_ok]
    cases d <;> first | rfl | exact (hd _ rfl).elim
  split at h2
  · cases h2
  · cases h2
  · rename_i h3 h4
    refine key (fun ms e => ?_) (ret_ok h2).symm
    subst e
    cases hti : ti.d <;> rw [hti] at d2
    case iface => exact h3 hti
    case other => exact h4 hti
    case struct => obtain ⟨_, e, _⟩ := d2; cases e
    case func => obtain ⟨_, _, _, e⟩ := d2; cases e
    all_goals (first | (have d2 : TypeDesc.interface ms = _ := d2; cases d2))

theorem sop_makeFunc (S : Sit P C gl E W R ρ h o a ev next r l l') {fn first cap} (hop : o.op = .makeFunc fn first cap) : Yields P C gl o a W R ρ h r := by
  obtain ⟨EO, M, hev, hr, hp, hn⟩ := S
  unfold sop at hr; rw [hop] at hr; simp only at hr
  split at hr
  · rename_i f hfirst
    have := ret_ok hr; subst this
    have hf : first = #[] := by cases first; simp at hfirst; rw [hfirst]
    subst hf
    refine Yields.pure (s := Instr.makeFunc (.func f) (#[].map a.eval) (cap.map a.eval)) M (by unfold execOp; rw [hop]) ⟨.func (.func f) #[] (cap.map a.eval), by simp [Instr.makeFunc], ?_, rfl, rfl⟩
    rw [arr_map cap]
    exact .func f _ _ (args_of hev cap.toList)
  · cases hr

theorem sop_makeSlice (S : Sit P C gl E W R ρ h o a ev next r l l') {t n c} (hop : o.op = .makeSlice t n c) : Yields P C gl o a W R ρ h r := by
  obtain ⟨EO, M, hev, hr, hp, hn⟩ := S
  unfold sop at hr; rw [hop] at hr; simp only at hr
  obtain ⟨ti, l1, h1, h2⟩ := Acc.bind_ok hr
  split at h2
  · rename_i e htd
    obtain ⟨d, d1, d2⟩ := (ti_ok EO h1).d
    rw [htd] at d2
    have d2 : d = .slice e := d2
    subst d2
    obtain ⟨ei, l2, h3, h4⟩ := Acc.bind_ok h2
    obtain ⟨m, l3, h5, h6⟩ := Acc.bind_ok h4
    obtain ⟨c', l4, h7, h8⟩ := Acc.bind_ok h6
    split at h8
    · rename_i u hu
      have := ret_ok h8; subst this
      obtain ⟨k, hk, ik⟩ := si_ok h5 (hev n)
      obtain ⟨k', hk', ik'⟩ := si_ok h7 (hev c)
      obtain ⟨v, W', ρ', q1, q2, q3⟩ := makeSlice_ok (P := P) M d1 (ti_ok EO h3) hu ik ik' (hn 0 Nat.one_pos) (hp _ rfl)
      refine Yields.make (s := Instr.makeSlice t (a.eval n) (a.eval c)) (by unfold execOp; rw [hop]) ⟨v, W', ρ', ?_, q2, q3⟩
      rw [hk, hk']; exact q1
    · cases h8
  · cases h2

theorem sop_slice (S : Sit P C gl E W R ρ h o a ev next r l l') {t x lo hi mx} (hop : o.op = .slice t x lo hi mx) : Yields P C gl o a W R ρ h r := by
  obtain ⟨EO, M, hev, hr, hp, hn⟩ := S
  unfold sop at hr; rw [hop] at hr; simp only at hr
  split at hr
  · obtain ⟨ti, l1, h1, h2⟩ := Acc.bind_ok hr
    obtain ⟨lo', l2, h3, h4⟩ := Acc.bind_ok h2
    obtain ⟨hi', l3, h5, h6⟩ := Acc.bind_ok h4
    obtain ⟨d, d1, d2⟩ := (ti_ok EO h1).d
    have q1 := siOpt_ok hev h3
    have q2 := siOpt_ok hev h5
    split at h6
    · rename_i e htd
      rw [htd] at d2
      have d2 : d = .slice e := d2
      subst d2
      obtain ⟨ei, l4, h7, h8⟩ := Acc.bind_ok h6
      exact Yields.pure M (by unfold execOp; rw [hop]; rfl) (sliceS_ok M d1 (ti_ok EO h7) (hev x) q1 q2 h8 hp)
    · rename_i htd
      rw [htd] at d2
      have d2 : d = .string := d2
      subst d2
      exact Yields.pure M (by unfold execOp; rw [hop]; rfl) (sliceStr_ok d1 (hev x) q1 q2 h6 hp)
    · cases h6
  · cases hr

theorem sop_fieldAddr (S : Sit P C gl E W R ρ h o a ev next r l l') {s x f} (hop : o.op = .fieldAddr s x f) : Yields P C gl o a W R ρ h r := by
  obtain ⟨EO, M, hev, hr, hp, hn⟩ := S
  unfold sop at hr; rw [hop] at hr; simp only at hr
  obtain ⟨ti, l1, h1, h2⟩ := Acc.bind_ok hr
  obtain ⟨d, d1, d2⟩ := (ti_ok EO h1).d
  split at h2
  · rename_i fs htd
    rw [htd] at d2
    obtain ⟨fields, rfl, rfl, hfi⟩ := d2
    split at h2
    · rename_i off ty n hf
      rw [List.getElem?_map] at hf
      cases hg : fields.toList[f]? with
      | none => rw [hg] at hf; cases hf
      | some fd =>
        rw [hg] at hf
        simp only [Option.map_some, Option.some.injEq, Prod.mk.injEq] at hf
        obtain ⟨rfl, rfl, rfl⟩ := hf
        obtain ⟨inf, i1, i2, i3⟩ := hfi fd (List.mem_of_getElem? hg)
        exact Yields.pure M (by unfold execOp; rw [hop]) (fieldAddr_ok M d1 (by rw [← Array.getElem?_toList]; exact hg) i1 i3 (hev x) h2 hp)
    · cases h2
  · cases h2

theorem sop_indexAddr (S : Sit P C gl E W R ρ h o a ev next r l l') {t x i} (hop : o.op = .indexAddr t x i) : Yields P C gl o a W R ρ h r := by
  obtain ⟨EO, M, hev, hr, hp, hn⟩ := S
  unfold sop at hr; rw [hop] at hr; simp only at hr
  obtain ⟨ti, l1, h1, h2⟩ := Acc.bind_ok hr
  obtain ⟨d, d1, d2⟩ := (ti_ok EO h1).d
  split at h2
  · rename_i k n hi
    have hi' := hev i
    rw [hi] at hi'
    obtain ⟨e1, ik⟩ := hi'.int_inv
    split at h2
    · rename_i e htd
      rw [htd] at d2
      have d2 : d = .slice e := d2
      subst d2
      obtain ⟨ei, l2, h3, h4⟩ := Acc.bind_ok h2
      have := indexSl_ok M d1 (ti_ok EO h3) (hev x) ik h4 hp
      rw [← e1] at this
      exact Yields.pure M (by unfold execOp; rw [hop]) this
    · rename_i m e htd
      rw [htd] at d2
      have d2 : d = .array m e := d2
      subst d2
      obtain ⟨ei, l2, h3, h4⟩ := Acc.bind_ok h2
      have := indexAr_ok M d1 (ti_ok EO h3) (hev x) ik h4 hp
      rw [← e1] at this
      exact Yields.pure M (by unfold execOp; rw [hop]) this
    · cases h2
  · cases h2

theorem sop_extract (S : Sit P C gl E W R ρ h o a ev next r l l') {t i} (hop : o.op = .extract t i) : Yields P C gl o a W R ρ h r := by
  obtain ⟨EO, M, hev, hr, hp, hn⟩ := S
  unfold sop at hr; rw [hop] at hr; simp only at hr
  split at hr
  · rename_i ls ht
    have hx := hev t
    rw [ht] at hx
    obtain ⟨v, hv⟩ : ∃ v, a.eval t = v := ⟨_, rfl⟩
    rw [hv] at hx
    split at hr
    · rename_i s hs
      have := ret_ok hr; subst this
      cases hx with
      | tuple _ vs hh =>
        obtain ⟨u, u1, u2⟩ := hh.get hs
        refine Yields.pure (s := Instr.extract (a.eval t) i) M (by unfold execOp; rw [hop]) ⟨u, ?_, u2, rfl, rfl⟩
        rw [hv]; simp [Instr.extract, u1]
    · cases hr
  · cases hr

theorem sop_typeAssert (S : Sit P C gl E W R ρ h o a ev next r l l') {x xt t ok} (hop : o.op = .typeAssert x xt t ok) : Yields P C gl o a W R ρ h r := by
  obtain ⟨EO, M, hev, hr, hp, hn⟩ := S
  unfold sop at hr; rw [hop] at hr; simp only at hr
  obtain ⟨ti, l1, h1, h2⟩ := Acc.bind_ok hr
  split at h2
  · rename_i e hx' hz
    split at h2
    · rename_i ht
      have ht := beq_ok ht
      rw [EO.tAt] at ht; subst ht
      have := ret_ok h2; subst this
      obtain ⟨el, hel⟩ := EO.err.tAt
      obtain ⟨i, z, i1, i2, i3, i4, i5, i6, _⟩ := (ti_ok EO h1).i
      have hz0 := i6 C W R ρ
      rw [hz] at hz0
      cases hz0
      have hx := hev x
      rw [hx'] at hx
      obtain ⟨v, hv⟩ : ∃ v, a.eval x = v := ⟨_, rfl⟩
      rw [hv] at hx
      refine Yields.pure (s := Instr.typeAssert (a.eval x) xt C.tAt true) M (by unfold execOp; rw [hop]) ?_
      rw [hv]
      cases hx with
      | fine =>
        refine ⟨.tuple #[.pointer none, .bool false], ?_, .tuple _ [_, _] (.cons _ _ _ _ (.atnil _ rfl) (.cons _ _ _ _ (.bool (.sym false)) .nil)), rfl, rfl⟩
        simp [Instr.typeAssert, run_und hel, run_zero i1 i4]
      | bare n hn' =>
        refine ⟨.tuple #[.pointer none, .bool false], ?_, .tuple _ [_, _] (.cons _ _ _ _ (.atnil _ rfl) (.cons _ _ _ _ (.bool (.sym false)) .nil)), rfl, rfl⟩
        simp [Instr.typeAssert, run_und hel, run_zero i1 i4, EO.err, M.base.types]
      | placed n p b off g1 g2 g3 g4 g5 =>
        refine ⟨.tuple #[.pointer (some ⟨b, off, none⟩), .bool true], ?_, .tuple _ [_, _] (.cons _ _ _ _ (.atp n p b off g1 g2 g3 g4 g5) (.cons _ _ _ _ (.bool (.sym true)) .nil)), rfl, rfl⟩
        simp [Instr.typeAssert, run_und hel]
    · cases h2
  · cases h2

theorem sop_field (S : Sit P C gl E W R ρ h o a ev next r l l') {s x f} (hop : o.op = .field s x f) : Yields P C gl o a W R ρ h r := by
  obtain ⟨EO, M, hev, hr, hp, hn⟩ := S
  unfold sop at hr; rw [hop] at hr; simp only at hr
  obtain ⟨ti, l1, h1, h2⟩ := Acc.bind_ok hr
  obtain ⟨d, d1, d2⟩ := (ti_ok EO h1).d
  split at h2
  · rename_i fs ls htd hx'
    rw [htd] at d2
    obtain ⟨fields, rfl, rfl, hfi⟩ := d2
    split at h2
    · rename_i off ty n hf
      rw [List.getElem?_map] at hf
      cases hg : fields.toList[f]? with
      | none => rw [hg] at hf; cases hf
      | some fd =>
        rw [hg] at hf
        simp only [Option.map_some, Option.some.injEq, Prod.mk.injEq] at hf
        obtain ⟨rfl, rfl, rfl⟩ := hf
        obtain ⟨fi, l2, h3, h4⟩ := Acc.bind_ok h2
        split at h4
        · rename_i cs hd
          obtain ⟨v, l3, h5, h6⟩ := Acc.bind_ok h4
          have := ret_ok h6; subst this
          have hx := hev x
          rw [hx'] at hx
          obtain ⟨u, hu⟩ : ∃ u, a.eval x = u := ⟨_, rfl⟩
          rw [hu] at hx
          refine Yields.pure (s := Instr.field s (a.eval x) f) M (by unfold execOp; rw [hop]) ?_
          rw [hu]
          cases hx with
          | agg _ vs hh =>
            obtain ⟨w, w1, w2⟩ := part_ok (P := P) (ti_ok EO h3) (hh.dropW hd) h5
            refine ⟨w, ?_, w2, rfl, rfl⟩
            have hf' : fields[f]? = some fd := by rw [← Array.getElem?_toList]; exact hg
            simp [Instr.field, run_und d1, hf', asAgg, w1]
        · cases h4
    · cases h2
  · cases h2
end
end Go.Sy
