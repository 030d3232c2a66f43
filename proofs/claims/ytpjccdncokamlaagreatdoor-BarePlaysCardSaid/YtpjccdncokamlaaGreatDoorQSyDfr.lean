/- Contracts. -/
import Derived.Test.YtpjccdncokamlaaGreatDoorQE12
import Derived.Defers
import Derived.Tactics
set_option linter.unusedVariables false
set_option linter.unusedSimpArgs false
namespace Go.Sy
open Go.RowKit
def sA : Code → Code
  | .seq a _ => a
  | c => c
def sB : Code → Code
  | .seq _ b => b
  | c => c
def defOps : Code → Option (Nat × Nat × Nat)
  | .region _ ops false => match ops.toList with
    | [⟨some d, .makeFunc (.func f) fs cs, _, _, _, none⟩, ⟨none, .defer ⟨.value (.tmp d'), as, _⟩, _, _, _, none⟩] => match fs.toList, cs.toList, as.toList, d.beq d' with
      | [], [.tmp t], [], true => some (t, f, d)
      | _, _, _, _ => none
    | _ => none
  | _ => none
section
variable {P : Program} {C : Ctx} {gl : List (Nat × SVal)} {E : Env} {W0 : World} {R0 own0 : Nat → Prop} {ρ0 : Nat → Option Value}
variable {s t : SState} {a : Act} {W W' : World} {R R' : Nat → Prop} {ρ ρ' : Nat → Option Value}
theorem part_run (EO : EnvOk P C gl E) (hown : HownOk E own0 ρ0) {c : Code} {Q : Exi → SState → Prop} (I : Inv E C gl W0 R0 own0 ρ0 s a W R ρ) (h : (run E [] c s fun e s => .leaf e s).sat Q) {post : Exit → Act → World → Prop}
    (hp : ∀ e s a W R ρ, Inv E C gl W0 R0 own0 ρ0 s a W R ρ → Q e s → post (exitOf e) a W) : c.wp P post a W :=
  run_sound EO hown c (ls := []) (fun b hb L hL => by cases hL) s _ post a W R ρ I h fun e s a W R ρ J hs => hp e s a W R ρ J hs
theorem part_cut (EO : EnvOk P C gl E) (hown : HownOk E own0 ρ0) {c : Code} {ls : List (Nat × LSum)} (hl : loopsOf c = []) {Q : Exi → SState → Prop} (I : Inv E C gl W0 R0 own0 ρ0 s a W R ρ) (h : (run E ls c s fun e s => .leaf e s).sat Q) {post : Exit → Act → World → Prop}
    (hp : ∀ e s a W R ρ, Inv E C gl W0 R0 own0 ρ0 s a W R ρ → Q e s → post (exitOf e) a W) : c.wp P post a W :=
  run_sound EO hown c (ls := ls) (fun b hb L hL => by rw [hl] at hb; cases hb) s _ post a W R ρ I h fun e s a W R ρ J hs => hp e s a W R ρ J hs
theorem defer_region {c : Code} {k f d : Nat} (h : defOps c = some (k, f, d)) (hd : d < a.tmps.size) {post : Exit → Act → World → Prop}
    (hp : post .normal { (a.put (some d) (.func (.func f) #[] #[a.tmps.getD k undef])) with defers := { target := .fn (.func f) #[a.tmps.getD k undef], args := #[] } :: a.defers } W) : c.wp P post a W := by
  unfold defOps at h
  split at h
  · rename_i id ops
    split at h
    · rename_i d0 f0 fs cs t1 p1 a1 d1 as ts t2 p2 a2 hops
      split at h
      · rename_i t hf hc ha hb
        cases h
        have := Nat.eq_of_beq_eq_true hb
        subst this
        have e1 : fs = #[] := by cases fs; simp at hf; subst hf; rfl
        have e2 : cs = #[.tmp k] := by cases cs; simp at hc; subst hc; rfl
        have e3 : as = #[] := by cases as; simp at ha; subst ha; rfl
        subst e1 e2 e3
        have eo : ops = #[⟨some d, .makeFunc (.func f) #[] #[.tmp k], t1, p1, a1, none⟩, ⟨none, .defer ⟨.value (.tmp d), #[], ts⟩, t2, p2, a2, none⟩] := by
          cases ops; simp at hops; subst hops; rfl
        subst eo
        refine wp_region ?_
        have evk : a.eval (.tmp k) = a.tmps.getD k undef := rfl
        generalize a.tmps.getD k undef = u at *
        have ev : (a.put (some d) (.func (.func f) #[] #[u])).eval (.tmp d) = .func (.func f) #[] #[u] := by
          show (a.tmps.setIfInBounds d _).getD d undef = _
          rw [Array.getD_eq_getD_getElem?, Array.getElem?_setIfInBounds_self]; simp [hd]
        have r2 : List.range 2 = [0, 1] := rfl
        have x1 : (execOp a.eval ⟨some d, .makeFunc (.func f) #[] #[.tmp k], t1, p1, a1, none⟩).run P W = .ok (.value (.func (.func f) #[] #[u])) W := by
          simp [execOp, Instr.makeFunc, evk]
        have x2 : (execOp (a.put (some d) (.func (.func f) #[] #[u])).eval ⟨none, .defer ⟨.value (.tmp d), #[], ts⟩, t2, p2, a2, none⟩).run P W = .ok (.defer { target := .fn (.func f) #[u], args := #[] }) W := by
          simp [execOp, resolve, Deferred.ofValue, ev]
        show wpOps P _ post (List.range 2) a W
        rw [r2]
        refine Or.inl ?_
        show Oper.upon P _ a _ post ((execOp a.eval ⟨some d, .makeFunc (.func f) #[] #[.tmp k], t1, p1, a1, none⟩).run P W)
        rw [x1, Oper.upon_value]
        refine Or.inl ?_
        show Oper.upon P _ (a.put (some d) (.func (.func f) #[] #[u])) _ post ((execOp (a.put (some d) (.func (.func f) #[] #[u])).eval ⟨none, .defer ⟨.value (.tmp d), #[], ts⟩, t2, p2, a2, none⟩).run P W)
        rw [x2, Oper.upon_defer]
        exact hp
      · cases h
    · cases h
  · cases h
abbrev leafK : Exi → SState → Tr := fun e s => .leaf e s
def goesTo (E : Env) (t : SState) : Exi → SState → Prop := fun e s => match e with
  | .normal => fits E s t
  | _ => False
def goesOr (E : Env) (pN : Prop) (t : SState) (pR : Prop) (u : SState) : Exi → SState → Prop := fun e s => match e with
  | .normal => pN ∧ fits E s t
  | .ret => pR ∧ fits E s u
  | _ => False
def endsAt (E : Env) (t : SState) : Exi → SState → Prop := fun e s => match e with
  | .exit _ => False
  | _ => fits E s t
theorem Inv.reslot (I : Inv E C gl W0 R0 own0 ρ0 s a W R ρ) {E' : Env} {ρ1 : Nat → Option Value} {a' : Act} {fr : List (Nat × SVal)} {z : Nat} (hs : ∀ d, Den C W R ρ ((find d fr).getD .any) (a'.tmps.getD d undef)) (hz : a'.tmps.size = z) (hd : a'.defers = E'.df)
    (hp : ∀ n ∈ E'.old, ∀ v, ρ1 n = some v → ρ n = some v) : Inv E' C gl W0 R0 own0 ρ1 { fr := fr, hp := s.hp, next := s.next, sz := z } a' W R ρ :=
  ⟨hs, I.mem, hz, I.bt, I.above, hd, hp⟩
def wDf (E : Env) (df : List Deferred) (q : Nat) : Env := { E with df := df, old := E.old ++ [q] }
theorem dfr_run (EO : EnvOk P C gl E) (hdf : E.df = []) {f : Nat} {fn : Func} {A0 A1 D B B2 : Code} (hf : P.funcs[f]? = some fn) (hb : fn.body = some (.seq A0 (.seq A1 (.seq D (.seq B B2))))) {rt : Nat} (hres : fn.results = #[.tmp rt])
    {fc : Nat} {fnc : Func} {cc : Code} (hfc : P.funcs[fc]? = some fnc) (hbc : fnc.body = some cc) (hresc : fnc.results = #[]) (hnamec : (fnc.name == "runtime.NumGoroutine") = false) (hntc : Nat.ble 1 fnc.ntmps = true)
    {vs : List Value} {s0 sA sD sR sI sB sE : SState} {k d q : Nat} {w wr : SVal} {pN pR pM pX : Prop}
    (I : Inv E C gl W0 R0 own0 ρ0 s0 ⟨vs.toArray ++ Array.replicate (fn.ntmps - vs.toArray.size) undef, []⟩ W R ρ)
    (h0 : (run E [] A0 s0 leafK).sat (goesTo E sA) ∧ True) (h1 : (run E [] A1 sA leafK).sat (goesOr E pN sD pR sR) ∧ True)
    (hD : defOps D = some (k, fc, d)) (hd : Nat.ble (d + 1) sD.sz = true) (hk : find k sD.fr = some (.ptr q 0)) (hnd : find d sD.fr = none)
    {ls ls2 : List (Nat × LSum)} (hl : loopsOf B = []) (hl2 : loopsOf B2 = []) (h2 : pN → ∀ df, (run (wDf E df q) ls B sD leafK).sat (goesOr (wDf E df q) pM sI pX sB) ∧ True)
    (h4 : pN → pM → ∀ df, (run (wDf E df q) ls2 B2 sI leafK).sat (endsAt (wDf E df q) sB) ∧ True)
    (hw : find rt sB.fr = some w) (hpw : pureV w = true) (hwr : find rt sR.fr = some wr) (hpwr : pureV wr = true)
    (h3 : pN → (run E [] cc { fr := [(0, .ptr q 0)], hp := sB.hp, next := sB.next, sz := fnc.ntmps } leafK).sat (endsAt E sE) ∧ True)
    {Qf : Exi → SState → Prop} (hqR : pR → Qf .ret { fr := [(0, wr)], hp := sR.hp, next := sR.next, sz := 1 } ∧ True) (hqE : pN → Qf .ret { fr := [(0, w)], hp := sE.hp, next := sE.next, sz := 1 } ∧ True)
    {Z : Ending → World → Prop} (hZ : ∀ e s v W' R1 ρ1, Qf e s → Inv E C gl W0 R0 own0 ρ0 s ⟨#[v], []⟩ W' R1 ρ1 → Z (.returned v) W') : Calls P f vs.toArray W Z := by
  have hown : ∀ {E : Env} {ρ0 : Nat → Option Value}, HownOk E own0 ρ0 := fun {E ρ0} => trivial
  have res : ∀ (tm : Array Value) (W : World), (results fn tm).run P W = .ok (tm.getD rt undef) W := fun tm W => results_tmp hres tm P W
  have one : ∀ {u : Value} {x : SVal} {W W' : World} {R R' : Nat → Prop} {ρ ρ' : Nat → Option Value}, Den C W R ρ x u → pureV x = true → ∀ d, Den C W' R' ρ' ((find d [(0, x)]).getD .any) ((#[u] : Array Value).getD d undef) := fun {u x W W' R R' ρ ρ'} hx hp d => by
    cases d with
    | zero => exact pureV_ok hx hp
    | succ d => exact .any _
  refine calls_of_wp_defers hf hb ?_
  refine wp_seq (part_run EO hown I h0.1 fun e s a W R ρ J hs => ?_)
  cases e with
  | ret => exact hs.elim
  | exit id => exact hs.elim
  | normal =>
  obtain ⟨R, ρ, J⟩ := J.sub EO hown hs
  show (Code.seq A1 (.seq D (.seq B B2))).wp P _ a W
  refine wp_seq (part_run EO hown J h1.1 fun e s a W R ρ J hs => ?_)
  cases e with
  | exit id => exact hs.elim
  | ret =>
    obtain ⟨hR, hs⟩ := hs
    obtain ⟨R, ρ, J⟩ := J.sub EO hown hs
    show Leaves P fn a.tmps Z a.defers .returning W
    rw [J.defers, hdf]
    refine ⟨_, res _ _, ?_⟩
    have hx := J.slots rt
    rw [hwr] at hx
    exact hZ .ret _ _ W R ρ (hqR hR).1 (J.reslot (one hx hpwr) rfl hdf.symm J.pins)
  | normal =>
    obtain ⟨hN, hs⟩ := hs
    obtain ⟨R, ρ, J⟩ := J.sub EO hown hs
    show (Code.seq D (.seq B B2)).wp P _ a W
    have hdz : d < a.tmps.size := by rw [J.size]; exact Nat.le_of_ble_eq_true hd
    refine wp_seq (defer_region hD hdz ?_)
    have hcap := J.slots k
    rw [hk] at hcap
    simp only [Option.getD_some] at hcap
    generalize hu : a.tmps.getD k undef = u at *
    show (Code.seq B B2).wp P _ _ W
    have J' : Inv (wDf E [{ target := .fn (.func fc) #[u], args := #[] }] q) C gl W0 R0 own0 ρ sD { (a.put (some d) (.func (.func fc) #[] #[u])) with defers := { target := .fn (.func fc) #[u], args := #[] } :: a.defers } W R ρ := by
      refine ⟨fun j => ?_, J.mem, ?_, J.bt, J.above, congrArg (List.cons _) (J.defers.trans hdf), fun _ _ _ h => h⟩
      · by_cases hj : j = d
        · subst hj; rw [hnd]; exact .any _
        · have e : (a.tmps.setIfInBounds d (Value.func (.func fc) #[] #[u])).getD j undef = a.tmps.getD j undef := by
            rw [Array.getD_eq_getD_getElem?, Array.getD_eq_getD_getElem?, Array.getElem?_setIfInBounds_ne (fun h => hj h.symm)]
          show Den C W R ρ _ ((a.tmps.setIfInBounds d (Value.func (.func fc) #[] #[u])).getD j undef)
          rw [e]; exact J.slots j
      · show (a.tmps.setIfInBounds d _).size = _
        rw [Array.size_setIfInBounds]; exact J.size
    have EO' : EnvOk P C gl (wDf E [{ target := .fn (.func fc) #[u], args := #[] }] q) := ⟨EO.tab, EO.err, EO.glob, EO.tAt, EO.mixed, EO.con, EO.cmp⟩
    have fin : ∀ {s a2 W2 R2 ρ2}, Inv (wDf E [{ target := .fn (.func fc) #[u], args := #[] }] q) C gl W0 R0 own0 ρ s a2 W2 R2 ρ2 → endsAt (wDf E [{ target := .fn (.func fc) #[u], args := #[] }] q) sB .ret s → Leaves P fn a2.tmps Z a2.defers .returning W2 := fun {s a2 W2 R2 ρ2} J2 hs => by
      obtain ⟨R2, ρ2, J2⟩ := J2.sub EO' hown hs
      have hds : a2.defers = [{ target := .fn (.func fc) #[u], args := #[] }] := J2.defers
      rw [hds]
      refine leaves_cons (f := fc) (args := #[u]) (by simp) ?_ ?_
      · unfold invoke
        simpa using enters hfc hbc hnamec #[u] W2
      · have hx := J2.slots rt
        rw [hw] at hx
        have hpn : ∀ n ∈ E.old, ∀ v, ρ0 n = some v → ρ2 n = some v := fun n hn v hv => J2.pins n (List.mem_append_left _ hn) v (J.pins n hn v hv)
        have hu2 : Den C W2 R2 ρ2 (.ptr q 0) u := by
          cases hcap with
          | ptr _ _ b hb => exact .ptr q 0 b (J2.pins q (List.mem_append_right _ (List.mem_singleton.2 rfl)) _ hb)
        have K : Inv E C gl W0 R0 own0 ρ0 { fr := [(0, .ptr q 0)], hp := sB.hp, next := sB.next, sz := fnc.ntmps } ⟨#[u] ++ Array.replicate (fnc.ntmps - (#[u] : Array Value).size) undef, []⟩ W2 R2 ρ2 := by
          refine J2.reslot (fun j => ?_) ?_ hdf.symm hpn
          · cases j with
            | zero =>
              have : (#[u] ++ Array.replicate (fnc.ntmps - (#[u] : Array Value).size) undef).getD 0 undef = u := by rw [Array.getD_eq_getD_getElem?, Array.getElem?_append_left (by simp)]; rfl
              rw [this]; exact hu2
            | succ j => exact .any _
          · have := Nat.le_of_ble_eq_true hntc
            rw [Array.size_append, Array.size_replicate]; simp; omega
        have hwp : cc.wp P (bodyPost P fnc fun e W' => (∃ v, e = .returned v) ∧ Leaves P fn a2.tmps Z [] .returning W') ⟨#[u] ++ Array.replicate (fnc.ntmps - (#[u] : Array Value).size) undef, []⟩ W2 := by
          refine part_run EO hown K (h3 hN).1 fun e s a3 W3 R3 ρ3 J3 hs => ?_
          have last : endsAt E sE .ret s → Leaves P fn a2.tmps Z [] .returning W3 := fun hs => by
            obtain ⟨R3, ρ3, J3⟩ := J3.sub EO hown hs
            exact ⟨_, res _ _, hZ .ret _ _ W3 R3 ρ3 (hqE hN).1 (J3.reslot (one hx hpw) rfl hdf.symm J3.pins)⟩
          cases e with
          | exit id => exact hs.elim
          | normal => exact ⟨J3.defers.trans hdf, _, results_none hresc _ _ _, ⟨_, rfl⟩, last hs⟩
          | ret => exact ⟨J3.defers.trans hdf, _, results_none hresc _ _ _, ⟨_, rfl⟩, last hs⟩
        refine (callsD_of_wp (u := .returning) hfc hbc hwp).mono fun e u' w' ⟨h1, ⟨v', hv'⟩, h2⟩ => ?_
        subst h1
        subst hv'
        exact h2
    refine wp_seq (part_cut EO' hown hl J' (h2 hN _).1 fun e s a2 W2 R2 ρ2 J2 hs => ?_)
    cases e with
    | exit id => exact hs.elim
    | ret => exact fin J2 hs.2
    | normal =>
    obtain ⟨hM, hs⟩ := hs
    obtain ⟨R2, ρ2, J2⟩ := J2.sub EO' hown hs
    refine part_cut EO' hown hl2 J2 (h4 hN hM _).1 fun e s a3 W3 R3 ρ3 J3 hs => ?_
    cases e with
    | exit id => exact hs.elim
    | normal => exact fin J3 hs
    | ret => exact fin J3 hs
end
end Go.Sy

