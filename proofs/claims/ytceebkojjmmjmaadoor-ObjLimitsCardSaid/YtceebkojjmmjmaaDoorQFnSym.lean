/- Contracts that the proofs use. -/
import Derived.Test.YtceebkojjmmjmaaDoorQFnMake
import Derived.Test.YtceebkojjmmjmaaDoorQFnVal
import Derived.Test.YtceebkojjmmjmaaDoorQIdxM
set_option linter.unusedVariables false
set_option linter.unusedSimpArgs false
namespace Go.Proofs.YtceebkojjmmjmaaDoor
open Go.RowKit Go.Sy Go.Fac
section
variable {ea : Ear} {has : Int → Prop} {gl : List (Nat × SVal)}
def nmP (sy : List Sm) (nm : ByteArray) (i : Nat) : Bool := decide ((sy.getD i RT.sym.dflt).name = nm)
def symI (sy : List Sm) (nm : ByteArray) : Nat := idxM (nmP sy nm) sy.length
def symAdd (sy : List Sm) (nm : ByteArray) : List Sm := if symI sy nm < sy.length then sy else sy ++ [⟨nm, 3, 0, true⟩]
abbrev envS (gl : List (Nat × SVal)) : Env := { env gl [] with old := [0, 1, 2, 3] }
theorem envS_ok : EnvOk Tryd.prog (ctx ea has) gl (envS gl) :=
  let e := env_ok (con := []) (ea := ea) (has := has) (gl := gl) trivial
  ⟨e.tab, e.err, e.glob, e.tAt, e.mixed, e.con, e.cmp⟩
abbrev boxS (dd : List Int) (n : Nat) : Option Cont := some (.cells [.ro .u32 dd, .own 1, .own 2, .nilslice, .own 3, .own n])
def HSym (dd : List Int) (sy : List Sm) (nm : ByteArray) (i : Nat) : SState := { fr := [(0, .ptr 0 0), (1, .str nm), (5, .int .i64 (.sym i 0 1000000))], hp := [(0, boxS dd 4), (4, some (.recs .sym sy))], next := 5, sz := 43 }
def XSym (dd : List Int) (sy : List Sm) (nm : ByteArray) : SState := { fr := [(0, .ptr 0 0), (1, .str nm)], hp := [(0, boxS dd 4), (4, some (.recs .sym sy))], next := 5, sz := 43 }
def YSym (dd : List Int) (sy : List Sm) (nm : ByteArray) : SState := { fr := [(4, .int .i64 (.full (symI sy nm)))], hp := [(0, boxS dd 4), (4, some (.recs .sym sy))], next := 5, sz := 43 }
abbrev cSymB (sy : List Sm) (nm : ByteArray) : Bool := decide (symI sy nm = sy.length)
def LSym (dd : List Int) (sy : List Sm) (nm : ByteArray) : LSum := ⟨HSym dd sy nm 0, fun k => .ite (cSymB sy nm) (k (.exit 0) (XSym dd sy nm)) (k .ret (YSym dd sy nm)), sy.length ≤ 999999⟩
theorem bSym (gl : List (Nat × SVal)) (dd : List Int) (sy : List Sm) (nm : ByteArray) (i : Nat) : (Tr.sat (rnd2 (envS gl) (fun i => idxM (nmP sy nm) i = i) sy.length (HSym dd sy nm) 0 (cSymB sy nm) (XSym dd sy nm) (YSym dd sy nm) i) (run (envS gl) [] (loopN (bodyOf Tryd.f85) 0) (HSym dd sy nm i) .leaf)) = (
  (decide ((↑i : Int) < (↑(List.length sy) : Int)) = true → ((0 : Int) ≤ (↑i : Int) ∧ (↑i : Int) < (↑(List.length sy) : Int)) ∧ ((0 : Int) ≤ (↑i : Int) ∧ (↑i : Int) < (↑(List.length sy) : Int) → (decide ((List.getD sy (Int.toNat (↑i : Int)) (RT.dflt RT.sym)).name = nm) = true → cSymB sy nm = false ∧ (↑i : Int) = (↑(symI sy nm) : Int) ∧ dd = dd ∧ sy = sy) ∧ (decide ((List.getD sy (Int.toNat (↑i : Int)) (RT.dflt RT.sym)).name = nm) = false → i < List.length sy ∧ idxM (nmP sy nm) (i + (1 : Nat)) = i + (1 : Nat) ∧ nm = nm ∧ (↑i : Int) + (1 : Int) = (↑(i + (1 : Nat)) : Int) ∧ ((0 : Int) ≤ (↑(i + (1 : Nat)) : Int) ∧ (↑(i + (1 : Nat)) : Int) ≤ (1000000 : Int)) ∧ dd = dd ∧ sy = sy))) ∧ (decide ((↑i : Int) < (↑(List.length sy) : Int)) = false → Nat.beq (0 : Nat) (0 : Nat) = true ∧ cSymB sy nm = true ∧ nm = nm ∧ dd = dd ∧ sy = sy)) := by kernel_rfl
theorem lSym (dd : List Int) (sy : List Sm) (nm : ByteArray) {W : World} {R own0 : Nat → Prop} {ρ0 : Nat → Option Value} : LOk Tryd.prog (envS gl) (ctx ea has) gl W R own0 ρ0 (loopN (bodyOf Tryd.f85) 0) (LSym dd sy nm) := by
  refine loop2_ok envS_ok trivial (ls := fun _ => []) (fun _ => noLoops (by kernel_rfl)) (fun hm i hi hj => (bSym gl dd sy nm i).mpr ?_) 0 (fun _ => Nat.zero_le _) (fun _ => rfl)
  have hlo : nmP sy nm i = decide ((sy.getD i RT.sym.dflt).name = nm) := rfl
  simp only [Int.toNat_natCast]
  refine ⟨fun h => ?_, fun h => ?_⟩
  · have h := of_decide_eq_true h
    have hlt : i < sy.length := by omega
    refine ⟨by omega, fun _ => ⟨fun h2 => ?_, fun h2 => ?_⟩⟩
    · have e : symI sy nm = i := idxM_hit hj (hlo.trans h2) hlt
      refine ⟨decide_eq_false (by omega), by rw [e], ?_⟩
      simp
    · refine ⟨hlt, idxM_step hj (hlo.trans h2), ?_⟩
      simp; omega
  · have h := of_decide_eq_false h
    have e : i = sy.length := by omega
    subst e
    refine ⟨rfl, decide_eq_true hj, ?_⟩
    simp
theorem runSym (gl : List (Nat × SVal)) (dd : List Int) (sy : List Sm) (nm : ByteArray) : (Tr.sat (fun _ s => fits (envS gl) s { fr := [(0, .int .i64 (.full (symI sy nm)))], hp := [(0, boxS dd 5), (5, some (.recs .sym (symAdd sy nm)))], next := 6, sz := 1 }) (run (envS gl) [(2, LSym dd sy nm)] (bodyOf Tryd.f85) { fr := numb 0 [.ptr 0 0, .str nm], hp := [(0, boxS dd 4), (4, some (.recs .sym sy))], next := 5, sz := 43 } (ends (envS gl) Tryd.f85.results.toList))) = (
  (List.length sy ≤ (999999 : Nat) ∧ nm = nm ∧ (0 : Int) = (↑(0 : Nat) : Int) ∧ dd = dd ∧ sy = sy) ∧ (List.length sy ≤ (999999 : Nat) ∧ nm = nm ∧ (0 : Int) = (↑(0 : Nat) : Int) ∧ dd = dd ∧ sy = sy → (cSymB sy nm = true → List.length sy + List.length [Sm.mk nm (3 : Int) (0 : Int) true] ≤ (137438953472 : Nat) ∧ (List.length sy + List.length [Sm.mk nm (3 : Int) (0 : Int) true] ≤ (137438953472 : Nat) → (↑(List.length (sy ++ [Sm.mk nm (3 : Int) (0 : Int) true])) : Int) - (1 : Int) = (↑(symI sy nm) : Int) ∧ dd = dd ∧ sy ++ [Sm.mk nm (3 : Int) (0 : Int) true] = symAdd sy nm)) ∧ (cSymB sy nm = false → (↑(symI sy nm) : Int) = (↑(symI sy nm) : Int) ∧ dd = dd ∧ sy = symAdd sy nm))) := by kernel_rfl
theorem gSym (dd : List Int) (sy : List Sm) (nm : ByteArray) (hv : sy.length ≤ 999999) : Tr.sat (fun _ s => fits (envS gl) s { fr := [(0, .int .i64 (.full (symI sy nm)))], hp := [(0, boxS dd 5), (5, some (.recs .sym (symAdd sy nm)))], next := 6, sz := 1 }) (run (envS gl) [(2, LSym dd sy nm)] (bodyOf Tryd.f85) { fr := numb 0 [.ptr 0 0, .str nm], hp := [(0, boxS dd 4), (4, some (.recs .sym sy))], next := 5, sz := 43 } (ends (envS gl) Tryd.f85.results.toList)) := by
  refine (runSym gl dd sy nm).mpr ?_
  refine ⟨⟨hv, rfl, rfl, rfl, rfl⟩, fun _ => ⟨fun h => ?_, fun h => ?_⟩⟩
  · have h := of_decide_eq_true h
    have e : symAdd sy nm = sy ++ [⟨nm, 3, 0, true⟩] := by rw [symAdd, if_neg (by omega)]
    refine ⟨by simp; omega, fun _ => ⟨by rw [h]; simp, rfl, e.symm⟩⟩
  · have h := of_decide_eq_false h
    have := idxM_le (nmP sy nm) sy.length
    have e : symAdd sy nm = sy := by rw [symAdd, if_pos (by unfold symI at *; omega)]
    exact ⟨rfl, rfl, e.symm⟩
def rSym (dd : List Int) (sy : List Sm) (nm : ByteArray) (q a1 a2 a3 a4 n : Nat) : ORes := { v := .int .i64 (.full (symI sy nm)), ws := [(a4, none), (n, some (.recs .sym (symAdd sy nm))), (q, some (.cells [.ro .u32 dd, .own a1, .own a2, .nilslice, .own a3, .own n]))], k := 1, vc := some (sy.length ≤ 999999) }
def kSym : List SVal → Nat → Acc ORes := fun a n => match a with
  | [.ptr q 0, .str nm] => .look q fun c => match c with
    | some (.cells [.ro .u32 dd, .own a1, .own a2, .nilslice, .own a3, .own a4]) => .look a4 fun c => match c with
      | some (.recs .sym sy) => .ret (rSym dd sy nm q a1 a2 a3 a4 n)
      | _ => .fail "sym"
    | _ => .fail "sym"
  | _ => .fail "sym"
theorem cSym : Con ea has gl 85 kSym where
  call := enters Tryd.func85 (c := bodyOf Tryd.f85) (by kernel_rfl) (by kernel_rfl)
  does {W R ρ h args vs next r l l'} M hA hr hv hn := by
    unfold kSym at hr
    split at hr
    · rename_i q nm
      simp only [Acc.run] at hr
      split at hr
      · rename_i dd a1 a2 a3 a4 hq
        simp only [Acc.run] at hr
        split at hr
        · rename_i sy ha4
          have := ret_ok hr; subst this
          replace hv := hv _ rfl
          clear hr
          -- what is handed over
          obtain ⟨vq, hvq, b, cs, T, rfl, hb, hd⟩ := M.at_ q _ hq
          obtain ⟨v4, hv4, hh4⟩ := M.at_ a4 _ ha4
          obtain ⟨u0, us, rfl, o0, d0, hd⟩ := hd.inv_one rfl
          obtain ⟨u1, us, rfl, o1, d1, hd⟩ := hd.inv_one rfl
          obtain ⟨u2, us, rfl, o2, d2, hd⟩ := hd.inv_one rfl
          obtain ⟨u3, us, rfl, o3, d3, hd⟩ := hd.inv_one rfl
          obtain ⟨u4, us, rfl, o4, d4, hd⟩ := hd.inv_one rfl
          obtain ⟨u5, us, rfl, o5, d5, hd⟩ := hd.inv_one rfl
          cases hd
          cases d1 with
          | own _ A1 m1 c1 e1 =>
          cases d2 with
          | own _ A2 m2 c2 e2 =>
          cases d4 with
          | own _ A3 m3 c3 e3 =>
          cases d5 with
          | own _ A4 m4 c4 e4 =>
          rw [hv4] at e4; cases e4
          let ρ0 : Nat → Option Value := fun n => if n = 0 then ρ q else if n = 1 then ρ a1 else if n = 2 then ρ a2 else if n = 3 then ρ a3 else if n = 4 then ρ a4 else none
          have only : ∀ n c, lookS [(0, boxS dd 4), (4, some (.recs .sym sy))] n = some c → (n = 0 ∧ c = .cells [.ro .u32 dd, .own 1, .own 2, .nilslice, .own 3, .own 4]) ∨ (n = 4 ∧ c = .recs .sym sy) := fun n c hc => by
            unfold lookS at hc
            simp only [find] at hc
            split at hc
            · rename_i hbq; have := Nat.eq_of_beq_eq_true hbq; subst this; cases hc; exact .inl ⟨rfl, rfl⟩
            · split at hc
              · rename_i hbq; have := Nat.eq_of_beq_eq_true hbq; subst this; cases hc; exact .inr ⟨rfl, rfl⟩
              · cases hc
          have hne : q ≠ a4 := fun e => by subst e; rw [hq] at ha4; cases ha4
          have hroF : ∀ {ρ' : Nat → Option Value} {u}, Den (ctx ea has) W R ρ (.ro .u32 dd) u → Den (ctx ea has) W R ρ' (.ro .u32 dd) u := fun {ρ' u} hd => by
            cases hd with
            | ro _ _ A cap vs h1 h2 h3 h4 h5 => exact .ro _ _ A cap vs h1 h2 (h3.free (fun _ h => h) (flat_plain .u32 dd)) h4 h5
          have S : Enters (ctx ea has) gl W R ρ h (rSym dd sy nm q a1 a2 a3 a4 next) R (fun x => x = b ∨ blk (.slice A4 m4 c4) = some x) ρ0 [(0, boxS dd 4), (4, some (.recs .sym sy))] 5 [.ptr 0 0, .str nm] vs := by
            refine ⟨?_, ⟨M.base, fun n c hc => ?_, fun n n' c c' v v' x k1 k2 k3 k4 k5 k6 => ?_, fun n c v x k1 k2 k3 => ?_⟩, fun n hn => ?_, fun _ h => h, fun _ h => .inl h, fun x hx => ?_, fun x hx => ?_⟩
            · cases hA with
              | cons _ v _ us h1 h2 =>
                cases h2 with
                | cons _ v' _ us' h3 h4 =>
                  cases h4
                  cases h1 with
                  | ptr _ _ b' hv' => exact .cons _ _ _ _ (.ptr 0 0 b' hv') (.cons _ _ _ _ (h3.free (fun _ h => h) rfl) .nil)
            · rcases only n c hc with ⟨rfl, rfl⟩ | ⟨rfl, rfl⟩
              · exact ⟨_, hvq, b, _, T, rfl, hb, .one _ _ _ _ rfl o0 (hroF d0) (.one _ _ _ _ rfl o1 (.own 1 _ _ _ e1) (.one _ _ _ _ rfl o2 (.own 2 _ _ _ e2) (.one _ _ _ _ rfl o3 (by cases d3; exact .nilslice) (.one _ _ _ _ rfl o4 (.own 3 _ _ _ e3) (.one _ _ _ _ rfl o5 (.own 4 _ _ _ hv4) .nil)))))⟩
              · obtain ⟨e, vs, ho, hl⟩ := hh4
                exact ⟨_, hv4, e, vs, ho, hl.free (fun _ h => h) (flat_plain .sym sy)⟩
            · rcases only n c k1 with ⟨rfl, rfl⟩ | ⟨rfl, rfl⟩ <;> rcases only n' c' k2 with ⟨rfl, rfl⟩ | ⟨rfl, rfl⟩
              · rfl
              · exact (hne (M.apart q a4 _ _ _ _ x hq ha4 k3 k4 k5 k6)).elim
              · exact (hne (M.apart q a4 _ _ _ _ x hq ha4 k4 k3 k6 k5)).elim
              · rfl
            · rcases only n c k1 with ⟨rfl, rfl⟩ | ⟨rfl, rfl⟩
              · exact M.off q _ v x hq k2 k3
              · exact M.off a4 _ v x ha4 k2 k3
            · show (if n = 0 then ρ q else if n = 1 then ρ a1 else if n = 2 then ρ a2 else if n = 3 then ρ a3 else if n = 4 then ρ a4 else none) = none
              rw [if_neg (by omega), if_neg (by omega), if_neg (by omega), if_neg (by omega), if_neg (by omega)]
            · obtain ⟨n, c, v, k1, k2, k3⟩ := hx
              rcases only n c k1 with ⟨rfl, rfl⟩ | ⟨rfl, rfl⟩
              · have k2 : ρ q = some v := k2
                rw [hvq] at k2; cases k2; cases k3; exact .inl rfl
              · have k2 : ρ a4 = some v := k2
                rw [hv4] at k2; cases k2; exact .inr k3
            · rcases hx with rfl | hx
              · exact ⟨q, _, _, by simp [keys, rSym], hq, hvq, rfl⟩
              · exact ⟨a4, _, _, by simp [keys, rSym], ha4, hv4, hx⟩
          have hnq : ρ next = none := hn 0 Nat.one_pos
          have hqn : q ≠ next := fun e => by subst e; rw [hvq] at hnq; cases hnq
          refine con_run envS_ok rfl Tryd.func85 (c := bodyOf Tryd.f85) (by kernel_rfl) (ls := [(2, LSym dd sy nm)]) M hn S (by kernel_rfl) (fun W R ρ0 own0 _ => hl1 (by kernel_rfl) (by kernel_rfl) (lSym dd sy nm)) ?_
          refine sat_mono (fun e s hs => ⟨_, _, [(q, 0), (next, 5)], hs, ?_, ?_, ?_, rfl⟩) (gSym dd sy nm hv)
          · intro W R ρ2 ρ3 u M2 ha he _ _ hd
            exact hd.free (fun _ h => h) rfl
          · intro n c hc
            have f0 : find q [(q, 0), (next, 5)] = some 0 := by simp [find, Nat.beq_refl]
            have f1 : find next [(q, 0), (next, 5)] = some 5 := by
              have : q.beq next = false := by cases hb : q.beq next with | false => rfl | true => exact (hqn (Nat.eq_of_beq_eq_true hb)).elim
              simp [find, Nat.beq_refl, this]
            unfold rSym at hc
            simp only [find] at hc
            split at hc
            · cases hc; exact .inl rfl
            · split at hc
              · rename_i hbq
                have := Nat.eq_of_beq_eq_true hbq; subst this
                cases hc
                refine .inr ⟨5, .recs .sym (symAdd sy nm), _, f1, rfl, rfl, fun W R ρ2 ρ3 u M2 ha he _ _ hh => ?_⟩
                obtain ⟨e, vs, ho, hl⟩ := hh
                exact ⟨e, vs, ho, hl.free (fun _ h => h) (flat_plain .sym _)⟩
              · split at hc
                · rename_i hbq
                  have := Nat.eq_of_beq_eq_true hbq; subst this
                  cases hc
                  refine .inr ⟨0, .cells [.ro .u32 dd, .own 1, .own 2, .nilslice, .own 3, .own 5], _, f0, rfl, rfl, fun W R ρ2 ρ3 u M2 ha he hpin hext hh => ?_⟩
                  obtain ⟨b', cs, T, rfl, hb, hd⟩ := hh
                  obtain ⟨w0, us, rfl, p0, q0, hd⟩ := hd.inv_one rfl
                  obtain ⟨w1, us, rfl, p1, q1, hd⟩ := hd.inv_one rfl
                  obtain ⟨w2, us, rfl, p2, q2, hd⟩ := hd.inv_one rfl
                  obtain ⟨w3, us, rfl, p3, q3, hd⟩ := hd.inv_one rfl
                  obtain ⟨w4, us, rfl, p4, q4, hd⟩ := hd.inv_one rfl
                  obtain ⟨w5, us, rfl, p5, q5, hd⟩ := hd.inv_one rfl
                  cases hd
                  have g1 := hpin 1 (by simp) _ (show ρ0 1 = _ from e1)
                  have g2 := hpin 2 (by simp) _ (show ρ0 2 = _ from e2)
                  have g3 := hpin 3 (by simp) _ (show ρ0 3 = _ from e3)
                  refine ⟨b', _, T, rfl, hb, .one _ _ _ _ rfl p0 ?_ (.one _ _ _ _ rfl p1 ?_ (.one _ _ _ _ rfl p2 ?_ (.one _ _ _ _ rfl p3 (by cases q3; exact .nilslice) (.one _ _ _ _ rfl p4 ?_ (.one _ _ _ _ rfl p5 ?_ .nil)))))⟩
                  · cases q0 with
                    | ro _ _ A cap vs h1 h2 h3 h4 h5 => exact .ro _ _ A cap vs h1 h2 (h3.free (fun _ h => h) (flat_plain .u32 dd)) h4 h5
                  · cases q1 with
                    | own _ A m c e => rw [g1] at e; cases e; exact .own _ _ _ _ (hext _ _ e1)
                  · cases q2 with
                    | own _ A m c e => rw [g2] at e; cases e; exact .own _ _ _ _ (hext _ _ e2)
                  · cases q4 with
                    | own _ A m c e => rw [g3] at e; cases e; exact .own _ _ _ _ (hext _ _ e3)
                  · cases q5 with
                    | own _ A m c e => exact .own _ _ _ _ (by rw [he next 5 f1]; exact e)
                · cases hc
          · intro n q' hq'
            simp only [find] at hq'
            split at hq'
            · rename_i hbq
              have := Nat.eq_of_beq_eq_true hbq; subst this
              cases hq'
              exact .inl ⟨by simp, rfl, by rw [hvq]; simp⟩
            · split at hq'
              · rename_i hbq
                have := Nat.eq_of_beq_eq_true hbq; subst this
                cases hq'
                exact .inr ⟨by simp [keys, rSym], Nat.le_refl _, Nat.lt_succ_self _⟩
              · cases hq'
        · cases hr
      · cases hr
    · cases hr
end
end Go.Proofs.YtceebkojjmmjmaaDoor

