/- Contracts that the proofs use. -/
import Derived.Test.YtceebkojjmmjmaaDoorQFnBytes
import Derived.Test.YtceebkojjmmjmaaDoorQFnMk2
set_option linter.unusedVariables false
set_option linter.unusedSimpArgs false
namespace Go.Proofs.YtceebkojjmmjmaaDoor
open Go.RowKit Go.Sy Go.Fac
section
variable {ea : Ear} {has : Int → Prop} {rest : List (Nat × SVal)}
abbrev kBytesF := frz [shOb] kBytes
theorem cBytesF : Con ea has (G7 ++ rest) 30 kBytesF := frz_ok cBytes _
abbrev kValidF := frz [shOb] kValid
theorem cValidF : Con ea has (G7 ++ rest) 31 kValidF := frz_ok cValid _
def kfirst9 : List SVal → Nat → Acc ORes := fun a n => match a with | [] => .ret ({ v := .bool (.lit true) }) | _ => .fail "first9"
theorem argfirst9  : (all (subL tAtN none' [] deep [] [])) = (
  True) := by kernel_rfl
theorem runfirst9 (rest : List (Nat × SVal)) : (Tr.sat (plainQ (.bool (.lit true))) (run (env (G7 ++ rest) [(30, kBytesF)]) [] (bodyOf Tryd.f27) (start [] 15) (ends (env (G7 ++ rest) [(30, kBytesF)]) Tryd.f27.results.toList))) = (
  true = true) := by kernel_rfl
set_option maxHeartbeats 4000000 in
theorem cfirst9 : Con ea has (G7 ++ rest) 27 kfirst9 := by
  refine plain_mkB Tryd.func27 15 (con := [(30, kBytesF)]) ⟨cBytesF, trivial⟩ (fun hA hr hv => ?_) (by kernel_rfl) (by kernel_rfl) Tryd.ntmps27
  unfold kfirst9 at hr; split at hr
  · skip
    have := ret_ok hr; subst this
    refine ⟨_, [], rfl, rfl, .of (argfirst9 ) (by simp), rfl, (fun W R ρ0 own0 hown => noSums (by kernel_rfl)), .of (runfirst9 rest ) ?_⟩
    clear hr
    rfl
  · cases hr
def owD (k : Int) (l : List Int) : List Int := if k = 0 then l ++ [1] else l
def owC (k : Int) (l : List Int) : List Int := if k = 1 then l ++ [1] else l
def owM (k : Int) (l : List Int) : List Int := if k = 2 then l ++ [1] else l
def owR (k : Int) (l : List Rel) : List Rel := if k = 3 then l ++ [⟨0, 0, 0, 0⟩] else l
def owQ (k : Int) (l : List Rel) : List Rel := if k = 4 then l ++ [⟨0, 0, 0, 0⟩] else l
def owS (k : Int) (l : List Sm) : List Sm := if k < 5 then l else l ++ [⟨ByteArray.empty, 0, 0, false⟩]
def jOwn (d c m : List Int) (dr cr : List Rel) (sy : List Sm) (k : Int) : LSum := cutL { fr := [(2, .ptr 0 0), (5, .bool (.lit true)), (6, .ptr 1 0)], hp := [(0, obBox d c m dr cr sy), (1, obBox (owD k d) (owC k c) (owM k m) (owR k dr) (owQ k cr) (owS k sy))], next := 2, sz := 109 }
theorem app_ne {α : Type} (l : List α) (x : α) : l ++ [x] ≠ l := fun h => by have := congrArg List.length h; simp at this
theorem own_ne {d c m : List Int} {dr cr : List Rel} {sy : List Sm} {k : Int} (h0 : 0 ≤ k) (h1 : k < 6) : sameOb (owD k d) (owC k c) (owM k m) (owR k dr) (owQ k cr) (owS k sy) d c m dr cr sy = false ∧ sameOb d c m dr cr sy (owD k d) (owC k c) (owM k m) (owR k dr) (owQ k cr) (owS k sy) = false := by
  rcases (show k = 0 ∨ k = 1 ∨ k = 2 ∨ k = 3 ∨ k = 4 ∨ k = 5 by omega) with h | h | h | h | h | h <;> subst h <;> simp [sameOb, owD, owC, owM, owR, owQ, owS]
theorem same_self (d c m : List Int) (dr cr : List Rel) (sy : List Sm) : sameOb d c m dr cr sy d c m dr cr sy = true := by simp [sameOb]
theorem set_ne (d c m : List Int) (dr cr : List Rel) (sy : List Sm) (h : 0 < c.length) : sameOb d (c.set (Int.toNat 0) (IntKind.u32.wrap (c.getD (Int.toNat 0) RT.u32.dflt + 1))) m dr cr sy d c m dr cr sy = false := by
  have : c.set (Int.toNat 0) (IntKind.u32.wrap (c.getD (Int.toNat 0) RT.u32.dflt + 1)) ≠ c := fun e => by
    cases c with
    | nil => simp at h
    | cons x l =>
      simp at e
      rw [IntKind.wrap_u32] at e
      omega
  unfold sameOb
  rw [decide_eq_false this]
  simp
end
end Go.Proofs.YtceebkojjmmjmaaDoor

