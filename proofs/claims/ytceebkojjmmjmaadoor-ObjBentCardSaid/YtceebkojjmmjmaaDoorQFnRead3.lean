/- Contracts that the proofs use. -/
import Derived.Test.YtceebkojjmmjmaaDoorQFnRead2
import Derived.Test.YtceebkojjmmjmaaDoorQFnOwn
set_option linter.unusedVariables false
set_option linter.unusedSimpArgs false
namespace Go.Proofs.YtceebkojjmmjmaaDoor
open Go.RowKit Go.Sy Go.Fac
def tops : List Int := [2048, 2048, 1024, 1024, 256]
def hdS0 (l : List Int) (e : FErr) : Nat → List Int × FErr × List Int
  | 0 => (l, e, [])
  | i + 1 => (w4L (hdS0 l e i).1 (hdS0 l e i).2.1, upE (tops.getD i 0) (.bare 104) (hdS0 l e i).1 (hdS0 l e i).2.1, (hdS0 l e i).2.2 ++ [upN (tops.getD i 0) (hdS0 l e i).1 (hdS0 l e i).2.1])
def hdS (l : List Int) (e : FErr) (i : Nat) : List Int × FErr × List Int := hide (hdS0 l e i)
theorem hdS_zero (l : List Int) (e : FErr) : hdS l e 0 = (l, e, []) := hide_eq _
theorem hdS_succ (l : List Int) (e : FErr) (i : Nat) : hdS l e (i + 1) = (w4L (hdS l e i).1 (hdS l e i).2.1, upE (tops.getD i 0) (.bare 104) (hdS l e i).1 (hdS l e i).2.1, (hdS l e i).2.2 ++ [upN (tops.getD i 0) (hdS l e i).1 (hdS l e i).2.1]) := by
  unfold hdS; rw [hide_eq, hide_eq]; rfl
theorem hdS_len (l : List Int) (e : FErr) : ∀ i, (hdS l e i).2.2.length = i
  | 0 => by rw [hdS_zero]; rfl
  | i + 1 => by rw [hdS_succ]; show (_ ++ [_]).length = _; rw [List.length_append, hdS_len l e i]; rfl
theorem tops_in (i : Nat) : 0 ≤ tops.getD i 0 ∧ tops.getD i 0 ≤ 2048 := by
  match i with
  | 0 | 1 | 2 | 3 | 4 => decide
  | i + 5 => show 0 ≤ ([] : List Int).getD i 0 ∧ ([] : List Int).getD i 0 ≤ 2048; simp
theorem hdS_in (l : List Int) (e : FErr) : ∀ i, ∀ x ∈ (hdS l e i).2.2, 0 ≤ x ∧ x ≤ 2048
  | 0 => by rw [hdS_zero]; intro x hx; cases hx
  | i + 1 => by
    rw [hdS_succ]
    intro x hx
    rcases List.mem_append.1 hx with hx | hx
    · exact hdS_in l e i x hx
    · have ht := tops_in i
      have := upN_le ht.1 (hdS l e i).1 (hdS l e i).2.1
      rw [List.mem_singleton.1 hx]; omega
def a0L (b : List Int) : List Int := hide (hdS (w4L b .fine) (w4E b .fine) 5).1
def a0E (b : List Int) : FErr := hide (hdS (w4L b .fine) (w4E b .fine) 5).2.1
def nN (b : List Int) (j : Nat) : Int := hide ((hdS (w4L b .fine) (w4E b .fine) 5).2.2.getD j 0)
def nL (b : List Int) : List Int := hide (hdS (w4L b .fine) (w4E b .fine) 5).2.2
def dX (b : List Int) : List Int := hide (wsX (a0L b) (a0E b) (nN b 0).toNat)
def a1L (b : List Int) : List Int := hide (wsS (a0L b) (a0E b) (nN b 0).toNat).1
def a1E (b : List Int) : FErr := hide (wsS (a0L b) (a0E b) (nN b 0).toNat).2.1
def cX (b : List Int) : List Int := hide (wsX (a1L b) (a1E b) (nN b 1).toNat)
def a2L (b : List Int) : List Int := hide (wsS (a1L b) (a1E b) (nN b 1).toNat).1
def a2E (b : List Int) : FErr := hide (wsS (a1L b) (a1E b) (nN b 1).toNat).2.1
def mX (b : List Int) : List Int := hide (tkX (nN b 1) (a2L b) (a2E b))
def a3L (b : List Int) : List Int := hide (tkL (nN b 1) (a2L b) (a2E b))
def a3E (b : List Int) : FErr := hide (tkE (nN b 1) (a2L b) (a2E b))
def drX (b : List Int) : List Rel := hide (rlX (a3L b) (a3E b) (nN b 2).toNat)
def a4L (b : List Int) : List Int := hide (rlS (a3L b) (a3E b) (nN b 2).toNat).1
def a4E (b : List Int) : FErr := hide (rlS (a3L b) (a3E b) (nN b 2).toNat).2.1
def crX (b : List Int) : List Rel := hide (rlX (a4L b) (a4E b) (nN b 3).toNat)
def a5L (b : List Int) : List Int := hide (rlS (a4L b) (a4E b) (nN b 3).toNat).1
def a5E (b : List Int) : FErr := hide (rlS (a4L b) (a4E b) (nN b 3).toNat).2.1
def sX (b : List Int) : List Sm := hide (syX (a5L b) (a5E b) (nN b 4).toNat)
def a6L (b : List Int) : List Int := hide (syS (a5L b) (a5E b) (nN b 4).toNat).1
def a6E (b : List Int) : FErr := hide (syS (a5L b) (a5E b) (nN b 4).toNat).2.1
def f1E (b : List Int) : FErr := hide (if (a6E b).isErr = true then a6E b else if 0 < (a6L b).length then .bare 102 else .fine)
def f2E (b : List Int) : FErr := hide (if (f1E b).isErr = true then f1E b else validE (dX b) (cX b) (mX b) (drX b) (crX b) (sX b))
def readE (b : List Int) : FErr := hide (if b.length < 24 then .bare 101 else if ¬ w4W b .fine = 842225232 then .bare 102 else f2E b)
def rdD (b : List Int) : List Int := hide (if (readE b).isErr = true then [] else dX b)
def rdC (b : List Int) : List Int := hide (if (readE b).isErr = true then [] else cX b)
def rdM (b : List Int) : List Int := hide (if (readE b).isErr = true then [] else mX b)
def rdDr (b : List Int) : List Rel := hide (if (readE b).isErr = true then [] else drX b)
def rdCr (b : List Int) : List Rel := hide (if (readE b).isErr = true then [] else crX b)
def rdS (b : List Int) : List Sm := hide (if (readE b).isErr = true then [] else sX b)
theorem nN_is (b : List Int) (j : Nat) : nN b j = (hdS (w4L b .fine) (w4E b .fine) 5).2.2.getD j 0 := hide_eq _
theorem nL_is (b : List Int) : nL b = (hdS (w4L b .fine) (w4E b .fine) 5).2.2 := hide_eq _
theorem nL_len (b : List Int) : (nL b).length = 5 := by rw [nL_is]; exact hdS_len _ _ 5
theorem nN_in (b : List Int) (j : Nat) : 0 ≤ nN b j ∧ nN b j ≤ 2048 := by
  rw [nN_is, List.getD_eq_getElem?_getD]
  cases h : (hdS (w4L b .fine) (w4E b .fine) 5).2.2[j]? with
  | none => exact ⟨Int.le_refl _, by decide⟩
  | some x => exact hdS_in _ _ 5 x (List.mem_of_getElem? h)
theorem f1E_is (b : List Int) : f1E b = if (a6E b).isErr = true then a6E b else if 0 < (a6L b).length then .bare 102 else .fine := hide_eq _
theorem f2E_is (b : List Int) : f2E b = if (f1E b).isErr = true then f1E b else validE (dX b) (cX b) (mX b) (drX b) (crX b) (sX b) := hide_eq _
theorem readE_is (b : List Int) : readE b = if b.length < 24 then .bare 101 else if ¬ w4W b .fine = 842225232 then .bare 102 else f2E b := hide_eq _
theorem rdD_is (b : List Int) : rdD b = if (readE b).isErr = true then [] else dX b := hide_eq _
theorem rdC_is (b : List Int) : rdC b = if (readE b).isErr = true then [] else cX b := hide_eq _
theorem rdM_is (b : List Int) : rdM b = if (readE b).isErr = true then [] else mX b := hide_eq _
theorem rdDr_is (b : List Int) : rdDr b = if (readE b).isErr = true then [] else drX b := hide_eq _
theorem rdCr_is (b : List Int) : rdCr b = if (readE b).isErr = true then [] else crX b := hide_eq _
theorem rdS_is (b : List Int) : rdS b = if (readE b).isErr = true then [] else sX b := hide_eq _
theorem rd_nil {b : List Int} (h : (readE b).isErr = true) : rdD b = [] ∧ rdC b = [] ∧ rdM b = [] ∧ rdDr b = [] ∧ rdCr b = [] ∧ rdS b = [] := by
  rw [rdD_is, rdC_is, rdM_is, rdDr_is, rdCr_is, rdS_is, h]; exact ⟨rfl, rfl, rfl, rfl, rfl, rfl⟩
theorem rd_all {b : List Int} (h : (readE b).isErr = false) : rdD b = dX b ∧ rdC b = cX b ∧ rdM b = mX b ∧ rdDr b = drX b ∧ rdCr b = crX b ∧ rdS b = sX b := by
  rw [rdD_is, rdC_is, rdM_is, rdDr_is, rdCr_is, rdS_is, h]; exact ⟨rfl, rfl, rfl, rfl, rfl, rfl⟩
theorem fine_of' {e : FErr} (h : e.isErr = false) : e = .fine := by cases e <;> first | rfl | cases h
abbrev nil6 : List SVal := [.nilslice, .nilslice, .nilslice, .nilslice, .nilslice, .nilslice]
def rdSt (b : List Int) (l : List Int) (e : FErr) (o : List SVal) (hp : List (Nat × Option Cont)) (n : Nat) : LSum :=
  cutL { fr := [(2, .ptr 0 0), (4, .ptr 1 0), (5, .own 2), (8, .ptr 3 0)], hp := [(0, some (.cells nil6)), (1, some (.cells [.ro .u8 l, .err e])), (2, some (.recs .i64 (nL b))), (3, some (.cells o))] ++ hp, next := n, sz := 108 }
section
variable {ea : Int → Addr} {has : Int → Prop} {rest : List (Nat × SVal)}
def HRead' (l : List Int) (e : FErr) (i : Nat) : SState := { fr := [(2, .ptr 0 0), (4, .ptr 1 0), (5, .own 2), (22, .own 3), (23, .int .i64 (.lit 5)), (24, .int .i64 (.sym i 0 5))], hp := [(0, some (.cells nil6)), (1, some (.cells [.ro .u8 (hdS l e i).1, .err (hdS l e i).2.1])), (2, some (.recs .i64 (hdS l e i).2.2)), (3, some (.recs .u32 [2048, 2048, 1024, 1024, 256]))], next := 4, sz := 108 }
def XRead' (l : List Int) (e : FErr) : SState := { fr := [(2, .ptr 0 0), (4, .ptr 1 0), (5, .own 2)], hp := [(0, some (.cells nil6)), (1, some (.cells [.ro .u8 (hdS l e 5).1, .err (hdS l e 5).2.1])), (2, some (.recs .i64 (hdS l e 5).2.2))], next := 3, sz := 108 }
def LRead' (l : List Int) (e : FErr) : LSum := ⟨HRead' l e 0, fun k => k (.exit 0) (XRead' l e), True⟩
theorem bRead' (rest : List (Nat × SVal)) (l : List Int) (e : FErr) (i : Nat) : (Tr.sat (rnd1 (env (G7 ++ (G9 ++ rest)) [(63, krword), (64, krupTo), (65, krwords), (66, krtake), (67, krrelocs), (68, krsyms), (69, krfail), (31, kValid)]) (fun _ => True) (5) (HRead' l e) 0 (XRead' l e) i) (run (env (G7 ++ (G9 ++ rest)) [(63, krword), (64, krupTo), (65, krwords), (66, krtake), (67, krrelocs), (68, krsyms), (69, krfail), (31, kValid)]) [] (loopN (bodyOf Tryd.f29) 0) (HRead' l e i) .leaf)) = (
  (decide ((↑i : Int) < (5 : Int)) = true → ((0 : Int) ≤ (↑i : Int) ∧ (↑i : Int) < (↑(List.length [(2048 : RT.ty RT.u32), (2048 : RT.ty RT.u32), (1024 : RT.ty RT.u32), (1024 : RT.ty RT.u32), (256 : RT.ty RT.u32)]) : Int)) ∧ ((0 : Int) ≤ (↑i : Int) ∧ (↑i : Int) < (↑(List.length [(2048 : RT.ty RT.u32), (2048 : RT.ty RT.u32), (1024 : RT.ty RT.u32), (1024 : RT.ty RT.u32), (256 : RT.ty RT.u32)]) : Int) → List.length (hdS l e i).snd.snd + List.length [upN (List.getD [(2048 : RT.ty RT.u32), (2048 : RT.ty RT.u32), (1024 : RT.ty RT.u32), (1024 : RT.ty RT.u32), (256 : RT.ty RT.u32)] (Int.toNat (↑i : Int)) (RT.dflt RT.u32)) (hdS l e i).fst (hdS l e i).snd.fst] ≤ (137438953472 : Nat) ∧ (List.length (hdS l e i).snd.snd + List.length [upN (List.getD [(2048 : RT.ty RT.u32), (2048 : RT.ty RT.u32), (1024 : RT.ty RT.u32), (1024 : RT.ty RT.u32), (256 : RT.ty RT.u32)] (Int.toNat (↑i : Int)) (RT.dflt RT.u32)) (hdS l e i).fst (hdS l e i).snd.fst] ≤ (137438953472 : Nat) → i < (5 : Nat) ∧ True ∧ (5 : Int) = (5 : Int) ∧ (↑i : Int) + (1 : Int) = (↑(i + (1 : Nat)) : Int) ∧ ((0 : Int) ≤ (↑(i + (1 : Nat)) : Int) ∧ (↑(i + (1 : Nat)) : Int) ≤ (5 : Int)) ∧ w4L (hdS l e i).fst (hdS l e i).snd.fst = (hdS l e (i + (1 : Nat))).fst ∧ upE (List.getD [(2048 : RT.ty RT.u32), (2048 : RT.ty RT.u32), (1024 : RT.ty RT.u32), (1024 : RT.ty RT.u32), (256 : RT.ty RT.u32)] (Int.toNat (↑i : Int)) (RT.dflt RT.u32)) (FErr.bare (104 : Int)) (hdS l e i).fst (hdS l e i).snd.fst = (hdS l e (i + (1 : Nat))).snd.fst ∧ (hdS l e i).snd.snd ++ [upN (List.getD [(2048 : RT.ty RT.u32), (2048 : RT.ty RT.u32), (1024 : RT.ty RT.u32), (1024 : RT.ty RT.u32), (256 : RT.ty RT.u32)] (Int.toNat (↑i : Int)) (RT.dflt RT.u32)) (hdS l e i).fst (hdS l e i).snd.fst] = (hdS l e (i + (1 : Nat))).snd.snd ∧ [(2048 : RT.ty RT.u32), (2048 : RT.ty RT.u32), (1024 : RT.ty RT.u32), (1024 : RT.ty RT.u32), (256 : RT.ty RT.u32)] = [(2048 : RT.ty RT.u32), (2048 : RT.ty RT.u32), (1024 : RT.ty RT.u32), (1024 : RT.ty RT.u32), (256 : RT.ty RT.u32)]))) ∧ (decide ((↑i : Int) < (5 : Int)) = false → Nat.beq (0 : Nat) (0 : Nat) = true ∧ (hdS l e i).fst = (hdS l e (5 : Nat)).fst ∧ (hdS l e i).snd.fst = (hdS l e (5 : Nat)).snd.fst ∧ (hdS l e i).snd.snd = (hdS l e (5 : Nat)).snd.snd)) := by kernel_rfl
set_option maxHeartbeats 4000000 in
theorem lRead' (l : List Int) (e : FErr) {W : World} {R own0 : Nat → Prop} {ρ0 : Nat → Option Value} (hown : HownOk (env (G7 ++ (G9 ++ rest)) [(63, krword), (64, krupTo), (65, krwords), (66, krtake), (67, krrelocs), (68, krsyms), (69, krfail), (31, kValid)]) own0 ρ0) : LOk Tryd.prog (env (G7 ++ (G9 ++ rest)) [(63, krword), (64, krupTo), (65, krwords), (66, krtake), (67, krrelocs), (68, krsyms), (69, krfail), (31, kValid)]) (ctx ea has) (G7 ++ (G9 ++ rest)) W R own0 ρ0 (loopN (bodyOf Tryd.f29) 0) (LRead' l e) := by
  refine loop1_ok (env_ok (con := [(63, krword), (64, krupTo), (65, krwords), (66, krtake), (67, krrelocs), (68, krsyms), (69, krfail), (31, kValid)]) ⟨crword, crupTo, crwords, crtake, crrelocs, crsyms, crfail, cValid, trivial⟩) hown (ls := fun i => []) (fun i => noSums (by kernel_rfl)) (fun hm i hi hj => (bRead' rest l e i).mpr ?_) 0 (fun hm => by first | exact Nat.zero_le _ | omega) (fun hm => trivial)
  have hs := hdS_succ l e i
  have hl := hdS_len l e i
  refine ⟨fun h => ?_, fun h => ?_⟩
  · have h := of_decide_eq_true h
    have hlt : i < 5 := by omega
    refine ⟨⟨by omega, ?_⟩, fun _ => ⟨by rw [hl, List.length_singleton]; omega, fun _ => ⟨hlt, trivial, rfl, by omega, by omega, ?_, ?_, ?_, rfl⟩⟩⟩
    · show (i : Int) < (5 : Nat); omega
    · rw [hs]
    · rw [hs]; rfl
    · rw [hs]; rfl
  · have h := of_decide_eq_false h
    have : i = 5 := by omega
    subst this
    exact ⟨rfl, rfl, rfl, rfl⟩
def kRead : List SVal → Nat → Acc ORes := fun a n => match a with | [.ro .u8 b] => .ret ({ v := .tuple [.agg [.ro .u32 (rdD b), .ro .u32 (rdC b), .ro .u8 (rdM b), .ro .rel (rdDr b), .ro .rel (rdCr b), .ro .sym (rdS b)], .err (readE b)] }) | _ => .fail "Read"
theorem argRead (b : List Int) : (all (subL tAtN none' [] deep [.ro .u8 b] [.ro .u8 b])) = (
  b = b) := by kernel_rfl
theorem runRead (rest : List (Nat × SVal)) (b : List Int) : (Tr.sat (plainQ (.tuple [.agg [.ro .u32 (rdD b), .ro .u32 (rdC b), .ro .u8 (rdM b), .ro .rel (rdDr b), .ro .rel (rdCr b), .ro .sym (rdS b)], .err (readE b)])) (run (env (G7 ++ (G9 ++ rest)) [(63, krword), (64, krupTo), (65, krwords), (66, krtake), (67, krrelocs), (68, krsyms), (69, krfail), (31, kValid)]) [(8, LRead' (w4L b .fine) (w4E b .fine)), (1000003, cutL { fr := [(2, .ptr 0 0), (4, .ptr 1 0)], hp := [(0, some (.cells nil6)), (1, some (.cells [.ro .u8 b, .err .fine]))], next := 2, sz := 108 }), (1000012, rdSt b (a1L b) (a1E b) [.own 4, .nilslice, .nilslice, .nilslice, .nilslice, .nilslice] [(4, some (.recs .u32 (dX b)))] 5), (1000013, rdSt b (a2L b) (a2E b) [.own 4, .own 5, .nilslice, .nilslice, .nilslice, .nilslice] [(4, some (.recs .u32 (dX b))), (5, some (.recs .u32 (cX b)))] 6), (1000014, rdSt b (a3L b) (a3E b) [.own 4, .own 5, .own 6, .nilslice, .nilslice, .nilslice] [(4, some (.recs .u32 (dX b))), (5, some (.recs .u32 (cX b))), (6, some (.recs .u8 (mX b)))] 7), (1000015, rdSt b (a4L b) (a4E b) [.own 4, .own 5, .own 6, .own 7, .nilslice, .nilslice] [(4, some (.recs .u32 (dX b))), (5, some (.recs .u32 (cX b))), (6, some (.recs .u8 (mX b))), (7, some (.recs .rel (drX b)))] 8), (1000016, rdSt b (a5L b) (a5E b) [.own 4, .own 5, .own 6, .own 7, .own 8, .nilslice] [(4, some (.recs .u32 (dX b))), (5, some (.recs .u32 (cX b))), (6, some (.recs .u8 (mX b))), (7, some (.recs .rel (drX b))), (8, some (.recs .rel (crX b)))] 9), (1000017, rdSt b (a6L b) (a6E b) [.ro .u32 (dX b), .ro .u32 (cX b), .ro .u8 (mX b), .ro .rel (drX b), .ro .rel (crX b), .ro .sym (sX b)] [] 4), (2000020, rdSt b (a6L b) (f1E b) [.ro .u32 (dX b), .ro .u32 (cX b), .ro .u8 (mX b), .ro .rel (drX b), .ro .rel (crX b), .ro .sym (sX b)] [] 4), (2000022, rdSt b (a6L b) (f2E b) [.ro .u32 (dX b), .ro .u32 (cX b), .ro .u8 (mX b), .ro .rel (drX b), .ro .rel (crX b), .ro .sym (sX b)] [] 4)] (bodyOf Tryd.f29) (start [.ro .u8 b] 108) (ends (env (G7 ++ (G9 ++ rest)) [(63, krword), (64, krupTo), (65, krwords), (66, krtake), (67, krrelocs), (68, krsyms), (69, krfail), (31, kValid)]) Tryd.f29.results.toList))) = (
  (decide ((↑(List.length b) : Int) < (24 : Int)) = true → rdD b = @List.nil (RT.ty RT.u32) ∧ rdC b = @List.nil (RT.ty RT.u32) ∧ rdM b = @List.nil (RT.ty RT.u8) ∧ rdDr b = @List.nil (RT.ty RT.rel) ∧ rdCr b = @List.nil (RT.ty RT.rel) ∧ rdS b = @List.nil (RT.ty RT.sym) ∧ FErr.bare (101 : Int) = readE b) ∧ (decide ((↑(List.length b) : Int) < (24 : Int)) = false → (b = b ∧ FErr.fine = FErr.fine) ∧ (b = b ∧ FErr.fine = FErr.fine → ((!decide (w4W b FErr.fine = (842225232 : Int))) = true → rdD b = @List.nil (RT.ty RT.u32) ∧ rdC b = @List.nil (RT.ty RT.u32) ∧ rdM b = @List.nil (RT.ty RT.u8) ∧ rdDr b = @List.nil (RT.ty RT.rel) ∧ rdCr b = @List.nil (RT.ty RT.rel) ∧ rdS b = @List.nil (RT.ty RT.sym) ∧ FErr.bare (102 : Int) = readE b) ∧ ((!decide (w4W b FErr.fine = (842225232 : Int))) = false → (True ∧ (↑(List.length [(2048 : Int), (2048 : Int), (1024 : Int), (1024 : Int), (256 : Int)]) : Int) = (5 : Int) ∧ (0 : Int) = (↑(0 : Nat) : Int) ∧ w4L b FErr.fine = (hdS (w4L b FErr.fine) (w4E b FErr.fine) (0 : Nat)).fst ∧ w4E b FErr.fine = (hdS (w4L b FErr.fine) (w4E b FErr.fine) (0 : Nat)).snd.fst ∧ @List.nil (RT.ty RT.i64) = (hdS (w4L b FErr.fine) (w4E b FErr.fine) (0 : Nat)).snd.snd ∧ [(2048 : Int), (2048 : Int), (1024 : Int), (1024 : Int), (256 : Int)] = [(2048 : RT.ty RT.u32), (2048 : RT.ty RT.u32), (1024 : RT.ty RT.u32), (1024 : RT.ty RT.u32), (256 : RT.ty RT.u32)]) ∧ (True ∧ (↑(List.length [(2048 : Int), (2048 : Int), (1024 : Int), (1024 : Int), (256 : Int)]) : Int) = (5 : Int) ∧ (0 : Int) = (↑(0 : Nat) : Int) ∧ w4L b FErr.fine = (hdS (w4L b FErr.fine) (w4E b FErr.fine) (0 : Nat)).fst ∧ w4E b FErr.fine = (hdS (w4L b FErr.fine) (w4E b FErr.fine) (0 : Nat)).snd.fst ∧ @List.nil (RT.ty RT.i64) = (hdS (w4L b FErr.fine) (w4E b FErr.fine) (0 : Nat)).snd.snd ∧ [(2048 : Int), (2048 : Int), (1024 : Int), (1024 : Int), (256 : Int)] = [(2048 : RT.ty RT.u32), (2048 : RT.ty RT.u32), (1024 : RT.ty RT.u32), (1024 : RT.ty RT.u32), (256 : RT.ty RT.u32)] → ((0 : Int) ≤ (0 : Int) ∧ (0 : Int) < (↑(List.length (hdS (w4L b FErr.fine) (w4E b FErr.fine) (5 : Nat)).snd.snd) : Int)) ∧ ((0 : Int) ≤ (0 : Int) ∧ (0 : Int) < (↑(List.length (hdS (w4L b FErr.fine) (w4E b FErr.fine) (5 : Nat)).snd.snd) : Int) → ((0 : Int) ≤ List.getD (hdS (w4L b FErr.fine) (w4E b FErr.fine) (5 : Nat)).snd.snd (Int.toNat (0 : Int)) (RT.dflt RT.i64) ∧ List.getD (hdS (w4L b FErr.fine) (w4E b FErr.fine) (5 : Nat)).snd.snd (Int.toNat (0 : Int)) (RT.dflt RT.i64) ≤ (4096 : Int)) ∧ ((0 : Int) ≤ List.getD (hdS (w4L b FErr.fine) (w4E b FErr.fine) (5 : Nat)).snd.snd (Int.toNat (0 : Int)) (RT.dflt RT.i64) ∧ List.getD (hdS (w4L b FErr.fine) (w4E b FErr.fine) (5 : Nat)).snd.snd (Int.toNat (0 : Int)) (RT.dflt RT.i64) ≤ (4096 : Int) → ((wsS (hdS (w4L b FErr.fine) (w4E b FErr.fine) (5 : Nat)).fst (hdS (w4L b FErr.fine) (w4E b FErr.fine) (5 : Nat)).snd.fst (Int.toNat (List.getD (hdS (w4L b FErr.fine) (w4E b FErr.fine) (5 : Nat)).snd.snd (Int.toNat (0 : Int)) (RT.dflt RT.i64)))).fst = a1L b ∧ (wsS (hdS (w4L b FErr.fine) (w4E b FErr.fine) (5 : Nat)).fst (hdS (w4L b FErr.fine) (w4E b FErr.fine) (5 : Nat)).snd.fst (Int.toNat (List.getD (hdS (w4L b FErr.fine) (w4E b FErr.fine) (5 : Nat)).snd.snd (Int.toNat (0 : Int)) (RT.dflt RT.i64)))).snd.fst = a1E b ∧ (hdS (w4L b FErr.fine) (w4E b FErr.fine) (5 : Nat)).snd.snd = nL b ∧ wsX (hdS (w4L b FErr.fine) (w4E b FErr.fine) (5 : Nat)).fst (hdS (w4L b FErr.fine) (w4E b FErr.fine) (5 : Nat)).snd.fst (Int.toNat (List.getD (hdS (w4L b FErr.fine) (w4E b FErr.fine) (5 : Nat)).snd.snd (Int.toNat (0 : Int)) (RT.dflt RT.i64))) = dX b) ∧ ((wsS (hdS (w4L b FErr.fine) (w4E b FErr.fine) (5 : Nat)).fst (hdS (w4L b FErr.fine) (w4E b FErr.fine) (5 : Nat)).snd.fst (Int.toNat (List.getD (hdS (w4L b FErr.fine) (w4E b FErr.fine) (5 : Nat)).snd.snd (Int.toNat (0 : Int)) (RT.dflt RT.i64)))).fst = a1L b ∧ (wsS (hdS (w4L b FErr.fine) (w4E b FErr.fine) (5 : Nat)).fst (hdS (w4L b FErr.fine) (w4E b FErr.fine) (5 : Nat)).snd.fst (Int.toNat (List.getD (hdS (w4L b FErr.fine) (w4E b FErr.fine) (5 : Nat)).snd.snd (Int.toNat (0 : Int)) (RT.dflt RT.i64)))).snd.fst = a1E b ∧ (hdS (w4L b FErr.fine) (w4E b FErr.fine) (5 : Nat)).snd.snd = nL b ∧ wsX (hdS (w4L b FErr.fine) (w4E b FErr.fine) (5 : Nat)).fst (hdS (w4L b FErr.fine) (w4E b FErr.fine) (5 : Nat)).snd.fst (Int.toNat (List.getD (hdS (w4L b FErr.fine) (w4E b FErr.fine) (5 : Nat)).snd.snd (Int.toNat (0 : Int)) (RT.dflt RT.i64))) = dX b → ((0 : Int) ≤ (1 : Int) ∧ (1 : Int) < (↑(List.length (nL b)) : Int)) ∧ ((0 : Int) ≤ (1 : Int) ∧ (1 : Int) < (↑(List.length (nL b)) : Int) → ((0 : Int) ≤ List.getD (nL b) (Int.toNat (1 : Int)) (RT.dflt RT.i64) ∧ List.getD (nL b) (Int.toNat (1 : Int)) (RT.dflt RT.i64) ≤ (4096 : Int)) ∧ ((0 : Int) ≤ List.getD (nL b) (Int.toNat (1 : Int)) (RT.dflt RT.i64) ∧ List.getD (nL b) (Int.toNat (1 : Int)) (RT.dflt RT.i64) ≤ (4096 : Int) → ((wsS (a1L b) (a1E b) (Int.toNat (List.getD (nL b) (Int.toNat (1 : Int)) (RT.dflt RT.i64)))).fst = a2L b ∧ (wsS (a1L b) (a1E b) (Int.toNat (List.getD (nL b) (Int.toNat (1 : Int)) (RT.dflt RT.i64)))).snd.fst = a2E b ∧ nL b = nL b ∧ dX b = dX b ∧ wsX (a1L b) (a1E b) (Int.toNat (List.getD (nL b) (Int.toNat (1 : Int)) (RT.dflt RT.i64))) = cX b) ∧ ((wsS (a1L b) (a1E b) (Int.toNat (List.getD (nL b) (Int.toNat (1 : Int)) (RT.dflt RT.i64)))).fst = a2L b ∧ (wsS (a1L b) (a1E b) (Int.toNat (List.getD (nL b) (Int.toNat (1 : Int)) (RT.dflt RT.i64)))).snd.fst = a2E b ∧ nL b = nL b ∧ dX b = dX b ∧ wsX (a1L b) (a1E b) (Int.toNat (List.getD (nL b) (Int.toNat (1 : Int)) (RT.dflt RT.i64))) = cX b → ((0 : Int) ≤ (1 : Int) ∧ (1 : Int) < (↑(List.length (nL b)) : Int)) ∧ ((0 : Int) ≤ (1 : Int) ∧ (1 : Int) < (↑(List.length (nL b)) : Int) → ((0 : Int) ≤ List.getD (nL b) (Int.toNat (1 : Int)) (RT.dflt RT.i64) ∧ List.getD (nL b) (Int.toNat (1 : Int)) (RT.dflt RT.i64) ≤ (1000000 : Int)) ∧ ((0 : Int) ≤ List.getD (nL b) (Int.toNat (1 : Int)) (RT.dflt RT.i64) ∧ List.getD (nL b) (Int.toNat (1 : Int)) (RT.dflt RT.i64) ≤ (1000000 : Int) → (tkL (List.getD (nL b) (Int.toNat (1 : Int)) (RT.dflt RT.i64)) (a2L b) (a2E b) = a3L b ∧ tkE (List.getD (nL b) (Int.toNat (1 : Int)) (RT.dflt RT.i64)) (a2L b) (a2E b) = a3E b ∧ nL b = nL b ∧ dX b = dX b ∧ cX b = cX b ∧ tkX (List.getD (nL b) (Int.toNat (1 : Int)) (RT.dflt RT.i64)) (a2L b) (a2E b) = mX b) ∧ (tkL (List.getD (nL b) (Int.toNat (1 : Int)) (RT.dflt RT.i64)) (a2L b) (a2E b) = a3L b ∧ tkE (List.getD (nL b) (Int.toNat (1 : Int)) (RT.dflt RT.i64)) (a2L b) (a2E b) = a3E b ∧ nL b = nL b ∧ dX b = dX b ∧ cX b = cX b ∧ tkX (List.getD (nL b) (Int.toNat (1 : Int)) (RT.dflt RT.i64)) (a2L b) (a2E b) = mX b → ((0 : Int) ≤ (2 : Int) ∧ (2 : Int) < (↑(List.length (nL b)) : Int)) ∧ ((0 : Int) ≤ (2 : Int) ∧ (2 : Int) < (↑(List.length (nL b)) : Int) → ((0 : Int) ≤ List.getD (nL b) (Int.toNat (2 : Int)) (RT.dflt RT.i64) ∧ List.getD (nL b) (Int.toNat (2 : Int)) (RT.dflt RT.i64) ≤ (4096 : Int)) ∧ ((0 : Int) ≤ List.getD (nL b) (Int.toNat (2 : Int)) (RT.dflt RT.i64) ∧ List.getD (nL b) (Int.toNat (2 : Int)) (RT.dflt RT.i64) ≤ (4096 : Int) → ((rlS (a3L b) (a3E b) (Int.toNat (List.getD (nL b) (Int.toNat (2 : Int)) (RT.dflt RT.i64)))).fst = a4L b ∧ (rlS (a3L b) (a3E b) (Int.toNat (List.getD (nL b) (Int.toNat (2 : Int)) (RT.dflt RT.i64)))).snd.fst = a4E b ∧ nL b = nL b ∧ dX b = dX b ∧ cX b = cX b ∧ mX b = mX b ∧ rlX (a3L b) (a3E b) (Int.toNat (List.getD (nL b) (Int.toNat (2 : Int)) (RT.dflt RT.i64))) = drX b) ∧ ((rlS (a3L b) (a3E b) (Int.toNat (List.getD (nL b) (Int.toNat (2 : Int)) (RT.dflt RT.i64)))).fst = a4L b ∧ (rlS (a3L b) (a3E b) (Int.toNat (List.getD (nL b) (Int.toNat (2 : Int)) (RT.dflt RT.i64)))).snd.fst = a4E b ∧ nL b = nL b ∧ dX b = dX b ∧ cX b = cX b ∧ mX b = mX b ∧ rlX (a3L b) (a3E b) (Int.toNat (List.getD (nL b) (Int.toNat (2 : Int)) (RT.dflt RT.i64))) = drX b → ((0 : Int) ≤ (3 : Int) ∧ (3 : Int) < (↑(List.length (nL b)) : Int)) ∧ ((0 : Int) ≤ (3 : Int) ∧ (3 : Int) < (↑(List.length (nL b)) : Int) → ((0 : Int) ≤ List.getD (nL b) (Int.toNat (3 : Int)) (RT.dflt RT.i64) ∧ List.getD (nL b) (Int.toNat (3 : Int)) (RT.dflt RT.i64) ≤ (4096 : Int)) ∧ ((0 : Int) ≤ List.getD (nL b) (Int.toNat (3 : Int)) (RT.dflt RT.i64) ∧ List.getD (nL b) (Int.toNat (3 : Int)) (RT.dflt RT.i64) ≤ (4096 : Int) → ((rlS (a4L b) (a4E b) (Int.toNat (List.getD (nL b) (Int.toNat (3 : Int)) (RT.dflt RT.i64)))).fst = a5L b ∧ (rlS (a4L b) (a4E b) (Int.toNat (List.getD (nL b) (Int.toNat (3 : Int)) (RT.dflt RT.i64)))).snd.fst = a5E b ∧ nL b = nL b ∧ dX b = dX b ∧ cX b = cX b ∧ mX b = mX b ∧ drX b = drX b ∧ rlX (a4L b) (a4E b) (Int.toNat (List.getD (nL b) (Int.toNat (3 : Int)) (RT.dflt RT.i64))) = crX b) ∧ ((rlS (a4L b) (a4E b) (Int.toNat (List.getD (nL b) (Int.toNat (3 : Int)) (RT.dflt RT.i64)))).fst = a5L b ∧ (rlS (a4L b) (a4E b) (Int.toNat (List.getD (nL b) (Int.toNat (3 : Int)) (RT.dflt RT.i64)))).snd.fst = a5E b ∧ nL b = nL b ∧ dX b = dX b ∧ cX b = cX b ∧ mX b = mX b ∧ drX b = drX b ∧ rlX (a4L b) (a4E b) (Int.toNat (List.getD (nL b) (Int.toNat (3 : Int)) (RT.dflt RT.i64))) = crX b → ((0 : Int) ≤ (4 : Int) ∧ (4 : Int) < (↑(List.length (nL b)) : Int)) ∧ ((0 : Int) ≤ (4 : Int) ∧ (4 : Int) < (↑(List.length (nL b)) : Int) → ((0 : Int) ≤ List.getD (nL b) (Int.toNat (4 : Int)) (RT.dflt RT.i64) ∧ List.getD (nL b) (Int.toNat (4 : Int)) (RT.dflt RT.i64) ≤ (4096 : Int)) ∧ ((0 : Int) ≤ List.getD (nL b) (Int.toNat (4 : Int)) (RT.dflt RT.i64) ∧ List.getD (nL b) (Int.toNat (4 : Int)) (RT.dflt RT.i64) ≤ (4096 : Int) → ((syS (a5L b) (a5E b) (Int.toNat (List.getD (nL b) (Int.toNat (4 : Int)) (RT.dflt RT.i64)))).fst = a6L b ∧ (syS (a5L b) (a5E b) (Int.toNat (List.getD (nL b) (Int.toNat (4 : Int)) (RT.dflt RT.i64)))).snd.fst = a6E b ∧ nL b = nL b ∧ dX b = dX b ∧ cX b = cX b ∧ mX b = mX b ∧ drX b = drX b ∧ crX b = crX b ∧ syX (a5L b) (a5E b) (Int.toNat (List.getD (nL b) (Int.toNat (4 : Int)) (RT.dflt RT.i64))) = sX b) ∧ ((syS (a5L b) (a5E b) (Int.toNat (List.getD (nL b) (Int.toNat (4 : Int)) (RT.dflt RT.i64)))).fst = a6L b ∧ (syS (a5L b) (a5E b) (Int.toNat (List.getD (nL b) (Int.toNat (4 : Int)) (RT.dflt RT.i64)))).snd.fst = a6E b ∧ nL b = nL b ∧ dX b = dX b ∧ cX b = cX b ∧ mX b = mX b ∧ drX b = drX b ∧ crX b = crX b ∧ syX (a5L b) (a5E b) (Int.toNat (List.getD (nL b) (Int.toNat (4 : Int)) (RT.dflt RT.i64))) = sX b → (((!FErr.isErr (a6E b) && decide ((0 : Int) < (↑(List.length (a6L b)) : Int))) = true → a6L b = a6L b ∧ (if FErr.isErr (a6E b) = true then a6E b else FErr.bare (102 : Int)) = f1E b ∧ nL b = nL b ∧ dX b = dX b ∧ cX b = cX b ∧ mX b = mX b ∧ drX b = drX b ∧ crX b = crX b ∧ sX b = sX b) ∧ ((!FErr.isErr (a6E b) && decide ((0 : Int) < (↑(List.length (a6L b)) : Int))) = false → a6L b = a6L b ∧ a6E b = f1E b ∧ nL b = nL b ∧ dX b = dX b ∧ cX b = cX b ∧ mX b = mX b ∧ drX b = drX b ∧ crX b = crX b ∧ sX b = sX b)) ∧ (((!FErr.isErr (f1E b)) = true → a6L b = a6L b ∧ (if FErr.isErr (f1E b) = true then f1E b else validE (dX b) (cX b) (mX b) (drX b) (crX b) (sX b)) = f2E b ∧ nL b = nL b ∧ dX b = dX b ∧ cX b = cX b ∧ mX b = mX b ∧ drX b = drX b ∧ crX b = crX b ∧ sX b = sX b) ∧ ((!FErr.isErr (f1E b)) = false → a6L b = a6L b ∧ f1E b = f2E b ∧ nL b = nL b ∧ dX b = dX b ∧ cX b = cX b ∧ mX b = mX b ∧ drX b = drX b ∧ crX b = crX b ∧ sX b = sX b)) ∧ ((!!FErr.isErr (f2E b)) = true → rdD b = @List.nil (RT.ty RT.u32) ∧ rdC b = @List.nil (RT.ty RT.u32) ∧ rdM b = @List.nil (RT.ty RT.u8) ∧ rdDr b = @List.nil (RT.ty RT.rel) ∧ rdCr b = @List.nil (RT.ty RT.rel) ∧ rdS b = @List.nil (RT.ty RT.sym) ∧ f2E b = readE b) ∧ ((!!FErr.isErr (f2E b)) = false → dX b = rdD b ∧ cX b = rdC b ∧ mX b = rdM b ∧ drX b = rdDr b ∧ crX b = rdCr b ∧ sX b = rdS b ∧ FErr.fine = readE b)))))))))))))))))))))))) := by kernel_rfl
set_option maxHeartbeats 4000000 in
theorem gRead (b : List Int)  : Box (Tr.sat (plainQ (.tuple [.agg [.ro .u32 (rdD b), .ro .u32 (rdC b), .ro .u8 (rdM b), .ro .rel (rdDr b), .ro .rel (rdCr b), .ro .sym (rdS b)], .err (readE b)])) (run (env (G7 ++ (G9 ++ rest)) [(63, krword), (64, krupTo), (65, krwords), (66, krtake), (67, krrelocs), (68, krsyms), (69, krfail), (31, kValid)]) [(8, LRead' (w4L b .fine) (w4E b .fine)), (1000003, cutL { fr := [(2, .ptr 0 0), (4, .ptr 1 0)], hp := [(0, some (.cells nil6)), (1, some (.cells [.ro .u8 b, .err .fine]))], next := 2, sz := 108 }), (1000012, rdSt b (a1L b) (a1E b) [.own 4, .nilslice, .nilslice, .nilslice, .nilslice, .nilslice] [(4, some (.recs .u32 (dX b)))] 5), (1000013, rdSt b (a2L b) (a2E b) [.own 4, .own 5, .nilslice, .nilslice, .nilslice, .nilslice] [(4, some (.recs .u32 (dX b))), (5, some (.recs .u32 (cX b)))] 6), (1000014, rdSt b (a3L b) (a3E b) [.own 4, .own 5, .own 6, .nilslice, .nilslice, .nilslice] [(4, some (.recs .u32 (dX b))), (5, some (.recs .u32 (cX b))), (6, some (.recs .u8 (mX b)))] 7), (1000015, rdSt b (a4L b) (a4E b) [.own 4, .own 5, .own 6, .own 7, .nilslice, .nilslice] [(4, some (.recs .u32 (dX b))), (5, some (.recs .u32 (cX b))), (6, some (.recs .u8 (mX b))), (7, some (.recs .rel (drX b)))] 8), (1000016, rdSt b (a5L b) (a5E b) [.own 4, .own 5, .own 6, .own 7, .own 8, .nilslice] [(4, some (.recs .u32 (dX b))), (5, some (.recs .u32 (cX b))), (6, some (.recs .u8 (mX b))), (7, some (.recs .rel (drX b))), (8, some (.recs .rel (crX b)))] 9), (1000017, rdSt b (a6L b) (a6E b) [.ro .u32 (dX b), .ro .u32 (cX b), .ro .u8 (mX b), .ro .rel (drX b), .ro .rel (crX b), .ro .sym (sX b)] [] 4), (2000020, rdSt b (a6L b) (f1E b) [.ro .u32 (dX b), .ro .u32 (cX b), .ro .u8 (mX b), .ro .rel (drX b), .ro .rel (crX b), .ro .sym (sX b)] [] 4), (2000022, rdSt b (a6L b) (f2E b) [.ro .u32 (dX b), .ro .u32 (cX b), .ro .u8 (mX b), .ro .rel (drX b), .ro .rel (crX b), .ro .sym (sX b)] [] 4)] (bodyOf Tryd.f29) (start [.ro .u8 b] 108) (ends (env (G7 ++ (G9 ++ rest)) [(63, krword), (64, krupTo), (65, krwords), (66, krtake), (67, krrelocs), (68, krsyms), (69, krfail), (31, kValid)]) Tryd.f29.results.toList))) := by
  refine .of (runRead rest b) ?_
  have q0 : (hdS (w4L b .fine) (w4E b .fine) 5).2.2 = nL b := (hide_eq _).symm
  have qj : ∀ j : Nat, (nL b).getD j RT.i64.dflt = nN b j := fun j => by rw [← q0]; exact (hide_eq _).symm
  have A0 : (hdS (w4L b .fine) (w4E b .fine) 5).1 = a0L b := (hide_eq _).symm
  have E0 : (hdS (w4L b .fine) (w4E b .fine) 5).2.1 = a0E b := (hide_eq _).symm
  have x1 : wsX (a0L b) (a0E b) (nN b 0).toNat = dX b := (hide_eq _).symm
  have A1 : (wsS (a0L b) (a0E b) (nN b 0).toNat).1 = a1L b := (hide_eq _).symm
  have E1 : (wsS (a0L b) (a0E b) (nN b 0).toNat).2.1 = a1E b := (hide_eq _).symm
  have x2 : wsX (a1L b) (a1E b) (nN b 1).toNat = cX b := (hide_eq _).symm
  have A2 : (wsS (a1L b) (a1E b) (nN b 1).toNat).1 = a2L b := (hide_eq _).symm
  have E2 : (wsS (a1L b) (a1E b) (nN b 1).toNat).2.1 = a2E b := (hide_eq _).symm
  have x3 : tkX (nN b 1) (a2L b) (a2E b) = mX b := (hide_eq _).symm
  have A3 : tkL (nN b 1) (a2L b) (a2E b) = a3L b := (hide_eq _).symm
  have E3 : tkE (nN b 1) (a2L b) (a2E b) = a3E b := (hide_eq _).symm
  have x4 : rlX (a3L b) (a3E b) (nN b 2).toNat = drX b := (hide_eq _).symm
  have A4 : (rlS (a3L b) (a3E b) (nN b 2).toNat).1 = a4L b := (hide_eq _).symm
  have E4 : (rlS (a3L b) (a3E b) (nN b 2).toNat).2.1 = a4E b := (hide_eq _).symm
  have x5 : rlX (a4L b) (a4E b) (nN b 3).toNat = crX b := (hide_eq _).symm
  have A5 : (rlS (a4L b) (a4E b) (nN b 3).toNat).1 = a5L b := (hide_eq _).symm
  have E5 : (rlS (a4L b) (a4E b) (nN b 3).toNat).2.1 = a5E b := (hide_eq _).symm
  have x6 : syX (a5L b) (a5E b) (nN b 4).toNat = sX b := (hide_eq _).symm
  have A6 : (syS (a5L b) (a5E b) (nN b 4).toNat).1 = a6L b := (hide_eq _).symm
  have E6 : (syS (a5L b) (a5E b) (nN b 4).toNat).2.1 = a6E b := (hide_eq _).symm
  have t0 : Int.toNat 0 = 0 := rfl
  have t1 : Int.toNat 1 = 1 := rfl
  have t2 : Int.toNat 2 = 2 := rfl
  have t3 : Int.toNat 3 = 3 := rfl
  have t4 : Int.toNat 4 = 4 := rfl
  have z := hdS_zero (w4L b .fine) (w4E b .fine)
  have hlen := nL_len b
  have g0 := nN_in b 0
  have g1 := nN_in b 1
  have g2 := nN_in b 2
  have g3 := nN_in b 3
  have g4 := nN_in b 4
  have k1 : ∀ j, (0 ≤ nN b j ∧ nN b j ≤ 4096) = True := fun j => by have := nN_in b j; exact eq_true (by omega)
  have k2 : ∀ j, (0 ≤ nN b j ∧ nN b j ≤ 1000000) = True := fun j => by have := nN_in b j; exact eq_true (by omega)
  have l0 : ((0 : Int) ≤ 0 ∧ (0 : Int) < ((5 : Nat) : Int)) = True := eq_true (by omega)
  have l1 : ((0 : Int) ≤ 1 ∧ (1 : Int) < ((5 : Nat) : Int)) = True := eq_true (by omega)
  have l2 : ((0 : Int) ≤ 2 ∧ (2 : Int) < ((5 : Nat) : Int)) = True := eq_true (by omega)
  have l3 : ((0 : Int) ≤ 3 ∧ (3 : Int) < ((5 : Nat) : Int)) = True := eq_true (by omega)
  have l4 : ((0 : Int) ≤ 4 ∧ (4 : Int) < ((5 : Nat) : Int)) = True := eq_true (by omega)
  simp only [q0, t0, t1, t2, t3, t4, qj, A0, E0, x1, A1, E1, x2, A2, E2, x3, A3, E3, x4, A4, E4, x5, A5, E5, x6, A6, E6, hlen, k1, k2, l0, l1, l2, l3, l4, z, true_and, and_true, true_implies, implies_true]
  clear q0 qj A0 E0 x1 A1 E1 x2 A2 E2 x3 A3 E3 x4 A4 E4 x5 A5 E5 x6 A6 E6 z k1 k2
  have hr := readE_is b
  refine ⟨fun h => ?_, fun h => ⟨fun h2 => ?_, fun h2 => ⟨⟨rfl, rfl⟩, fun _ => ⟨⟨fun h3 => ?_, fun h3 => ?_⟩, ⟨fun h4 => ?_, fun h4 => ?_⟩, fun h5 => ?_, fun h5 => ?_⟩⟩⟩⟩
  · have h := of_decide_eq_true h
    rw [if_pos (by omega)] at hr
    obtain ⟨w1, w2, w3, w4, w5, w6⟩ := rd_nil (b := b) (by rw [hr]; rfl)
    exact ⟨w1, w2, w3, w4, w5, w6, hr.symm⟩
  all_goals have h := of_decide_eq_false h
  all_goals rw [if_neg (by omega)] at hr
  · have h2 : ¬ w4W b .fine = 842225232 := by simpa using h2
    rw [if_pos h2] at hr
    obtain ⟨w1, w2, w3, w4, w5, w6⟩ := rd_nil (b := b) (by rw [hr]; rfl)
    exact ⟨w1, w2, w3, w4, w5, w6, hr.symm⟩
  all_goals have h2 : ¬ ¬ w4W b .fine = 842225232 := by simpa using h2
  all_goals rw [if_neg h2] at hr
  · rw [f1E_is]
    have h3 : (a6E b).isErr = false ∧ 0 < (a6L b).length := by simpa using h3
    rw [h3.1, if_neg (by decide), if_neg (by decide), if_pos h3.2]
  · rw [f1E_is]
    cases he : (a6E b).isErr
    · rw [he] at h3
      have h3 : ¬ 0 < (a6L b).length := by simpa using h3
      rw [if_neg (by decide), if_neg h3]; exact fine_of' he
    · rw [if_pos rfl]
  · rw [f2E_is]
  · rw [f2E_is]
    have h4 : (f1E b).isErr = true := by simpa using h4
    rw [if_pos h4]
  · have h5 : (f2E b).isErr = true := by simpa using h5
    obtain ⟨w1, w2, w3, w4, w5, w6⟩ := rd_nil (b := b) (by rw [hr]; exact h5)
    exact ⟨w1, w2, w3, w4, w5, w6, hr.symm⟩
  · have h5 : (f2E b).isErr = false := by simpa using h5
    obtain ⟨w1, w2, w3, w4, w5, w6⟩ := rd_all (b := b) (by rw [hr]; exact h5)
    exact ⟨w1.symm, w2.symm, w3.symm, w4.symm, w5.symm, w6.symm, by rw [hr]; exact (fine_of' h5).symm⟩
set_option maxHeartbeats 4000000 in
theorem cRead : Con ea has (G7 ++ (G9 ++ rest)) 29 kRead := by
  refine plain_mkB Tryd.func29 108 (con := [(63, krword), (64, krupTo), (65, krwords), (66, krtake), (67, krrelocs), (68, krsyms), (69, krfail), (31, kValid)]) ⟨crword, crupTo, crwords, crtake, crrelocs, crsyms, crfail, cValid, trivial⟩ (fun hA hr hv => ?_) (by kernel_rfl) (by kernel_rfl) Tryd.ntmps29
  unfold kRead at hr; split at hr
  · rename_i b
    have := ret_ok hr; subst this
    exact ⟨_, [(8, LRead' (w4L b .fine) (w4E b .fine)), (1000003, cutL { fr := [(2, .ptr 0 0), (4, .ptr 1 0)], hp := [(0, some (.cells nil6)), (1, some (.cells [.ro .u8 b, .err .fine]))], next := 2, sz := 108 }), (1000012, rdSt b (a1L b) (a1E b) [.own 4, .nilslice, .nilslice, .nilslice, .nilslice, .nilslice] [(4, some (.recs .u32 (dX b)))] 5), (1000013, rdSt b (a2L b) (a2E b) [.own 4, .own 5, .nilslice, .nilslice, .nilslice, .nilslice] [(4, some (.recs .u32 (dX b))), (5, some (.recs .u32 (cX b)))] 6), (1000014, rdSt b (a3L b) (a3E b) [.own 4, .own 5, .own 6, .nilslice, .nilslice, .nilslice] [(4, some (.recs .u32 (dX b))), (5, some (.recs .u32 (cX b))), (6, some (.recs .u8 (mX b)))] 7), (1000015, rdSt b (a4L b) (a4E b) [.own 4, .own 5, .own 6, .own 7, .nilslice, .nilslice] [(4, some (.recs .u32 (dX b))), (5, some (.recs .u32 (cX b))), (6, some (.recs .u8 (mX b))), (7, some (.recs .rel (drX b)))] 8), (1000016, rdSt b (a5L b) (a5E b) [.own 4, .own 5, .own 6, .own 7, .own 8, .nilslice] [(4, some (.recs .u32 (dX b))), (5, some (.recs .u32 (cX b))), (6, some (.recs .u8 (mX b))), (7, some (.recs .rel (drX b))), (8, some (.recs .rel (crX b)))] 9), (1000017, rdSt b (a6L b) (a6E b) [.ro .u32 (dX b), .ro .u32 (cX b), .ro .u8 (mX b), .ro .rel (drX b), .ro .rel (crX b), .ro .sym (sX b)] [] 4), (2000020, rdSt b (a6L b) (f1E b) [.ro .u32 (dX b), .ro .u32 (cX b), .ro .u8 (mX b), .ro .rel (drX b), .ro .rel (crX b), .ro .sym (sX b)] [] 4), (2000022, rdSt b (a6L b) (f2E b) [.ro .u32 (dX b), .ro .u32 (cX b), .ro .u8 (mX b), .ro .rel (drX b), .ro .rel (crX b), .ro .sym (sX b)] [] 4)], rfl, rfl, .of (argRead b) (by simp), rfl, (fun W R ρ0 own0 hown => hl1 (by kernel_rfl) (by kernel_rfl) (lRead' (w4L b .fine) (w4E b .fine) hown)), gRead b ⟩
  · cases hr
end
end Go.Proofs.YtceebkojjmmjmaaDoor

