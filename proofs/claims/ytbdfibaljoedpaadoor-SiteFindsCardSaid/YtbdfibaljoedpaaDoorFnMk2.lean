/- Contracts: facademake.Object, Says. -/
import Derived.Test.YtbdfibaljoedpaaDoorFnSym
set_option linter.unusedVariables false
set_option linter.unusedSimpArgs false
namespace Go.Proofs.YtbdfibaljoedpaaDoor
open Go.RowKit Go.Sy Go.Fac

section
variable {ea : Int → Addr} {has : Int → Prop} {gl : List (Nat × SVal)}

/-- An object that is made, line by line. -/
structure OS where
  code : List Int
  map : List Int
  cr : List Rel
  sy : List Sm
def oLab (x : Ln) (s : OS) : OS := { s with sy := (symAdd s.sy x.name).set (symI s.sy x.name) ⟨x.name, 2, s.code.length, true⟩ }
def oRel (x : Ln) (at_ kind : Int) (s : OS) : OS := if x.sym = ByteArray.empty then s else { s with cr := s.cr ++ [⟨at_, kind, symI s.sy x.sym, 0⟩], sy := symAdd s.sy x.sym }
def oTab (x : Ln) (s : OS) : OS := let t := oRel x s.code.length 1 s; { t with code := s.code ++ [x.i.imm], map := s.map ++ [2] }
def oIns (x : Ln) (s : OS) : OS :=
  let two := isaTwo x.i.op
  let t := oRel x (if two = true then s.code.length + 1 else s.code.length) (if two = true then 1 else 2) s
  let w := wordW x.i.op x.i.a x.i.b x.i.c x.i.imm
  if two = true then { t with code := s.code ++ [w] ++ [x.i.imm], map := s.map ++ [1] ++ [0] } else { t with code := s.code ++ [w], map := s.map ++ [1] }
def oStep (x : Ln) (s : OS) : OS := if ¬ x.name = ByteArray.empty then oLab x s else if x.table = true then oTab x s else oIns x s
def oSt (ls : List Ln) : Nat → OS
  | 0 => ⟨[], [], [], []⟩
  | i + 1 => oStep (ls.getD i RT.line.dflt) (oSt ls i)
def oAll (ls : List Ln) : OS := oSt ls ls.length

abbrev noW : List Int := nilR .u32
def lnAt (ls : List Ln) (i : Nat) : Ln := ls.getD i RT.line.dflt
def hpO (s : OS) : List (Nat × Option Cont) := [(0, boxS noW 4), (1, some (.recs .u32 s.code)), (2, some (.recs .u8 s.map)), (3, some (.recs .rel s.cr)), (4, some (.recs .sym s.sy)), (5, some (.cells [.nilslice, .nilslice, .nilslice, .nilslice, .nilslice, .nilslice]))]
def frO (ls : List Ln) (i : Nat) : List (Nat × SVal) := [(1, .ro .line ls), (4, .ptr 5 0), (5, .ptr 0 0), (6, .int .i64 (.sym i 0 1000000))]
def stX (ls : List Ln) (i : Nat) (fr : List (Nat × SVal)) (s : OS) : SState := { fr := frO ls i ++ (7, .ptr 6 0) :: fr, hp := hpO s ++ [(6, some (.cells (RT.line.enc (lnAt ls i))))], next := 7, sz := 132 }
def wO (x : Ln) : Int := wordW x.i.op x.i.a x.i.b x.i.c x.i.imm
def atO (x : Ln) (s : OS) : Int := if isaTwo x.i.op = true then s.code.length + 1 else s.code.length
def kiO (x : Ln) : Int := if isaTwo x.i.op = true then 1 else 2
def joinsO (ls : List Ln) (i : Nat) : List (Nat × LSum) := [
  (2000019, cutL (stX ls i [] (oSt ls i))),
  (2000025, cutL (stX ls i [] (oRel (lnAt ls i) (oSt ls i).code.length 1 (oSt ls i)))),
  (2000013, cutL (stX ls i [(9, .int .u32 (.full (wO (lnAt ls i)))), (11, .int .i64 (.full (atO (lnAt ls i) (oSt ls i)))), (12, .int .i64 (.full (kiO (lnAt ls i))))] (oSt ls i))),
  (2000014, cutL (stX ls i [(9, .int .u32 (.full (wO (lnAt ls i))))] (oRel (lnAt ls i) (atO (lnAt ls i) (oSt ls i)) (kiO (lnAt ls i)) (oSt ls i)))),
  (2000004, cutL { fr := frO ls i, hp := hpO (oSt ls (i + 1)), next := 6, sz := 132 })]
theorem symAdd_len (sy : List Sm) (nm : ByteArray) : (symAdd sy nm).length ≤ sy.length + 1 := by unfold symAdd; split <;> simp
theorem symI_lt (sy : List Sm) (nm : ByteArray) : symI sy nm < (symAdd sy nm).length := by
  have := idxM_le (nmP sy nm) sy.length
  unfold symAdd
  split
  · assumption
  · unfold symI; simp; omega
theorem oRel_len (x : Ln) (a k : Int) (s : OS) : (oRel x a k s).code = s.code ∧ (oRel x a k s).map = s.map ∧ (oRel x a k s).cr.length ≤ s.cr.length + 1 ∧ (oRel x a k s).sy.length ≤ s.sy.length + 1 := by
  unfold oRel
  split
  · exact ⟨rfl, rfl, by omega, by omega⟩
  · exact ⟨rfl, rfl, by simp, symAdd_len _ _⟩
theorem oSt_len (ls : List Ln) : ∀ i, (oSt ls i).code.length ≤ 2 * i ∧ (oSt ls i).map.length ≤ 2 * i ∧ (oSt ls i).cr.length ≤ i ∧ (oSt ls i).sy.length ≤ i
  | 0 => ⟨Nat.le_refl _, Nat.le_refl _, Nat.le_refl _, Nat.le_refl _⟩
  | i + 1 => by
    have h := oSt_len ls i
    rw [oSt]
    unfold oStep
    split
    · have := symAdd_len (oSt ls i).sy (ls.getD i RT.line.dflt).name
      simp only [oLab, List.length_set]; omega
    · split
      · have := oRel_len (ls.getD i RT.line.dflt) (oSt ls i).code.length 1 (oSt ls i)
        simp only [oTab, List.length_append, List.length_singleton]; omega
      · unfold oIns
        simp only
        generalize (if isaTwo (ls.getD i RT.line.dflt).i.op = true then ((oSt ls i).code.length : Int) + 1 else (oSt ls i).code.length) = A
        generalize (if isaTwo (ls.getD i RT.line.dflt).i.op = true then (1 : Int) else 2) = K
        have h1 := oRel_len (ls.getD i RT.line.dflt) A K (oSt ls i)
        split <;> simp only [List.length_append, List.length_singleton] <;> omega
def HObj (ls : List Ln) (i : Nat) : SState := { fr := frO ls i, hp := hpO (oSt ls i), next := 6, sz := 132 }
def XObj (ls : List Ln) : SState := { fr := [(4, .ptr 5 0), (5, .ptr 0 0)], hp := hpO (oAll ls), next := 6, sz := 132 }
def LObj (ls : List Ln) : LSum := ⟨HObj ls 0, fun k => k (.exit 0) (XObj ls), ls.length ≤ 100000⟩
theorem bObj (gl : List (Nat × SVal)) (ls : List Ln) (i : Nat) : (Tr.sat (rnd1 (env gl [(61, kWords), (62, kSym), (63, krWord), (64, krTwo)]) (fun _ => True) (ls.length) (HObj ls) 0 (XObj ls) i) (run (env gl [(61, kWords), (62, kSym), (63, krWord), (64, krTwo)]) (joinsO ls i) (loopN (bodyOf Tryd.f24) 0) (HObj ls i) .leaf)) = (
  (decide ((↑i : Int) < (↑(List.length ls) : Int)) = true →
    ((((0 : Int) ≤ (↑i : Int) ∧ (↑i : Int) < (↑(List.length ls) : Int)) ∧
          ((0 : Int) ≤ (↑i : Int) ∧ (↑i : Int) < (↑(List.length ls) : Int) →
            ls = ls ∧
              (↑i : Int) = (↑i : Int) ∧
                noW = noW ∧
                  (oSt ls i).code = (oSt ls i).code ∧
                    (oSt ls i).map = (oSt ls i).map ∧
                      (oSt ls i).cr = (oSt ls i).cr ∧
                        (oSt ls i).sy = (oSt ls i).sy ∧
                          (List.getD ls (Int.toNat (↑i : Int)) (RT.dflt RT.line)).i.op = (lnAt ls i).i.op ∧
                            (List.getD ls (Int.toNat (↑i : Int)) (RT.dflt RT.line)).i.a = (lnAt ls i).i.a ∧
                              (List.getD ls (Int.toNat (↑i : Int)) (RT.dflt RT.line)).i.b = (lnAt ls i).i.b ∧
                                (List.getD ls (Int.toNat (↑i : Int)) (RT.dflt RT.line)).i.c = (lnAt ls i).i.c ∧
                                  (List.getD ls (Int.toNat (↑i : Int)) (RT.dflt RT.line)).i.imm = (lnAt ls i).i.imm ∧
                                    (List.getD ls (Int.toNat (↑i : Int)) (RT.dflt RT.line)).name = (lnAt ls i).name ∧
                                      (List.getD ls (Int.toNat (↑i : Int)) (RT.dflt RT.line)).sym = (lnAt ls i).sym ∧
                                        (List.getD ls (Int.toNat (↑i : Int)) (RT.dflt RT.line)).table = (lnAt ls i).table)) ∧
        ((!decide ((lnAt ls i).name = ByteArray.mk #[])) = true →
            List.length (oSt ls i).sy ≤ (999999 : Nat) ∧
              (List.length (oSt ls i).sy ≤ (999999 : Nat) →
                ((0 : Int) ≤ (↑(symI (oSt ls i).sy (lnAt ls i).name) : Int) ∧
                    (↑(symI (oSt ls i).sy (lnAt ls i).name) : Int) < (↑(List.length (symAdd (oSt ls i).sy (lnAt ls i).name)) : Int)) ∧
                  ((0 : Int) ≤ (↑(symI (oSt ls i).sy (lnAt ls i).name) : Int) ∧
                      (↑(symI (oSt ls i).sy (lnAt ls i).name) : Int) < (↑(List.length (symAdd (oSt ls i).sy (lnAt ls i).name)) : Int) →
                    ls = ls ∧
                      (↑i : Int) = (↑i : Int) ∧
                        noW = noW ∧
                          (oSt ls i).code = (oSt ls (i + (1 : Nat))).code ∧
                            (oSt ls i).map = (oSt ls (i + (1 : Nat))).map ∧
                              (oSt ls i).cr = (oSt ls (i + (1 : Nat))).cr ∧
                                List.set (symAdd (oSt ls i).sy (lnAt ls i).name) (Int.toNat (↑(symI (oSt ls i).sy (lnAt ls i).name) : Int))
                                    (Sm.mk (lnAt ls i).name (2 : Int) (↑(List.length (oSt ls i).code) : Int) true) =
                                  (oSt ls (i + (1 : Nat))).sy))) ∧
          ((!decide ((lnAt ls i).name = ByteArray.mk #[])) = false →
            ((lnAt ls i).table = true →
                (((!decide ((lnAt ls i).sym = ByteArray.mk #[])) = true →
                      List.length (oSt ls i).sy ≤ (999999 : Nat) ∧
                        (List.length (oSt ls i).sy ≤ (999999 : Nat) →
                          List.length (oSt ls i).cr +
                                List.length [Rel.mk (↑(List.length (oSt ls i).code) : Int) (1 : Int) (↑(symI (oSt ls i).sy (lnAt ls i).sym) : Int) (0 : Int)] ≤
                              (137438953472 : Nat) ∧
                            (List.length (oSt ls i).cr +
                                  List.length [Rel.mk (↑(List.length (oSt ls i).code) : Int) (1 : Int) (↑(symI (oSt ls i).sy (lnAt ls i).sym) : Int) (0 : Int)] ≤
                                (137438953472 : Nat) →
                              ((true = true ∧ true = true ∧ true = true ∧ (0 : Nat) = (0 : Nat) ∧ (0 : Nat) = (0 : Nat)) ∧
                                  (true = true → SVal.own (3 : Nat) = SVal.own (3 : Nat) ∧ True)) ∧
                                ((true = true ∧ true = true ∧ true = true ∧ (0 : Nat) = (0 : Nat) ∧ (0 : Nat) = (0 : Nat)) ∧
                                    (true = true → SVal.own (3 : Nat) = SVal.own (3 : Nat) ∧ True) →
                                  ((true = true ∧ true = true ∧ true = true ∧ (0 : Nat) = (0 : Nat) ∧ (0 : Nat) = (0 : Nat)) ∧
                                      (true = true → SVal.own (1 : Nat) = SVal.own (1 : Nat) ∧ True)) ∧
                                    ((true = true ∧ true = true ∧ true = true ∧ (0 : Nat) = (0 : Nat) ∧ (0 : Nat) = (0 : Nat)) ∧
                                        (true = true → SVal.own (1 : Nat) = SVal.own (1 : Nat) ∧ True) →
                                      ls = ls ∧
                                        (↑i : Int) = (↑i : Int) ∧
                                          noW = noW ∧
                                            (oSt ls i).code = (oRel (lnAt ls i) (↑(List.length (oSt ls i).code) : Int) (1 : Int) (oSt ls i)).code ∧
                                              (oSt ls i).map = (oRel (lnAt ls i) (↑(List.length (oSt ls i).code) : Int) (1 : Int) (oSt ls i)).map ∧
                                                (oSt ls i).cr ++ [Rel.mk (↑(List.length (oSt ls i).code) : Int) (1 : Int) (↑(symI (oSt ls i).sy (lnAt ls i).sym) : Int) (0 : Int)] =
                                                    (oRel (lnAt ls i) (↑(List.length (oSt ls i).code) : Int) (1 : Int) (oSt ls i)).cr ∧
                                                  symAdd (oSt ls i).sy (lnAt ls i).sym = (oRel (lnAt ls i) (↑(List.length (oSt ls i).code) : Int) (1 : Int) (oSt ls i)).sy ∧
                                                    (lnAt ls i).i.op = (lnAt ls i).i.op ∧
                                                      (lnAt ls i).i.a = (lnAt ls i).i.a ∧
                                                        (lnAt ls i).i.b = (lnAt ls i).i.b ∧
                                                          (lnAt ls i).i.c = (lnAt ls i).i.c ∧
                                                            (lnAt ls i).i.imm = (lnAt ls i).i.imm ∧
                                                              (lnAt ls i).name = (lnAt ls i).name ∧ (lnAt ls i).sym = (lnAt ls i).sym ∧ (lnAt ls i).table = (lnAt ls i).table))))) ∧
                    ((!decide ((lnAt ls i).sym = ByteArray.mk #[])) = false →
                      ls = ls ∧
                        (↑i : Int) = (↑i : Int) ∧
                          noW = noW ∧
                            (oSt ls i).code = (oRel (lnAt ls i) (↑(List.length (oSt ls i).code) : Int) (1 : Int) (oSt ls i)).code ∧
                              (oSt ls i).map = (oRel (lnAt ls i) (↑(List.length (oSt ls i).code) : Int) (1 : Int) (oSt ls i)).map ∧
                                (oSt ls i).cr = (oRel (lnAt ls i) (↑(List.length (oSt ls i).code) : Int) (1 : Int) (oSt ls i)).cr ∧
                                  (oSt ls i).sy = (oRel (lnAt ls i) (↑(List.length (oSt ls i).code) : Int) (1 : Int) (oSt ls i)).sy ∧
                                    (lnAt ls i).i.op = (lnAt ls i).i.op ∧
                                      (lnAt ls i).i.a = (lnAt ls i).i.a ∧
                                        (lnAt ls i).i.b = (lnAt ls i).i.b ∧
                                          (lnAt ls i).i.c = (lnAt ls i).i.c ∧
                                            (lnAt ls i).i.imm = (lnAt ls i).i.imm ∧
                                              (lnAt ls i).name = (lnAt ls i).name ∧ (lnAt ls i).sym = (lnAt ls i).sym ∧ (lnAt ls i).table = (lnAt ls i).table)) ∧
                  List.length (oRel (lnAt ls i) (↑(List.length (oSt ls i).code) : Int) (1 : Int) (oSt ls i)).code + List.length [(lnAt ls i).i.imm] ≤ (137438953472 : Nat) ∧
                    (List.length (oRel (lnAt ls i) (↑(List.length (oSt ls i).code) : Int) (1 : Int) (oSt ls i)).code + List.length [(lnAt ls i).i.imm] ≤ (137438953472 : Nat) →
                      List.length (oRel (lnAt ls i) (↑(List.length (oSt ls i).code) : Int) (1 : Int) (oSt ls i)).map + List.length [(2 : Int)] ≤ (137438953472 : Nat) ∧
                        (List.length (oRel (lnAt ls i) (↑(List.length (oSt ls i).code) : Int) (1 : Int) (oSt ls i)).map + List.length [(2 : Int)] ≤ (137438953472 : Nat) →
                          ls = ls ∧
                            (↑i : Int) = (↑i : Int) ∧
                              noW = noW ∧
                                (oRel (lnAt ls i) (↑(List.length (oSt ls i).code) : Int) (1 : Int) (oSt ls i)).code ++ [(lnAt ls i).i.imm] = (oSt ls (i + (1 : Nat))).code ∧
                                  (oRel (lnAt ls i) (↑(List.length (oSt ls i).code) : Int) (1 : Int) (oSt ls i)).map ++ [(2 : Int)] = (oSt ls (i + (1 : Nat))).map ∧
                                    (oRel (lnAt ls i) (↑(List.length (oSt ls i).code) : Int) (1 : Int) (oSt ls i)).cr = (oSt ls (i + (1 : Nat))).cr ∧
                                      (oRel (lnAt ls i) (↑(List.length (oSt ls i).code) : Int) (1 : Int) (oSt ls i)).sy = (oSt ls (i + (1 : Nat))).sy))) ∧
              ((lnAt ls i).table = false →
                (((!decide ((lnAt ls i).sym = ByteArray.mk #[])) = true →
                      ((isaTwo (lnAt ls i).i.op = true →
                            ls = ls ∧
                              (↑i : Int) = (↑i : Int) ∧
                                wordW (lnAt ls i).i.op (lnAt ls i).i.a (lnAt ls i).i.b (lnAt ls i).i.c (lnAt ls i).i.imm = wO (lnAt ls i) ∧
                                  IntKind.wrap IntKind.i64 ((↑(List.length (oSt ls i).code) : Int) + (1 : Int)) = atO (lnAt ls i) (oSt ls i) ∧
                                    (1 : Int) = kiO (lnAt ls i) ∧
                                      noW = noW ∧
                                        (oSt ls i).code = (oSt ls i).code ∧
                                          (oSt ls i).map = (oSt ls i).map ∧
                                            (oSt ls i).cr = (oSt ls i).cr ∧
                                              (oSt ls i).sy = (oSt ls i).sy ∧
                                                (lnAt ls i).i.op = (lnAt ls i).i.op ∧
                                                  (lnAt ls i).i.a = (lnAt ls i).i.a ∧
                                                    (lnAt ls i).i.b = (lnAt ls i).i.b ∧
                                                      (lnAt ls i).i.c = (lnAt ls i).i.c ∧
                                                        (lnAt ls i).i.imm = (lnAt ls i).i.imm ∧
                                                          (lnAt ls i).name = (lnAt ls i).name ∧ (lnAt ls i).sym = (lnAt ls i).sym ∧ (lnAt ls i).table = (lnAt ls i).table) ∧
                          (isaTwo (lnAt ls i).i.op = false →
                            ls = ls ∧
                              (↑i : Int) = (↑i : Int) ∧
                                wordW (lnAt ls i).i.op (lnAt ls i).i.a (lnAt ls i).i.b (lnAt ls i).i.c (lnAt ls i).i.imm = wO (lnAt ls i) ∧
                                  (↑(List.length (oSt ls i).code) : Int) = atO (lnAt ls i) (oSt ls i) ∧
                                    (2 : Int) = kiO (lnAt ls i) ∧
                                      noW = noW ∧
                                        (oSt ls i).code = (oSt ls i).code ∧
                                          (oSt ls i).map = (oSt ls i).map ∧
                                            (oSt ls i).cr = (oSt ls i).cr ∧
                                              (oSt ls i).sy = (oSt ls i).sy ∧
                                                (lnAt ls i).i.op = (lnAt ls i).i.op ∧
                                                  (lnAt ls i).i.a = (lnAt ls i).i.a ∧
                                                    (lnAt ls i).i.b = (lnAt ls i).i.b ∧
                                                      (lnAt ls i).i.c = (lnAt ls i).i.c ∧
                                                        (lnAt ls i).i.imm = (lnAt ls i).i.imm ∧
                                                          (lnAt ls i).name = (lnAt ls i).name ∧ (lnAt ls i).sym = (lnAt ls i).sym ∧ (lnAt ls i).table = (lnAt ls i).table)) ∧
                        List.length (oSt ls i).sy ≤ (999999 : Nat) ∧
                          (List.length (oSt ls i).sy ≤ (999999 : Nat) →
                            List.length (oSt ls i).cr +
                                  List.length [Rel.mk (atO (lnAt ls i) (oSt ls i)) (kiO (lnAt ls i)) (↑(symI (oSt ls i).sy (lnAt ls i).sym) : Int) (0 : Int)] ≤
                                (137438953472 : Nat) ∧
                              (List.length (oSt ls i).cr +
                                    List.length [Rel.mk (atO (lnAt ls i) (oSt ls i)) (kiO (lnAt ls i)) (↑(symI (oSt ls i).sy (lnAt ls i).sym) : Int) (0 : Int)] ≤
                                  (137438953472 : Nat) →
                                ((true = true ∧ true = true ∧ true = true ∧ (0 : Nat) = (0 : Nat) ∧ (0 : Nat) = (0 : Nat)) ∧
                                    (true = true → SVal.own (3 : Nat) = SVal.own (3 : Nat) ∧ True)) ∧
                                  ((true = true ∧ true = true ∧ true = true ∧ (0 : Nat) = (0 : Nat) ∧ (0 : Nat) = (0 : Nat)) ∧
                                      (true = true → SVal.own (3 : Nat) = SVal.own (3 : Nat) ∧ True) →
                                    ls = ls ∧
                                      (↑i : Int) = (↑i : Int) ∧
                                        wO (lnAt ls i) = wO (lnAt ls i) ∧
                                          noW = noW ∧
                                            (oSt ls i).code = (oRel (lnAt ls i) (atO (lnAt ls i) (oSt ls i)) (kiO (lnAt ls i)) (oSt ls i)).code ∧
                                              (oSt ls i).map = (oRel (lnAt ls i) (atO (lnAt ls i) (oSt ls i)) (kiO (lnAt ls i)) (oSt ls i)).map ∧
                                                (oSt ls i).cr ++ [Rel.mk (atO (lnAt ls i) (oSt ls i)) (kiO (lnAt ls i)) (↑(symI (oSt ls i).sy (lnAt ls i).sym) : Int) (0 : Int)] =
                                                    (oRel (lnAt ls i) (atO (lnAt ls i) (oSt ls i)) (kiO (lnAt ls i)) (oSt ls i)).cr ∧
                                                  symAdd (oSt ls i).sy (lnAt ls i).sym = (oRel (lnAt ls i) (atO (lnAt ls i) (oSt ls i)) (kiO (lnAt ls i)) (oSt ls i)).sy ∧
                                                    (lnAt ls i).i.op = (lnAt ls i).i.op ∧
                                                      (lnAt ls i).i.a = (lnAt ls i).i.a ∧
                                                        (lnAt ls i).i.b = (lnAt ls i).i.b ∧
                                                          (lnAt ls i).i.c = (lnAt ls i).i.c ∧
                                                            (lnAt ls i).i.imm = (lnAt ls i).i.imm ∧
                                                              (lnAt ls i).name = (lnAt ls i).name ∧ (lnAt ls i).sym = (lnAt ls i).sym ∧ (lnAt ls i).table = (lnAt ls i).table)))) ∧
                    ((!decide ((lnAt ls i).sym = ByteArray.mk #[])) = false →
                      ls = ls ∧
                        (↑i : Int) = (↑i : Int) ∧
                          wordW (lnAt ls i).i.op (lnAt ls i).i.a (lnAt ls i).i.b (lnAt ls i).i.c (lnAt ls i).i.imm = wO (lnAt ls i) ∧
                            noW = noW ∧
                              (oSt ls i).code = (oRel (lnAt ls i) (atO (lnAt ls i) (oSt ls i)) (kiO (lnAt ls i)) (oSt ls i)).code ∧
                                (oSt ls i).map = (oRel (lnAt ls i) (atO (lnAt ls i) (oSt ls i)) (kiO (lnAt ls i)) (oSt ls i)).map ∧
                                  (oSt ls i).cr = (oRel (lnAt ls i) (atO (lnAt ls i) (oSt ls i)) (kiO (lnAt ls i)) (oSt ls i)).cr ∧
                                    (oSt ls i).sy = (oRel (lnAt ls i) (atO (lnAt ls i) (oSt ls i)) (kiO (lnAt ls i)) (oSt ls i)).sy ∧
                                      (lnAt ls i).i.op = (lnAt ls i).i.op ∧
                                        (lnAt ls i).i.a = (lnAt ls i).i.a ∧
                                          (lnAt ls i).i.b = (lnAt ls i).i.b ∧
                                            (lnAt ls i).i.c = (lnAt ls i).i.c ∧
                                              (lnAt ls i).i.imm = (lnAt ls i).i.imm ∧
                                                (lnAt ls i).name = (lnAt ls i).name ∧ (lnAt ls i).sym = (lnAt ls i).sym ∧ (lnAt ls i).table = (lnAt ls i).table)) ∧
                  List.length (oRel (lnAt ls i) (atO (lnAt ls i) (oSt ls i)) (kiO (lnAt ls i)) (oSt ls i)).code + List.length [wO (lnAt ls i)] ≤ (137438953472 : Nat) ∧
                    (List.length (oRel (lnAt ls i) (atO (lnAt ls i) (oSt ls i)) (kiO (lnAt ls i)) (oSt ls i)).code + List.length [wO (lnAt ls i)] ≤ (137438953472 : Nat) →
                      List.length (oRel (lnAt ls i) (atO (lnAt ls i) (oSt ls i)) (kiO (lnAt ls i)) (oSt ls i)).map + List.length [(1 : Int)] ≤ (137438953472 : Nat) ∧
                        (List.length (oRel (lnAt ls i) (atO (lnAt ls i) (oSt ls i)) (kiO (lnAt ls i)) (oSt ls i)).map + List.length [(1 : Int)] ≤ (137438953472 : Nat) →
                          (isaTwo (lnAt ls i).i.op = true →
                              List.length ((oRel (lnAt ls i) (atO (lnAt ls i) (oSt ls i)) (kiO (lnAt ls i)) (oSt ls i)).code ++ [wO (lnAt ls i)]) +
                                    List.length [(lnAt ls i).i.imm] ≤
                                  (137438953472 : Nat) ∧
                                (List.length ((oRel (lnAt ls i) (atO (lnAt ls i) (oSt ls i)) (kiO (lnAt ls i)) (oSt ls i)).code ++ [wO (lnAt ls i)]) +
                                      List.length [(lnAt ls i).i.imm] ≤
                                    (137438953472 : Nat) →
                                  List.length ((oRel (lnAt ls i) (atO (lnAt ls i) (oSt ls i)) (kiO (lnAt ls i)) (oSt ls i)).map ++ [(1 : Int)]) + List.length [(0 : Int)] ≤
                                      (137438953472 : Nat) ∧
                                    (List.length ((oRel (lnAt ls i) (atO (lnAt ls i) (oSt ls i)) (kiO (lnAt ls i)) (oSt ls i)).map ++ [(1 : Int)]) + List.length [(0 : Int)] ≤
                                        (137438953472 : Nat) →
                                      ls = ls ∧
                                        (↑i : Int) = (↑i : Int) ∧
                                          noW = noW ∧
                                            (oRel (lnAt ls i) (atO (lnAt ls i) (oSt ls i)) (kiO (lnAt ls i)) (oSt ls i)).code ++ [wO (lnAt ls i)] ++ [(lnAt ls i).i.imm] =
                                                (oSt ls (i + (1 : Nat))).code ∧
                                              (oRel (lnAt ls i) (atO (lnAt ls i) (oSt ls i)) (kiO (lnAt ls i)) (oSt ls i)).map ++ [(1 : Int)] ++ [(0 : Int)] =
                                                  (oSt ls (i + (1 : Nat))).map ∧
                                                (oRel (lnAt ls i) (atO (lnAt ls i) (oSt ls i)) (kiO (lnAt ls i)) (oSt ls i)).cr = (oSt ls (i + (1 : Nat))).cr ∧
                                                  (oRel (lnAt ls i) (atO (lnAt ls i) (oSt ls i)) (kiO (lnAt ls i)) (oSt ls i)).sy = (oSt ls (i + (1 : Nat))).sy))) ∧
                            (isaTwo (lnAt ls i).i.op = false →
                              ls = ls ∧
                                (↑i : Int) = (↑i : Int) ∧
                                  noW = noW ∧
                                    (oRel (lnAt ls i) (atO (lnAt ls i) (oSt ls i)) (kiO (lnAt ls i)) (oSt ls i)).code ++ [wO (lnAt ls i)] = (oSt ls (i + (1 : Nat))).code ∧
                                      (oRel (lnAt ls i) (atO (lnAt ls i) (oSt ls i)) (kiO (lnAt ls i)) (oSt ls i)).map ++ [(1 : Int)] = (oSt ls (i + (1 : Nat))).map ∧
                                        (oRel (lnAt ls i) (atO (lnAt ls i) (oSt ls i)) (kiO (lnAt ls i)) (oSt ls i)).cr = (oSt ls (i + (1 : Nat))).cr ∧
                                          (oRel (lnAt ls i) (atO (lnAt ls i) (oSt ls i)) (kiO (lnAt ls i)) (oSt ls i)).sy = (oSt ls (i + (1 : Nat))).sy)))))) ∧
      i < List.length ls ∧
        True ∧
          ls = ls ∧
            (↑i : Int) + (1 : Int) = (↑(i + (1 : Nat)) : Int) ∧
              ((0 : Int) ≤ (↑(i + (1 : Nat)) : Int) ∧ (↑(i + (1 : Nat)) : Int) ≤ (1000000 : Int)) ∧
                noW = noW ∧
                  (oSt ls (i + (1 : Nat))).code = (oSt ls (i + (1 : Nat))).code ∧
                    (oSt ls (i + (1 : Nat))).map = (oSt ls (i + (1 : Nat))).map ∧
                      (oSt ls (i + (1 : Nat))).cr = (oSt ls (i + (1 : Nat))).cr ∧ (oSt ls (i + (1 : Nat))).sy = (oSt ls (i + (1 : Nat))).sy) ∧
  (decide ((↑i : Int) < (↑(List.length ls) : Int)) = false →
    Nat.beq (0 : Nat) (0 : Nat) = true ∧
      noW = noW ∧ (oSt ls i).code = (oAll ls).code ∧ (oSt ls i).map = (oAll ls).map ∧ (oSt ls i).cr = (oAll ls).cr ∧ (oSt ls i).sy = (oAll ls).sy)) := by kernel_rfl
set_option maxHeartbeats 4000000 in
theorem lObj (ls : List Ln) {W : World} {R own0 : Nat → Prop} {ρ0 : Nat → Option Value} (hown : HownOk (env gl [(61, kWords), (62, kSym), (63, krWord), (64, krTwo)]) own0 ρ0) : LOk Tryd.prog (env gl [(61, kWords), (62, kSym), (63, krWord), (64, krTwo)]) (ctx ea has) gl W R own0 ρ0 (loopN (bodyOf Tryd.f24) 0) (LObj ls) := by
  refine loop1_ok (env_ok (con := [(61, kWords), (62, kSym), (63, krWord), (64, krTwo)]) ⟨cWords, cSym, crWord, crTwo, trivial⟩) hown (ls := fun i => (joinsO ls i)) (fun i => noLoops (by kernel_rfl)) (fun hm i hi hj => (bObj gl ls i).mpr ?_) 0 (fun hm => by first | exact Nat.zero_le _ | omega) (fun hm => trivial)
  have hL := oSt_len ls i
  have hstep : oSt ls (i + 1) = oStep (lnAt ls i) (oSt ls i) := rfl
  have hx : ls.getD i RT.line.dflt = lnAt ls i := rfl
  have e0 : ByteArray.mk #[] = ByteArray.empty := rfl
  refine ⟨fun h => ?_, fun h => ?_⟩
  · have h := of_decide_eq_true h
    have hlt : i < ls.length := by omega
    have hlt' : (0 : Int) ≤ i ∧ (i : Int) < ls.length := by omega
    simp only [Int.toNat_natCast, hx, hstep, e0]
    generalize oSt ls i = s at *
    generalize lnAt ls i = x at *
    have hs1 := symI_lt s.sy x.name
    have hs2 := symI_lt s.sy x.sym
    have w1 : IntKind.i64.wrap ((s.code.length : Int) + 1) = s.code.length + 1 := by rw [IntKind.wrap_i64]; omega
    obtain ⟨l1, l2, l3, l4⟩ := hL
    by_cases hn : x.name = ByteArray.empty
    · cases ht : x.table <;> by_cases hsy : x.sym = ByteArray.empty <;> cases htw : isaTwo x.i.op <;>
        simp [hn, ht, hsy, htw, oStep, oTab, oIns, oRel, atO, kiO, wO, w1, hlt', hlt] <;> omega
    · simp [hn, oStep, oLab, hlt', hlt] <;> omega
  · have h := of_decide_eq_false h
    have e : i = ls.length := by omega
    subst e
    simp [oAll]
def rObject (ls : List Ln) (n : Nat) : ORes := { v := obV noW (oAll ls).code (oAll ls).map (nilR .rel) (oAll ls).cr (oAll ls).sy, vc := some (ls.length ≤ 100000) }
def kObject : List SVal → Nat → Acc ORes := fun a n => match a with
  | [.nilslice, .ro .line ls] => .ret (rObject ls n)
  | [.nilslice, .nilslice] => .ret (rObject (nilR .line) n)
  | [.nilslice, .own q] => .look q fun cc => match cc with
    | some (.recs .line ls) => .ret ({ rObject ls n with ws := [(q, none)] })
    | _ => .fail "Object"
  | _ => .fail "Object"
theorem argObject (ls : List Ln) : (all (subL 134 none' [] deep [.nilslice] [.nilslice])) = (
  True) := by kernel_rfl
theorem runObject (gl : List (Nat × SVal)) (ls : List Ln) : (Tr.sat (plainQ (obV noW (oAll ls).code (oAll ls).map (nilR .rel) (oAll ls).cr (oAll ls).sy)) (run (env gl [(61, kWords), (62, kSym), (63, krWord), (64, krTwo)]) [(3, LObj ls)] (bodyOf Tryd.f24) (start ([.nilslice] ++ [.ro .line ls]) 132) (ends (env gl [(61, kWords), (62, kSym), (63, krWord), (64, krTwo)]) Tryd.f24.results.toList))) = (
  List.length (nilR RT.u32) ≤ (1000000 : Nat) ∧
  (List.length (nilR RT.u32) ≤ (1000000 : Nat) →
    (List.length ls ≤ (100000 : Nat) ∧
        ls = ls ∧
          (0 : Int) = (↑(0 : Nat) : Int) ∧
            nilR RT.u32 = noW ∧ (oSt ls (0 : Nat)).code = [] ∧ (oSt ls (0 : Nat)).map = [] ∧ (oSt ls (0 : Nat)).cr = [] ∧ (oSt ls (0 : Nat)).sy = []) ∧
      (List.length ls ≤ (100000 : Nat) ∧
          ls = ls ∧
            (0 : Int) = (↑(0 : Nat) : Int) ∧
              nilR RT.u32 = noW ∧ (oSt ls (0 : Nat)).code = [] ∧ (oSt ls (0 : Nat)).map = [] ∧ (oSt ls (0 : Nat)).cr = [] ∧ (oSt ls (0 : Nat)).sy = [] →
        noW = noW ∧ (oAll ls).code = (oAll ls).code ∧ (oAll ls).map = (oAll ls).map ∧ nilR RT.rel = [] ∧ (oAll ls).cr = (oAll ls).cr ∧ (oAll ls).sy = (oAll ls).sy))) := by kernel_rfl
theorem gObject (ls : List Ln) (hv : ∀ q, (rObject ls 0).vc = some q → q) : Tr.sat (plainQ (obV noW (oAll ls).code (oAll ls).map (nilR .rel) (oAll ls).cr (oAll ls).sy)) (run (env gl [(61, kWords), (62, kSym), (63, krWord), (64, krTwo)]) [(3, LObj ls)] (bodyOf Tryd.f24) (start ([.nilslice] ++ [.ro .line ls]) 132) (ends (env gl [(61, kWords), (62, kSym), (63, krWord), (64, krTwo)]) Tryd.f24.results.toList)) := by
  replace hv := hv _ rfl
  refine (runObject gl ls).mpr ?_
  have h0 : (nilR RT.u32).length = 0 := rfl
  refine ⟨by omega, fun _ => ⟨⟨hv, rfl, rfl, rfl, rfl, rfl, rfl, rfl⟩, fun _ => ⟨rfl, rfl, rfl, rfl, rfl, rfl⟩⟩⟩
set_option maxHeartbeats 4000000 in
theorem cObject : Con ea has gl 24 kObject := by
  refine lastP_mk Tryd.func24 132 (con := [(61, kWords), (62, kSym), (63, krWord), (64, krTwo)]) ⟨cWords, cSym, crWord, crTwo, trivial⟩ (fun hA hr hv => ?_) (by kernel_rfl) (by kernel_rfl) Tryd.ntmps24
  unfold kObject at hr; split at hr
  · rename_i ls
    have := ret_ok hr; subst this
    refine ⟨[.nilslice], .line, ls, _, [(3, LObj ls)], (.inl ⟨rfl, rfl⟩), rfl, (argObject ls).mpr (by simp), rfl, (fun W R ρ0 own0 hown => hl1 (by kernel_rfl) (by kernel_rfl) (lObj ls hown)), gObject ls hv⟩
  · skip
    have := ret_ok hr; subst this
    refine ⟨[.nilslice], .line, (nilR .line), _, [(3, LObj (nilR .line))], (.inr (.inl ⟨rfl, rfl, rfl⟩)), rfl, (argObject (nilR .line)).mpr (by simp), rfl, (fun W R ρ0 own0 hown => hl1 (by kernel_rfl) (by kernel_rfl) (lObj (nilR .line) hown)), gObject (nilR .line) hv⟩
  · rename_i q
    simp only [Acc.run] at hr
    split at hr
    · rename_i ls hq
      have := ret_ok hr; subst this
      refine ⟨[.nilslice], .line, ls, _, [(3, LObj ls)], (.inr (.inr ⟨q, rfl, hq, rfl⟩)), rfl, (argObject ls).mpr (by simp), rfl, (fun W R ρ0 own0 hown => hl1 (by kernel_rfl) (by kernel_rfl) (lObj ls hown)), gObject ls hv⟩
    · cases hr
  · cases hr
/-- An object that puts out some numbers, and halts. -/
def saysL (l : List Int) : Nat → List Ln
  | 0 => [⟨⟨0, 0, 0, 0, 0⟩, ⟨#[109, 97, 105, 110]⟩, ByteArray.empty, false⟩]
  | i + 1 => saysL l i ++ [⟨⟨14, 3, 0, 0, l.getD i 0⟩, ByteArray.empty, ByteArray.empty, false⟩, opL 35 [3]]
def saysA (l : List Int) : OS := oAll (saysL l l.length ++ [opL 32 [3]])
theorem saysL_len (l : List Int) : ∀ i, (saysL l i).length = 2 * i + 1
  | 0 => rfl
  | i + 1 => by rw [saysL, List.length_append, saysL_len l i]; simp; omega
def HSays (l : List Int) (i : Nat) : SState := { fr := [(0, .ro .u32 l), (2, .ptr 1 0), (3, .own 0), (4, .int .i64 (.sym i 0 1000000))], hp := [(0, some (.recs .line (saysL l i))), (1, some (.cells [.nilslice, .nilslice, .nilslice, .nilslice, .nilslice, .nilslice]))], next := 2, sz := 29 }
def XSays (l : List Int) : SState := { fr := [(2, .ptr 1 0), (3, .own 0)], hp := [(0, some (.recs .line (saysL l l.length))), (1, some (.cells [.nilslice, .nilslice, .nilslice, .nilslice, .nilslice, .nilslice]))], next := 2, sz := 29 }
def LSays (l : List Int) : LSum := ⟨HSays l 0, fun k => k (.exit 0) (XSays l), l.length ≤ 10000⟩
theorem bSays (gl : List (Nat × SVal)) (l : List Int) (i : Nat) : (Tr.sat (rnd1 (env gl [(23, kAt), (55, kLi), (22, kOp), (24, kObject)]) (fun _ => True) (l.length) (HSays l) 0 (XSays l) i) (run (env gl [(23, kAt), (55, kLi), (22, kOp), (24, kObject)]) [] (loopN (bodyOf Tryd.f57) 0) (HSays l i) .leaf)) = (
  (decide ((↑i : Int) < (↑(List.length l) : Int)) = true →
    ((0 : Int) ≤ (↑i : Int) ∧ (↑i : Int) < (↑(List.length l) : Int)) ∧
      ((0 : Int) ≤ (↑i : Int) ∧ (↑i : Int) < (↑(List.length l) : Int) →
        List.length (saysL l i) +
              List.length
                [Ln.mk
                    (In5.mk
                      (Ln.mk (In5.mk (14 : Int) (3 : Int) (0 : Int) (0 : Int) (List.getD l (Int.toNat (↑i : Int)) (RT.dflt RT.u32))) ByteArray.empty ByteArray.empty false).i.op
                      (Ln.mk (In5.mk (14 : Int) (3 : Int) (0 : Int) (0 : Int) (List.getD l (Int.toNat (↑i : Int)) (RT.dflt RT.u32))) ByteArray.empty ByteArray.empty false).i.a
                      (Ln.mk (In5.mk (14 : Int) (3 : Int) (0 : Int) (0 : Int) (List.getD l (Int.toNat (↑i : Int)) (RT.dflt RT.u32))) ByteArray.empty ByteArray.empty false).i.b
                      (Ln.mk (In5.mk (14 : Int) (3 : Int) (0 : Int) (0 : Int) (List.getD l (Int.toNat (↑i : Int)) (RT.dflt RT.u32))) ByteArray.empty ByteArray.empty false).i.c
                      (Ln.mk (In5.mk (14 : Int) (3 : Int) (0 : Int) (0 : Int) (List.getD l (Int.toNat (↑i : Int)) (RT.dflt RT.u32))) ByteArray.empty ByteArray.empty false).i.imm)
                    (Ln.mk (In5.mk (14 : Int) (3 : Int) (0 : Int) (0 : Int) (List.getD l (Int.toNat (↑i : Int)) (RT.dflt RT.u32))) ByteArray.empty ByteArray.empty false).name
                    (Ln.mk (In5.mk (14 : Int) (3 : Int) (0 : Int) (0 : Int) (List.getD l (Int.toNat (↑i : Int)) (RT.dflt RT.u32))) ByteArray.empty ByteArray.empty false).sym
                    (Ln.mk (In5.mk (14 : Int) (3 : Int) (0 : Int) (0 : Int) (List.getD l (Int.toNat (↑i : Int)) (RT.dflt RT.u32))) ByteArray.empty ByteArray.empty false).table,
                  Ln.mk
                    (In5.mk (opL (35 : Int) [(3 : Int)]).i.op (opL (35 : Int) [(3 : Int)]).i.a (opL (35 : Int) [(3 : Int)]).i.b (opL (35 : Int) [(3 : Int)]).i.c
                      (opL (35 : Int) [(3 : Int)]).i.imm)
                    (opL (35 : Int) [(3 : Int)]).name (opL (35 : Int) [(3 : Int)]).sym (opL (35 : Int) [(3 : Int)]).table] ≤
            (137438953472 : Nat) ∧
          (List.length (saysL l i) +
                List.length
                  [Ln.mk
                      (In5.mk
                        (Ln.mk (In5.mk (14 : Int) (3 : Int) (0 : Int) (0 : Int) (List.getD l (Int.toNat (↑i : Int)) (RT.dflt RT.u32))) ByteArray.empty ByteArray.empty false).i.op
                        (Ln.mk (In5.mk (14 : Int) (3 : Int) (0 : Int) (0 : Int) (List.getD l (Int.toNat (↑i : Int)) (RT.dflt RT.u32))) ByteArray.empty ByteArray.empty false).i.a
                        (Ln.mk (In5.mk (14 : Int) (3 : Int) (0 : Int) (0 : Int) (List.getD l (Int.toNat (↑i : Int)) (RT.dflt RT.u32))) ByteArray.empty ByteArray.empty false).i.b
                        (Ln.mk (In5.mk (14 : Int) (3 : Int) (0 : Int) (0 : Int) (List.getD l (Int.toNat (↑i : Int)) (RT.dflt RT.u32))) ByteArray.empty ByteArray.empty false).i.c
                        (Ln.mk (In5.mk (14 : Int) (3 : Int) (0 : Int) (0 : Int) (List.getD l (Int.toNat (↑i : Int)) (RT.dflt RT.u32))) ByteArray.empty ByteArray.empty false).i.imm)
                      (Ln.mk (In5.mk (14 : Int) (3 : Int) (0 : Int) (0 : Int) (List.getD l (Int.toNat (↑i : Int)) (RT.dflt RT.u32))) ByteArray.empty ByteArray.empty false).name
                      (Ln.mk (In5.mk (14 : Int) (3 : Int) (0 : Int) (0 : Int) (List.getD l (Int.toNat (↑i : Int)) (RT.dflt RT.u32))) ByteArray.empty ByteArray.empty false).sym
                      (Ln.mk (In5.mk (14 : Int) (3 : Int) (0 : Int) (0 : Int) (List.getD l (Int.toNat (↑i : Int)) (RT.dflt RT.u32))) ByteArray.empty ByteArray.empty false).table,
                    Ln.mk
                      (In5.mk (opL (35 : Int) [(3 : Int)]).i.op (opL (35 : Int) [(3 : Int)]).i.a (opL (35 : Int) [(3 : Int)]).i.b (opL (35 : Int) [(3 : Int)]).i.c
                        (opL (35 : Int) [(3 : Int)]).i.imm)
                      (opL (35 : Int) [(3 : Int)]).name (opL (35 : Int) [(3 : Int)]).sym (opL (35 : Int) [(3 : Int)]).table] ≤
              (137438953472 : Nat) →
            i < List.length l ∧
              True ∧
                l = l ∧
                  (↑i : Int) + (1 : Int) = (↑(i + (1 : Nat)) : Int) ∧
                    ((0 : Int) ≤ (↑(i + (1 : Nat)) : Int) ∧ (↑(i + (1 : Nat)) : Int) ≤ (1000000 : Int)) ∧
                      saysL l i ++
                          [Ln.mk
                              (In5.mk
                                (Ln.mk (In5.mk (14 : Int) (3 : Int) (0 : Int) (0 : Int) (List.getD l (Int.toNat (↑i : Int)) (RT.dflt RT.u32))) ByteArray.empty ByteArray.empty
                                      false).i.op
                                (Ln.mk (In5.mk (14 : Int) (3 : Int) (0 : Int) (0 : Int) (List.getD l (Int.toNat (↑i : Int)) (RT.dflt RT.u32))) ByteArray.empty ByteArray.empty
                                      false).i.a
                                (Ln.mk (In5.mk (14 : Int) (3 : Int) (0 : Int) (0 : Int) (List.getD l (Int.toNat (↑i : Int)) (RT.dflt RT.u32))) ByteArray.empty ByteArray.empty
                                      false).i.b
                                (Ln.mk (In5.mk (14 : Int) (3 : Int) (0 : Int) (0 : Int) (List.getD l (Int.toNat (↑i : Int)) (RT.dflt RT.u32))) ByteArray.empty ByteArray.empty
                                      false).i.c
                                (Ln.mk (In5.mk (14 : Int) (3 : Int) (0 : Int) (0 : Int) (List.getD l (Int.toNat (↑i : Int)) (RT.dflt RT.u32))) ByteArray.empty ByteArray.empty
                                      false).i.imm)
                              (Ln.mk (In5.mk (14 : Int) (3 : Int) (0 : Int) (0 : Int) (List.getD l (Int.toNat (↑i : Int)) (RT.dflt RT.u32))) ByteArray.empty ByteArray.empty
                                  false).name
                              (Ln.mk (In5.mk (14 : Int) (3 : Int) (0 : Int) (0 : Int) (List.getD l (Int.toNat (↑i : Int)) (RT.dflt RT.u32))) ByteArray.empty ByteArray.empty
                                  false).sym
                              (Ln.mk (In5.mk (14 : Int) (3 : Int) (0 : Int) (0 : Int) (List.getD l (Int.toNat (↑i : Int)) (RT.dflt RT.u32))) ByteArray.empty ByteArray.empty
                                  false).table,
                            Ln.mk
                              (In5.mk (opL (35 : Int) [(3 : Int)]).i.op (opL (35 : Int) [(3 : Int)]).i.a (opL (35 : Int) [(3 : Int)]).i.b (opL (35 : Int) [(3 : Int)]).i.c
                                (opL (35 : Int) [(3 : Int)]).i.imm)
                              (opL (35 : Int) [(3 : Int)]).name (opL (35 : Int) [(3 : Int)]).sym (opL (35 : Int) [(3 : Int)]).table] =
                        saysL l (i + (1 : Nat))))) ∧
  (decide ((↑i : Int) < (↑(List.length l) : Int)) = false → Nat.beq (0 : Nat) (0 : Nat) = true ∧ saysL l i = saysL l (List.length l))) := by kernel_rfl
set_option maxHeartbeats 4000000 in
theorem lSays (l : List Int) {W : World} {R own0 : Nat → Prop} {ρ0 : Nat → Option Value} (hown : HownOk (env gl [(23, kAt), (55, kLi), (22, kOp), (24, kObject)]) own0 ρ0) : LOk Tryd.prog (env gl [(23, kAt), (55, kLi), (22, kOp), (24, kObject)]) (ctx ea has) gl W R own0 ρ0 (loopN (bodyOf Tryd.f57) 0) (LSays l) := by
  refine loop1_ok (env_ok (con := [(23, kAt), (55, kLi), (22, kOp), (24, kObject)]) ⟨cAt, cLi, cOp, cObject, trivial⟩) hown (ls := fun i => []) (fun i => noLoops (by kernel_rfl)) (fun hm i hi hj => (bSays gl l i).mpr ?_) 0 (fun hm => by first | exact Nat.zero_le _ | omega) (fun hm => trivial)
  have hl := saysL_len l i
  refine ⟨fun h => ?_, fun h => ?_⟩
  · have h := of_decide_eq_true h
    have hlt : i < l.length := by omega
    refine ⟨by omega, fun _ => ⟨by rw [hl]; simp only [List.length_cons, List.length_nil]; omega, fun _ => ⟨hlt, trivial, rfl, by omega, by omega, rfl⟩⟩⟩
  · have h := of_decide_eq_false h
    have e : i = l.length := by omega
    subst e
    exact ⟨rfl, rfl⟩
def rSays (l : List Int) (n : Nat) : ORes := { v := obV noW (saysA l).code (saysA l).map (nilR .rel) (saysA l).cr (saysA l).sy, vc := some (l.length ≤ 10000) }
def kSays : List SVal → Nat → Acc ORes := fun a n => match a with
  | [.ro .u32 l] => .ret (rSays l n)
  | [.nilslice] => .ret (rSays (nilR .u32) n)
  | [.own q] => .look q fun cc => match cc with
    | some (.recs .u32 l) => .ret ({ rSays l n with ws := [(q, none)] })
    | _ => .fail "Says"
  | _ => .fail "Says"
theorem argSays (l : List Int) : (all (subL 134 none' [] deep [] [])) = (
  True) := by kernel_rfl
theorem runSays (gl : List (Nat × SVal)) (l : List Int) : (Tr.sat (plainQ (obV noW (saysA l).code (saysA l).map (nilR .rel) (saysA l).cr (saysA l).sy)) (run (env gl [(23, kAt), (55, kLi), (22, kOp), (24, kObject)]) [(3, LSays l)] (bodyOf Tryd.f57) (start ([] ++ [.ro .u32 l]) 29) (ends (env gl [(23, kAt), (55, kLi), (22, kOp), (24, kObject)]) Tryd.f57.results.toList))) = (
  (List.length l ≤ (10000 : Nat) ∧
    l = l ∧
      (0 : Int) = (↑(0 : Nat) : Int) ∧
        [Ln.mk
              (In5.mk
                (Ln.mk (In5.mk (0 : Int) (0 : Int) (0 : Int) (0 : Int) (0 : Int)) (ByteArray.mk #[(109 : UInt8), (97 : UInt8), (105 : UInt8), (110 : UInt8)]) ByteArray.empty
                      false).i.op
                (Ln.mk (In5.mk (0 : Int) (0 : Int) (0 : Int) (0 : Int) (0 : Int)) (ByteArray.mk #[(109 : UInt8), (97 : UInt8), (105 : UInt8), (110 : UInt8)]) ByteArray.empty
                      false).i.a
                (Ln.mk (In5.mk (0 : Int) (0 : Int) (0 : Int) (0 : Int) (0 : Int)) (ByteArray.mk #[(109 : UInt8), (97 : UInt8), (105 : UInt8), (110 : UInt8)]) ByteArray.empty
                      false).i.b
                (Ln.mk (In5.mk (0 : Int) (0 : Int) (0 : Int) (0 : Int) (0 : Int)) (ByteArray.mk #[(109 : UInt8), (97 : UInt8), (105 : UInt8), (110 : UInt8)]) ByteArray.empty
                      false).i.c
                (Ln.mk (In5.mk (0 : Int) (0 : Int) (0 : Int) (0 : Int) (0 : Int)) (ByteArray.mk #[(109 : UInt8), (97 : UInt8), (105 : UInt8), (110 : UInt8)]) ByteArray.empty
                      false).i.imm)
              (Ln.mk (In5.mk (0 : Int) (0 : Int) (0 : Int) (0 : Int) (0 : Int)) (ByteArray.mk #[(109 : UInt8), (97 : UInt8), (105 : UInt8), (110 : UInt8)]) ByteArray.empty
                  false).name
              (Ln.mk (In5.mk (0 : Int) (0 : Int) (0 : Int) (0 : Int) (0 : Int)) (ByteArray.mk #[(109 : UInt8), (97 : UInt8), (105 : UInt8), (110 : UInt8)]) ByteArray.empty
                  false).sym
              (Ln.mk (In5.mk (0 : Int) (0 : Int) (0 : Int) (0 : Int) (0 : Int)) (ByteArray.mk #[(109 : UInt8), (97 : UInt8), (105 : UInt8), (110 : UInt8)]) ByteArray.empty
                  false).table] =
          saysL l (0 : Nat)) ∧
  (List.length l ≤ (10000 : Nat) ∧
      l = l ∧
        (0 : Int) = (↑(0 : Nat) : Int) ∧
          [Ln.mk
                (In5.mk
                  (Ln.mk (In5.mk (0 : Int) (0 : Int) (0 : Int) (0 : Int) (0 : Int)) (ByteArray.mk #[(109 : UInt8), (97 : UInt8), (105 : UInt8), (110 : UInt8)]) ByteArray.empty
                        false).i.op
                  (Ln.mk (In5.mk (0 : Int) (0 : Int) (0 : Int) (0 : Int) (0 : Int)) (ByteArray.mk #[(109 : UInt8), (97 : UInt8), (105 : UInt8), (110 : UInt8)]) ByteArray.empty
                        false).i.a
                  (Ln.mk (In5.mk (0 : Int) (0 : Int) (0 : Int) (0 : Int) (0 : Int)) (ByteArray.mk #[(109 : UInt8), (97 : UInt8), (105 : UInt8), (110 : UInt8)]) ByteArray.empty
                        false).i.b
                  (Ln.mk (In5.mk (0 : Int) (0 : Int) (0 : Int) (0 : Int) (0 : Int)) (ByteArray.mk #[(109 : UInt8), (97 : UInt8), (105 : UInt8), (110 : UInt8)]) ByteArray.empty
                        false).i.c
                  (Ln.mk (In5.mk (0 : Int) (0 : Int) (0 : Int) (0 : Int) (0 : Int)) (ByteArray.mk #[(109 : UInt8), (97 : UInt8), (105 : UInt8), (110 : UInt8)]) ByteArray.empty
                        false).i.imm)
                (Ln.mk (In5.mk (0 : Int) (0 : Int) (0 : Int) (0 : Int) (0 : Int)) (ByteArray.mk #[(109 : UInt8), (97 : UInt8), (105 : UInt8), (110 : UInt8)]) ByteArray.empty
                    false).name
                (Ln.mk (In5.mk (0 : Int) (0 : Int) (0 : Int) (0 : Int) (0 : Int)) (ByteArray.mk #[(109 : UInt8), (97 : UInt8), (105 : UInt8), (110 : UInt8)]) ByteArray.empty
                    false).sym
                (Ln.mk (In5.mk (0 : Int) (0 : Int) (0 : Int) (0 : Int) (0 : Int)) (ByteArray.mk #[(109 : UInt8), (97 : UInt8), (105 : UInt8), (110 : UInt8)]) ByteArray.empty
                    false).table] =
            saysL l (0 : Nat) →
    List.length (saysL l (List.length l)) +
          List.length
            [Ln.mk
                (In5.mk (opL (32 : Int) [(3 : Int)]).i.op (opL (32 : Int) [(3 : Int)]).i.a (opL (32 : Int) [(3 : Int)]).i.b (opL (32 : Int) [(3 : Int)]).i.c
                  (opL (32 : Int) [(3 : Int)]).i.imm)
                (opL (32 : Int) [(3 : Int)]).name (opL (32 : Int) [(3 : Int)]).sym (opL (32 : Int) [(3 : Int)]).table] ≤
        (137438953472 : Nat) ∧
      (List.length (saysL l (List.length l)) +
            List.length
              [Ln.mk
                  (In5.mk (opL (32 : Int) [(3 : Int)]).i.op (opL (32 : Int) [(3 : Int)]).i.a (opL (32 : Int) [(3 : Int)]).i.b (opL (32 : Int) [(3 : Int)]).i.c
                    (opL (32 : Int) [(3 : Int)]).i.imm)
                  (opL (32 : Int) [(3 : Int)]).name (opL (32 : Int) [(3 : Int)]).sym (opL (32 : Int) [(3 : Int)]).table] ≤
          (137438953472 : Nat) →
        List.length
              (saysL l (List.length l) ++
                [Ln.mk
                    (In5.mk (opL (32 : Int) [(3 : Int)]).i.op (opL (32 : Int) [(3 : Int)]).i.a (opL (32 : Int) [(3 : Int)]).i.b (opL (32 : Int) [(3 : Int)]).i.c
                      (opL (32 : Int) [(3 : Int)]).i.imm)
                    (opL (32 : Int) [(3 : Int)]).name (opL (32 : Int) [(3 : Int)]).sym (opL (32 : Int) [(3 : Int)]).table]) ≤
            (100000 : Nat) ∧
          (List.length
                (saysL l (List.length l) ++
                  [Ln.mk
                      (In5.mk (opL (32 : Int) [(3 : Int)]).i.op (opL (32 : Int) [(3 : Int)]).i.a (opL (32 : Int) [(3 : Int)]).i.b (opL (32 : Int) [(3 : Int)]).i.c
                        (opL (32 : Int) [(3 : Int)]).i.imm)
                      (opL (32 : Int) [(3 : Int)]).name (opL (32 : Int) [(3 : Int)]).sym (opL (32 : Int) [(3 : Int)]).table]) ≤
              (100000 : Nat) →
            noW = noW ∧
              (oAll
                      (saysL l (List.length l) ++
                        [Ln.mk
                            (In5.mk (opL (32 : Int) [(3 : Int)]).i.op (opL (32 : Int) [(3 : Int)]).i.a (opL (32 : Int) [(3 : Int)]).i.b (opL (32 : Int) [(3 : Int)]).i.c
                              (opL (32 : Int) [(3 : Int)]).i.imm)
                            (opL (32 : Int) [(3 : Int)]).name (opL (32 : Int) [(3 : Int)]).sym (opL (32 : Int) [(3 : Int)]).table])).code =
                  (saysA l).code ∧
                (oAll
                        (saysL l (List.length l) ++
                          [Ln.mk
                              (In5.mk (opL (32 : Int) [(3 : Int)]).i.op (opL (32 : Int) [(3 : Int)]).i.a (opL (32 : Int) [(3 : Int)]).i.b (opL (32 : Int) [(3 : Int)]).i.c
                                (opL (32 : Int) [(3 : Int)]).i.imm)
                              (opL (32 : Int) [(3 : Int)]).name (opL (32 : Int) [(3 : Int)]).sym (opL (32 : Int) [(3 : Int)]).table])).map =
                    (saysA l).map ∧
                  nilR RT.rel = nilR RT.rel ∧
                    (oAll
                            (saysL l (List.length l) ++
                              [Ln.mk
                                  (In5.mk (opL (32 : Int) [(3 : Int)]).i.op (opL (32 : Int) [(3 : Int)]).i.a (opL (32 : Int) [(3 : Int)]).i.b (opL (32 : Int) [(3 : Int)]).i.c
                                    (opL (32 : Int) [(3 : Int)]).i.imm)
                                  (opL (32 : Int) [(3 : Int)]).name (opL (32 : Int) [(3 : Int)]).sym (opL (32 : Int) [(3 : Int)]).table])).cr =
                        (saysA l).cr ∧
                      (oAll
                            (saysL l (List.length l) ++
                              [Ln.mk
                                  (In5.mk (opL (32 : Int) [(3 : Int)]).i.op (opL (32 : Int) [(3 : Int)]).i.a (opL (32 : Int) [(3 : Int)]).i.b (opL (32 : Int) [(3 : Int)]).i.c
                                    (opL (32 : Int) [(3 : Int)]).i.imm)
                                  (opL (32 : Int) [(3 : Int)]).name (opL (32 : Int) [(3 : Int)]).sym (opL (32 : Int) [(3 : Int)]).table])).sy =
                        (saysA l).sy)))) := by kernel_rfl
theorem gSays (l : List Int) (hv : ∀ q, (rSays l 0).vc = some q → q) : Tr.sat (plainQ (obV noW (saysA l).code (saysA l).map (nilR .rel) (saysA l).cr (saysA l).sy)) (run (env gl [(23, kAt), (55, kLi), (22, kOp), (24, kObject)]) [(3, LSays l)] (bodyOf Tryd.f57) (start ([] ++ [.ro .u32 l]) 29) (ends (env gl [(23, kAt), (55, kLi), (22, kOp), (24, kObject)]) Tryd.f57.results.toList)) := by
  replace hv := hv _ rfl
  refine (runSays gl l).mpr ?_
  have hl := saysL_len l l.length
  refine ⟨⟨hv, rfl, rfl, rfl⟩, fun _ => ⟨by rw [hl]; simp only [List.length_cons, List.length_nil]; omega, fun _ => ⟨by rw [List.length_append, hl]; simp only [List.length_cons, List.length_nil]; omega, fun _ => ⟨rfl, rfl, rfl, rfl, rfl, rfl⟩⟩⟩⟩
set_option maxHeartbeats 4000000 in
theorem cSays : Con ea has gl 57 kSays := by
  refine lastP_mk Tryd.func57 29 (con := [(23, kAt), (55, kLi), (22, kOp), (24, kObject)]) ⟨cAt, cLi, cOp, cObject, trivial⟩ (fun hA hr hv => ?_) (by kernel_rfl) (by kernel_rfl) Tryd.ntmps57
  unfold kSays at hr; split at hr
  · rename_i l
    have := ret_ok hr; subst this
    refine ⟨[], .u32, l, _, [(3, LSays l)], (.inl ⟨rfl, rfl⟩), rfl, (argSays l).mpr (by simp), rfl, (fun W R ρ0 own0 hown => hl1 (by kernel_rfl) (by kernel_rfl) (lSays l hown)), gSays l hv⟩
  · skip
    have := ret_ok hr; subst this
    refine ⟨[], .u32, (nilR .u32), _, [(3, LSays (nilR .u32))], (.inr (.inl ⟨rfl, rfl, rfl⟩)), rfl, (argSays (nilR .u32)).mpr (by simp), rfl, (fun W R ρ0 own0 hown => hl1 (by kernel_rfl) (by kernel_rfl) (lSays (nilR .u32) hown)), gSays (nilR .u32) hv⟩
  · rename_i q
    simp only [Acc.run] at hr
    split at hr
    · rename_i l hq
      have := ret_ok hr; subst this
      refine ⟨[], .u32, l, _, [(3, LSays l)], (.inr (.inr ⟨q, rfl, hq, rfl⟩)), rfl, (argSays l).mpr (by simp), rfl, (fun W R ρ0 own0 hown => hl1 (by kernel_rfl) (by kernel_rfl) (lSays l hown)), gSays l hv⟩
    · cases hr
  · cases hr
end
end Go.Proofs.YtbdfibaljoedpaaDoor
