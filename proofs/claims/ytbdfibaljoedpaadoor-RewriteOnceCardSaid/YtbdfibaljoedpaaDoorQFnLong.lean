/- Contracts that the proofs use. -/
import Derived.Test.YtbdfibaljoedpaaDoorQFnKeep
import Derived.Test.YtbdfibaljoedpaaDoorQFnSee
set_option linter.unusedVariables false
set_option linter.unusedSimpArgs false
set_option linter.unusedSectionVars false
namespace Go.Proofs.YtbdfibaljoedpaaDoor
open Go.RowKit Go.Sy Go.Fac
section
variable {ea : Int → Addr} {has : Int → Prop} {rest : List (Nat × SVal)}
def mainLn : Ln := ⟨⟨0, 0, 0, 0, 0⟩, ⟨#[109, 97, 105, 110]⟩, ByteArray.empty, false⟩
def clisL : Nat → List Ln
  | 0 => [mainLn]
  | i + 1 => clisL i ++ [opL 64 []]
theorem clisL_len : ∀ i, (clisL i).length = i + 1
  | 0 => rfl
  | i + 1 => by rw [clisL, List.length_append, clisL_len i]; rfl
def cC (n : Nat) : List Int := (oAll (clisL n)).code
def cM (n : Nat) : List Int := (oAll (clisL n)).map
def cR (n : Nat) : List Rel := (oAll (clisL n)).cr
def cS (n : Nat) : List Sm := (oAll (clisL n)).sy
def mainSm : Sm := ⟨⟨#[109, 97, 105, 110]⟩, 2, 0, true⟩
abbrev cliW : Int := 1073741824
theorem clisL_eq : ∀ n, clisL n = mainLn :: List.replicate n (opL 64 [])
  | 0 => rfl
  | n + 1 => by rw [clisL, clisL_eq n, List.replicate_succ']; rfl
theorem step_main : oStep mainLn ⟨[], [], [], []⟩ = ⟨[], [], [], [mainSm]⟩ := by
  unfold oStep
  rw [if_pos (by decide)]
  rfl
theorem step_cli (s : OS) : oStep (opL 64 []) s = ⟨s.code ++ [cliW], s.map ++ [1], s.cr, s.sy⟩ := by
  have e1 : isaTwo 64 = false := by decide
  have e2 : wordW 64 0 0 0 0 = cliW := by decide +kernel
  unfold oStep
  rw [if_neg (by simp [opL]), if_neg (by simp [opL])]
  unfold oIns oRel
  simp [opL, e1, e2]
theorem clis_st (n : Nat) : ∀ j, j ≤ n → oSt (clisL n) (j + 1) = ⟨List.replicate j cliW, List.replicate j 1, [], [mainSm]⟩
  | 0, _ => by
    rw [oSt, oSt, clisL_eq]
    exact step_main
  | j + 1, h => by
    rw [oSt, clis_st n j (by omega)]
    have : (clisL n).getD (j + 1) RT.line.dflt = opL 64 [] := by
      rw [clisL_eq, List.getD_eq_getElem?_getD, List.getElem?_cons_succ, List.getElem?_replicate, if_pos (by omega)]; rfl
    rw [this, step_cli]
    simp only
    rw [← List.replicate_succ', ← List.replicate_succ']
theorem clis_all (n : Nat) : oAll (clisL n) = ⟨List.replicate n cliW, List.replicate n 1, [], [mainSm]⟩ := by
  unfold oAll; rw [clisL_len]; exact clis_st n n (Nat.le_refl _)
theorem firstE_of {f : Nat → FErr} : ∀ n, (∀ i, i < n → (f i).isErr = false) → firstE f n = .fine
  | 0, _ => rfl
  | n + 1, h => firstE_fine (firstE_of n fun i hi => h i (by omega)) (h n (by omega))
theorem rep_get {n i : Nat} (x : Int) (h : i < n) : (List.replicate n x).getD i 0 = x := by
  rw [List.getD_eq_getElem?_getD, List.getElem?_replicate, if_pos h]; rfl
section
variable {n : Nat} (h0 : 0 < n) (hn : n ≤ 2000)
include h0 hn
theorem cli_ins {i : Nat} (h : i < n) : insB (List.replicate n cliW) (List.replicate n 1) i = true ∧ (insI (List.replicate n cliW) (List.replicate n 1) i).op = 64 := by
  have hb : begM (List.replicate n cliW) (List.replicate n 1) i = true := by
    unfold begM
    rw [Int.toNat_natCast, rep_get 1 h, List.length_replicate, List.length_replicate, decide_eq_false (by omega : ¬ (i : Int) < 0), decide_eq_false (by omega : ¬ (n : Int) ≤ i)]
    rfl
  have hk : ofOk cliW = true := by decide +kernel
  unfold insB insI
  rw [hb, Int.toNat_natCast, rep_get cliW h, if_pos rfl, hk]
  refine ⟨rfl, ?_⟩
  unfold ofF
  rw [if_pos hk]
  show cliW / 16777216 = 64
  decide
theorem cli_word {i : Nat} (h : i < n) : wordE (List.replicate n cliW) (List.replicate n 1) i = .fine := by
  obtain ⟨a, b⟩ := cli_ins h0 hn h
  unfold wordE
  have e1 : isaTwo 64 = false := by decide
  have e2 : decide (isaClass 64 = 4) = false := by decide
  rw [Int.toNat_natCast, rep_get 1 h, if_pos rfl, a, b, e1, e2]
  rfl
theorem cli_valid : (validE [] (List.replicate n cliW) (List.replicate n 1) [] [] [mainSm]).isErr = false := by
  have m1 : manyB [] (List.replicate n cliW) [] [] [mainSm] = false := by
    unfold manyB
    rw [List.length_replicate, decide_eq_false (by omega : ¬ (2048 : Int) < n)]
    rfl
  have m2 : decide (((List.replicate n (1 : Int)).length : Int) = (List.replicate n cliW).length) = true := by rw [List.length_replicate, List.length_replicate]; exact decide_eq_true rfl
  have m3 : firstE (wdE (List.replicate n cliW) (List.replicate n 1)) (List.replicate n cliW).length = .fine := by
    rw [List.length_replicate]
    refine firstE_of n fun i hi => ?_
    unfold wdE; rw [cli_word h0 hn hi]; rfl
  have m4 : firstE (syE [] (List.replicate n cliW) (List.replicate n 1) [mainSm]) 1 = .fine := by
    refine firstE_of 1 fun i hi => ?_
    have : i = 0 := by omega
    subst this
    unfold syE symE
    have k1 : symOk mainSm.name = true := by decide +kernel
    have k2 : symFine [] (List.replicate n cliW) (List.replicate n 1) 2 0 true = true := by
      unfold symFine
      rw [if_neg (by decide), if_pos rfl, List.length_replicate, show Int.toNat 0 = 0 from rfl, rep_get 1 h0, decide_eq_true (by omega : (0 : Int) < n)]
      rfl
    show (if symOk mainSm.name = false then FErr.bare 103 else if (1 : Int) < 0 + 1 then FErr.bare 106 else if symFine [] (List.replicate n cliW) (List.replicate n 1) 2 0 true = true then FErr.fine else FErr.bare 103).isErr = false
    rw [k1, if_neg (by simp), if_neg (by decide), if_pos k2]
    rfl
  have m5 : relocsE [] (List.replicate n cliW) (List.replicate n 1) [] [] [mainSm] = .fine := by
    have : firstE (needE (List.replicate n cliW) (List.replicate n 1) []) (List.replicate n cliW).length = .fine := by
      rw [List.length_replicate]
      refine firstE_of n fun i hi => ?_
      obtain ⟨a, b⟩ := cli_ins h0 hn hi
      have e1 : shortM 64 = false := by decide
      have e2 : farM 64 = false := by decide
      have e3 : decide ((64 : Int) = 15) = false := by decide
      unfold needE
      rw [a, b, e1, e2, e3]
      rfl
    unfold relocsE
    rw [this]; rfl
  unfold validE
  rw [m1, if_neg (by simp), m2, m3, show ([mainSm].length) = 1 from rfl, m4, m5]
  rfl
omit h0 hn in
theorem cli_isF {i : Nat} (h : i < n) : isF (List.replicate n cliW) (List.replicate n 1) i = true := by
  unfold isF
  rw [rep_get 1 h, rep_get cliW h]
  decide
theorem cli_ahead : ∀ i, i ≤ n → ahead (List.replicate n cliW) (List.replicate n 1) i = i ∧ (rwC (List.replicate n cliW) (List.replicate n 1) i).length = 2 * i
  | 0, _ => ⟨rfl, rfl⟩
  | i + 1, h => by
    obtain ⟨a, b⟩ := cli_ahead i (by omega)
    have hF := cli_isF (show i < n by omega)
    have hs := ((finds (cli_valid h0 hn) (by rw [List.length_replicate]; omega)).1 hF).2.2.2.2
    refine ⟨by rw [hs, a], ?_⟩
    rw [rwC, if_pos hF, List.length_append, b]
    simp only [List.length_cons, List.length_nil]; omega
theorem cli_sites : (sitesM [] (List.replicate n cliW) (List.replicate n 1) [] [] [mainSm]).length = n := by
  unfold sitesM
  rw [if_neg (by rw [cli_valid h0 hn]; simp)]
  have := (cli_ahead h0 hn n (Nat.le_refl _)).1
  rw [List.length_replicate]
  exact this
end
def HLgA (n : Nat) (i : Nat) : SState := { fr := [(0, .int .i64 (.full n)), (3, .bool (.lit true)), (4, .own 0), (5, .int .i64 (.sym i 0 2000))], hp := [(0, some (.recs .line (clisL i)))], next := 1, sz := 96 }
def XLgA (n : Nat) : SState := { fr := [(0, .int .i64 (.full n)), (3, .bool (.lit true)), (4, .own 0)], hp := [(0, some (.recs .line (clisL n)))], next := 1, sz := 96 }
def LLgA (n : Nat) : LSum := ⟨HLgA n 0, fun k => k (.exit 0) (XLgA n), n < 2000⟩
theorem bLgA (rest : List (Nat × SVal)) (n : Nat) (i : Nat) : (Tr.sat (rnd1 (env (G7 ++ (G9 ++ rest)) [(32, kfirst11), (21, kNumber), (22, kOp), (23, kAt), (24, kObjectF), (33, kDo), (34, kNeeds), (35, kSeeIs)]) (fun _ => True) (n) (HLgA n) 0 (XLgA n) i) (run (env (G7 ++ (G9 ++ rest)) [(32, kfirst11), (21, kNumber), (22, kOp), (23, kAt), (24, kObjectF), (33, kDo), (34, kNeeds), (35, kSeeIs)]) [] (loopN (bodyOf Tryd.f6) 0) (HLgA n i) .leaf)) = (
  (decide ((↑i : Int) < (↑n : Int)) = true → List.length (clisL i) + List.length [Ln.mk (In5.mk (opL (64 : Int) (nilR RT.i64)).i.op (opL (64 : Int) (nilR RT.i64)).i.a (opL (64 : Int) (nilR RT.i64)).i.b (opL (64 : Int) (nilR RT.i64)).i.c (opL (64 : Int) (nilR RT.i64)).i.imm) (opL (64 : Int) (nilR RT.i64)).name (opL (64 : Int) (nilR RT.i64)).sym (opL (64 : Int) (nilR RT.i64)).table] ≤ (137438953472 : Nat) ∧ (List.length (clisL i) + List.length [Ln.mk (In5.mk (opL (64 : Int) (nilR RT.i64)).i.op (opL (64 : Int) (nilR RT.i64)).i.a (opL (64 : Int) (nilR RT.i64)).i.b (opL (64 : Int) (nilR RT.i64)).i.c (opL (64 : Int) (nilR RT.i64)).i.imm) (opL (64 : Int) (nilR RT.i64)).name (opL (64 : Int) (nilR RT.i64)).sym (opL (64 : Int) (nilR RT.i64)).table] ≤ (137438953472 : Nat) → i < n ∧ True ∧ (↑n : Int) = (↑n : Int) ∧ true = true ∧ (↑i : Int) + (1 : Int) = (↑(i + (1 : Nat)) : Int) ∧ ((0 : Int) ≤ (↑(i + (1 : Nat)) : Int) ∧ (↑(i + (1 : Nat)) : Int) ≤ (2000 : Int)) ∧ clisL i ++ [Ln.mk (In5.mk (opL (64 : Int) (nilR RT.i64)).i.op (opL (64 : Int) (nilR RT.i64)).i.a (opL (64 : Int) (nilR RT.i64)).i.b (opL (64 : Int) (nilR RT.i64)).i.c (opL (64 : Int) (nilR RT.i64)).i.imm) (opL (64 : Int) (nilR RT.i64)).name (opL (64 : Int) (nilR RT.i64)).sym (opL (64 : Int) (nilR RT.i64)).table] = clisL (i + (1 : Nat)))) ∧ (decide ((↑i : Int) < (↑n : Int)) = false → Nat.beq (0 : Nat) (0 : Nat) = true ∧ (↑n : Int) = (↑n : Int) ∧ true = true ∧ clisL i = clisL n)) := by kernel_rfl
set_option maxHeartbeats 4000000 in
theorem lLgA (n : Nat) {W : World} {R own0 : Nat → Prop} {ρ0 : Nat → Option Value} (hown : HownOk (env (G7 ++ (G9 ++ rest)) [(32, kfirst11), (21, kNumber), (22, kOp), (23, kAt), (24, kObjectF), (33, kDo), (34, kNeeds), (35, kSeeIs)]) own0 ρ0) : LOk Tryd.prog (env (G7 ++ (G9 ++ rest)) [(32, kfirst11), (21, kNumber), (22, kOp), (23, kAt), (24, kObjectF), (33, kDo), (34, kNeeds), (35, kSeeIs)]) (ctx ea has) (G7 ++ (G9 ++ rest)) W R own0 ρ0 (loopN (bodyOf Tryd.f6) 0) (LLgA n) := by
  refine loop1_ok (env_ok (con := [(32, kfirst11), (21, kNumber), (22, kOp), (23, kAt), (24, kObjectF), (33, kDo), (34, kNeeds), (35, kSeeIs)]) ⟨cfirst11, cNumber, cOp, cAt, cObjectF, cDo, cNeeds, cSeeIs, trivial⟩) hown (ls := fun i => []) (fun i => noLoops (by kernel_rfl)) (fun hm i hi hj => (bLgA rest n i).mpr ?_) 0 (fun hm => by first | exact Nat.zero_le _ | omega) (fun hm => trivial)
  have hL := clisL_len i
  refine ⟨fun h => ?_, fun h => ?_⟩
  · have h := of_decide_eq_true h
    exact ⟨by rw [hL]; simp only [List.length_cons, List.length_nil]; omega, fun _ => ⟨by omega, trivial, rfl, rfl, rfl, by omega, rfl⟩⟩
  · have h := of_decide_eq_false h
    have e : i = n := by omega
    subst e
    exact ⟨rfl, rfl, rfl, rfl⟩
def cutLong (n : Nat) : LSum := cutL { fr := [(0, .int .i64 (.full n)), (3, .bool (.lit true)), (6, .ptr 0 0)], hp := [(0, obBox [] (cC n) (cM n) [] (cR n) (cS n))], next := 1, sz := 96 }
def kRewriteLong : List SVal → Nat → Acc ORes := fun a n => match a with | [.int .i64 k] => .ret ({ v := .bool (.lit true) }) | _ => .fail "RewriteLong"
theorem argRewriteLong (k : SI) : (all (subL 134 none' [] deep [.int .i64 k] [.int .i64 (.full k.val)])) = (
  SI.val k = SI.val k) := by kernel_rfl
theorem runRewriteLong (rest : List (Nat × SVal)) (k : SI) : (Tr.sat (plainQ (.bool (.lit true))) (run (env (G7 ++ (G9 ++ rest)) [(32, kfirst11), (21, kNumber), (22, kOp), (23, kAt), (24, kObjectF), (33, kDo), (34, kNeeds), (35, kSeeIs)]) [(7, LLgA (k.val % 8 + 1020).toNat), (1000010, cutLong (k.val % 8 + 1020).toNat)] (bodyOf Tryd.f6) (start [.int .i64 (.full k.val)] 96) (ends (env (G7 ++ (G9 ++ rest)) [(32, kfirst11), (21, kNumber), (22, kOp), (23, kAt), (24, kObjectF), (33, kDo), (34, kNeeds), (35, kSeeIs)]) Tryd.f6.results.toList))) = (
  (0 : Int) < (8 : Int) ∧ ((0 : Int) < (8 : Int) → (Int.toNat (SI.val k % (8 : Int) + (1020 : Int)) < (2000 : Nat) ∧ IntKind.wrap IntKind.i64 (SI.val k % (8 : Int) + (1020 : Int)) = (↑(Int.toNat (SI.val k % (8 : Int) + (1020 : Int))) : Int) ∧ true = true ∧ (0 : Int) = (↑(0 : Nat) : Int) ∧ [Ln.mk (In5.mk (Ln.mk (In5.mk (0 : Int) (0 : Int) (0 : Int) (0 : Int) (0 : Int)) (ByteArray.mk #[(109 : UInt8), (97 : UInt8), (105 : UInt8), (110 : UInt8)]) ByteArray.empty false).i.op (Ln.mk (In5.mk (0 : Int) (0 : Int) (0 : Int) (0 : Int) (0 : Int)) (ByteArray.mk #[(109 : UInt8), (97 : UInt8), (105 : UInt8), (110 : UInt8)]) ByteArray.empty false).i.a (Ln.mk (In5.mk (0 : Int) (0 : Int) (0 : Int) (0 : Int) (0 : Int)) (ByteArray.mk #[(109 : UInt8), (97 : UInt8), (105 : UInt8), (110 : UInt8)]) ByteArray.empty false).i.b (Ln.mk (In5.mk (0 : Int) (0 : Int) (0 : Int) (0 : Int) (0 : Int)) (ByteArray.mk #[(109 : UInt8), (97 : UInt8), (105 : UInt8), (110 : UInt8)]) ByteArray.empty false).i.c (Ln.mk (In5.mk (0 : Int) (0 : Int) (0 : Int) (0 : Int) (0 : Int)) (ByteArray.mk #[(109 : UInt8), (97 : UInt8), (105 : UInt8), (110 : UInt8)]) ByteArray.empty false).i.imm) (Ln.mk (In5.mk (0 : Int) (0 : Int) (0 : Int) (0 : Int) (0 : Int)) (ByteArray.mk #[(109 : UInt8), (97 : UInt8), (105 : UInt8), (110 : UInt8)]) ByteArray.empty false).name (Ln.mk (In5.mk (0 : Int) (0 : Int) (0 : Int) (0 : Int) (0 : Int)) (ByteArray.mk #[(109 : UInt8), (97 : UInt8), (105 : UInt8), (110 : UInt8)]) ByteArray.empty false).sym (Ln.mk (In5.mk (0 : Int) (0 : Int) (0 : Int) (0 : Int) (0 : Int)) (ByteArray.mk #[(109 : UInt8), (97 : UInt8), (105 : UInt8), (110 : UInt8)]) ByteArray.empty false).table] = clisL (0 : Nat)) ∧ (Int.toNat (SI.val k % (8 : Int) + (1020 : Int)) < (2000 : Nat) ∧ IntKind.wrap IntKind.i64 (SI.val k % (8 : Int) + (1020 : Int)) = (↑(Int.toNat (SI.val k % (8 : Int) + (1020 : Int))) : Int) ∧ true = true ∧ (0 : Int) = (↑(0 : Nat) : Int) ∧ [Ln.mk (In5.mk (Ln.mk (In5.mk (0 : Int) (0 : Int) (0 : Int) (0 : Int) (0 : Int)) (ByteArray.mk #[(109 : UInt8), (97 : UInt8), (105 : UInt8), (110 : UInt8)]) ByteArray.empty false).i.op (Ln.mk (In5.mk (0 : Int) (0 : Int) (0 : Int) (0 : Int) (0 : Int)) (ByteArray.mk #[(109 : UInt8), (97 : UInt8), (105 : UInt8), (110 : UInt8)]) ByteArray.empty false).i.a (Ln.mk (In5.mk (0 : Int) (0 : Int) (0 : Int) (0 : Int) (0 : Int)) (ByteArray.mk #[(109 : UInt8), (97 : UInt8), (105 : UInt8), (110 : UInt8)]) ByteArray.empty false).i.b (Ln.mk (In5.mk (0 : Int) (0 : Int) (0 : Int) (0 : Int) (0 : Int)) (ByteArray.mk #[(109 : UInt8), (97 : UInt8), (105 : UInt8), (110 : UInt8)]) ByteArray.empty false).i.c (Ln.mk (In5.mk (0 : Int) (0 : Int) (0 : Int) (0 : Int) (0 : Int)) (ByteArray.mk #[(109 : UInt8), (97 : UInt8), (105 : UInt8), (110 : UInt8)]) ByteArray.empty false).i.imm) (Ln.mk (In5.mk (0 : Int) (0 : Int) (0 : Int) (0 : Int) (0 : Int)) (ByteArray.mk #[(109 : UInt8), (97 : UInt8), (105 : UInt8), (110 : UInt8)]) ByteArray.empty false).name (Ln.mk (In5.mk (0 : Int) (0 : Int) (0 : Int) (0 : Int) (0 : Int)) (ByteArray.mk #[(109 : UInt8), (97 : UInt8), (105 : UInt8), (110 : UInt8)]) ByteArray.empty false).sym (Ln.mk (In5.mk (0 : Int) (0 : Int) (0 : Int) (0 : Int) (0 : Int)) (ByteArray.mk #[(109 : UInt8), (97 : UInt8), (105 : UInt8), (110 : UInt8)]) ByteArray.empty false).table] = clisL (0 : Nat) → (List.length (clisL (Int.toNat (SI.val k % (8 : Int) + (1020 : Int)))) ≤ (100000 : Nat) ∧ shortN (@List.nil (RT.ty RT.u32))) ∧ (List.length (clisL (Int.toNat (SI.val k % (8 : Int) + (1020 : Int)))) ≤ (100000 : Nat) ∧ shortN (@List.nil (RT.ty RT.u32)) → ((↑(Int.toNat (SI.val k % (8 : Int) + (1020 : Int))) : Int) = (↑(Int.toNat (SI.val k % (8 : Int) + (1020 : Int))) : Int) ∧ true = true ∧ @List.nil (RT.ty RT.u32) = @List.nil Int ∧ (oAll (clisL (Int.toNat (SI.val k % (8 : Int) + (1020 : Int))))).code = cC (Int.toNat (SI.val k % (8 : Int) + (1020 : Int))) ∧ (oAll (clisL (Int.toNat (SI.val k % (8 : Int) + (1020 : Int))))).map = cM (Int.toNat (SI.val k % (8 : Int) + (1020 : Int))) ∧ @List.nil Rel = @List.nil (RT.ty RT.rel) ∧ (oAll (clisL (Int.toNat (SI.val k % (8 : Int) + (1020 : Int))))).cr = cR (Int.toNat (SI.val k % (8 : Int) + (1020 : Int))) ∧ (oAll (clisL (Int.toNat (SI.val k % (8 : Int) + (1020 : Int))))).sy = cS (Int.toNat (SI.val k % (8 : Int) + (1020 : Int)))) ∧ ((↑(Int.toNat (SI.val k % (8 : Int) + (1020 : Int))) : Int) = (↑(Int.toNat (SI.val k % (8 : Int) + (1020 : Int))) : Int) ∧ true = true ∧ @List.nil (RT.ty RT.u32) = @List.nil Int ∧ (oAll (clisL (Int.toNat (SI.val k % (8 : Int) + (1020 : Int))))).code = cC (Int.toNat (SI.val k % (8 : Int) + (1020 : Int))) ∧ (oAll (clisL (Int.toNat (SI.val k % (8 : Int) + (1020 : Int))))).map = cM (Int.toNat (SI.val k % (8 : Int) + (1020 : Int))) ∧ @List.nil Rel = @List.nil (RT.ty RT.rel) ∧ (oAll (clisL (Int.toNat (SI.val k % (8 : Int) + (1020 : Int))))).cr = cR (Int.toNat (SI.val k % (8 : Int) + (1020 : Int))) ∧ (oAll (clisL (Int.toNat (SI.val k % (8 : Int) + (1020 : Int))))).sy = cS (Int.toNat (SI.val k % (8 : Int) + (1020 : Int))) → ((!!FErr.isErr (validE (@List.nil Int) (cC (Int.toNat (SI.val k % (8 : Int) + (1020 : Int)))) (cM (Int.toNat (SI.val k % (8 : Int) + (1020 : Int)))) (@List.nil Rel) (cR (Int.toNat (SI.val k % (8 : Int) + (1020 : Int)))) (cS (Int.toNat (SI.val k % (8 : Int) + (1020 : Int))))) || !decide ((if FErr.isErr (validE (@List.nil Int) (cC (Int.toNat (SI.val k % (8 : Int) + (1020 : Int)))) (cM (Int.toNat (SI.val k % (8 : Int) + (1020 : Int)))) (@List.nil Rel) (cR (Int.toNat (SI.val k % (8 : Int) + (1020 : Int)))) (cS (Int.toNat (SI.val k % (8 : Int) + (1020 : Int))))) = true then (0 : Int) else (↑(List.length (cC (Int.toNat (SI.val k % (8 : Int) + (1020 : Int))))) : Int) + (↑(List.length (sitesM (@List.nil Int) (cC (Int.toNat (SI.val k % (8 : Int) + (1020 : Int)))) (cM (Int.toNat (SI.val k % (8 : Int) + (1020 : Int)))) (@List.nil Rel) (cR (Int.toNat (SI.val k % (8 : Int) + (1020 : Int)))) (cS (Int.toNat (SI.val k % (8 : Int) + (1020 : Int)))))) : Int)) = IntKind.wrap IntKind.i64 ((2 : Int) * (↑(Int.toNat (SI.val k % (8 : Int) + (1020 : Int))) : Int)))) = true → false = true) ∧ ((!!FErr.isErr (validE (@List.nil Int) (cC (Int.toNat (SI.val k % (8 : Int) + (1020 : Int)))) (cM (Int.toNat (SI.val k % (8 : Int) + (1020 : Int)))) (@List.nil Rel) (cR (Int.toNat (SI.val k % (8 : Int) + (1020 : Int)))) (cS (Int.toNat (SI.val k % (8 : Int) + (1020 : Int))))) || !decide ((if FErr.isErr (validE (@List.nil Int) (cC (Int.toNat (SI.val k % (8 : Int) + (1020 : Int)))) (cM (Int.toNat (SI.val k % (8 : Int) + (1020 : Int)))) (@List.nil Rel) (cR (Int.toNat (SI.val k % (8 : Int) + (1020 : Int)))) (cS (Int.toNat (SI.val k % (8 : Int) + (1020 : Int))))) = true then (0 : Int) else (↑(List.length (cC (Int.toNat (SI.val k % (8 : Int) + (1020 : Int))))) : Int) + (↑(List.length (sitesM (@List.nil Int) (cC (Int.toNat (SI.val k % (8 : Int) + (1020 : Int)))) (cM (Int.toNat (SI.val k % (8 : Int) + (1020 : Int)))) (@List.nil Rel) (cR (Int.toNat (SI.val k % (8 : Int) + (1020 : Int)))) (cS (Int.toNat (SI.val k % (8 : Int) + (1020 : Int)))))) : Int)) = IntKind.wrap IntKind.i64 ((2 : Int) * (↑(Int.toNat (SI.val k % (8 : Int) + (1020 : Int))) : Int)))) = false → (decide ((1024 : Int) < (↑(Int.toNat (SI.val k % (8 : Int) + (1020 : Int))) : Int)) = true → (decide (fcode (doE (@List.nil Int) (cC (Int.toNat (SI.val k % (8 : Int) + (1020 : Int)))) (cM (Int.toNat (SI.val k % (8 : Int) + (1020 : Int)))) (@List.nil Rel) (cR (Int.toNat (SI.val k % (8 : Int) + (1020 : Int)))) (cS (Int.toNat (SI.val k % (8 : Int) + (1020 : Int))))) = (104 : Int)) && FErr.isPlaced (doE (@List.nil Int) (cC (Int.toNat (SI.val k % (8 : Int) + (1020 : Int)))) (cM (Int.toNat (SI.val k % (8 : Int) + (1020 : Int)))) (@List.nil Rel) (cR (Int.toNat (SI.val k % (8 : Int) + (1020 : Int)))) (cS (Int.toNat (SI.val k % (8 : Int) + (1020 : Int))))) == false && decide (FErr.pos (doE (@List.nil Int) (cC (Int.toNat (SI.val k % (8 : Int) + (1020 : Int)))) (cM (Int.toNat (SI.val k % (8 : Int) + (1020 : Int)))) (@List.nil Rel) (cR (Int.toNat (SI.val k % (8 : Int) + (1020 : Int)))) (cS (Int.toNat (SI.val k % (8 : Int) + (1020 : Int))))) = (0 : Int)) && decide ((↑(List.length (doC (doE (@List.nil Int) (cC (Int.toNat (SI.val k % (8 : Int) + (1020 : Int)))) (cM (Int.toNat (SI.val k % (8 : Int) + (1020 : Int)))) (@List.nil Rel) (cR (Int.toNat (SI.val k % (8 : Int) + (1020 : Int)))) (cS (Int.toNat (SI.val k % (8 : Int) + (1020 : Int))))) (cC (Int.toNat (SI.val k % (8 : Int) + (1020 : Int)))) (cM (Int.toNat (SI.val k % (8 : Int) + (1020 : Int)))))) : Int) = (0 : Int)) && decide ((↑(List.length (doT (doE (@List.nil Int) (cC (Int.toNat (SI.val k % (8 : Int) + (1020 : Int)))) (cM (Int.toNat (SI.val k % (8 : Int) + (1020 : Int)))) (@List.nil Rel) (cR (Int.toNat (SI.val k % (8 : Int) + (1020 : Int)))) (cS (Int.toNat (SI.val k % (8 : Int) + (1020 : Int))))) (cC (Int.toNat (SI.val k % (8 : Int) + (1020 : Int)))) (cM (Int.toNat (SI.val k % (8 : Int) + (1020 : Int)))))) : Int) = (0 : Int))) = true) ∧ (decide ((1024 : Int) < (↑(Int.toNat (SI.val k % (8 : Int) + (1020 : Int))) : Int)) = false → ((!FErr.isErr (doE (@List.nil Int) (cC (Int.toNat (SI.val k % (8 : Int) + (1020 : Int)))) (cM (Int.toNat (SI.val k % (8 : Int) + (1020 : Int)))) (@List.nil Rel) (cR (Int.toNat (SI.val k % (8 : Int) + (1020 : Int)))) (cS (Int.toNat (SI.val k % (8 : Int) + (1020 : Int))))) && decide ((↑(List.length (doC (doE (@List.nil Int) (cC (Int.toNat (SI.val k % (8 : Int) + (1020 : Int)))) (cM (Int.toNat (SI.val k % (8 : Int) + (1020 : Int)))) (@List.nil Rel) (cR (Int.toNat (SI.val k % (8 : Int) + (1020 : Int)))) (cS (Int.toNat (SI.val k % (8 : Int) + (1020 : Int))))) (cC (Int.toNat (SI.val k % (8 : Int) + (1020 : Int)))) (cM (Int.toNat (SI.val k % (8 : Int) + (1020 : Int)))))) : Int) = IntKind.wrap IntKind.i64 ((2 : Int) * (↑(Int.toNat (SI.val k % (8 : Int) + (1020 : Int))) : Int)))) = true → (0 : Int) ≤ (↑(Int.toNat (SI.val k % (8 : Int) + (1020 : Int))) : Int) ∧ (↑(Int.toNat (SI.val k % (8 : Int) + (1020 : Int))) : Int) < (↑(List.length (doT (doE (@List.nil Int) (cC (Int.toNat (SI.val k % (8 : Int) + (1020 : Int)))) (cM (Int.toNat (SI.val k % (8 : Int) + (1020 : Int)))) (@List.nil Rel) (cR (Int.toNat (SI.val k % (8 : Int) + (1020 : Int)))) (cS (Int.toNat (SI.val k % (8 : Int) + (1020 : Int))))) (cC (Int.toNat (SI.val k % (8 : Int) + (1020 : Int)))) (cM (Int.toNat (SI.val k % (8 : Int) + (1020 : Int)))))) : Int)) ∧ (((!FErr.isErr (doE (@List.nil Int) (cC (Int.toNat (SI.val k % (8 : Int) + (1020 : Int)))) (cM (Int.toNat (SI.val k % (8 : Int) + (1020 : Int)))) (@List.nil Rel) (cR (Int.toNat (SI.val k % (8 : Int) + (1020 : Int)))) (cS (Int.toNat (SI.val k % (8 : Int) + (1020 : Int))))) && decide ((↑(List.length (doC (doE (@List.nil Int) (cC (Int.toNat (SI.val k % (8 : Int) + (1020 : Int)))) (cM (Int.toNat (SI.val k % (8 : Int) + (1020 : Int)))) (@List.nil Rel) (cR (Int.toNat (SI.val k % (8 : Int) + (1020 : Int)))) (cS (Int.toNat (SI.val k % (8 : Int) + (1020 : Int))))) (cC (Int.toNat (SI.val k % (8 : Int) + (1020 : Int)))) (cM (Int.toNat (SI.val k % (8 : Int) + (1020 : Int)))))) : Int) = IntKind.wrap IntKind.i64 ((2 : Int) * (↑(Int.toNat (SI.val k % (8 : Int) + (1020 : Int))) : Int)))) = true → (0 : Int) ≤ (↑(Int.toNat (SI.val k % (8 : Int) + (1020 : Int))) : Int) ∧ (↑(Int.toNat (SI.val k % (8 : Int) + (1020 : Int))) : Int) < (↑(List.length (doT (doE (@List.nil Int) (cC (Int.toNat (SI.val k % (8 : Int) + (1020 : Int)))) (cM (Int.toNat (SI.val k % (8 : Int) + (1020 : Int)))) (@List.nil Rel) (cR (Int.toNat (SI.val k % (8 : Int) + (1020 : Int)))) (cS (Int.toNat (SI.val k % (8 : Int) + (1020 : Int))))) (cC (Int.toNat (SI.val k % (8 : Int) + (1020 : Int)))) (cM (Int.toNat (SI.val k % (8 : Int) + (1020 : Int)))))) : Int)) → ((!FErr.isErr (doE (@List.nil Int) (cC (Int.toNat (SI.val k % (8 : Int) + (1020 : Int)))) (cM (Int.toNat (SI.val k % (8 : Int) + (1020 : Int)))) (@List.nil Rel) (cR (Int.toNat (SI.val k % (8 : Int) + (1020 : Int)))) (cS (Int.toNat (SI.val k % (8 : Int) + (1020 : Int))))) && decide ((↑(List.length (doC (doE (@List.nil Int) (cC (Int.toNat (SI.val k % (8 : Int) + (1020 : Int)))) (cM (Int.toNat (SI.val k % (8 : Int) + (1020 : Int)))) (@List.nil Rel) (cR (Int.toNat (SI.val k % (8 : Int) + (1020 : Int)))) (cS (Int.toNat (SI.val k % (8 : Int) + (1020 : Int))))) (cC (Int.toNat (SI.val k % (8 : Int) + (1020 : Int)))) (cM (Int.toNat (SI.val k % (8 : Int) + (1020 : Int)))))) : Int) = IntKind.wrap IntKind.i64 ((2 : Int) * (↑(Int.toNat (SI.val k % (8 : Int) + (1020 : Int))) : Int))) && decide (List.getD (doT (doE (@List.nil Int) (cC (Int.toNat (SI.val k % (8 : Int) + (1020 : Int)))) (cM (Int.toNat (SI.val k % (8 : Int) + (1020 : Int)))) (@List.nil Rel) (cR (Int.toNat (SI.val k % (8 : Int) + (1020 : Int)))) (cS (Int.toNat (SI.val k % (8 : Int) + (1020 : Int))))) (cC (Int.toNat (SI.val k % (8 : Int) + (1020 : Int)))) (cM (Int.toNat (SI.val k % (8 : Int) + (1020 : Int))))) (Int.toNat (↑(Int.toNat (SI.val k % (8 : Int) + (1020 : Int))) : Int)) (RT.dflt RT.i64) = IntKind.wrap IntKind.i64 ((2 : Int) * (↑(Int.toNat (SI.val k % (8 : Int) + (1020 : Int))) : Int)))) = true → (0 : Int) ≤ (1 : Int) ∧ (1 : Int) < (↑(List.length (doT (doE (@List.nil Int) (cC (Int.toNat (SI.val k % (8 : Int) + (1020 : Int)))) (cM (Int.toNat (SI.val k % (8 : Int) + (1020 : Int)))) (@List.nil Rel) (cR (Int.toNat (SI.val k % (8 : Int) + (1020 : Int)))) (cS (Int.toNat (SI.val k % (8 : Int) + (1020 : Int))))) (cC (Int.toNat (SI.val k % (8 : Int) + (1020 : Int)))) (cM (Int.toNat (SI.val k % (8 : Int) + (1020 : Int)))))) : Int)) ∧ (((!FErr.isErr (doE (@List.nil Int) (cC (Int.toNat (SI.val k % (8 : Int) + (1020 : Int)))) (cM (Int.toNat (SI.val k % (8 : Int) + (1020 : Int)))) (@List.nil Rel) (cR (Int.toNat (SI.val k % (8 : Int) + (1020 : Int)))) (cS (Int.toNat (SI.val k % (8 : Int) + (1020 : Int))))) && decide ((↑(List.length (doC (doE (@List.nil Int) (cC (Int.toNat (SI.val k % (8 : Int) + (1020 : Int)))) (cM (Int.toNat (SI.val k % (8 : Int) + (1020 : Int)))) (@List.nil Rel) (cR (Int.toNat (SI.val k % (8 : Int) + (1020 : Int)))) (cS (Int.toNat (SI.val k % (8 : Int) + (1020 : Int))))) (cC (Int.toNat (SI.val k % (8 : Int) + (1020 : Int)))) (cM (Int.toNat (SI.val k % (8 : Int) + (1020 : Int)))))) : Int) = IntKind.wrap IntKind.i64 ((2 : Int) * (↑(Int.toNat (SI.val k % (8 : Int) + (1020 : Int))) : Int))) && decide (List.getD (doT (doE (@List.nil Int) (cC (Int.toNat (SI.val k % (8 : Int) + (1020 : Int)))) (cM (Int.toNat (SI.val k % (8 : Int) + (1020 : Int)))) (@List.nil Rel) (cR (Int.toNat (SI.val k % (8 : Int) + (1020 : Int)))) (cS (Int.toNat (SI.val k % (8 : Int) + (1020 : Int))))) (cC (Int.toNat (SI.val k % (8 : Int) + (1020 : Int)))) (cM (Int.toNat (SI.val k % (8 : Int) + (1020 : Int))))) (Int.toNat (↑(Int.toNat (SI.val k % (8 : Int) + (1020 : Int))) : Int)) (RT.dflt RT.i64) = IntKind.wrap IntKind.i64 ((2 : Int) * (↑(Int.toNat (SI.val k % (8 : Int) + (1020 : Int))) : Int)))) = true → (0 : Int) ≤ (1 : Int) ∧ (1 : Int) < (↑(List.length (doT (doE (@List.nil Int) (cC (Int.toNat (SI.val k % (8 : Int) + (1020 : Int)))) (cM (Int.toNat (SI.val k % (8 : Int) + (1020 : Int)))) (@List.nil Rel) (cR (Int.toNat (SI.val k % (8 : Int) + (1020 : Int)))) (cS (Int.toNat (SI.val k % (8 : Int) + (1020 : Int))))) (cC (Int.toNat (SI.val k % (8 : Int) + (1020 : Int)))) (cM (Int.toNat (SI.val k % (8 : Int) + (1020 : Int)))))) : Int)) → (!FErr.isErr (doE (@List.nil Int) (cC (Int.toNat (SI.val k % (8 : Int) + (1020 : Int)))) (cM (Int.toNat (SI.val k % (8 : Int) + (1020 : Int)))) (@List.nil Rel) (cR (Int.toNat (SI.val k % (8 : Int) + (1020 : Int)))) (cS (Int.toNat (SI.val k % (8 : Int) + (1020 : Int))))) && decide ((↑(List.length (doC (doE (@List.nil Int) (cC (Int.toNat (SI.val k % (8 : Int) + (1020 : Int)))) (cM (Int.toNat (SI.val k % (8 : Int) + (1020 : Int)))) (@List.nil Rel) (cR (Int.toNat (SI.val k % (8 : Int) + (1020 : Int)))) (cS (Int.toNat (SI.val k % (8 : Int) + (1020 : Int))))) (cC (Int.toNat (SI.val k % (8 : Int) + (1020 : Int)))) (cM (Int.toNat (SI.val k % (8 : Int) + (1020 : Int)))))) : Int) = IntKind.wrap IntKind.i64 ((2 : Int) * (↑(Int.toNat (SI.val k % (8 : Int) + (1020 : Int))) : Int))) && decide (List.getD (doT (doE (@List.nil Int) (cC (Int.toNat (SI.val k % (8 : Int) + (1020 : Int)))) (cM (Int.toNat (SI.val k % (8 : Int) + (1020 : Int)))) (@List.nil Rel) (cR (Int.toNat (SI.val k % (8 : Int) + (1020 : Int)))) (cS (Int.toNat (SI.val k % (8 : Int) + (1020 : Int))))) (cC (Int.toNat (SI.val k % (8 : Int) + (1020 : Int)))) (cM (Int.toNat (SI.val k % (8 : Int) + (1020 : Int))))) (Int.toNat (↑(Int.toNat (SI.val k % (8 : Int) + (1020 : Int))) : Int)) (RT.dflt RT.i64) = IntKind.wrap IntKind.i64 ((2 : Int) * (↑(Int.toNat (SI.val k % (8 : Int) + (1020 : Int))) : Int))) && decide (List.getD (doT (doE (@List.nil Int) (cC (Int.toNat (SI.val k % (8 : Int) + (1020 : Int)))) (cM (Int.toNat (SI.val k % (8 : Int) + (1020 : Int)))) (@List.nil Rel) (cR (Int.toNat (SI.val k % (8 : Int) + (1020 : Int)))) (cS (Int.toNat (SI.val k % (8 : Int) + (1020 : Int))))) (cC (Int.toNat (SI.val k % (8 : Int) + (1020 : Int)))) (cM (Int.toNat (SI.val k % (8 : Int) + (1020 : Int))))) (Int.toNat (1 : Int)) (RT.dflt RT.i64) = (2 : Int))) = true))))))))) := by kernel_rfl
set_option maxHeartbeats 4000000 in
theorem cRewriteLong : Con ea has (G7 ++ (G9 ++ rest)) 6 kRewriteLong := by
  refine plain_mk Tryd.func6 96 (con := [(32, kfirst11), (21, kNumber), (22, kOp), (23, kAt), (24, kObjectF), (33, kDo), (34, kNeeds), (35, kSeeIs)]) ⟨cfirst11, cNumber, cOp, cAt, cObjectF, cDo, cNeeds, cSeeIs, trivial⟩ (fun hA hr hv => ?_) (by kernel_rfl) (by kernel_rfl) Tryd.ntmps6
  unfold kRewriteLong at hr; split at hr
  · rename_i k
    have := ret_ok hr; subst this
    refine ⟨_, [(7, LLgA (k.val % 8 + 1020).toNat), (1000010, cutLong (k.val % 8 + 1020).toNat)], rfl, rfl, (argRewriteLong k).mpr (by simp), rfl, (fun W R ρ0 own0 hown => hl1 (by kernel_rfl) (by kernel_rfl) (lLgA (k.val % 8 + 1020).toNat hown)), (runRewriteLong rest k).mpr ?_⟩
    clear hr
    have k1 : 0 ≤ k.val % 8 ∧ k.val % 8 < 8 := by omega
    have e0 : IntKind.i64.wrap (k.val % 8 + 1020) = ((k.val % 8 + 1020).toNat : Int) := by rw [IntKind.wrap_i64]; omega
    have n0 : 1020 ≤ (k.val % 8 + 1020).toNat ∧ (k.val % 8 + 1020).toNat < 1028 := by omega
    rw [e0]
    clear e0 k1 hA hv
    generalize (k.val % 8 + 1020).toNat = n at *
    have hL := clisL_len n
    have eC : cC n = List.replicate n cliW := by unfold cC; rw [clis_all]
    have eM : cM n = List.replicate n 1 := by unfold cM; rw [clis_all]
    have eR : cR n = [] := by unfold cR; rw [clis_all]
    have eS : cS n = [mainSm] := by unfold cS; rw [clis_all]
    have hv := cli_valid (show 0 < n by omega) (show n ≤ 2000 by omega)
    have hs := cli_sites (show 0 < n by omega) (show n ≤ 2000 by omega)
    have ha := cli_ahead (show 0 < n by omega) (show n ≤ 2000 by omega)
    have w2 : IntKind.i64.wrap (2 * (n : Int)) = 2 * n := by rw [IntKind.wrap_i64]; omega
    refine ⟨by decide, fun _ => ⟨⟨by omega, rfl, rfl, rfl, rfl⟩, fun _ => ⟨⟨by omega, by unfold shortN; decide⟩, fun _ => ⟨⟨rfl, rfl, rfl, rfl, rfl, rfl, rfl, rfl⟩, fun _ => ?_⟩⟩⟩⟩
    rw [eC, eM, eR, eS]
    have hc : (List.replicate n cliW).length = n := List.length_replicate ..
    generalize List.replicate n cliW = c at *
    generalize List.replicate n (1 : Int) = m at *
    generalize [mainSm] = sy at *
    have d0 : RT.i64.dflt = (0 : Int) := rfl
    have t1 : Int.toNat 1 = 1 := rfl
    have ho : ((c.length : Int) + (sitesM [] c m [] [] sy).length) = 2 * n := by omega
    have hq : (if false = true then (0 : Int) else 2 * (n : Int)) = 2 * n := rfl
    have hd : decide (2 * (n : Int) = 2 * n) = true := decide_eq_true rfl
    have hE : doE [] c m [] [] sy = if 2048 < n + n then .bare 104 else .fine := by unfold doE; rw [if_neg (by rw [hv]; simp), hs, hc]
    by_cases g : 1024 < n
    · rw [if_pos (by omega)] at hE
      have b1 : decide ((1024 : Int) < n) = true := decide_eq_true (by omega)
      have f1 : doC (.bare 104) c m = [] := rfl
      have f2 : doT (.bare 104) c m = [] := rfl
      simp only [hE, hv, ho, hq, hd, w2, b1, f1, f2]
      refine ⟨fun h => by simp at h, fun _ => ⟨fun _ => by decide, fun h => by simp at h⟩⟩
    · rw [if_neg (by omega)] at hE
      have b1 : decide ((1024 : Int) < n) = false := decide_eq_false (by omega)
      have f1 : doC .fine c m = rwC c m c.length := rfl
      have f2 : doT .fine c m = rwTo c m ++ [((rwC c m c.length).length : Int)] := rfl
      have f3 := place_get c m (show n ≤ c.length by omega)
      have f4 := place_get c m (show 1 ≤ c.length by omega)
      rw [← f2, (ha n (by omega)).2] at f3
      rw [← f2, (ha 1 (by omega)).2] at f4
      have f5 : (doT .fine c m).length = n + 1 := by rw [f2, List.length_append, rwTo_len, hc]; rfl
      have f6 : (doC .fine c m).length = 2 * n := by rw [f1, hc, (ha n (by omega)).2]
      rw [hE]
      generalize doT .fine c m = T at *
      generalize doC .fine c m = C at *
      have p1 : (0 ≤ (n : Int) ∧ (n : Int) < T.length) := by omega
      have p2 : ((0 : Int) ≤ 1 ∧ (1 : Int) < T.length) := by omega
      have p3 : decide ((C.length : Int) = 2 * n) = true := decide_eq_true (by omega)
      have p4 : decide (((2 * n : Nat) : Int) = 2 * n) = true := decide_eq_true (by omega)
      have p5 : decide (((2 * 1 : Nat) : Int) = 2) = true := by decide
      simp only [hE, hv, ho, hq, hd, w2, b1, d0, t1, Int.toNat_natCast, f3, f4, p1, p2, p3, p4, p5]
      refine ⟨fun h => by simp at h, fun _ => ⟨fun h => by simp at h, fun _ => by simp [FErr.isErr]⟩⟩
  · cases hr
end
end Go.Proofs.YtbdfibaljoedpaaDoor

