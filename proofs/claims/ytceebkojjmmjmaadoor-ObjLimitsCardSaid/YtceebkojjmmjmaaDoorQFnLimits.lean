/- Contracts that the proofs use. -/
import Derived.Test.YtceebkojjmmjmaaDoorQFnSee
import Derived.Test.YtceebkojjmmjmaaDoorQFnOwn
import Derived.Test.YtceebkojjmmjmaaDoorQTextP
set_option linter.unusedVariables false
set_option linter.unusedSimpArgs false
set_option linter.unusedSectionVars false
namespace Go.Proofs.YtceebkojjmmjmaaDoor
open Go.RowKit Go.Sy Go.Fac
def nmL (i : Nat) : ByteArray := (⟨#[115]⟩ : ByteArray) ++ itoaB i
def symL : Nat → List Sm
  | 0 => []
  | i + 1 => symL i ++ [⟨nmL i, 1, 0, false⟩]
theorem symL_len : ∀ i, (symL i).length = i
  | 0 => rfl
  | i + 1 => by rw [symL, List.length_append, symL_len i]; rfl
theorem symL_get : ∀ {n i : Nat}, i < n → (symL n).getD i RT.sym.dflt = ⟨nmL i, 1, 0, false⟩
  | 0, _, h => by omega
  | n + 1, i, h => by
    rw [symL, List.getD_eq_getElem?_getD]
    by_cases e : i < n
    · rw [List.getElem?_append_left (by rw [symL_len]; exact e), ← List.getD_eq_getElem?_getD]; exact symL_get e
    · have : i = n := by omega
      subst this
      rw [List.getElem?_append_right (by rw [symL_len]; omega), symL_len, Nat.sub_self]; rfl
theorem itoaB_inj {i j : Nat} (hi : i < 1000000) (hj : j < 1000000) (h : itoaB (i : Int) = itoaB (j : Int)) : i = j := by
  rw [itoaB_of (by omega) (by omega), itoaB_of (by omega) (by omega)] at h
  have h := congrArg bl h
  have e : ∀ n : Nat, bl ⟨(Lib.itoa (n : Int)).toArray⟩ = Lib.decDigits n := fun n => by
    unfold bl Lib.itoa; simp
  rw [e, e] at h
  have := congrArg decV h
  rwa [decV_of, decV_of] at this
theorem nmL_inj {i j : Nat} (hi : i < 1000000) (hj : j < 1000000) (h : nmL i = nmL j) : i = j := by
  refine itoaB_inj hi hj (bl_inj ?_)
  have h := congrArg bl h
  unfold nmL at h
  rw [bl_app, bl_app] at h
  exact List.append_cancel_left h
theorem nmL_size (i : Nat) : 1 ≤ (nmL i).size ∧ (nmL i).size ≤ 22 := by
  have := itoaB_size (i : Int)
  unfold nmL; rw [ByteArray.size_append]
  show 1 ≤ 1 + _ ∧ 1 + _ ≤ 22
  omega
theorem mp_zero {sy : List Sm} {k : ByteArray} : ∀ {n : Nat}, (∀ j, j < n → (sy.getD j RT.sym.dflt).name ≠ k) → mapGet (mpS sy n) k = 0
  | 0, _ => rfl
  | n + 1, h => by
    have ih := mp_zero (sy := sy) (k := k) (n := n) fun j hj => h j (by omega)
    unfold mpS symMp
    split
    · exact ih
    · rw [get_put_ne _ _ _ _ (h n (by omega))]; exact ih
theorem firstE_none {f : Nat → FErr} : ∀ n, (∀ i, i < n → (f i).isErr = false) → firstE f n = .fine
  | 0, _ => rfl
  | n + 1, h => firstE_fine (firstE_none n fun i hi => h i (by omega)) (h n (by omega))
theorem symL_fine (n : Nat) (hn : n ≤ 1000) : firstE (syE [] [] [] (symL n)) n = .fine := by
  refine firstE_none n fun i hi => ?_
  unfold syE symE
  rw [symL_get hi]
  have h0 : mapGet (mpS (symL n) i) (nmL i) = 0 := mp_zero fun j hj e => by
    rw [symL_get (by omega)] at e
    have := nmL_inj (by omega) (by omega) e
    omega
  have hs := nmL_size i
  have hk : symOk (nmL i) = true := by
    unfold symOk
    have h1 : nmL i ≠ ByteArray.empty := fun e => by rw [e] at hs; have := hs.1; simp at this
    simp [h1]; omega
  simp only [hk, h0]
  rfl
theorem valid_syms (n : Nat) (hn : n ≤ 1000) : validE [] [] [] [] [] (symL n) = if 256 < n then .bare 104 else .fine := by
  have hm : manyB [] [] [] [] (symL n) = decide (256 < n) := by
    unfold manyB
    rw [symL_len]
    simp; omega
  unfold validE
  rw [hm]
  by_cases h : 256 < n
  · rw [if_pos (decide_eq_true h), if_pos h]
  · rw [if_neg (by simp; omega), if_neg h, symL_len, symL_fine n hn]; rfl
theorem valid_data (n : Nat) : validE (List.replicate n 0) [] [] [] [] [] = if 2048 < n then .bare 104 else .fine := by
  have hm : manyB (List.replicate n 0) [] [] [] [] = decide (2048 < n) := by
    unfold manyB
    rw [List.length_replicate]
    simp; omega
  unfold validE
  rw [hm]
  by_cases h : 2048 < n
  · rw [if_pos (decide_eq_true h), if_pos h]
  · rw [if_neg (by simp; omega), if_neg h]; rfl
def xB : Nat → ByteArray
  | 0 => ByteArray.empty
  | i + 1 => xB i ++ ⟨#[120]⟩
theorem xB_size : ∀ i, (xB i).size = i
  | 0 => rfl
  | i + 1 => by rw [xB, ByteArray.size_append, xB_size i]; rfl
def symX (i : Nat) : List Sm := [⟨⟨#[97]⟩, 1, 0, false⟩, ⟨xB i, 3, 0, true⟩]
theorem valid_name (n : Int) (h0 : -2 ≤ n) (h1 : n ≤ 2) : validE [] [] [] [] [] (symX (32 + n).toNat) = if 0 < n then .placed 103 1 else .fine := by
  have hc : n = -2 ∨ n = -1 ∨ n = 0 ∨ n = 1 ∨ n = 2 := by omega
  rcases hc with rfl | rfl | rfl | rfl | rfl <;> decide +kernel
def dLim (q n : Int) : List Int := if q = 0 then List.replicate (2048 + n).toNat 0 else []
def sLim (q n : Int) : List Sm := if q = 0 then [] else if q = 1 then symL (256 + n).toNat else symX (32 + n).toNat
def wLim (q : Int) : Int := if q = 2 then 103 else 104
def pLim (q : Int) : Bool := decide (q = 2)
theorem valid_lim {q n : Int} (hq : q = 0 ∨ q = 1 ∨ q = 2) (h0 : -2 ≤ n) (h1 : n ≤ 2) : validE (dLim q n) [] [] [] [] (sLim q n) = if 0 < n then (if q = 2 then .placed 103 1 else .bare 104) else .fine := by
  rcases hq with rfl | rfl | rfl
  · show validE (List.replicate (2048 + n).toNat 0) [] [] [] [] [] = _
    rw [valid_data]
    by_cases h : 0 < n
    · rw [if_pos (by omega), if_pos h]; rfl
    · rw [if_neg (by omega), if_neg h]
  · show validE [] [] [] [] [] (symL (256 + n).toNat) = _
    rw [valid_syms _ (by omega)]
    by_cases h : 0 < n
    · rw [if_pos (by omega), if_pos h]; rfl
    · rw [if_neg (by omega), if_neg h]
  · show validE [] [] [] [] [] (symX (32 + n).toNat) = _
    rw [valid_name n h0 h1]
    by_cases h : 0 < n
    · rw [if_pos h, if_pos h]; rfl
    · rw [if_neg h, if_neg h]
section
variable {ea : Ear} {has : Int → Prop} {rest : List (Nat × SVal)} [ht : Nonempty (Tabs ea)]
def kNum : List SVal → Nat → Acc ORes := fun a n => match a with | [.int .i64 n] => .ret ({ v := .str (itoaB n.val) }) | _ => .fail "Num"
theorem argNum (n : SI) : (all (subL tAtN none' [] deep [.int .i64 n] [.int .i64 (.full n.val)])) = (
  SI.val n = SI.val n) := by kernel_rfl
theorem runNum (rest : List (Nat × SVal)) (n : Int) : (Tr.sat (plainQ (.str (itoaB n))) (run (env (G7 ++ (G9 ++ rest)) [(57, kItoa)]) [] (bodyOf Tryd.f38) (start [.int .i64 (.full n)] 5) (ends (env (G7 ++ (G9 ++ rest)) [(57, kItoa)]) Tryd.f38.results.toList))) = (
  itoaB n = itoaB n) := by kernel_rfl
set_option maxHeartbeats 4000000 in
theorem cNum : Con ea has (G7 ++ (G9 ++ rest)) 38 kNum := by
  refine plain_mkB Tryd.func38 5 (con := [(57, kItoa)]) ⟨cItoa, trivial⟩ (fun hA hr hv => ?_) (by kernel_rfl) (by kernel_rfl) Tryd.ntmps38
  unfold kNum at hr; split at hr
  · rename_i n
    have := ret_ok hr; subst this
    refine ⟨_, [], rfl, rfl, .of (argNum n) (by simp), rfl, (fun W R ρ0 own0 hown => noSums (by kernel_rfl)), .of (runNum rest n.val) ?_⟩
    clear hr
    rfl
  · cases hr
abbrev nilBox : Option Cont := some (.cells [.nilslice, .nilslice, .nilslice, .nilslice, .nilslice, .nilslice])
def HLimA (n : Int) (i : Nat) : SState := { fr := [(0, .int .i64 (.sym n (-2) 2)), (5, .bool (.lit true)), (6, .ptr 0 0), (7, .int .i64 (.lit 104)), (8, .bool (.lit false)), (9, .int .i64 (.sym i 0 1000))], hp := [(0, some (.cells [.nilslice, .nilslice, .nilslice, .nilslice, .nilslice, .own 1])), (1, some (.recs .sym (symL i)))], next := 2, sz := 117 }
def XLimA (n : Int) : SState := { fr := [(0, .int .i64 (.sym n (-2) 2)), (5, .bool (.lit true)), (6, .ptr 0 0), (7, .int .i64 (.lit 104)), (8, .bool (.lit false))], hp := [(0, some (.cells [.nilslice, .nilslice, .nilslice, .nilslice, .nilslice, .own 1])), (1, some (.recs .sym (symL (256 + n).toNat)))], next := 2, sz := 117 }
def LLimA (n : Int) : LSum := ⟨HLimA n 0, fun k => k (.exit 3) (XLimA n), -2 ≤ n ∧ n ≤ 2⟩
theorem bLimA (rest : List (Nat × SVal)) (n : Int) (i : Nat) : (Tr.sat (rnd1 (env (G7 ++ (G9 ++ rest)) [(27, kfirst9), (33, kNumber), (38, kNum), (31, kValid), (30, kBytes), (36, kSeeIs), (39, kSeeSame), (40, kPlaced)]) (fun _ => True) ((256 + n).toNat) (HLimA n) 3 (XLimA n) i) (run (env (G7 ++ (G9 ++ rest)) [(27, kfirst9), (33, kNumber), (38, kNum), (31, kValid), (30, kBytes), (36, kSeeIs), (39, kSeeSame), (40, kPlaced)]) [] (loopN (bodyOf Tryd.f7) 0) (HLimA n i) .leaf)) = (
  (decide ((↑i : Int) < (256 : Int) + n) = true → ByteArray.size (ByteArray.mk #[(115 : UInt8)]) + ByteArray.size (itoaB (↑i : Int)) ≤ (9223372036854775807 : Nat) ∧ (ByteArray.size (ByteArray.mk #[(115 : UInt8)]) + ByteArray.size (itoaB (↑i : Int)) ≤ (9223372036854775807 : Nat) → List.length (symL i) + List.length [Sm.mk (ByteArray.mk #[(115 : UInt8)] ++ itoaB (↑i : Int)) (1 : Int) (0 : Int) false] ≤ (137438953472 : Nat) ∧ (List.length (symL i) + List.length [Sm.mk (ByteArray.mk #[(115 : UInt8)] ++ itoaB (↑i : Int)) (1 : Int) (0 : Int) false] ≤ (137438953472 : Nat) → i < Int.toNat ((256 : Int) + n) ∧ True ∧ n = n ∧ true = true ∧ (104 : Int) = (104 : Int) ∧ false = false ∧ (↑i : Int) + (1 : Int) = (↑(i + (1 : Nat)) : Int) ∧ ((0 : Int) ≤ (↑(i + (1 : Nat)) : Int) ∧ (↑(i + (1 : Nat)) : Int) ≤ (1000 : Int)) ∧ symL i ++ [Sm.mk (ByteArray.mk #[(115 : UInt8)] ++ itoaB (↑i : Int)) (1 : Int) (0 : Int) false] = symL (i + (1 : Nat))))) ∧ (decide ((↑i : Int) < (256 : Int) + n) = false → Nat.beq (3 : Nat) (3 : Nat) = true ∧ n = n ∧ true = true ∧ (104 : Int) = (104 : Int) ∧ false = false ∧ symL i = symL (Int.toNat ((256 : Int) + n)))) := by kernel_rfl
set_option maxHeartbeats 4000000 in
theorem lLimA (n : Int) {W : World} {R own0 : Nat → Prop} {ρ0 : Nat → Option Value} (hown : HownOk (env (G7 ++ (G9 ++ rest)) [(27, kfirst9), (33, kNumber), (38, kNum), (31, kValid), (30, kBytes), (36, kSeeIs), (39, kSeeSame), (40, kPlaced)]) own0 ρ0) : LOk Tryd.prog (env (G7 ++ (G9 ++ rest)) [(27, kfirst9), (33, kNumber), (38, kNum), (31, kValid), (30, kBytes), (36, kSeeIs), (39, kSeeSame), (40, kPlaced)]) (ctx ea has) (G7 ++ (G9 ++ rest)) W R own0 ρ0 (loopN (bodyOf Tryd.f7) 0) (LLimA n) := by
  refine loop1_ok (env_ok (con := [(27, kfirst9), (33, kNumber), (38, kNum), (31, kValid), (30, kBytes), (36, kSeeIs), (39, kSeeSame), (40, kPlaced)]) ⟨cfirst9, cNumber, cNum, cValid, cBytes, cSeeIs, cSeeSame, cPlaced, trivial⟩) hown (ls := fun i => []) (fun i => noSums (by kernel_rfl)) (fun hm i hi hj => (bLimA rest n i).mpr ?_) 0 (fun hm => by first | exact Nat.zero_le _ | omega) (fun hm => trivial)
  have hl := symL_len i
  have hs := itoaB_size (i : Int)
  refine ⟨fun h => ?_, fun h => ?_⟩
  · have h := of_decide_eq_true h
    have e : (⟨#[115]⟩ : ByteArray).size = 1 := rfl
    refine ⟨by rw [e]; omega, fun _ => ⟨by rw [hl]; simp only [List.length_singleton]; omega, fun _ => ⟨by omega, trivial, rfl, rfl, rfl, rfl, by omega, by omega, rfl⟩⟩⟩
  · have h := of_decide_eq_false h
    have e : i = (256 + n).toNat := by omega
    rw [← e]; exact ⟨rfl, rfl, rfl, rfl, rfl, rfl⟩
def HLimB (n : Int) (i : Nat) : SState := { fr := [(0, .int .i64 (.sym n (-2) 2)), (5, .bool (.lit true)), (6, .ptr 0 0), (7, .int .i64 (.lit 104)), (8, .bool (.lit false)), (10, .str (xB i)), (11, .int .i64 (.sym i 0 1000))], hp := [(0, nilBox)], next := 1, sz := 117 }
def XLimB (n : Int) : SState := { fr := [(0, .int .i64 (.sym n (-2) 2)), (5, .bool (.lit true)), (6, .ptr 0 0), (7, .int .i64 (.lit 104)), (8, .bool (.lit false)), (10, .str (xB (32 + n).toNat))], hp := [(0, nilBox)], next := 1, sz := 117 }
def LLimB (n : Int) : LSum := ⟨HLimB n 0, fun k => k (.exit 1) (XLimB n), -2 ≤ n ∧ n ≤ 2⟩
theorem bLimB (rest : List (Nat × SVal)) (n : Int) (i : Nat) : (Tr.sat (rnd1 (env (G7 ++ (G9 ++ rest)) [(27, kfirst9), (33, kNumber), (38, kNum), (31, kValid), (30, kBytes), (36, kSeeIs), (39, kSeeSame), (40, kPlaced)]) (fun _ => True) ((32 + n).toNat) (HLimB n) 1 (XLimB n) i) (run (env (G7 ++ (G9 ++ rest)) [(27, kfirst9), (33, kNumber), (38, kNum), (31, kValid), (30, kBytes), (36, kSeeIs), (39, kSeeSame), (40, kPlaced)]) [] (loopN (bodyOf Tryd.f7) 1) (HLimB n i) .leaf)) = (
  (decide ((↑i : Int) < (32 : Int) + n) = true → ByteArray.size (xB i) + ByteArray.size (ByteArray.mk #[(120 : UInt8)]) ≤ (9223372036854775807 : Nat) ∧ (ByteArray.size (xB i) + ByteArray.size (ByteArray.mk #[(120 : UInt8)]) ≤ (9223372036854775807 : Nat) → i < Int.toNat ((32 : Int) + n) ∧ True ∧ n = n ∧ true = true ∧ (104 : Int) = (104 : Int) ∧ false = false ∧ xB i ++ ByteArray.mk #[(120 : UInt8)] = xB (i + (1 : Nat)) ∧ (↑i : Int) + (1 : Int) = (↑(i + (1 : Nat)) : Int) ∧ (0 : Int) ≤ (↑(i + (1 : Nat)) : Int) ∧ (↑(i + (1 : Nat)) : Int) ≤ (1000 : Int))) ∧ (decide ((↑i : Int) < (32 : Int) + n) = false → Nat.beq (1 : Nat) (1 : Nat) = true ∧ n = n ∧ true = true ∧ (104 : Int) = (104 : Int) ∧ false = false ∧ xB i = xB (Int.toNat ((32 : Int) + n)))) := by kernel_rfl
set_option maxHeartbeats 4000000 in
theorem lLimB (n : Int) {W : World} {R own0 : Nat → Prop} {ρ0 : Nat → Option Value} (hown : HownOk (env (G7 ++ (G9 ++ rest)) [(27, kfirst9), (33, kNumber), (38, kNum), (31, kValid), (30, kBytes), (36, kSeeIs), (39, kSeeSame), (40, kPlaced)]) own0 ρ0) : LOk Tryd.prog (env (G7 ++ (G9 ++ rest)) [(27, kfirst9), (33, kNumber), (38, kNum), (31, kValid), (30, kBytes), (36, kSeeIs), (39, kSeeSame), (40, kPlaced)]) (ctx ea has) (G7 ++ (G9 ++ rest)) W R own0 ρ0 (loopN (bodyOf Tryd.f7) 1) (LLimB n) := by
  refine loop1_ok (env_ok (con := [(27, kfirst9), (33, kNumber), (38, kNum), (31, kValid), (30, kBytes), (36, kSeeIs), (39, kSeeSame), (40, kPlaced)]) ⟨cfirst9, cNumber, cNum, cValid, cBytes, cSeeIs, cSeeSame, cPlaced, trivial⟩) hown (ls := fun i => []) (fun i => noSums (by kernel_rfl)) (fun hm i hi hj => (bLimB rest n i).mpr ?_) 0 (fun hm => by first | exact Nat.zero_le _ | omega) (fun hm => trivial)
  have hl := xB_size i
  refine ⟨fun h => ?_, fun h => ?_⟩
  · have h := of_decide_eq_true h
    have e : (⟨#[120]⟩ : ByteArray).size = 1 := rfl
    refine ⟨by rw [e]; omega, fun _ => ⟨by omega, trivial, rfl, rfl, rfl, rfl, rfl, by omega, by omega, by omega⟩⟩
  · have h := of_decide_eq_false h
    have e : i = (32 + n).toNat := by omega
    rw [← e]; exact ⟨rfl, rfl, rfl, rfl, rfl, rfl⟩
def jLim (q n : Int) : LSum := cutL { fr := [(0, .int .i64 (.sym n (-2) 2)), (5, .bool (.lit true)), (6, .ptr 0 0), (7, .int .i64 (.full (wLim q))), (8, .bool (.sym (pLim q)))], hp := [(0, obBox (dLim q n) [] [] [] [] (sLim q n))], next := 1, sz := 117 }
def kObjLimits : List SVal → Nat → Acc ORes := fun a n => match a with | [.int .i64 n, .int .i64 k] => .ret ({ v := .bool (.lit true) }) | _ => .fail "ObjLimits"
theorem argObjLimits (n k : SI) : (all (subL tAtN none' [] deep [.int .i64 n, .int .i64 k] [.int .i64 (.full n.val), .int .i64 (.full k.val)])) = (
  SI.val n = SI.val n ∧ SI.val k = SI.val k) := by kernel_rfl
theorem runObjLimits (rest : List (Nat × SVal)) (n : Int) (k : Int) : (Tr.sat (plainQ (.bool (.lit true))) (run (env (G7 ++ (G9 ++ rest)) [(27, kfirst9), (33, kNumber), (38, kNum), (31, kValid), (30, kBytes), (36, kSeeIs), (39, kSeeSame), (40, kPlaced)]) [(21, LLimA (n % 5 - 2)), (11, LLimB (n % 5 - 2)), (2000024, jLim (k % 3) (n % 5 - 2))] (bodyOf Tryd.f7) (start [.int .i64 (.full n), .int .i64 (.full k)] 117) (ends (env (G7 ++ (G9 ++ rest)) [(27, kfirst9), (33, kNumber), (38, kNum), (31, kValid), (30, kBytes), (36, kSeeIs), (39, kSeeSame), (40, kPlaced)]) Tryd.f7.results.toList))) = (
  (0 : Int) < (5 : Int) ∧ ((0 : Int) < (5 : Int) → ((0 : Int) < (3 : Int) ∧ ((0 : Int) < (3 : Int) → (decide (k % (3 : Int) = (0 : Int)) = true → ((0 : Int) ≤ IntKind.wrap IntKind.i64 ((2048 : Int) + IntKind.wrap IntKind.i64 (n % (5 : Int) - (2 : Int))) ∧ IntKind.wrap IntKind.i64 ((2048 : Int) + IntKind.wrap IntKind.i64 (n % (5 : Int) - (2 : Int))) ≤ IntKind.wrap IntKind.i64 ((2048 : Int) + IntKind.wrap IntKind.i64 (n % (5 : Int) - (2 : Int))) ∧ IntKind.wrap IntKind.i64 ((2048 : Int) + IntKind.wrap IntKind.i64 (n % (5 : Int) - (2 : Int))) ≤ (137438953472 : Int)) ∧ ((0 : Int) ≤ IntKind.wrap IntKind.i64 ((2048 : Int) + IntKind.wrap IntKind.i64 (n % (5 : Int) - (2 : Int))) ∧ IntKind.wrap IntKind.i64 ((2048 : Int) + IntKind.wrap IntKind.i64 (n % (5 : Int) - (2 : Int))) ≤ IntKind.wrap IntKind.i64 ((2048 : Int) + IntKind.wrap IntKind.i64 (n % (5 : Int) - (2 : Int))) ∧ IntKind.wrap IntKind.i64 ((2048 : Int) + IntKind.wrap IntKind.i64 (n % (5 : Int) - (2 : Int))) ≤ (137438953472 : Int) → IntKind.wrap IntKind.i64 (n % (5 : Int) - (2 : Int)) = n % (5 : Int) - (2 : Int) ∧ ((-2 : Int) ≤ n % (5 : Int) - (2 : Int) ∧ n % (5 : Int) - (2 : Int) ≤ (2 : Int)) ∧ true = true ∧ (104 : Int) = wLim (k % (3 : Int)) ∧ false = pLim (k % (3 : Int)) ∧ List.replicate (Int.toNat (IntKind.wrap IntKind.i64 ((2048 : Int) + IntKind.wrap IntKind.i64 (n % (5 : Int) - (2 : Int))))) (RT.dflt RT.u32) = dLim (k % (3 : Int)) (n % (5 : Int) - (2 : Int)) ∧ @List.nil Int = @List.nil (RT.ty RT.u32) ∧ @List.nil Int = @List.nil (RT.ty RT.u8) ∧ @List.nil Rel = @List.nil (RT.ty RT.rel) ∧ @List.nil Rel = @List.nil (RT.ty RT.rel) ∧ sLim (k % (3 : Int)) (n % (5 : Int) - (2 : Int)) = @List.nil (RT.ty RT.sym))) ∧ (decide (k % (3 : Int) = (0 : Int)) = false → (decide (k % (3 : Int) = (1 : Int)) = true → (((-2 : Int) ≤ n % (5 : Int) - (2 : Int) ∧ n % (5 : Int) - (2 : Int) ≤ (2 : Int)) ∧ IntKind.wrap IntKind.i64 (n % (5 : Int) - (2 : Int)) = n % (5 : Int) - (2 : Int) ∧ ((-2 : Int) ≤ n % (5 : Int) - (2 : Int) ∧ n % (5 : Int) - (2 : Int) ≤ (2 : Int)) ∧ true = true ∧ (104 : Int) = (104 : Int) ∧ false = false ∧ (0 : Int) = (↑(0 : Nat) : Int) ∧ symL (0 : Nat) = @List.nil (RT.ty RT.sym)) ∧ (((-2 : Int) ≤ n % (5 : Int) - (2 : Int) ∧ n % (5 : Int) - (2 : Int) ≤ (2 : Int)) ∧ IntKind.wrap IntKind.i64 (n % (5 : Int) - (2 : Int)) = n % (5 : Int) - (2 : Int) ∧ ((-2 : Int) ≤ n % (5 : Int) - (2 : Int) ∧ n % (5 : Int) - (2 : Int) ≤ (2 : Int)) ∧ true = true ∧ (104 : Int) = (104 : Int) ∧ false = false ∧ (0 : Int) = (↑(0 : Nat) : Int) ∧ symL (0 : Nat) = @List.nil (RT.ty RT.sym) → n % (5 : Int) - (2 : Int) = n % (5 : Int) - (2 : Int) ∧ true = true ∧ (104 : Int) = wLim (k % (3 : Int)) ∧ false = pLim (k % (3 : Int)) ∧ dLim (k % (3 : Int)) (n % (5 : Int) - (2 : Int)) = @List.nil (RT.ty RT.u32) ∧ @List.nil Int = @List.nil (RT.ty RT.u32) ∧ @List.nil Int = @List.nil (RT.ty RT.u8) ∧ @List.nil Rel = @List.nil (RT.ty RT.rel) ∧ @List.nil Rel = @List.nil (RT.ty RT.rel) ∧ symL (Int.toNat ((256 : Int) + (n % (5 : Int) - (2 : Int)))) = sLim (k % (3 : Int)) (n % (5 : Int) - (2 : Int)))) ∧ (decide (k % (3 : Int) = (1 : Int)) = false → (((-2 : Int) ≤ n % (5 : Int) - (2 : Int) ∧ n % (5 : Int) - (2 : Int) ≤ (2 : Int)) ∧ IntKind.wrap IntKind.i64 (n % (5 : Int) - (2 : Int)) = n % (5 : Int) - (2 : Int) ∧ ((-2 : Int) ≤ n % (5 : Int) - (2 : Int) ∧ n % (5 : Int) - (2 : Int) ≤ (2 : Int)) ∧ true = true ∧ (104 : Int) = (104 : Int) ∧ false = false ∧ ByteArray.mk (List.toArray (@List.nil UInt8)) = xB (0 : Nat) ∧ (0 : Int) = (↑(0 : Nat) : Int)) ∧ (((-2 : Int) ≤ n % (5 : Int) - (2 : Int) ∧ n % (5 : Int) - (2 : Int) ≤ (2 : Int)) ∧ IntKind.wrap IntKind.i64 (n % (5 : Int) - (2 : Int)) = n % (5 : Int) - (2 : Int) ∧ ((-2 : Int) ≤ n % (5 : Int) - (2 : Int) ∧ n % (5 : Int) - (2 : Int) ≤ (2 : Int)) ∧ true = true ∧ (104 : Int) = (104 : Int) ∧ false = false ∧ ByteArray.mk (List.toArray (@List.nil UInt8)) = xB (0 : Nat) ∧ (0 : Int) = (↑(0 : Nat) : Int) → n % (5 : Int) - (2 : Int) = n % (5 : Int) - (2 : Int) ∧ true = true ∧ (103 : Int) = wLim (k % (3 : Int)) ∧ true = pLim (k % (3 : Int)) ∧ dLim (k % (3 : Int)) (n % (5 : Int) - (2 : Int)) = @List.nil (RT.ty RT.u32) ∧ @List.nil Int = @List.nil (RT.ty RT.u32) ∧ @List.nil Int = @List.nil (RT.ty RT.u8) ∧ @List.nil Rel = @List.nil (RT.ty RT.rel) ∧ @List.nil Rel = @List.nil (RT.ty RT.rel) ∧ [Sm.mk (ByteArray.mk #[(97 : UInt8)]) (1 : Int) (0 : Int) false, Sm.mk (xB (Int.toNat ((32 : Int) + (n % (5 : Int) - (2 : Int))))) (3 : Int) (0 : Int) true] = sLim (k % (3 : Int)) (n % (5 : Int) - (2 : Int))))))) ∧ (decide (n % (5 : Int) - (2 : Int) ≤ (0 : Int)) = true → (!FErr.isErr (validE (dLim (k % (3 : Int)) (n % (5 : Int) - (2 : Int))) (@List.nil Int) (@List.nil Int) (@List.nil Rel) (@List.nil Rel) (sLim (k % (3 : Int)) (n % (5 : Int) - (2 : Int)))) && !FErr.isErr (validE (dLim (k % (3 : Int)) (n % (5 : Int) - (2 : Int))) (@List.nil Int) (@List.nil Int) (@List.nil Rel) (@List.nil Rel) (sLim (k % (3 : Int)) (n % (5 : Int) - (2 : Int)))) && decide ((24 : Int) ≤ (↑(List.length (bytesM (dLim (k % (3 : Int)) (n % (5 : Int) - (2 : Int))) (@List.nil Int) (@List.nil Int) (@List.nil Rel) (@List.nil Rel) (sLim (k % (3 : Int)) (n % (5 : Int) - (2 : Int))))) : Int))) = true) ∧ (decide (n % (5 : Int) - (2 : Int) ≤ (0 : Int)) = false → (pLim (k % (3 : Int)) = true → (decide (fcode (validE (dLim (k % (3 : Int)) (n % (5 : Int) - (2 : Int))) (@List.nil Int) (@List.nil Int) (@List.nil Rel) (@List.nil Rel) (sLim (k % (3 : Int)) (n % (5 : Int) - (2 : Int)))) = wLim (k % (3 : Int))) && FErr.isPlaced (validE (dLim (k % (3 : Int)) (n % (5 : Int) - (2 : Int))) (@List.nil Int) (@List.nil Int) (@List.nil Rel) (@List.nil Rel) (sLim (k % (3 : Int)) (n % (5 : Int) - (2 : Int)))) == !decide (wLim (k % (3 : Int)) = (0 : Int)) && decide (FErr.pos (validE (dLim (k % (3 : Int)) (n % (5 : Int) - (2 : Int))) (@List.nil Int) (@List.nil Int) (@List.nil Rel) (@List.nil Rel) (sLim (k % (3 : Int)) (n % (5 : Int) - (2 : Int)))) = if wLim (k % (3 : Int)) = (0 : Int) then (0 : Int) else (1 : Int)) && (decide (fcode (validE (dLim (k % (3 : Int)) (n % (5 : Int) - (2 : Int))) (@List.nil Int) (@List.nil Int) (@List.nil Rel) (@List.nil Rel) (sLim (k % (3 : Int)) (n % (5 : Int) - (2 : Int)))) = wLim (k % (3 : Int))) && FErr.isPlaced (validE (dLim (k % (3 : Int)) (n % (5 : Int) - (2 : Int))) (@List.nil Int) (@List.nil Int) (@List.nil Rel) (@List.nil Rel) (sLim (k % (3 : Int)) (n % (5 : Int) - (2 : Int)))) == !decide (wLim (k % (3 : Int)) = (0 : Int)) && decide (FErr.pos (validE (dLim (k % (3 : Int)) (n % (5 : Int) - (2 : Int))) (@List.nil Int) (@List.nil Int) (@List.nil Rel) (@List.nil Rel) (sLim (k % (3 : Int)) (n % (5 : Int) - (2 : Int)))) = if wLim (k % (3 : Int)) = (0 : Int) then (0 : Int) else (1 : Int))) && decide ((↑(List.length (bytesM (dLim (k % (3 : Int)) (n % (5 : Int) - (2 : Int))) (@List.nil Int) (@List.nil Int) (@List.nil Rel) (@List.nil Rel) (sLim (k % (3 : Int)) (n % (5 : Int) - (2 : Int))))) : Int) = (0 : Int))) = true) ∧ (pLim (k % (3 : Int)) = false → (decide (fcode (validE (dLim (k % (3 : Int)) (n % (5 : Int) - (2 : Int))) (@List.nil Int) (@List.nil Int) (@List.nil Rel) (@List.nil Rel) (sLim (k % (3 : Int)) (n % (5 : Int) - (2 : Int)))) = wLim (k % (3 : Int))) && FErr.isPlaced (validE (dLim (k % (3 : Int)) (n % (5 : Int) - (2 : Int))) (@List.nil Int) (@List.nil Int) (@List.nil Rel) (@List.nil Rel) (sLim (k % (3 : Int)) (n % (5 : Int) - (2 : Int)))) == false && decide (FErr.pos (validE (dLim (k % (3 : Int)) (n % (5 : Int) - (2 : Int))) (@List.nil Int) (@List.nil Int) (@List.nil Rel) (@List.nil Rel) (sLim (k % (3 : Int)) (n % (5 : Int) - (2 : Int)))) = (0 : Int)) && (decide (fcode (validE (dLim (k % (3 : Int)) (n % (5 : Int) - (2 : Int))) (@List.nil Int) (@List.nil Int) (@List.nil Rel) (@List.nil Rel) (sLim (k % (3 : Int)) (n % (5 : Int) - (2 : Int)))) = wLim (k % (3 : Int))) && FErr.isPlaced (validE (dLim (k % (3 : Int)) (n % (5 : Int) - (2 : Int))) (@List.nil Int) (@List.nil Int) (@List.nil Rel) (@List.nil Rel) (sLim (k % (3 : Int)) (n % (5 : Int) - (2 : Int)))) == false && decide (FErr.pos (validE (dLim (k % (3 : Int)) (n % (5 : Int) - (2 : Int))) (@List.nil Int) (@List.nil Int) (@List.nil Rel) (@List.nil Rel) (sLim (k % (3 : Int)) (n % (5 : Int) - (2 : Int)))) = (0 : Int))) && decide ((↑(List.length (bytesM (dLim (k % (3 : Int)) (n % (5 : Int) - (2 : Int))) (@List.nil Int) (@List.nil Int) (@List.nil Rel) (@List.nil Rel) (sLim (k % (3 : Int)) (n % (5 : Int) - (2 : Int))))) : Int) = (0 : Int))) = true)))) := by kernel_rfl
set_option maxHeartbeats 4000000 in
theorem cObjLimits : Con ea has (G7 ++ (G9 ++ rest)) 7 kObjLimits := by
  refine plain_mkB Tryd.func7 117 (con := [(27, kfirst9), (33, kNumber), (38, kNum), (31, kValid), (30, kBytes), (36, kSeeIs), (39, kSeeSame), (40, kPlaced)]) ⟨cfirst9, cNumber, cNum, cValid, cBytes, cSeeIs, cSeeSame, cPlaced, trivial⟩ (fun hA hr hv => ?_) (by kernel_rfl) (by kernel_rfl) Tryd.ntmps7
  unfold kObjLimits at hr; split at hr
  · rename_i n k
    have := ret_ok hr; subst this
    refine ⟨_, [(21, LLimA (n.val % 5 - 2)), (11, LLimB (n.val % 5 - 2)), (2000024, jLim (k.val % 3) (n.val % 5 - 2))], rfl, rfl, .of (argObjLimits n k) (by simp), rfl, (fun W R ρ0 own0 hown => hlN (bs := [loopN (bodyOf Tryd.f7) 0, loopN (bodyOf Tryd.f7) 1]) (by kernel_rfl) (fun b hb => by simp only [List.mem_cons, List.not_mem_nil, or_false] at hb; rcases hb with rfl | rfl; exact ⟨_, rfl, lLimA (n.val % 5 - 2) hown⟩; exact ⟨_, rfl, lLimB (n.val % 5 - 2) hown⟩)), .of (runObjLimits rest n.val k.val) ?_⟩
    clear hr
    have n1 := Int.emod_nonneg n.val (show (5 : Int) ≠ 0 by decide)
    have n2 := Int.emod_lt_of_pos n.val (show (0 : Int) < 5 by decide)
    have k1 := Int.emod_nonneg k.val (show (3 : Int) ≠ 0 by decide)
    have k2 := Int.emod_lt_of_pos k.val (show (0 : Int) < 3 by decide)
    clear hA hv
    generalize n.val % 5 = x at *
    generalize k.val % 3 = q at *
    have w1 : IntKind.i64.wrap (x - 2) = x - 2 := by rw [IntKind.wrap_i64]; omega
    have w2 : IntKind.i64.wrap (2048 + (x - 2)) = 2048 + (x - 2) := by rw [IntKind.wrap_i64]; omega
    have z1 : -2 ≤ x - 2 ∧ x - 2 ≤ 2 := by omega
    have hq : q = 0 ∨ q = 1 ∨ q = 2 := by omega
    have hV := valid_lim hq z1.1 z1.2
    rw [w1, w2, hV]
    generalize x - 2 = y at *
    refine ⟨by decide, fun _ => ⟨⟨by decide, fun _ => ⟨fun g => ?_, fun g => ⟨fun g2 => ?_, fun g2 => ?_⟩⟩⟩, fun g => ?_, fun g => ⟨fun g2 => ?_, fun g2 => ?_⟩⟩⟩
    · have g := of_decide_eq_true g
      subst g
      exact ⟨⟨by omega, by omega, by omega⟩, fun _ => ⟨rfl, z1, rfl, rfl, rfl, rfl, rfl, rfl, rfl, rfl, rfl⟩⟩
    · have g2 := of_decide_eq_true g2
      subst g2
      exact ⟨⟨z1, rfl, z1, rfl, rfl, rfl, rfl, rfl⟩, fun _ => ⟨rfl, rfl, rfl, rfl, rfl, rfl, rfl, rfl, rfl, rfl⟩⟩
    · have g2 := of_decide_eq_false g2
      have g := of_decide_eq_false g
      have e : q = 2 := by omega
      subst e
      exact ⟨⟨z1, rfl, z1, rfl, rfl, rfl, rfl, rfl⟩, fun _ => ⟨rfl, rfl, rfl, rfl, rfl, rfl, rfl, rfl, rfl, rfl⟩⟩
    · have g := of_decide_eq_true g
      rw [if_neg (by omega)]
      have hb : 24 ≤ (bytesM (dLim q y) [] [] [] [] (sLim q y)).length := by
        have hV' : validE (dLim q y) [] [] [] [] (sLim q y) = .fine := by rw [hV, if_neg (by omega)]
        unfold bytesM
        rw [hV', if_neg (by simp [FErr.isErr])]
        unfold bytesO
        simp only [List.length_append, bodyB_len]
        omega
      simp [FErr.isErr]; omega
    all_goals
      have g := of_decide_eq_false g
      rw [if_pos (by omega)]
      have hb : bytesM (dLim q y) [] [] [] [] (sLim q y) = [] := by
        have hV' : validE (dLim q y) [] [] [] [] (sLim q y) = if q = 2 then FErr.placed 103 1 else FErr.bare 104 := by rw [hV, if_pos (by omega)]
        unfold bytesM
        rw [hV', if_pos (by split <;> rfl)]
      rw [hb]
    · have g2 := of_decide_eq_true g2
      subst g2
      decide
    · have g2 := of_decide_eq_false g2
      rcases hq with rfl | rfl | rfl
      · decide
      · decide
      · exact absurd rfl g2
  · cases hr
end
end Go.Proofs.YtceebkojjmmjmaaDoor

