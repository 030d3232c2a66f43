/- Contracts that the proofs use. -/
import Derived.Test.YtceebkojjmmjmaaDoorQFnNum
set_option linter.unusedVariables false
set_option linter.unusedSimpArgs false
namespace Go.Proofs.YtceebkojjmmjmaaDoor
open Go.RowKit Go.Sy Go.Fac
def G9 : List (Nat × SVal) := [(0, .rop [.err (.bare 101)]), (8, .rop [.err (.bare 108)]), (9, .rop [.err (.bare 110)]), (10, .rop [.err (.bare 111)]), (11, .rop [.err (.bare 112)]), (12, .rop [.err (.bare 113)]), (13, .rop [.err (.bare 114)]), (14, .rop [.err (.bare 115)]), (15, .rop [.err (.bare 116)])]
section
variable {ea : Ear} {has : Int → Prop} {rest : List (Nat × SVal)}
def kAlike : List SVal → Nat → Acc ORes := fun a n => match a with | [.err a, .err b] => .ret ({ v := .bool (.sym (decide (a = b))), vc := some (b.isPlaced = false) }) | _ => .fail "Alike"
theorem argAlike (a b : FErr) : (all (subL tAtN none' [] deep [.err a, .err b] [.err a, .err b])) = (
  a = a ∧ b = b) := by kernel_rfl
theorem runAlike (rest : List (Nat × SVal)) (a : FErr) (b : FErr) : (Tr.sat (plainQ (.bool (.sym (decide (a = b))))) (run (env (G7 ++ (G9 ++ rest)) []) [] (bodyOf Tryd.f93) (start [.err a, .err b] 20) (ends (env (G7 ++ (G9 ++ rest)) []) Tryd.f93.results.toList))) = (
  ((!FErr.isErr a || !FErr.isErr b) = true → (!FErr.isErr a && !FErr.isErr b) = decide (a = b)) ∧ ((!FErr.isErr a || !FErr.isErr b) = false → ((FErr.isErr a = true ∧ FErr.isErr b = true) ∧ (FErr.isPlaced a = false ∨ FErr.isPlaced b = false)) ∧ ((FErr.isErr a = true ∧ FErr.isErr b = true) ∧ (FErr.isPlaced a = false ∨ FErr.isPlaced b = false) → decide (a = b) = decide (a = b)))) := by kernel_rfl
set_option maxHeartbeats 4000000 in
theorem cAlike : Con ea has (G7 ++ (G9 ++ rest)) 93 kAlike := by
  refine plain_mkB Tryd.func93 20 (con := []) trivial (fun hA hr hv => ?_) (by kernel_rfl) (by kernel_rfl) Tryd.ntmps93
  unfold kAlike at hr; split at hr
  · rename_i a b
    have := ret_ok hr; subst this
    replace hv := hv _ rfl
    refine ⟨_, [], rfl, rfl, .of (argAlike a b) (by simp), rfl, (fun W R ρ0 own0 hown => noSums (by kernel_rfl)), .of (runAlike rest a b) ?_⟩
    clear hr
    refine ⟨fun h => ?_, fun h => ?_⟩
    · cases a <;> cases b <;> simp [FErr.isErr] at h ⊢
    · have : a.isErr = true ∧ b.isErr = true := by
        cases ha : a.isErr <;> cases hb : b.isErr <;> simp [ha, hb] at h ⊢
      exact ⟨⟨this, .inr hv⟩, fun _ => rfl⟩
  · cases hr
def sentL : List FErr := [.bare 101, .bare 102, .bare 103, .bare 104, .bare 105, .bare 106, .bare 107, .bare 108, .bare 109, .bare 110, .bare 111, .bare 112, .bare 113, .bare 114, .bare 115, .bare 116]
def ksentinels : List SVal → Nat → Acc ORes := fun a n => match a with | [] => .ret ({ v := .ro .err sentL }) | _ => .fail "sentinels"
theorem argsentinels  : (all (subL tAtN none' [] deep [] [])) = (
  True) := by kernel_rfl
theorem runsentinels (rest : List (Nat × SVal)) : (Tr.sat (plainQ (.ro .err sentL)) (run (env (G7 ++ (G9 ++ rest)) []) [] (bodyOf Tryd.f92) (start [] 18) (ends (env (G7 ++ (G9 ++ rest)) []) Tryd.f92.results.toList))) = (
  [FErr.bare (101 : Int), FErr.bare (102 : Int), FErr.bare (103 : Int), FErr.bare (104 : Int), FErr.bare (105 : Int), FErr.bare (106 : Int), FErr.bare (107 : Int), FErr.bare (108 : Int), FErr.bare (109 : Int), FErr.bare (110 : Int), FErr.bare (111 : Int), FErr.bare (112 : Int), FErr.bare (113 : Int), FErr.bare (114 : Int), FErr.bare (115 : Int), FErr.bare (116 : Int)] = sentL) := by kernel_rfl
set_option maxHeartbeats 4000000 in
theorem csentinels : Con ea has (G7 ++ (G9 ++ rest)) 92 ksentinels := by
  refine plain_mkB Tryd.func92 18 (con := []) trivial (fun hA hr hv => ?_) (by kernel_rfl) (by kernel_rfl) Tryd.ntmps92
  unfold ksentinels at hr; split at hr
  · skip
    have := ret_ok hr; subst this
    refine ⟨_, [], rfl, rfl, .of (argsentinels ) (by simp), rfl, (fun W R ρ0 own0 hown => noSums (by kernel_rfl)), .of (runsentinels rest ) ?_⟩
    clear hr
    rfl
  · cases hr
def senP (e : FErr) (i : Nat) : Bool := decide (e = sentL.getD i .fine)
def senN (e : FErr) : Int := match e with
  | .bare n => if 101 ≤ n ∧ n ≤ 116 then n else -1
  | _ => -1
theorem sent_at : ∀ i, i < 16 → sentL.getD i RT.err.dflt = .bare (101 + (i : Int)) := by decide
theorem sen_not {e : FErr} (h : noneQ (senP e) 16 = true) : senN e = -1 := by
  rw [noneQ_iff] at h
  unfold senN
  split
  · rename_i n
    split
    · rename_i hn
      have h1 := h (n - 101).toNat (by omega)
      unfold senP at h1
      have e1 := sent_at (n - 101).toNat (by omega)
      rw [show RT.err.dflt = FErr.fine from rfl] at e1
      rw [e1, show (101 : Int) + ((n - 101).toNat : Int) = n by omega] at h1
      simp at h1
    · rfl
  · rfl
theorem senN_ne (e : FErr) : senN e ≠ 0 := by
  unfold senN; split <;> (try split) <;> omega
def Hsen (e : FErr) (i : Nat) : SState := { fr := [(0, .err e), (3, .ro .err sentL), (4, .int .i64 (.sym i 0 16))], hp := [], next := 0, sz := 20 }
def Xsen (e : FErr) : SState := { fr := [], hp := [], next := 0, sz := 20 }
def Ysen (e : FErr) : SState := { fr := [(2, .int .i64 (.full (senN e)))], hp := [], next := 0, sz := 20 }
def Lsen (e : FErr) : LSum := ⟨Hsen e 0, fun k => .ite (noneQ (senP e) 16) (k (.exit 0) (Xsen e)) (k .ret (Ysen e)), True⟩
theorem bsen (rest : List (Nat × SVal)) (e : FErr) (i : Nat) : (Tr.sat (rnd2 (env (G7 ++ (G9 ++ rest)) [(92, ksentinels), (93, kAlike)]) (fun i => noneQ (senP e) i = true) (16) (Hsen e) 0 (noneQ (senP e) 16) (Xsen e) (Ysen e) i) (run (env (G7 ++ (G9 ++ rest)) [(92, ksentinels), (93, kAlike)]) [] (loopN (bodyOf Tryd.f78) 0) (Hsen e i) .leaf)) = (
  (decide ((↑i : Int) < (↑(List.length sentL) : Int)) = true → ((0 : Int) ≤ (↑i : Int) ∧ (↑i : Int) < (↑(List.length sentL) : Int)) ∧ ((0 : Int) ≤ (↑i : Int) ∧ (↑i : Int) < (↑(List.length sentL) : Int) → FErr.isPlaced (List.getD sentL (Int.toNat (↑i : Int)) (RT.dflt RT.err)) = false ∧ (FErr.isPlaced (List.getD sentL (Int.toNat (↑i : Int)) (RT.dflt RT.err)) = false → (decide (e = List.getD sentL (Int.toNat (↑i : Int)) (RT.dflt RT.err)) = true → noneQ (senP e) (16 : Nat) = false ∧ (101 : Int) + (↑i : Int) = senN e) ∧ (decide (e = List.getD sentL (Int.toNat (↑i : Int)) (RT.dflt RT.err)) = false → i < (16 : Nat) ∧ noneQ (senP e) (i + (1 : Nat)) = true ∧ e = e ∧ sentL = sentL ∧ (↑i : Int) + (1 : Int) = (↑(i + (1 : Nat)) : Int) ∧ (0 : Int) ≤ (↑(i + (1 : Nat)) : Int) ∧ (↑(i + (1 : Nat)) : Int) ≤ (16 : Int))))) ∧ (decide ((↑i : Int) < (↑(List.length sentL) : Int)) = false → Nat.beq (0 : Nat) (0 : Nat) = true ∧ noneQ (senP e) (16 : Nat) = true ∧ True)) := by kernel_rfl
set_option maxHeartbeats 4000000 in
theorem lsen (e : FErr) {W : World} {R own0 : Nat → Prop} {ρ0 : Nat → Option Value} (hown : HownOk (env (G7 ++ (G9 ++ rest)) [(92, ksentinels), (93, kAlike)]) own0 ρ0) : LOk Tryd.prog (env (G7 ++ (G9 ++ rest)) [(92, ksentinels), (93, kAlike)]) (ctx ea has) (G7 ++ (G9 ++ rest)) W R own0 ρ0 (loopN (bodyOf Tryd.f78) 0) (Lsen e) := by
  refine loop2_ok (env_ok (con := [(92, ksentinels), (93, kAlike)]) ⟨csentinels, cAlike, trivial⟩) hown (ls := fun i => []) (fun i => noSums (by kernel_rfl)) (fun _ i hi hj => (bsen rest e i).mpr ?_) 0 (fun _ => by first | exact Nat.zero_le _ | omega) (fun _ => rfl)
  have hL : sentL.length = 16 := rfl
  simp only [Int.toNat_natCast, hL]
  refine ⟨fun h => ?_, fun h => ?_⟩
  · have h := of_decide_eq_true h
    have hlt : i < 16 := by omega
    have hs := sent_at i hlt
    have hp : senP e i = decide (e = sentL.getD i RT.err.dflt) := rfl
    refine ⟨by omega, fun _ => ⟨by rw [hs]; rfl, fun _ => ⟨fun h2 => ⟨noneQ_at (hp.trans h2) hlt, ?_⟩, fun h2 => ⟨hlt, by rw [noneQ, hj, hp.trans h2]; rfl, trivial, trivial, by omega, by omega, by omega⟩⟩⟩⟩
    have h2 := of_decide_eq_true h2
    rw [h2, hs]
    unfold senN
    simp only
    rw [if_pos (by omega)]
  · have h := of_decide_eq_false h
    have e1 : i = 16 := by omega
    subst e1
    exact ⟨rfl, hj, trivial⟩
def ksentinel : List SVal → Nat → Acc ORes := fun a n => match a with | [.err e] => .ret ({ v := .int .i64 (.full (senN e)) }) | _ => .fail "sentinel"
theorem argsentinel (e : FErr) : (all (subL tAtN none' [] deep [.err e] [.err e])) = (
  e = e) := by kernel_rfl
theorem runsentinel (rest : List (Nat × SVal)) (e : FErr) : (Tr.sat (plainQ (.int .i64 (.full (senN e)))) (run (env (G7 ++ (G9 ++ rest)) [(92, ksentinels), (93, kAlike)]) [(3, Lsen e)] (bodyOf Tryd.f78) (start [.err e] 20) (ends (env (G7 ++ (G9 ++ rest)) [(92, ksentinels), (93, kAlike)]) Tryd.f78.results.toList))) = (
  (True ∧ e = e ∧ sentL = sentL ∧ (0 : Int) = (↑(0 : Nat) : Int)) ∧ (True ∧ e = e ∧ sentL = sentL ∧ (0 : Int) = (↑(0 : Nat) : Int) → (noneQ (senP e) (16 : Nat) = true → (-1 : Int) = senN e) ∧ (noneQ (senP e) (16 : Nat) = false → senN e = senN e))) := by kernel_rfl
set_option maxHeartbeats 4000000 in
theorem csentinel : Con ea has (G7 ++ (G9 ++ rest)) 78 ksentinel := by
  refine plain_mkB Tryd.func78 20 (con := [(92, ksentinels), (93, kAlike)]) ⟨csentinels, cAlike, trivial⟩ (fun hA hr hv => ?_) (by kernel_rfl) (by kernel_rfl) Tryd.ntmps78
  unfold ksentinel at hr; split at hr
  · rename_i e
    have := ret_ok hr; subst this
    refine ⟨_, [(3, Lsen e)], rfl, rfl, .of (argsentinel e) (by simp), rfl, (fun W R ρ0 own0 hown => hl1 (by kernel_rfl) (by kernel_rfl) (lsen e hown)), .of (runsentinel rest e) ?_⟩
    clear hr
    refine ⟨⟨trivial, rfl, rfl, rfl⟩, fun _ => ⟨fun h => (sen_not h).symm, fun _ => rfl⟩⟩
  · cases hr
def fcode : FErr → Int
  | .fine => 0
  | .bare n => senN (.bare n)
  | .placed n _ => senN (.bare n)
def kFault : List SVal → Nat → Acc ORes := fun a n => match a with | [.err e] => .ret ({ v := .agg [.int .i64 (.full (fcode e)), .bool (.sym e.isPlaced), .int .i64 (.full e.pos)] }) | _ => .fail "Fault"
theorem argFault (e : FErr) : (all (subL tAtN none' [] deep [.err e] [.err e])) = (
  e = e) := by kernel_rfl
theorem runFault (rest : List (Nat × SVal)) (e : FErr) : (Tr.sat (plainQ (.agg [.int .i64 (.full (fcode e)), .bool (.sym e.isPlaced), .int .i64 (.full e.pos)])) (run (env (G7 ++ (G9 ++ rest)) [(77, kNone), (78, ksentinel), (76, kBare), (40, kPlaced)]) [] (bodyOf Tryd.f37) (start [.err e] 38) (ends (env (G7 ++ (G9 ++ rest)) [(77, kNone), (78, ksentinel), (76, kBare), (40, kPlaced)]) Tryd.f37.results.toList))) = (
  ((!FErr.isErr e) = true → (0 : Int) = fcode e ∧ false = FErr.isPlaced e ∧ (0 : Int) = FErr.pos e) ∧ ((!FErr.isErr e) = false → ((!FErr.isPlaced e) = true → senN e = fcode e ∧ false = FErr.isPlaced e ∧ (0 : Int) = FErr.pos e) ∧ ((!FErr.isPlaced e) = false → ((!!FErr.isPlaced e) = true → FErr.isPlaced e = true) ∧ (((!!FErr.isPlaced e) = true → FErr.isPlaced e = true) → ((!!FErr.isPlaced e) = true → FErr.isPlaced e = true) ∧ (((!!FErr.isPlaced e) = true → FErr.isPlaced e = true) → ((!FErr.isPlaced e || !FErr.isErr (FErr.inner e)) = true → (-1 : Int) = fcode e ∧ false = FErr.isPlaced e ∧ (0 : Int) = FErr.pos e) ∧ ((!FErr.isPlaced e || !FErr.isErr (FErr.inner e)) = false → FErr.isPlaced e = true ∧ (FErr.isPlaced e = true → FErr.isPlaced e = true ∧ (FErr.isPlaced e = true → FErr.isPlaced e = true ∧ (FErr.isPlaced e = true → FErr.isPlaced e = true ∧ (FErr.isPlaced e = true → senN (FErr.inner e) = fcode e ∧ (!decide (senN (FErr.inner e) = (0 : Int))) = FErr.isPlaced e ∧ (if senN (FErr.inner e) = (0 : Int) then (0 : Int) else FErr.pos e) = FErr.pos e)))))))))) := by kernel_rfl
set_option maxHeartbeats 4000000 in
theorem cFault : Con ea has (G7 ++ (G9 ++ rest)) 37 kFault := by
  refine plain_mkB Tryd.func37 38 (con := [(77, kNone), (78, ksentinel), (76, kBare), (40, kPlaced)]) ⟨cNone, csentinel, cBare, cPlaced, trivial⟩ (fun hA hr hv => ?_) (by kernel_rfl) (by kernel_rfl) Tryd.ntmps37
  unfold kFault at hr; split at hr
  · rename_i e
    have := ret_ok hr; subst this
    refine ⟨_, [], rfl, rfl, .of (argFault e) (by simp), rfl, (fun W R ρ0 own0 hown => noSums (by kernel_rfl)), .of (runFault rest e) ?_⟩
    clear hr
    have hz := senN_ne
    cases e with
    | fine => simp [FErr.isErr, fcode, FErr.isPlaced, FErr.pos]
    | bare n => simp [FErr.isErr, fcode, FErr.isPlaced, FErr.pos]
    | placed n p => simp [FErr.isErr, fcode, FErr.isPlaced, FErr.pos, FErr.inner, hz]
  · cases hr
def kSeeSame : List SVal → Nat → Acc ORes := fun a n => match a with | [.err e, .agg [.int .i64 a, .bool b, .int .i64 c]] => .ret ({ v := .bool (.sym (decide (fcode e = a.val) && (e.isPlaced == b.val) && decide (e.pos = c.val))) }) | _ => .fail "SeeSame"
theorem argSeeSame (e : FErr) (a : SI) (b : SB) (c : SI) : (all (subL tAtN none' [] deep [.err e, .agg [.int .i64 a, .bool b, .int .i64 c]] [.err e, .agg [.int .i64 (.full a.val), .bool (.sym b.val), .int .i64 (.full c.val)]])) = (
  e = e ∧ SI.val a = SI.val a ∧ SB.val b = SB.val b ∧ SI.val c = SI.val c) := by kernel_rfl
theorem runSeeSame (rest : List (Nat × SVal)) (e : FErr) (a : Int) (b : Bool) (c : Int) : (Tr.sat (plainQ (.bool (.sym (decide (fcode e = a) && (e.isPlaced == b) && decide (e.pos = c))))) (run (env (G7 ++ (G9 ++ rest)) [(37, kFault), (79, kSameFault)]) [] (bodyOf Tryd.f39) (start [.err e, .agg [.int .i64 (.full a), .bool (.sym b), .int .i64 (.full c)]] 9) (ends (env (G7 ++ (G9 ++ rest)) [(37, kFault), (79, kSameFault)]) Tryd.f39.results.toList))) = (
  (decide (fcode e = a) && FErr.isPlaced e == b && decide (FErr.pos e = c)) = (decide (fcode e = a) && FErr.isPlaced e == b && decide (FErr.pos e = c))) := by kernel_rfl
set_option maxHeartbeats 4000000 in
theorem cSeeSame : Con ea has (G7 ++ (G9 ++ rest)) 39 kSeeSame := by
  refine plain_mkB Tryd.func39 9 (con := [(37, kFault), (79, kSameFault)]) ⟨cFault, cSameFault, trivial⟩ (fun hA hr hv => ?_) (by kernel_rfl) (by kernel_rfl) Tryd.ntmps39
  unfold kSeeSame at hr; split at hr
  · rename_i e a b c
    have := ret_ok hr; subst this
    refine ⟨_, [], rfl, rfl, .of (argSeeSame e a b c) (by simp), rfl, (fun W R ρ0 own0 hown => noSums (by kernel_rfl)), .of (runSeeSame rest e a.val b.val c.val) ?_⟩
    clear hr
    rfl
  · cases hr
def kSeeIs : List SVal → Nat → Acc ORes := fun a n => match a with | [.err e, .int .i64 c] => .ret ({ v := .bool (.sym (decide (fcode e = c.val) && (e.isPlaced == false) && decide (e.pos = 0))) }) | _ => .fail "SeeIs"
theorem argSeeIs (e : FErr) (c : SI) : (all (subL tAtN none' [] deep [.err e, .int .i64 c] [.err e, .int .i64 (.full c.val)])) = (
  e = e ∧ SI.val c = SI.val c) := by kernel_rfl
theorem runSeeIs (rest : List (Nat × SVal)) (e : FErr) (c : Int) : (Tr.sat (plainQ (.bool (.sym (decide (fcode e = c) && (e.isPlaced == false) && decide (e.pos = 0))))) (run (env (G7 ++ (G9 ++ rest)) [(76, kBare), (39, kSeeSame)]) [] (bodyOf Tryd.f36) (start [.err e, .int .i64 (.full c)] 9) (ends (env (G7 ++ (G9 ++ rest)) [(76, kBare), (39, kSeeSame)]) Tryd.f36.results.toList))) = (
  (decide (fcode e = c) && FErr.isPlaced e == false && decide (FErr.pos e = (0 : Int))) = (decide (fcode e = c) && FErr.isPlaced e == false && decide (FErr.pos e = (0 : Int)))) := by kernel_rfl
set_option maxHeartbeats 4000000 in
theorem cSeeIs : Con ea has (G7 ++ (G9 ++ rest)) 36 kSeeIs := by
  refine plain_mkB Tryd.func36 9 (con := [(76, kBare), (39, kSeeSame)]) ⟨cBare, cSeeSame, trivial⟩ (fun hA hr hv => ?_) (by kernel_rfl) (by kernel_rfl) Tryd.ntmps36
  unfold kSeeIs at hr; split at hr
  · rename_i e c
    have := ret_ok hr; subst this
    refine ⟨_, [], rfl, rfl, .of (argSeeIs e c) (by simp), rfl, (fun W R ρ0 own0 hown => noSums (by kernel_rfl)), .of (runSeeIs rest e c.val) ?_⟩
    clear hr
    rfl
  · cases hr
end
end Go.Proofs.YtceebkojjmmjmaaDoor

