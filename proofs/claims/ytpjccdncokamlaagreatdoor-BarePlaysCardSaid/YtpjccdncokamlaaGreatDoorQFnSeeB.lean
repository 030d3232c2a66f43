/- Contracts. -/
import Derived.Test.YtpjccdncokamlaaGreatDoorQFnBareR
set_option maxHeartbeats 4000000
set_option linter.unusedVariables false
set_option linter.unusedSimpArgs false
namespace Go.Proofs.YtpjccdncokamlaaGreatDoor
open Go.RowKit Go.Sy Go.Fac
def G9 : List (Nat × SVal) := [(1, .rop [.err (.bare 101)]), (7, .rop [.err (.bare 108)]), (9, .rop [.err (.bare 110)]), (10, .rop [.err (.bare 111)]), (11, .rop [.err (.bare 112)]), (12, .rop [.err (.bare 113)]), (13, .rop [.err (.bare 114)]), (14, .rop [.err (.bare 115)]), (15, .rop [.err (.bare 116)])]
section
variable {ea : Ear} {has : Int → Prop} {rest : List (Nat × SVal)}
def kNone : List SVal → Nat → Acc ORes := fun a n => match a with | [] => .ret ({ v := .agg [.int .i64 (.full 0), .bool (.sym false), .int .i64 (.full 0)] }) | _ => .fail "None"
theorem argNone  : (all (subL tAtN none' [] deep [] [])) = (
  True) := by kernel_rfl
theorem runNone (rest : List (Nat × SVal)) : (Tr.sat (plainQ (.agg [.int .i64 (.full 0), .bool (.sym false), .int .i64 (.full 0)])) (run (env (G7 ++ (G9 ++ rest)) []) [] (bodyOf Tryz.f95) (start [] 2) (ends (env (G7 ++ (G9 ++ rest)) []) Tryz.f95.results.toList))) = (
  (0 : Int) = (0 : Int) ∧ false = false ∧ (0 : Int) = (0 : Int)) := by kernel_rfl
theorem cNone : Con ea has (G7 ++ (G9 ++ rest)) 95 kNone := by
  refine plain_mkB Tryz.func95 2 (con := []) trivial (fun hA hr hv => ?_) (by kernel_rfl) (by kernel_rfl) Tryz.ntmps95
  unfold kNone at hr; split at hr
  · skip
    have := ret_ok hr; subst this
    refine ⟨_, [], rfl, rfl, .of (argNone ) (by simp), rfl, (fun W R ρ0 own0 hown => noSums (by kernel_rfl)), .of (runNone rest ) ?_⟩
    clear hr
    exact ⟨rfl, rfl, rfl⟩
  · cases hr
def kBare : List SVal → Nat → Acc ORes := fun a n => match a with | [.int .i64 c] => .ret ({ v := .agg [.int .i64 (.full c.val), .bool (.sym false), .int .i64 (.full 0)] }) | _ => .fail "Bare"
theorem argBare (c : SI) : (all (subL tAtN none' [] deep [.int .i64 c] [.int .i64 (.full c.val)])) = (
  SI.val c = SI.val c) := by kernel_rfl
theorem runBare (rest : List (Nat × SVal)) (c : Int) : (Tr.sat (plainQ (.agg [.int .i64 (.full c), .bool (.sym false), .int .i64 (.full 0)])) (run (env (G7 ++ (G9 ++ rest)) []) [] (bodyOf Tryz.f26) (start [.int .i64 (.full c)] 5) (ends (env (G7 ++ (G9 ++ rest)) []) Tryz.f26.results.toList))) = (
  c = c ∧ false = false ∧ (0 : Int) = (0 : Int)) := by kernel_rfl
theorem cBare : Con ea has (G7 ++ (G9 ++ rest)) 26 kBare := by
  refine plain_mkB Tryz.func26 5 (con := []) trivial (fun hA hr hv => ?_) (by kernel_rfl) (by kernel_rfl) Tryz.ntmps26
  unfold kBare at hr; split at hr
  · rename_i c
    have := ret_ok hr; subst this
    refine ⟨_, [], rfl, rfl, .of (argBare c) (by simp), rfl, (fun W R ρ0 own0 hown => noSums (by kernel_rfl)), .of (runBare rest c.val) ?_⟩
    clear hr
    exact ⟨rfl, rfl, rfl⟩
  · cases hr
def kPlaced : List SVal → Nat → Acc ORes := fun a n => match a with | [.int .i64 c, .int .i64 p] => .ret ({ v := .agg [.int .i64 (.full c.val), .bool (.sym (!decide (c.val = 0))), .int .i64 (.full (if c.val = 0 then 0 else p.val))] }) | _ => .fail "Placed"
theorem argPlaced (c p : SI) : (all (subL tAtN none' [] deep [.int .i64 c, .int .i64 p] [.int .i64 (.full c.val), .int .i64 (.full p.val)])) = (
  SI.val c = SI.val c ∧ SI.val p = SI.val p) := by kernel_rfl
theorem runPlaced (rest : List (Nat × SVal)) (c : Int) (p : Int) : (Tr.sat (plainQ (.agg [.int .i64 (.full c), .bool (.sym (!decide (c = 0))), .int .i64 (.full (if c = 0 then 0 else p))])) (run (env (G7 ++ (G9 ++ rest)) [(95, kNone)]) [] (bodyOf Tryz.f97) (start [.int .i64 (.full c), .int .i64 (.full p)] 11) (ends (env (G7 ++ (G9 ++ rest)) [(95, kNone)]) Tryz.f97.results.toList))) = (
  IT (decide (c = 0)) ((0 : Int) = c ∧ false = !decide (c = 0) ∧ (0 : Int) = if c = 0 then (0 : Int) else p) (c = c ∧ true = !decide (c = 0) ∧ p = if c = 0 then (0 : Int) else p)) := by kernel_rfl
theorem cPlaced : Con ea has (G7 ++ (G9 ++ rest)) 97 kPlaced := by
  refine plain_mkB Tryz.func97 11 (con := [(95, kNone)]) ⟨cNone, trivial⟩ (fun hA hr hv => ?_) (by kernel_rfl) (by kernel_rfl) Tryz.ntmps97
  unfold kPlaced at hr; split at hr
  · rename_i c p
    have := ret_ok hr; subst this
    refine ⟨_, [], rfl, rfl, .of (argPlaced c p) (by simp), rfl, (fun W R ρ0 own0 hown => noSums (by kernel_rfl)), .of (runPlaced rest c.val p.val) ?_⟩
    delta IT
    clear hr
    refine ⟨fun h => ?_, fun h => ?_⟩
    · have h1 := of_decide_eq_true h
      rw [h, if_pos h1]; exact ⟨h1.symm, rfl, rfl⟩
    · have h1 := of_decide_eq_false h
      rw [h, if_neg h1]; exact ⟨rfl, rfl, rfl⟩
  · cases hr
def kSameFault : List SVal → Nat → Acc ORes := fun a n => match a with | [.agg [.int .i64 a, .bool b, .int .i64 c], .agg [.int .i64 d, .bool e, .int .i64 f]] => .ret ({ v := .bool (.sym (decide (a.val = d.val) && (b.val == e.val) && decide (c.val = f.val))) }) | _ => .fail "SameFault"
theorem argSameFault (a : SI) (b : SB) (c d : SI) (e : SB) (f : SI) : (all (subL tAtN none' [] deep [.agg [.int .i64 a, .bool b, .int .i64 c], .agg [.int .i64 d, .bool e, .int .i64 f]] [.agg [.int .i64 (.full a.val), .bool (.sym b.val), .int .i64 (.full c.val)], .agg [.int .i64 (.full d.val), .bool (.sym e.val), .int .i64 (.full f.val)]])) = (
  SI.val a = SI.val a ∧ SB.val b = SB.val b ∧ SI.val c = SI.val c ∧ SI.val d = SI.val d ∧ SB.val e = SB.val e ∧ SI.val f = SI.val f) := by kernel_rfl
theorem runSameFault (rest : List (Nat × SVal)) (a : Int) (b : Bool) (c : Int) (d : Int) (e : Bool) (f : Int) : (Tr.sat (plainQ (.bool (.sym (decide (a = d) && (b == e) && decide (c = f))))) (run (env (G7 ++ (G9 ++ rest)) []) [] (bodyOf Tryz.f58) (start [.agg [.int .i64 (.full a), .bool (.sym b), .int .i64 (.full c)], .agg [.int .i64 (.full d), .bool (.sym e), .int .i64 (.full f)]] 24) (ends (env (G7 ++ (G9 ++ rest)) []) Tryz.f58.results.toList))) = (
  (decide (a = d) && b == e && decide (c = f)) = (decide (a = d) && b == e && decide (c = f))) := by kernel_rfl
theorem cSameFault : Con ea has (G7 ++ (G9 ++ rest)) 58 kSameFault := by
  refine plain_mkB Tryz.func58 24 (con := []) trivial (fun hA hr hv => ?_) (by kernel_rfl) (by kernel_rfl) Tryz.ntmps58
  unfold kSameFault at hr; split at hr
  · rename_i a b c d e f
    have := ret_ok hr; subst this
    refine ⟨_, [], rfl, rfl, .of (argSameFault a b c d e f) (by simp), rfl, (fun W R ρ0 own0 hown => noSums (by kernel_rfl)), .of (runSameFault rest a.val b.val c.val d.val e.val f.val) ?_⟩
    clear hr
    rfl
  · cases hr
def kAlike : List SVal → Nat → Acc ORes := fun a n => match a with | [.err a, .err b] => .ret ({ v := .bool (.sym (decide (a = b))), vc := some (b.isPlaced = false) }) | _ => .fail "Alike"
theorem argAlike (a b : FErr) : (all (subL tAtN none' [] deep [.err a, .err b] [.err a, .err b])) = (
  a = a ∧ b = b) := by kernel_rfl
theorem runAlike (rest : List (Nat × SVal)) (a : FErr) (b : FErr) : (Tr.sat (plainQ (.bool (.sym (decide (a = b))))) (run (env (G7 ++ (G9 ++ rest)) []) [] (bodyOf Tryz.f114) (start [.err a, .err b] 20) (ends (env (G7 ++ (G9 ++ rest)) []) Tryz.f114.results.toList))) = (
  IT (!FErr.isErr a || !FErr.isErr b) ((!FErr.isErr a && !FErr.isErr b) = decide (a = b)) (RQ ((FErr.isErr a = true ∧ FErr.isErr b = true) ∧ (FErr.isPlaced a = false ∨ FErr.isPlaced b = false)) (decide (a = b) = decide (a = b)))) := by kernel_rfl
theorem cAlike : Con ea has (G7 ++ (G9 ++ rest)) 114 kAlike := by
  refine plain_mkB Tryz.func114 20 (con := []) trivial (fun hA hr hv => ?_) (by kernel_rfl) (by kernel_rfl) Tryz.ntmps114
  unfold kAlike at hr; split at hr
  · rename_i a b
    have := ret_ok hr; subst this
    replace hv := hv _ rfl
    refine ⟨_, [], rfl, rfl, .of (argAlike a b) (by simp), rfl, (fun W R ρ0 own0 hown => noSums (by kernel_rfl)), .of (runAlike rest a b) ?_⟩
    delta RQ IT
    clear hr
    refine ⟨fun h => ?_, fun h => ?_⟩
    · cases a <;> cases b <;> simp [FErr.isErr] at h ⊢
    · have : a.isErr = true ∧ b.isErr = true := by
        cases ha : a.isErr <;> cases hb : b.isErr <;> simp [ha, hb] at h ⊢
      exact ⟨⟨this, .inr hv⟩, fun _ => rfl⟩
  · cases hr
def noneQ (p : Nat → Bool) : Nat → Bool
  | 0 => true
  | n + 1 => noneQ p n && !p n
theorem noneQ_at {p : Nat → Bool} {i n : Nat} (hp : p i = true) (hn : i < n) : noneQ p n = false := by
  induction n with
  | zero => omega
  | succ n ih =>
    rw [noneQ]
    by_cases e : i = n
    · subst e; rw [hp]; simp
    · rw [ih (by omega)]; rfl
theorem noneQ_iff {p : Nat → Bool} {n : Nat} : noneQ p n = true ↔ ∀ i, i < n → p i = false := by
  induction n with
  | zero => simp [noneQ]
  | succ n ih =>
    rw [noneQ, Bool.and_eq_true, ih, Bool.not_eq_true']
    refine ⟨fun ⟨h1, h2⟩ i hi => ?_, fun h => ⟨fun i hi => h i (by omega), h n (by omega)⟩⟩
    by_cases e : i = n
    · rw [e]; exact h2
    · exact h1 i (by omega)
def sentL : List FErr := [.bare 101, .bare 102, .bare 103, .bare 104, .bare 105, .bare 106, .bare 107, .bare 108, .bare 109, .bare 110, .bare 111, .bare 112, .bare 113, .bare 114, .bare 115, .bare 116]
def ksentinels : List SVal → Nat → Acc ORes := fun a n => match a with | [] => .ret ({ v := .ro .err sentL }) | _ => .fail "sentinels"
theorem argsentinels  : (all (subL tAtN none' [] deep [] [])) = (
  True) := by kernel_rfl
theorem runsentinels (rest : List (Nat × SVal)) : (Tr.sat (plainQ (.ro .err sentL)) (run (env (G7 ++ (G9 ++ rest)) []) [] (bodyOf Tryz.f113) (start [] 18) (ends (env (G7 ++ (G9 ++ rest)) []) Tryz.f113.results.toList))) = (
  [FErr.bare (101 : Int), FErr.bare (102 : Int), FErr.bare (103 : Int), FErr.bare (104 : Int), FErr.bare (105 : Int), FErr.bare (106 : Int), FErr.bare (107 : Int), FErr.bare (108 : Int), FErr.bare (109 : Int), FErr.bare (110 : Int), FErr.bare (111 : Int), FErr.bare (112 : Int), FErr.bare (113 : Int), FErr.bare (114 : Int), FErr.bare (115 : Int), FErr.bare (116 : Int)] = sentL) := by kernel_rfl
theorem csentinels : Con ea has (G7 ++ (G9 ++ rest)) 113 ksentinels := by
  refine plain_mkB Tryz.func113 18 (con := []) trivial (fun hA hr hv => ?_) (by kernel_rfl) (by kernel_rfl) Tryz.ntmps113
  unfold ksentinels at hr; split at hr
  · skip
    have := ret_ok hr; subst this
    refine ⟨_, [], rfl, rfl, .of (argsentinels ) (by simp), rfl, (fun W R ρ0 own0 hown => noSums (by kernel_rfl)), .of (runsentinels rest ) ?_⟩
    clear hr
    rfl
  · cases hr
def senP (e : FErr) (i : Nat) : Bool := decide (e = sentL.getD i .fine)
def senN (e : FErr) : Int := match e with
  | .bare n => if 101 ≤ n ∧ n ≤ 116 then n else -1
  | _ => -1
theorem sent_at : ∀ i, i < 16 → sentL.getD i RT.err.dflt = .bare (101 + (i : Int)) := by decide
theorem sen_not {e : FErr} (h : noneQ (senP e) 16 = true) : senN e = -1 := by
  rw [noneQ_iff] at h
  unfold senN
  split
  · rename_i n
    split
    · rename_i hn
      have h1 := h (n - 101).toNat (by omega)
      unfold senP at h1
      have e1 := sent_at (n - 101).toNat (by omega)
      rw [show RT.err.dflt = FErr.fine from rfl] at e1
      rw [e1, show (101 : Int) + ((n - 101).toNat : Int) = n by omega] at h1
      simp at h1
    · rfl
  · rfl
theorem senN_ne (e : FErr) : senN e ≠ 0 := by
  unfold senN; split <;> (try split) <;> omega
def Hsen (e : FErr) (i : Nat) : SState := { fr := [(0, .err e), (3, .ro .err sentL), (4, .int .i64 (.sym i 0 16))], hp := [], next := 0, sz := 20 }
def Xsen (e : FErr) : SState := { fr := [], hp := [], next := 0, sz := 20 }
def Ysen (e : FErr) : SState := { fr := [(2, .int .i64 (.full (senN e)))], hp := [], next := 0, sz := 20 }
def Lsen (e : FErr) : LSum := ⟨Hsen e 0, fun k => .ite (noneQ (senP e) 16) (k (.exit 0) (Xsen e)) (k .ret (Ysen e)), True⟩
theorem bsen (rest : List (Nat × SVal)) (e : FErr) (i : Nat) : (Tr.sat (rnd2 (env (G7 ++ (G9 ++ rest)) [(113, ksentinels), (114, kAlike)]) (fun i => noneQ (senP e) i = true) (16) (Hsen e) 0 (noneQ (senP e) 16) (Xsen e) (Ysen e) i) (run (env (G7 ++ (G9 ++ rest)) [(113, ksentinels), (114, kAlike)]) [] (loopN (bodyOf Tryz.f96) 0) (Hsen e i) .leaf)) = (
  IT (decide ((i : Int) < ((List.length sentL) : Int))) (RQ (0 ≤ (i : Int) ∧ (i : Int) < ((List.length sentL) : Int)) (RQ (FErr.isPlaced (List.getD sentL (Int.toNat (i : Int)) (RT.dflt RT.err)) = false) (IT (decide (e = List.getD sentL (Int.toNat (i : Int)) (RT.dflt RT.err))) (noneQ (senP e) (16 : Nat) = false ∧ (101 : Int) + (i : Int) = senN e) (i < 16 ∧ noneQ (senP e) (i + 1) = true ∧ e = e ∧ sentL = sentL ∧ (i : Int) + 1 = ((i + 1) : Int) ∧ 0 ≤ ((i + 1) : Int) ∧ ((i + 1) : Int) ≤ 16)))) (Nat.beq (0 : Nat) (0 : Nat) = true ∧ noneQ (senP e) (16 : Nat) = true ∧ True)) := by kernel_rfl
theorem lsen (e : FErr) {W : World} {R own0 : Nat → Prop} {ρ0 : Nat → Option Value} (hown : HownOk (env (G7 ++ (G9 ++ rest)) [(113, ksentinels), (114, kAlike)]) own0 ρ0) : LOk Tryz.prog (env (G7 ++ (G9 ++ rest)) [(113, ksentinels), (114, kAlike)]) (ctx ea has) (G7 ++ (G9 ++ rest)) W R own0 ρ0 (loopN (bodyOf Tryz.f96) 0) (Lsen e) := by
  refine loop2_ok (J := fun i => noneQ (senP e) i = true) (N := 16) (H := Hsen e) (X := Xsen e) (Y := Ysen e) (env_ok (con := [(113, ksentinels), (114, kAlike)]) ⟨csentinels, cAlike, trivial⟩) hown (ls := fun i => []) (fun i => noSums (by kernel_rfl)) (fun _ i hi hj => ?_) 0 (fun _ => by first | exact Nat.zero_le _ | omega) (fun _ => rfl)
  rw [bsen rest e i]
  delta RQ IT
  have hL : sentL.length = 16 := rfl
  simp only [Int.toNat_natCast, hL]
  refine ⟨fun h => ?_, fun h => ?_⟩
  · have h := of_decide_eq_true h
    have hlt : i < 16 := by omega
    have hs := sent_at i hlt
    have hp : senP e i = decide (e = sentL.getD i RT.err.dflt) := rfl
    refine ⟨by omega, fun _ => ⟨by rw [hs]; rfl, fun _ => ⟨fun h2 => ⟨noneQ_at (hp.trans h2) hlt, ?_⟩, fun h2 => ⟨hlt, by rw [noneQ, hj, hp.trans h2]; rfl, trivial, trivial, by omega, by omega, by omega⟩⟩⟩⟩
    have h2 := of_decide_eq_true h2
    rw [h2, hs]
    unfold senN
    simp only
    rw [if_pos (by omega)]
  · have h := of_decide_eq_false h
    have e1 : i = 16 := by omega
    subst e1
    exact ⟨rfl, hj, trivial⟩
def ksentinel : List SVal → Nat → Acc ORes := fun a n => match a with | [.err e] => .ret ({ v := .int .i64 (.full (senN e)) }) | _ => .fail "sentinel"
theorem argsentinel (e : FErr) : (all (subL tAtN none' [] deep [.err e] [.err e])) = (
  e = e) := by kernel_rfl
theorem runsentinel (rest : List (Nat × SVal)) (e : FErr) : (Tr.sat (plainQ (.int .i64 (.full (senN e)))) (run (env (G7 ++ (G9 ++ rest)) [(113, ksentinels), (114, kAlike)]) [(3, Lsen e)] (bodyOf Tryz.f96) (start [.err e] 20) (ends (env (G7 ++ (G9 ++ rest)) [(113, ksentinels), (114, kAlike)]) Tryz.f96.results.toList))) = (
  RQ (True ∧ e = e ∧ sentL = sentL ∧ (0 : Int) = ((0 : Nat) : Int)) (IT (noneQ (senP e) (16 : Nat)) ((-1 : Int) = senN e) (senN e = senN e))) := by kernel_rfl
theorem csentinel : Con ea has (G7 ++ (G9 ++ rest)) 96 ksentinel := by
  refine plain_mkB Tryz.func96 20 (con := [(113, ksentinels), (114, kAlike)]) ⟨csentinels, cAlike, trivial⟩ (fun hA hr hv => ?_) (by kernel_rfl) (by kernel_rfl) Tryz.ntmps96
  unfold ksentinel at hr; split at hr
  · rename_i e
    have := ret_ok hr; subst this
    refine ⟨_, [(3, Lsen e)], rfl, rfl, .of (argsentinel e) (by simp), rfl, (fun W R ρ0 own0 hown => hl1 (by kernel_rfl) (by kernel_rfl) (lsen e hown)), .of (runsentinel rest e) ?_⟩
    delta RQ IT
    clear hr
    refine ⟨⟨trivial, rfl, rfl, rfl⟩, fun _ => ⟨fun h => (sen_not h).symm, fun _ => rfl⟩⟩
  · cases hr
def fcode : FErr → Int
  | .fine => 0
  | .bare n => senN (.bare n)
  | .placed n _ => senN (.bare n)
def kFault : List SVal → Nat → Acc ORes := fun a n => match a with | [.err e] => .ret ({ v := .agg [.int .i64 (.full (fcode e)), .bool (.sym e.isPlaced), .int .i64 (.full e.pos)] }) | _ => .fail "Fault"
theorem argFault (e : FErr) : (all (subL tAtN none' [] deep [.err e] [.err e])) = (
  e = e) := by kernel_rfl
theorem runFault (rest : List (Nat × SVal)) (e : FErr) : (Tr.sat (plainQ (.agg [.int .i64 (.full (fcode e)), .bool (.sym e.isPlaced), .int .i64 (.full e.pos)])) (run (env (G7 ++ (G9 ++ rest)) [(95, kNone), (96, ksentinel), (26, kBare), (97, kPlaced)]) [] (bodyOf Tryz.f59) (start [.err e] 38) (ends (env (G7 ++ (G9 ++ rest)) [(95, kNone), (96, ksentinel), (26, kBare), (97, kPlaced)]) Tryz.f59.results.toList))) = (
  IT (!FErr.isErr e) ((0 : Int) = fcode e ∧ false = FErr.isPlaced e ∧ (0 : Int) = FErr.pos e) (IT (!FErr.isPlaced e) (senN e = fcode e ∧ false = FErr.isPlaced e ∧ (0 : Int) = FErr.pos e) (RQ ((!!FErr.isPlaced e) = true → FErr.isPlaced e = true) (RQ ((!!FErr.isPlaced e) = true → FErr.isPlaced e = true) (IT (!FErr.isPlaced e || !FErr.isErr (FErr.inner e)) ((-1 : Int) = fcode e ∧ false = FErr.isPlaced e ∧ (0 : Int) = FErr.pos e) (RQ (FErr.isPlaced e = true) (RQ (FErr.isPlaced e = true) (RQ (FErr.isPlaced e = true) (RQ (FErr.isPlaced e = true) (senN (FErr.inner e) = fcode e ∧ (!decide (senN (FErr.inner e) = 0)) = FErr.isPlaced e ∧ (if senN (FErr.inner e) = 0 then (0 : Int) else FErr.pos e) = FErr.pos e)))))))))) := by kernel_rfl
theorem cFault : Con ea has (G7 ++ (G9 ++ rest)) 59 kFault := by
  refine plain_mkB Tryz.func59 38 (con := [(95, kNone), (96, ksentinel), (26, kBare), (97, kPlaced)]) ⟨cNone, csentinel, cBare, cPlaced, trivial⟩ (fun hA hr hv => ?_) (by kernel_rfl) (by kernel_rfl) Tryz.ntmps59
  unfold kFault at hr; split at hr
  · rename_i e
    have := ret_ok hr; subst this
    refine ⟨_, [], rfl, rfl, .of (argFault e) (by simp), rfl, (fun W R ρ0 own0 hown => noSums (by kernel_rfl)), .of (runFault rest e) ?_⟩
    delta RQ IT
    clear hr
    have hz := senN_ne
    cases e with
    | fine => simp [FErr.isErr, fcode, FErr.isPlaced, FErr.pos]
    | bare n => simp [FErr.isErr, fcode, FErr.isPlaced, FErr.pos]
    | placed n p => simp [FErr.isErr, fcode, FErr.isPlaced, FErr.pos, FErr.inner, hz]
  · cases hr
def kSeeSame : List SVal → Nat → Acc ORes := fun a n => match a with | [.err e, .agg [.int .i64 a, .bool b, .int .i64 c]] => .ret ({ v := .bool (.sym (decide (fcode e = a.val) && (e.isPlaced == b.val) && decide (e.pos = c.val))) }) | _ => .fail "SeeSame"
theorem argSeeSame (e : FErr) (a : SI) (b : SB) (c : SI) : (all (subL tAtN none' [] deep [.err e, .agg [.int .i64 a, .bool b, .int .i64 c]] [.err e, .agg [.int .i64 (.full a.val), .bool (.sym b.val), .int .i64 (.full c.val)]])) = (
  e = e ∧ SI.val a = SI.val a ∧ SB.val b = SB.val b ∧ SI.val c = SI.val c) := by kernel_rfl
theorem runSeeSame (rest : List (Nat × SVal)) (e : FErr) (a : Int) (b : Bool) (c : Int) : (Tr.sat (plainQ (.bool (.sym (decide (fcode e = a) && (e.isPlaced == b) && decide (e.pos = c))))) (run (env (G7 ++ (G9 ++ rest)) [(59, kFault), (58, kSameFault)]) [] (bodyOf Tryz.f25) (start [.err e, .agg [.int .i64 (.full a), .bool (.sym b), .int .i64 (.full c)]] 9) (ends (env (G7 ++ (G9 ++ rest)) [(59, kFault), (58, kSameFault)]) Tryz.f25.results.toList))) = (
  (decide (fcode e = a) && FErr.isPlaced e == b && decide (FErr.pos e = c)) = (decide (fcode e = a) && FErr.isPlaced e == b && decide (FErr.pos e = c))) := by kernel_rfl
theorem cSeeSame : Con ea has (G7 ++ (G9 ++ rest)) 25 kSeeSame := by
  refine plain_mkB Tryz.func25 9 (con := [(59, kFault), (58, kSameFault)]) ⟨cFault, cSameFault, trivial⟩ (fun hA hr hv => ?_) (by kernel_rfl) (by kernel_rfl) Tryz.ntmps25
  unfold kSeeSame at hr; split at hr
  · rename_i e a b c
    have := ret_ok hr; subst this
    refine ⟨_, [], rfl, rfl, .of (argSeeSame e a b c) (by simp), rfl, (fun W R ρ0 own0 hown => noSums (by kernel_rfl)), .of (runSeeSame rest e a.val b.val c.val) ?_⟩
    clear hr
    rfl
  · cases hr
def kSeeIs : List SVal → Nat → Acc ORes := fun a n => match a with | [.err e, .int .i64 c] => .ret ({ v := .bool (.sym (decide (fcode e = c.val) && (e.isPlaced == false) && decide (e.pos = 0))) }) | _ => .fail "SeeIs"
theorem argSeeIs (e : FErr) (c : SI) : (all (subL tAtN none' [] deep [.err e, .int .i64 c] [.err e, .int .i64 (.full c.val)])) = (
  e = e ∧ SI.val c = SI.val c) := by kernel_rfl
theorem runSeeIs (rest : List (Nat × SVal)) (e : FErr) (c : Int) : (Tr.sat (plainQ (.bool (.sym (decide (fcode e = c) && (e.isPlaced == false) && decide (e.pos = 0))))) (run (env (G7 ++ (G9 ++ rest)) [(26, kBare), (25, kSeeSame)]) [] (bodyOf Tryz.f7) (start [.err e, .int .i64 (.full c)] 9) (ends (env (G7 ++ (G9 ++ rest)) [(26, kBare), (25, kSeeSame)]) Tryz.f7.results.toList))) = (
  (decide (fcode e = c) && FErr.isPlaced e == false && decide (FErr.pos e = (0 : Int))) = (decide (fcode e = c) && FErr.isPlaced e == false && decide (FErr.pos e = (0 : Int)))) := by kernel_rfl
theorem cSeeIs : Con ea has (G7 ++ (G9 ++ rest)) 7 kSeeIs := by
  refine plain_mkB Tryz.func7 9 (con := [(26, kBare), (25, kSeeSame)]) ⟨cBare, cSeeSame, trivial⟩ (fun hA hr hv => ?_) (by kernel_rfl) (by kernel_rfl) Tryz.ntmps7
  unfold kSeeIs at hr; split at hr
  · rename_i e c
    have := ret_ok hr; subst this
    refine ⟨_, [], rfl, rfl, .of (argSeeIs e c) (by simp), rfl, (fun W R ρ0 own0 hown => noSums (by kernel_rfl)), .of (runSeeIs rest e c.val) ?_⟩
    clear hr
    rfl
  · cases hr
end
end Go.Proofs.YtpjccdncokamlaaGreatDoor

