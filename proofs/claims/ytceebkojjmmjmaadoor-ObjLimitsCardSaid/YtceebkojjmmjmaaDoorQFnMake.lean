/- Contracts that the proofs use. -/
import Derived.Test.YtceebkojjmmjmaaDoorQFnRef1
set_option linter.unusedVariables false
set_option linter.unusedSimpArgs false
namespace Go.Proofs.YtceebkojjmmjmaaDoor
open Go.RowKit Go.Sy Go.Fac
section
variable {ea : Ear} {has : Int → Prop} {gl : List (Nat × SVal)}
def kAt : List SVal → Nat → Acc ORes := fun a n => match a with | [.str nm] => .ret ({ v := .agg (RT.line.enc ⟨⟨0, 0, 0, 0, 0⟩, nm, ByteArray.empty, false⟩) }) | _ => .fail "At"
theorem argAt (nm : ByteArray) : (all (subL tAtN none' [] deep [.str nm] [.str nm])) = (
  nm = nm) := by kernel_rfl
theorem runAt (gl : List (Nat × SVal)) (nm : ByteArray) : (Tr.sat (plainQ (.agg (RT.line.enc ⟨⟨0, 0, 0, 0, 0⟩, nm, ByteArray.empty, false⟩))) (run (env gl []) [] (bodyOf Tryd.f50) (start [.str nm] 5) (ends (env gl []) Tryd.f50.results.toList))) = (
  (0 : Int) = (Ln.mk (In5.mk (0 : Int) (0 : Int) (0 : Int) (0 : Int) (0 : Int)) nm ByteArray.empty false).i.op ∧ (0 : Int) = (Ln.mk (In5.mk (0 : Int) (0 : Int) (0 : Int) (0 : Int) (0 : Int)) nm ByteArray.empty false).i.a ∧ (0 : Int) = (Ln.mk (In5.mk (0 : Int) (0 : Int) (0 : Int) (0 : Int) (0 : Int)) nm ByteArray.empty false).i.b ∧ (0 : Int) = (Ln.mk (In5.mk (0 : Int) (0 : Int) (0 : Int) (0 : Int) (0 : Int)) nm ByteArray.empty false).i.c ∧ (0 : Int) = (Ln.mk (In5.mk (0 : Int) (0 : Int) (0 : Int) (0 : Int) (0 : Int)) nm ByteArray.empty false).i.imm ∧ nm = (Ln.mk (In5.mk (0 : Int) (0 : Int) (0 : Int) (0 : Int) (0 : Int)) nm ByteArray.empty false).name ∧ ByteArray.empty = (Ln.mk (In5.mk (0 : Int) (0 : Int) (0 : Int) (0 : Int) (0 : Int)) nm ByteArray.empty false).sym ∧ false = (Ln.mk (In5.mk (0 : Int) (0 : Int) (0 : Int) (0 : Int) (0 : Int)) nm ByteArray.empty false).table) := by kernel_rfl
set_option maxHeartbeats 4000000 in
theorem cAt : Con ea has gl 50 kAt := by
  refine plain_mkB Tryd.func50 5 (con := []) trivial (fun hA hr hv => ?_) (by kernel_rfl) (by kernel_rfl) Tryd.ntmps50
  unfold kAt at hr; split at hr
  · rename_i nm
    have := ret_ok hr; subst this
    refine ⟨_, [], rfl, rfl, .of (argAt nm) (by simp), rfl, (fun W R ρ0 own0 hown => noSums (by kernel_rfl)), .of (runAt gl nm) ?_⟩
    clear hr
    exact ⟨rfl, rfl, rfl, rfl, rfl, rfl, rfl, rfl⟩
  · cases hr
def kLi : List SVal → Nat → Acc ORes := fun a n => match a with | [.int .i64 a, .int .u32 n'] => .ret ({ v := .agg (RT.line.enc ⟨⟨14, a.val, 0, 0, n'.val⟩, ByteArray.empty, ByteArray.empty, false⟩) }) | _ => .fail "Li"
theorem argLi (a n' : SI) : (all (subL tAtN none' [] deep [.int .i64 a, .int .u32 n'] [.int .i64 (.full a.val), .int .u32 (.full n'.val)])) = (
  SI.val a = SI.val a ∧ SI.val n' = SI.val n') := by kernel_rfl
theorem runLi (gl : List (Nat × SVal)) (a : Int) (n' : Int) : (Tr.sat (plainQ (.agg (RT.line.enc ⟨⟨14, a, 0, 0, n'⟩, ByteArray.empty, ByteArray.empty, false⟩))) (run (env gl []) [] (bodyOf Tryd.f52) (start [.int .i64 (.full a), .int .u32 (.full n')] 9) (ends (env gl []) Tryd.f52.results.toList))) = (
  (14 : Int) = (Ln.mk (In5.mk (14 : Int) a (0 : Int) (0 : Int) n') ByteArray.empty ByteArray.empty false).i.op ∧ a = (Ln.mk (In5.mk (14 : Int) a (0 : Int) (0 : Int) n') ByteArray.empty ByteArray.empty false).i.a ∧ (0 : Int) = (Ln.mk (In5.mk (14 : Int) a (0 : Int) (0 : Int) n') ByteArray.empty ByteArray.empty false).i.b ∧ (0 : Int) = (Ln.mk (In5.mk (14 : Int) a (0 : Int) (0 : Int) n') ByteArray.empty ByteArray.empty false).i.c ∧ n' = (Ln.mk (In5.mk (14 : Int) a (0 : Int) (0 : Int) n') ByteArray.empty ByteArray.empty false).i.imm ∧ ByteArray.empty = (Ln.mk (In5.mk (14 : Int) a (0 : Int) (0 : Int) n') ByteArray.empty ByteArray.empty false).name ∧ ByteArray.empty = (Ln.mk (In5.mk (14 : Int) a (0 : Int) (0 : Int) n') ByteArray.empty ByteArray.empty false).sym ∧ false = (Ln.mk (In5.mk (14 : Int) a (0 : Int) (0 : Int) n') ByteArray.empty ByteArray.empty false).table) := by kernel_rfl
set_option maxHeartbeats 4000000 in
theorem cLi : Con ea has gl 52 kLi := by
  refine plain_mkB Tryd.func52 9 (con := []) trivial (fun hA hr hv => ?_) (by kernel_rfl) (by kernel_rfl) Tryd.ntmps52
  unfold kLi at hr; split at hr
  · rename_i a n'
    have := ret_ok hr; subst this
    refine ⟨_, [], rfl, rfl, .of (argLi a n') (by simp), rfl, (fun W R ρ0 own0 hown => noSums (by kernel_rfl)), .of (runLi gl a.val n'.val) ?_⟩
    clear hr
    exact ⟨rfl, rfl, rfl, rfl, rfl, rfl, rfl, rfl⟩
  · cases hr
def opL (op : Int) (l : List Int) : Ln := ⟨⟨op, l.getD 0 0, l.getD 1 0, l.getD 2 0, 0⟩, ByteArray.empty, ByteArray.empty, false⟩
def rOp (op : SI) (l : List Int) (n : Nat) : ORes := { v := .agg (RT.line.enc (opL op.val l)) }
def kOp : List SVal → Nat → Acc ORes := fun a n => match a with
  | [.int .i64 op, .ro .i64 l] => .ret (rOp op l n)
  | [.int .i64 op, .nilslice] => .ret (rOp op (nilR .i64) n)
  | [.int .i64 op, .own q] => .look q fun cc => match cc with
    | some (.recs .i64 l) => .ret ({ rOp op l n with ws := [(q, none)] })
    | _ => .fail "Op"
  | _ => .fail "Op"
theorem argOp (op : SI) (l : List Int) : (all (subL tAtN none' [] deep [.int .i64 op] [.int .i64 (.full op.val)])) = (
  SI.val op = SI.val op) := by kernel_rfl
theorem runOp (gl : List (Nat × SVal)) (op : SI) (l : List Int) : (Tr.sat (plainQ (.agg (RT.line.enc (opL op.val l)))) (run (env gl []) [] (bodyOf Tryd.f51) (start ([.int .i64 (.full op.val)] ++ [.ro .i64 l]) 34) (ends (env gl []) Tryd.f51.results.toList))) = (
  (decide ((0 : Int) < (↑(List.length l) : Int)) = true → ((0 : Int) ≤ (0 : Int) ∧ (0 : Int) < (↑(List.length l) : Int)) ∧ ((0 : Int) ≤ (0 : Int) ∧ (0 : Int) < (↑(List.length l) : Int) → (decide ((1 : Int) < (↑(List.length l) : Int)) = true → ((0 : Int) ≤ (1 : Int) ∧ (1 : Int) < (↑(List.length l) : Int)) ∧ ((0 : Int) ≤ (1 : Int) ∧ (1 : Int) < (↑(List.length l) : Int) → (decide ((2 : Int) < (↑(List.length l) : Int)) = true → ((0 : Int) ≤ (2 : Int) ∧ (2 : Int) < (↑(List.length l) : Int)) ∧ ((0 : Int) ≤ (2 : Int) ∧ (2 : Int) < (↑(List.length l) : Int) → SI.val op = (opL (SI.val op) l).i.op ∧ List.getD l (Int.toNat (0 : Int)) (RT.dflt RT.i64) = (opL (SI.val op) l).i.a ∧ List.getD l (Int.toNat (1 : Int)) (RT.dflt RT.i64) = (opL (SI.val op) l).i.b ∧ List.getD l (Int.toNat (2 : Int)) (RT.dflt RT.i64) = (opL (SI.val op) l).i.c ∧ (0 : Int) = (opL (SI.val op) l).i.imm ∧ ByteArray.empty = (opL (SI.val op) l).name ∧ ByteArray.empty = (opL (SI.val op) l).sym ∧ false = (opL (SI.val op) l).table)) ∧ (decide ((2 : Int) < (↑(List.length l) : Int)) = false → SI.val op = (opL (SI.val op) l).i.op ∧ List.getD l (Int.toNat (0 : Int)) (RT.dflt RT.i64) = (opL (SI.val op) l).i.a ∧ List.getD l (Int.toNat (1 : Int)) (RT.dflt RT.i64) = (opL (SI.val op) l).i.b ∧ (0 : Int) = (opL (SI.val op) l).i.c ∧ (0 : Int) = (opL (SI.val op) l).i.imm ∧ ByteArray.empty = (opL (SI.val op) l).name ∧ ByteArray.empty = (opL (SI.val op) l).sym ∧ false = (opL (SI.val op) l).table))) ∧ (decide ((1 : Int) < (↑(List.length l) : Int)) = false → (decide ((2 : Int) < (↑(List.length l) : Int)) = true → ((0 : Int) ≤ (2 : Int) ∧ (2 : Int) < (↑(List.length l) : Int)) ∧ ((0 : Int) ≤ (2 : Int) ∧ (2 : Int) < (↑(List.length l) : Int) → SI.val op = (opL (SI.val op) l).i.op ∧ List.getD l (Int.toNat (0 : Int)) (RT.dflt RT.i64) = (opL (SI.val op) l).i.a ∧ (0 : Int) = (opL (SI.val op) l).i.b ∧ List.getD l (Int.toNat (2 : Int)) (RT.dflt RT.i64) = (opL (SI.val op) l).i.c ∧ (0 : Int) = (opL (SI.val op) l).i.imm ∧ ByteArray.empty = (opL (SI.val op) l).name ∧ ByteArray.empty = (opL (SI.val op) l).sym ∧ false = (opL (SI.val op) l).table)) ∧ (decide ((2 : Int) < (↑(List.length l) : Int)) = false → SI.val op = (opL (SI.val op) l).i.op ∧ List.getD l (Int.toNat (0 : Int)) (RT.dflt RT.i64) = (opL (SI.val op) l).i.a ∧ (0 : Int) = (opL (SI.val op) l).i.b ∧ (0 : Int) = (opL (SI.val op) l).i.c ∧ (0 : Int) = (opL (SI.val op) l).i.imm ∧ ByteArray.empty = (opL (SI.val op) l).name ∧ ByteArray.empty = (opL (SI.val op) l).sym ∧ false = (opL (SI.val op) l).table)))) ∧ (decide ((0 : Int) < (↑(List.length l) : Int)) = false → (decide ((1 : Int) < (↑(List.length l) : Int)) = true → ((0 : Int) ≤ (1 : Int) ∧ (1 : Int) < (↑(List.length l) : Int)) ∧ ((0 : Int) ≤ (1 : Int) ∧ (1 : Int) < (↑(List.length l) : Int) → (decide ((2 : Int) < (↑(List.length l) : Int)) = true → ((0 : Int) ≤ (2 : Int) ∧ (2 : Int) < (↑(List.length l) : Int)) ∧ ((0 : Int) ≤ (2 : Int) ∧ (2 : Int) < (↑(List.length l) : Int) → SI.val op = (opL (SI.val op) l).i.op ∧ (0 : Int) = (opL (SI.val op) l).i.a ∧ List.getD l (Int.toNat (1 : Int)) (RT.dflt RT.i64) = (opL (SI.val op) l).i.b ∧ List.getD l (Int.toNat (2 : Int)) (RT.dflt RT.i64) = (opL (SI.val op) l).i.c ∧ (0 : Int) = (opL (SI.val op) l).i.imm ∧ ByteArray.empty = (opL (SI.val op) l).name ∧ ByteArray.empty = (opL (SI.val op) l).sym ∧ false = (opL (SI.val op) l).table)) ∧ (decide ((2 : Int) < (↑(List.length l) : Int)) = false → SI.val op = (opL (SI.val op) l).i.op ∧ (0 : Int) = (opL (SI.val op) l).i.a ∧ List.getD l (Int.toNat (1 : Int)) (RT.dflt RT.i64) = (opL (SI.val op) l).i.b ∧ (0 : Int) = (opL (SI.val op) l).i.c ∧ (0 : Int) = (opL (SI.val op) l).i.imm ∧ ByteArray.empty = (opL (SI.val op) l).name ∧ ByteArray.empty = (opL (SI.val op) l).sym ∧ false = (opL (SI.val op) l).table))) ∧ (decide ((1 : Int) < (↑(List.length l) : Int)) = false → (decide ((2 : Int) < (↑(List.length l) : Int)) = true → ((0 : Int) ≤ (2 : Int) ∧ (2 : Int) < (↑(List.length l) : Int)) ∧ ((0 : Int) ≤ (2 : Int) ∧ (2 : Int) < (↑(List.length l) : Int) → SI.val op = (opL (SI.val op) l).i.op ∧ (0 : Int) = (opL (SI.val op) l).i.a ∧ (0 : Int) = (opL (SI.val op) l).i.b ∧ List.getD l (Int.toNat (2 : Int)) (RT.dflt RT.i64) = (opL (SI.val op) l).i.c ∧ (0 : Int) = (opL (SI.val op) l).i.imm ∧ ByteArray.empty = (opL (SI.val op) l).name ∧ ByteArray.empty = (opL (SI.val op) l).sym ∧ false = (opL (SI.val op) l).table)) ∧ (decide ((2 : Int) < (↑(List.length l) : Int)) = false → SI.val op = (opL (SI.val op) l).i.op ∧ (0 : Int) = (opL (SI.val op) l).i.a ∧ (0 : Int) = (opL (SI.val op) l).i.b ∧ (0 : Int) = (opL (SI.val op) l).i.c ∧ (0 : Int) = (opL (SI.val op) l).i.imm ∧ ByteArray.empty = (opL (SI.val op) l).name ∧ ByteArray.empty = (opL (SI.val op) l).sym ∧ false = (opL (SI.val op) l).table)))) := by kernel_rfl
theorem gOp (op : SI) (l : List Int) (hv : ∀ q, (rOp op l 0).vc = some q → q) : Tr.sat (plainQ (.agg (RT.line.enc (opL op.val l)))) (run (env gl []) [] (bodyOf Tryd.f51) (start ([.int .i64 (.full op.val)] ++ [.ro .i64 l]) 34) (ends (env gl []) Tryd.f51.results.toList)) := by
  skip
  refine (runOp gl op l).mpr ?_
  generalize op.val = op
  have d0 : RT.i64.dflt = (0 : Int) := rfl
  simp only [d0]
  rcases l with _ | ⟨x, _ | ⟨y, _ | ⟨z, l⟩⟩⟩ <;> simp [opL] <;> omega
set_option maxHeartbeats 4000000 in
theorem cOp : Con ea has gl 51 kOp := by
  refine lastP_mk Tryd.func51 34 (con := []) trivial (fun hA hr hv => ?_) (by kernel_rfl) (by kernel_rfl) Tryd.ntmps51
  unfold kOp at hr; split at hr
  · rename_i op l
    have := ret_ok hr; subst this
    refine ⟨[.int .i64 op], .i64, l, _, [], (.inl ⟨rfl, rfl⟩), rfl, (argOp op l).mpr (by simp), rfl, (fun W R ρ0 own0 hown => noSums (by kernel_rfl)), gOp op l hv⟩
  · rename_i op
    have := ret_ok hr; subst this
    refine ⟨[.int .i64 op], .i64, (nilR .i64), _, [], (.inr (.inl ⟨rfl, rfl, rfl⟩)), rfl, (argOp op (nilR .i64)).mpr (by simp), rfl, (fun W R ρ0 own0 hown => noSums (by kernel_rfl)), gOp op (nilR .i64) hv⟩
  · rename_i op q
    simp only [Acc.run] at hr
    split at hr
    · rename_i l hq
      have := ret_ok hr; subst this
      refine ⟨[.int .i64 op], .i64, l, _, [], (.inr (.inr ⟨q, rfl, hq, rfl⟩)), rfl, (argOp op l).mpr (by simp), rfl, (fun W R ρ0 own0 hown => noSums (by kernel_rfl)), gOp op l hv⟩
    · cases hr
  · cases hr
def HWords' (l : List Int) (i : Nat) : SState := { fr := [(0, .ro .u32 l), (3, .own 0), (4, .int .i64 (.sym i 0 1000000))], hp := [(0, some (.recs .u32 (l.take i)))], next := 1, sz := 22 }
def XWords' (l : List Int) : SState := { fr := [(3, .own 0)], hp := [(0, some (.recs .u32 l))], next := 1, sz := 22 }
def LWords' (l : List Int) : LSum := ⟨HWords' l 0, fun k => k (.exit 0) (XWords' l), l.length ≤ 1000000⟩
theorem bWords' (gl : List (Nat × SVal)) (l : List Int) (i : Nat) : (Tr.sat (rnd1 (env gl []) (fun _ => True) (l.length) (HWords' l) 0 (XWords' l) i) (run (env gl []) [] (loopN (bodyOf Tryd.f84) 0) (HWords' l i) .leaf)) = (
  (decide ((↑i : Int) < (↑(List.length l) : Int)) = true → ((0 : Int) ≤ (↑i : Int) ∧ (↑i : Int) < (↑(List.length l) : Int)) ∧ ((0 : Int) ≤ (↑i : Int) ∧ (↑i : Int) < (↑(List.length l) : Int) → List.length (List.take i l) + List.length [List.getD l (Int.toNat (↑i : Int)) (RT.dflt RT.u32)] ≤ (137438953472 : Nat) ∧ (List.length (List.take i l) + List.length [List.getD l (Int.toNat (↑i : Int)) (RT.dflt RT.u32)] ≤ (137438953472 : Nat) → i < List.length l ∧ True ∧ l = l ∧ (↑i : Int) + (1 : Int) = (↑(i + (1 : Nat)) : Int) ∧ ((0 : Int) ≤ (↑(i + (1 : Nat)) : Int) ∧ (↑(i + (1 : Nat)) : Int) ≤ (1000000 : Int)) ∧ List.take i l ++ [List.getD l (Int.toNat (↑i : Int)) (RT.dflt RT.u32)] = List.take (i + (1 : Nat)) l))) ∧ (decide ((↑i : Int) < (↑(List.length l) : Int)) = false → Nat.beq (0 : Nat) (0 : Nat) = true ∧ List.take i l = l)) := by kernel_rfl
set_option maxHeartbeats 4000000 in
theorem lWords' (l : List Int) {W : World} {R own0 : Nat → Prop} {ρ0 : Nat → Option Value} (hown : HownOk (env gl []) own0 ρ0) : LOk Tryd.prog (env gl []) (ctx ea has) gl W R own0 ρ0 (loopN (bodyOf Tryd.f84) 0) (LWords' l) := by
  refine loop1_ok (env_ok (con := []) trivial) hown (ls := fun i => []) (fun i => noSums (by kernel_rfl)) (fun hm i hi hj => (bWords' gl l i).mpr ?_) 0 (fun hm => by first | exact Nat.zero_le _ | omega) (fun hm => trivial)
  have d0 : RT.u32.dflt = (0 : Int) := rfl
  simp only [d0, Int.toNat_natCast, List.length_singleton, List.length_take]
  refine ⟨fun h => ?_, fun h => ?_⟩
  · have h := of_decide_eq_true h
    have hlt : i < l.length := by omega
    have : l.take i ++ [l.getD i 0] = l.take (i + 1) := by rw [List.take_add_one, List.getElem?_eq_getElem hlt]; simp [hlt]
    refine ⟨by omega, fun _ => ⟨by omega, fun _ => ⟨hlt, trivial, ?_⟩⟩⟩
    simp only [this, true_and, and_true]; omega
  · have h := of_decide_eq_false h
    exact ⟨rfl, List.take_of_length_le (by omega)⟩
def rWords (l : List Int) (n : Nat) : ORes := { v := .ro .u32 l, vc := some (l.length ≤ 1000000) }
def kWords : List SVal → Nat → Acc ORes := fun a n => match a with
  | [.ro .u32 l] => .ret (rWords l n)
  | [.nilslice] => .ret (rWords (nilR .u32) n)
  | [.own q] => .look q fun cc => match cc with
    | some (.recs .u32 l) => .ret ({ rWords l n with ws := [(q, none)] })
    | _ => .fail "Words"
  | _ => .fail "Words"
theorem argWords (l : List Int) : (all (subL tAtN none' [] deep [] [])) = (
  True) := by kernel_rfl
theorem runWords (gl : List (Nat × SVal)) (l : List Int) : (Tr.sat (plainQ (.ro .u32 l)) (run (env gl []) [(3, LWords' l)] (bodyOf Tryd.f84) (start ([] ++ [.ro .u32 l]) 22) (ends (env gl []) Tryd.f84.results.toList))) = (
  ((0 : Int) ≤ (0 : Int) ∧ (0 : Int) ≤ (↑(List.length l) : Int) ∧ (↑(List.length l) : Int) ≤ (137438953472 : Int)) ∧ ((0 : Int) ≤ (0 : Int) ∧ (0 : Int) ≤ (↑(List.length l) : Int) ∧ (↑(List.length l) : Int) ≤ (137438953472 : Int) → (List.length l ≤ (1000000 : Nat) ∧ l = l ∧ (0 : Int) = (↑(0 : Nat) : Int) ∧ List.replicate (Int.toNat (0 : Int)) (RT.dflt RT.u32) = List.take (0 : Nat) l) ∧ (List.length l ≤ (1000000 : Nat) ∧ l = l ∧ (0 : Int) = (↑(0 : Nat) : Int) ∧ List.replicate (Int.toNat (0 : Int)) (RT.dflt RT.u32) = List.take (0 : Nat) l → l = l))) := by kernel_rfl
theorem gWords (l : List Int) (hv : ∀ q, (rWords l 0).vc = some q → q) : Tr.sat (plainQ (.ro .u32 l)) (run (env gl []) [(3, LWords' l)] (bodyOf Tryd.f84) (start ([] ++ [.ro .u32 l]) 22) (ends (env gl []) Tryd.f84.results.toList)) := by
  replace hv := hv _ rfl
  refine (runWords gl l).mpr ?_
  refine ⟨by omega, fun _ => ⟨⟨hv, rfl, rfl, rfl⟩, fun _ => rfl⟩⟩
set_option maxHeartbeats 4000000 in
theorem cWords : Con ea has gl 84 kWords := by
  refine lastP_mk Tryd.func84 22 (con := []) trivial (fun hA hr hv => ?_) (by kernel_rfl) (by kernel_rfl) Tryd.ntmps84
  unfold kWords at hr; split at hr
  · rename_i l
    have := ret_ok hr; subst this
    refine ⟨[], .u32, l, _, [(3, LWords' l)], (.inl ⟨rfl, rfl⟩), rfl, (argWords l).mpr (by simp), rfl, (fun W R ρ0 own0 hown => hl1 (by kernel_rfl) (by kernel_rfl) (lWords' l hown)), gWords l hv⟩
  · skip
    have := ret_ok hr; subst this
    refine ⟨[], .u32, (nilR .u32), _, [(3, LWords' (nilR .u32))], (.inr (.inl ⟨rfl, rfl, rfl⟩)), rfl, (argWords (nilR .u32)).mpr (by simp), rfl, (fun W R ρ0 own0 hown => hl1 (by kernel_rfl) (by kernel_rfl) (lWords' (nilR .u32) hown)), gWords (nilR .u32) hv⟩
  · rename_i q
    simp only [Acc.run] at hr
    split at hr
    · rename_i l hq
      have := ret_ok hr; subst this
      refine ⟨[], .u32, l, _, [(3, LWords' l)], (.inr (.inr ⟨q, rfl, hq, rfl⟩)), rfl, (argWords l).mpr (by simp), rfl, (fun W R ρ0 own0 hown => hl1 (by kernel_rfl) (by kernel_rfl) (lWords' l hown)), gWords l hv⟩
    · cases hr
  · cases hr
end
end Go.Proofs.YtceebkojjmmjmaaDoor

