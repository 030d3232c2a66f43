/- Contracts that the proofs use. -/
import Derived.Test.YtbdfibaljoedpaaDoorQFnVal
set_option linter.unusedVariables false
set_option linter.unusedSimpArgs false
namespace Go.Proofs.YtbdfibaljoedpaaDoor
open Go.RowKit Go.Sy Go.Fac
section
variable {ea : Int → Addr} {has : Int → Prop} {gl : List (Nat × SVal)}
def nilR (t : RT) : List t.ty := []
def kAt : List SVal → Nat → Acc ORes := fun a n => match a with | [.str nm] => .ret ({ v := .agg (RT.line.enc ⟨⟨0, 0, 0, 0, 0⟩, nm, ByteArray.empty, false⟩) }) | _ => .fail "At"
theorem argAt (nm : ByteArray) : (all (subL 134 none' [] deep [.str nm] [.str nm])) = (
  nm = nm) := by kernel_rfl
theorem runAt (gl : List (Nat × SVal)) (nm : ByteArray) : (Tr.sat (plainQ (.agg (RT.line.enc ⟨⟨0, 0, 0, 0, 0⟩, nm, ByteArray.empty, false⟩))) (run (env gl []) [] (bodyOf Tryd.f23) (start [.str nm] 5) (ends (env gl []) Tryd.f23.results.toList))) = (
  (0 : Int) = (Ln.mk (In5.mk (0 : Int) (0 : Int) (0 : Int) (0 : Int) (0 : Int)) nm ByteArray.empty false).i.op ∧ (0 : Int) = (Ln.mk (In5.mk (0 : Int) (0 : Int) (0 : Int) (0 : Int) (0 : Int)) nm ByteArray.empty false).i.a ∧ (0 : Int) = (Ln.mk (In5.mk (0 : Int) (0 : Int) (0 : Int) (0 : Int) (0 : Int)) nm ByteArray.empty false).i.b ∧ (0 : Int) = (Ln.mk (In5.mk (0 : Int) (0 : Int) (0 : Int) (0 : Int) (0 : Int)) nm ByteArray.empty false).i.c ∧ (0 : Int) = (Ln.mk (In5.mk (0 : Int) (0 : Int) (0 : Int) (0 : Int) (0 : Int)) nm ByteArray.empty false).i.imm ∧ nm = (Ln.mk (In5.mk (0 : Int) (0 : Int) (0 : Int) (0 : Int) (0 : Int)) nm ByteArray.empty false).name ∧ ByteArray.empty = (Ln.mk (In5.mk (0 : Int) (0 : Int) (0 : Int) (0 : Int) (0 : Int)) nm ByteArray.empty false).sym ∧ false = (Ln.mk (In5.mk (0 : Int) (0 : Int) (0 : Int) (0 : Int) (0 : Int)) nm ByteArray.empty false).table) := by kernel_rfl
set_option maxHeartbeats 4000000 in
theorem cAt : Con ea has gl 23 kAt := by
  refine plain_mk Tryd.func23 5 (con := []) trivial (fun hA hr hv => ?_) (by kernel_rfl) (by kernel_rfl) Tryd.ntmps23
  unfold kAt at hr; split at hr
  · rename_i nm
    have := ret_ok hr; subst this
    refine ⟨_, [], rfl, rfl, (argAt nm).mpr (by simp), rfl, (fun W R ρ0 own0 hown => noLoops (by kernel_rfl)), (runAt gl nm).mpr ?_⟩
    clear hr
    exact ⟨rfl, rfl, rfl, rfl, rfl, rfl, rfl, rfl⟩
  · cases hr
def kLi : List SVal → Nat → Acc ORes := fun a n => match a with | [.int .i64 a, .int .u32 n'] => .ret ({ v := .agg (RT.line.enc ⟨⟨14, a.val, 0, 0, n'.val⟩, ByteArray.empty, ByteArray.empty, false⟩) }) | _ => .fail "Li"
theorem argLi (a n' : SI) : (all (subL 134 none' [] deep [.int .i64 a, .int .u32 n'] [.int .i64 (.full a.val), .int .u32 (.full n'.val)])) = (
  SI.val a = SI.val a ∧ SI.val n' = SI.val n') := by kernel_rfl
theorem runLi (gl : List (Nat × SVal)) (a n' : SI) : (Tr.sat (plainQ (.agg (RT.line.enc ⟨⟨14, a.val, 0, 0, n'.val⟩, ByteArray.empty, ByteArray.empty, false⟩))) (run (env gl []) [] (bodyOf Tryd.f55) (start [.int .i64 (.full a.val), .int .u32 (.full n'.val)] 9) (ends (env gl []) Tryd.f55.results.toList))) = (
  (14 : Int) = (Ln.mk (In5.mk (14 : Int) (SI.val a) (0 : Int) (0 : Int) (SI.val n')) ByteArray.empty ByteArray.empty false).i.op ∧ SI.val a = (Ln.mk (In5.mk (14 : Int) (SI.val a) (0 : Int) (0 : Int) (SI.val n')) ByteArray.empty ByteArray.empty false).i.a ∧ (0 : Int) = (Ln.mk (In5.mk (14 : Int) (SI.val a) (0 : Int) (0 : Int) (SI.val n')) ByteArray.empty ByteArray.empty false).i.b ∧ (0 : Int) = (Ln.mk (In5.mk (14 : Int) (SI.val a) (0 : Int) (0 : Int) (SI.val n')) ByteArray.empty ByteArray.empty false).i.c ∧ SI.val n' = (Ln.mk (In5.mk (14 : Int) (SI.val a) (0 : Int) (0 : Int) (SI.val n')) ByteArray.empty ByteArray.empty false).i.imm ∧ ByteArray.empty = (Ln.mk (In5.mk (14 : Int) (SI.val a) (0 : Int) (0 : Int) (SI.val n')) ByteArray.empty ByteArray.empty false).name ∧ ByteArray.empty = (Ln.mk (In5.mk (14 : Int) (SI.val a) (0 : Int) (0 : Int) (SI.val n')) ByteArray.empty ByteArray.empty false).sym ∧ false = (Ln.mk (In5.mk (14 : Int) (SI.val a) (0 : Int) (0 : Int) (SI.val n')) ByteArray.empty ByteArray.empty false).table) := by kernel_rfl
set_option maxHeartbeats 4000000 in
theorem cLi : Con ea has gl 55 kLi := by
  refine plain_mk Tryd.func55 9 (con := []) trivial (fun hA hr hv => ?_) (by kernel_rfl) (by kernel_rfl) Tryd.ntmps55
  unfold kLi at hr; split at hr
  · rename_i a n'
    have := ret_ok hr; subst this
    refine ⟨_, [], rfl, rfl, (argLi a n').mpr (by simp), rfl, (fun W R ρ0 own0 hown => noLoops (by kernel_rfl)), (runLi gl a n').mpr ?_⟩
    clear hr
    exact ⟨rfl, rfl, rfl, rfl, rfl, rfl, rfl, rfl⟩
  · cases hr
def opL (op : Int) (l : List Int) : Ln := ⟨⟨op, l.getD 0 0, l.getD 1 0, l.getD 2 0, 0⟩, ByteArray.empty, ByteArray.empty, false⟩
def rOp (op : SI) (l : List Int) (n : Nat) : ORes := { v := .agg (RT.line.enc (opL op.val l)) }
def kOp : List SVal → Nat → Acc ORes := fun a n => match a with
  | [.int .i64 op, .ro .i64 l] => .ret (rOp op l n)
  | [.int .i64 op, .nilslice] => .ret (rOp op (nilR .i64) n)
  | [.int .i64 op, .own q] => .look q fun cc => match cc with
    | some (.recs .i64 l) => .ret ({ rOp op l n with ws := [(q, none)] })
    | _ => .fail "Op"
  | _ => .fail "Op"
theorem argOp (op : SI) (l : List Int) : (all (subL 134 none' [] deep [.int .i64 op] [.int .i64 (.full op.val)])) = (
  SI.val op = SI.val op) := by kernel_rfl
theorem runOp (gl : List (Nat × SVal)) (op : SI) (l : List Int) : (Tr.sat (plainQ (.agg (RT.line.enc (opL op.val l)))) (run (env gl []) [] (bodyOf Tryd.f22) (start ([.int .i64 (.full op.val)] ++ [.ro .i64 l]) 34) (ends (env gl []) Tryd.f22.results.toList))) = (
  (decide ((0 : Int) < (↑(List.length l) : Int)) = true → ((0 : Int) ≤ (0 : Int) ∧ (0 : Int) < (↑(List.length l) : Int)) ∧ ((0 : Int) ≤ (0 : Int) ∧ (0 : Int) < (↑(List.length l) : Int) → (decide ((1 : Int) < (↑(List.length l) : Int)) = true → ((0 : Int) ≤ (1 : Int) ∧ (1 : Int) < (↑(List.length l) : Int)) ∧ ((0 : Int) ≤ (1 : Int) ∧ (1 : Int) < (↑(List.length l) : Int) → (decide ((2 : Int) < (↑(List.length l) : Int)) = true → ((0 : Int) ≤ (2 : Int) ∧ (2 : Int) < (↑(List.length l) : Int)) ∧ ((0 : Int) ≤ (2 : Int) ∧ (2 : Int) < (↑(List.length l) : Int) → SI.val op = (opL (SI.val op) l).i.op ∧ List.getD l (Int.toNat (0 : Int)) (RT.dflt RT.i64) = (opL (SI.val op) l).i.a ∧ List.getD l (Int.toNat (1 : Int)) (RT.dflt RT.i64) = (opL (SI.val op) l).i.b ∧ List.getD l (Int.toNat (2 : Int)) (RT.dflt RT.i64) = (opL (SI.val op) l).i.c ∧ (0 : Int) = (opL (SI.val op) l).i.imm ∧ ByteArray.empty = (opL (SI.val op) l).name ∧ ByteArray.empty = (opL (SI.val op) l).sym ∧ false = (opL (SI.val op) l).table)) ∧ (decide ((2 : Int) < (↑(List.length l) : Int)) = false → SI.val op = (opL (SI.val op) l).i.op ∧ List.getD l (Int.toNat (0 : Int)) (RT.dflt RT.i64) = (opL (SI.val op) l).i.a ∧ List.getD l (Int.toNat (1 : Int)) (RT.dflt RT.i64) = (opL (SI.val op) l).i.b ∧ (0 : Int) = (opL (SI.val op) l).i.c ∧ (0 : Int) = (opL (SI.val op) l).i.imm ∧ ByteArray.empty = (opL (SI.val op) l).name ∧ ByteArray.empty = (opL (SI.val op) l).sym ∧ false = (opL (SI.val op) l).table))) ∧ (decide ((1 : Int) < (↑(List.length l) : Int)) = false → (decide ((2 : Int) < (↑(List.length l) : Int)) = true → ((0 : Int) ≤ (2 : Int) ∧ (2 : Int) < (↑(List.length l) : Int)) ∧ ((0 : Int) ≤ (2 : Int) ∧ (2 : Int) < (↑(List.length l) : Int) → SI.val op = (opL (SI.val op) l).i.op ∧ List.getD l (Int.toNat (0 : Int)) (RT.dflt RT.i64) = (opL (SI.val op) l).i.a ∧ (0 : Int) = (opL (SI.val op) l).i.b ∧ List.getD l (Int.toNat (2 : Int)) (RT.dflt RT.i64) = (opL (SI.val op) l).i.c ∧ (0 : Int) = (opL (SI.val op) l).i.imm ∧ ByteArray.empty = (opL (SI.val op) l).name ∧ ByteArray.empty = (opL (SI.val op) l).sym ∧ false = (opL (SI.val op) l).table)) ∧ (decide ((2 : Int) < (↑(List.length l) : Int)) = false → SI.val op = (opL (SI.val op) l).i.op ∧ List.getD l (Int.toNat (0 : Int)) (RT.dflt RT.i64) = (opL (SI.val op) l).i.a ∧ (0 : Int) = (opL (SI.val op) l).i.b ∧ (0 : Int) = (opL (SI.val op) l).i.c ∧ (0 : Int) = (opL (SI.val op) l).i.imm ∧ ByteArray.empty = (opL (SI.val op) l).name ∧ ByteArray.empty = (opL (SI.val op) l).sym ∧ false = (opL (SI.val op) l).table)))) ∧ (decide ((0 : Int) < (↑(List.length l) : Int)) = false → (decide ((1 : Int) < (↑(List.length l) : Int)) = true → ((0 : Int) ≤ (1 : Int) ∧ (1 : Int) < (↑(List.length l) : Int)) ∧ ((0 : Int) ≤ (1 : Int) ∧ (1 : Int) < (↑(List.length l) : Int) → (decide ((2 : Int) < (↑(List.length l) : Int)) = true → ((0 : Int) ≤ (2 : Int) ∧ (2 : Int) < (↑(List.length l) : Int)) ∧ ((0 : Int) ≤ (2 : Int) ∧ (2 : Int) < (↑(List.length l) : Int) → SI.val op = (opL (SI.val op) l).i.op ∧ (0 : Int) = (opL (SI.val op) l).i.a ∧ List.getD l (Int.toNat (1 : Int)) (RT.dflt RT.i64) = (opL (SI.val op) l).i.b ∧ List.getD l (Int.toNat (2 : Int)) (RT.dflt RT.i64) = (opL (SI.val op) l).i.c ∧ (0 : Int) = (opL (SI.val op) l).i.imm ∧ ByteArray.empty = (opL (SI.val op) l).name ∧ ByteArray.empty = (opL (SI.val op) l).sym ∧ false = (opL (SI.val op) l).table)) ∧ (decide ((2 : Int) < (↑(List.length l) : Int)) = false → SI.val op = (opL (SI.val op) l).i.op ∧ (0 : Int) = (opL (SI.val op) l).i.a ∧ List.getD l (Int.toNat (1 : Int)) (RT.dflt RT.i64) = (opL (SI.val op) l).i.b ∧ (0 : Int) = (opL (SI.val op) l).i.c ∧ (0 : Int) = (opL (SI.val op) l).i.imm ∧ ByteArray.empty = (opL (SI.val op) l).name ∧ ByteArray.empty = (opL (SI.val op) l).sym ∧ false = (opL (SI.val op) l).table))) ∧ (decide ((1 : Int) < (↑(List.length l) : Int)) = false → (decide ((2 : Int) < (↑(List.length l) : Int)) = true → ((0 : Int) ≤ (2 : Int) ∧ (2 : Int) < (↑(List.length l) : Int)) ∧ ((0 : Int) ≤ (2 : Int) ∧ (2 : Int) < (↑(List.length l) : Int) → SI.val op = (opL (SI.val op) l).i.op ∧ (0 : Int) = (opL (SI.val op) l).i.a ∧ (0 : Int) = (opL (SI.val op) l).i.b ∧ List.getD l (Int.toNat (2 : Int)) (RT.dflt RT.i64) = (opL (SI.val op) l).i.c ∧ (0 : Int) = (opL (SI.val op) l).i.imm ∧ ByteArray.empty = (opL (SI.val op) l).name ∧ ByteArray.empty = (opL (SI.val op) l).sym ∧ false = (opL (SI.val op) l).table)) ∧ (decide ((2 : Int) < (↑(List.length l) : Int)) = false → SI.val op = (opL (SI.val op) l).i.op ∧ (0 : Int) = (opL (SI.val op) l).i.a ∧ (0 : Int) = (opL (SI.val op) l).i.b ∧ (0 : Int) = (opL (SI.val op) l).i.c ∧ (0 : Int) = (opL (SI.val op) l).i.imm ∧ ByteArray.empty = (opL (SI.val op) l).name ∧ ByteArray.empty = (opL (SI.val op) l).sym ∧ false = (opL (SI.val op) l).table)))) := by kernel_rfl
theorem gOp (op : SI) (l : List Int) (hv : ∀ q, (rOp op l 0).vc = some q → q) : Tr.sat (plainQ (.agg (RT.line.enc (opL op.val l)))) (run (env gl []) [] (bodyOf Tryd.f22) (start ([.int .i64 (.full op.val)] ++ [.ro .i64 l]) 34) (ends (env gl []) Tryd.f22.results.toList)) := by
  skip
  refine (runOp gl op l).mpr ?_
  generalize op.val = op
  have d0 : RT.i64.dflt = (0 : Int) := rfl
  simp only [d0]
  rcases l with _ | ⟨x, _ | ⟨y, _ | ⟨z, l⟩⟩⟩ <;> simp [opL] <;> omega
set_option maxHeartbeats 4000000 in
theorem cOp : Con ea has gl 22 kOp := by
  refine lastP_mk Tryd.func22 34 (con := []) trivial (fun hA hr hv => ?_) (by kernel_rfl) (by kernel_rfl) Tryd.ntmps22
  unfold kOp at hr; split at hr
  · rename_i op l
    have := ret_ok hr; subst this
    refine ⟨[.int .i64 op], .i64, l, _, [], (.inl ⟨rfl, rfl⟩), rfl, (argOp op l).mpr (by simp), rfl, (fun W R ρ0 own0 hown => noLoops (by kernel_rfl)), gOp op l hv⟩
  · rename_i op
    have := ret_ok hr; subst this
    refine ⟨[.int .i64 op], .i64, (nilR .i64), _, [], (.inr (.inl ⟨rfl, rfl, rfl⟩)), rfl, (argOp op (nilR .i64)).mpr (by simp), rfl, (fun W R ρ0 own0 hown => noLoops (by kernel_rfl)), gOp op (nilR .i64) hv⟩
  · rename_i op q
    simp only [Acc.run] at hr
    split at hr
    · rename_i l hq
      have := ret_ok hr; subst this
      refine ⟨[.int .i64 op], .i64, l, _, [], (.inr (.inr ⟨q, rfl, hq, rfl⟩)), rfl, (argOp op l).mpr (by simp), rfl, (fun W R ρ0 own0 hown => noLoops (by kernel_rfl)), gOp op l hv⟩
    · cases hr
  · cases hr
def HWords' (l : List Int) (i : Nat) : SState := { fr := [(0, .ro .u32 l), (3, .own 0), (4, .int .i64 (.sym i 0 1000000))], hp := [(0, some (.recs .u32 (l.take i)))], next := 1, sz := 22 }
def XWords' (l : List Int) : SState := { fr := [(3, .own 0)], hp := [(0, some (.recs .u32 l))], next := 1, sz := 22 }
def LWords' (l : List Int) : LSum := ⟨HWords' l 0, fun k => k (.exit 0) (XWords' l), l.length ≤ 1000000⟩
theorem bWords' (gl : List (Nat × SVal)) (l : List Int) (i : Nat) : (Tr.sat (rnd1 (env gl []) (fun _ => True) (l.length) (HWords' l) 0 (XWords' l) i) (run (env gl []) [] (loopN (bodyOf Tryd.f61) 0) (HWords' l i) .leaf)) = (
  (decide ((↑i : Int) < (↑(List.length l) : Int)) = true → ((0 : Int) ≤ (↑i : Int) ∧ (↑i : Int) < (↑(List.length l) : Int)) ∧ ((0 : Int) ≤ (↑i : Int) ∧ (↑i : Int) < (↑(List.length l) : Int) → List.length (List.take i l) + List.length [List.getD l (Int.toNat (↑i : Int)) (RT.dflt RT.u32)] ≤ (137438953472 : Nat) ∧ (List.length (List.take i l) + List.length [List.getD l (Int.toNat (↑i : Int)) (RT.dflt RT.u32)] ≤ (137438953472 : Nat) → i < List.length l ∧ True ∧ l = l ∧ (↑i : Int) + (1 : Int) = (↑(i + (1 : Nat)) : Int) ∧ ((0 : Int) ≤ (↑(i + (1 : Nat)) : Int) ∧ (↑(i + (1 : Nat)) : Int) ≤ (1000000 : Int)) ∧ List.take i l ++ [List.getD l (Int.toNat (↑i : Int)) (RT.dflt RT.u32)] = List.take (i + (1 : Nat)) l))) ∧ (decide ((↑i : Int) < (↑(List.length l) : Int)) = false → Nat.beq (0 : Nat) (0 : Nat) = true ∧ List.take i l = l)) := by kernel_rfl
set_option maxHeartbeats 4000000 in
theorem lWords' (l : List Int) {W : World} {R own0 : Nat → Prop} {ρ0 : Nat → Option Value} (hown : HownOk (env gl []) own0 ρ0) : LOk Tryd.prog (env gl []) (ctx ea has) gl W R own0 ρ0 (loopN (bodyOf Tryd.f61) 0) (LWords' l) := by
  refine loop1_ok (env_ok (con := []) trivial) hown (ls := fun i => []) (fun i => noLoops (by kernel_rfl)) (fun hm i hi hj => (bWords' gl l i).mpr ?_) 0 (fun hm => by first | exact Nat.zero_le _ | omega) (fun hm => trivial)
  have d0 : RT.u32.dflt = (0 : Int) := rfl
  simp only [d0, Int.toNat_natCast, List.length_singleton, List.length_take]
  refine ⟨fun h => ?_, fun h => ?_⟩
  · have h := of_decide_eq_true h
    have hlt : i < l.length := by omega
    have : l.take i ++ [l.getD i 0] = l.take (i + 1) := by rw [List.take_add_one, List.getElem?_eq_getElem hlt]; simp [hlt]
    refine ⟨by omega, fun _ => ⟨by omega, fun _ => ⟨hlt, trivial, ?_⟩⟩⟩
    simp only [this, true_and, and_true]; omega
  · have h := of_decide_eq_false h
    exact ⟨rfl, List.take_of_length_le (by omega)⟩
def rWords (l : List Int) (n : Nat) : ORes := { v := .ro .u32 l, vc := some (l.length ≤ 1000000) }
def kWords : List SVal → Nat → Acc ORes := fun a n => match a with
  | [.ro .u32 l] => .ret (rWords l n)
  | [.nilslice] => .ret (rWords (nilR .u32) n)
  | [.own q] => .look q fun cc => match cc with
    | some (.recs .u32 l) => .ret ({ rWords l n with ws := [(q, none)] })
    | _ => .fail "Words"
  | _ => .fail "Words"
theorem argWords (l : List Int) : (all (subL 134 none' [] deep [] [])) = (
  True) := by kernel_rfl
theorem runWords (gl : List (Nat × SVal)) (l : List Int) : (Tr.sat (plainQ (.ro .u32 l)) (run (env gl []) [(3, LWords' l)] (bodyOf Tryd.f61) (start ([] ++ [.ro .u32 l]) 22) (ends (env gl []) Tryd.f61.results.toList))) = (
  ((0 : Int) ≤ (0 : Int) ∧ (0 : Int) ≤ (↑(List.length l) : Int) ∧ (↑(List.length l) : Int) ≤ (137438953472 : Int)) ∧ ((0 : Int) ≤ (0 : Int) ∧ (0 : Int) ≤ (↑(List.length l) : Int) ∧ (↑(List.length l) : Int) ≤ (137438953472 : Int) → (List.length l ≤ (1000000 : Nat) ∧ l = l ∧ (0 : Int) = (↑(0 : Nat) : Int) ∧ List.replicate (Int.toNat (0 : Int)) (RT.dflt RT.u32) = List.take (0 : Nat) l) ∧ (List.length l ≤ (1000000 : Nat) ∧ l = l ∧ (0 : Int) = (↑(0 : Nat) : Int) ∧ List.replicate (Int.toNat (0 : Int)) (RT.dflt RT.u32) = List.take (0 : Nat) l → l = l))) := by kernel_rfl
theorem gWords (l : List Int) (hv : ∀ q, (rWords l 0).vc = some q → q) : Tr.sat (plainQ (.ro .u32 l)) (run (env gl []) [(3, LWords' l)] (bodyOf Tryd.f61) (start ([] ++ [.ro .u32 l]) 22) (ends (env gl []) Tryd.f61.results.toList)) := by
  replace hv := hv _ rfl
  refine (runWords gl l).mpr ?_
  refine ⟨by omega, fun _ => ⟨⟨hv, rfl, rfl, rfl⟩, fun _ => rfl⟩⟩
set_option maxHeartbeats 4000000 in
theorem cWords : Con ea has gl 61 kWords := by
  refine lastP_mk Tryd.func61 22 (con := []) trivial (fun hA hr hv => ?_) (by kernel_rfl) (by kernel_rfl) Tryd.ntmps61
  unfold kWords at hr; split at hr
  · rename_i l
    have := ret_ok hr; subst this
    refine ⟨[], .u32, l, _, [(3, LWords' l)], (.inl ⟨rfl, rfl⟩), rfl, (argWords l).mpr (by simp), rfl, (fun W R ρ0 own0 hown => hl1 (by kernel_rfl) (by kernel_rfl) (lWords' l hown)), gWords l hv⟩
  · skip
    have := ret_ok hr; subst this
    refine ⟨[], .u32, (nilR .u32), _, [(3, LWords' (nilR .u32))], (.inr (.inl ⟨rfl, rfl, rfl⟩)), rfl, (argWords (nilR .u32)).mpr (by simp), rfl, (fun W R ρ0 own0 hown => hl1 (by kernel_rfl) (by kernel_rfl) (lWords' (nilR .u32) hown)), gWords (nilR .u32) hv⟩
  · rename_i q
    simp only [Acc.run] at hr
    split at hr
    · rename_i l hq
      have := ret_ok hr; subst this
      refine ⟨[], .u32, l, _, [(3, LWords' l)], (.inr (.inr ⟨q, rfl, hq, rfl⟩)), rfl, (argWords l).mpr (by simp), rfl, (fun W R ρ0 own0 hown => hl1 (by kernel_rfl) (by kernel_rfl) (lWords' l hown)), gWords l hv⟩
    · cases hr
  · cases hr
def krTwo : List SVal → Nat → Acc ORes := fun a n => match a with | [.int .i64 op] => .ret ({ v := .bool (.sym (isaTwo op.val)) }) | _ => .fail "rTwo"
theorem argrTwo (op : SI) : (all (subL 134 none' [] deep [.int .i64 op] [.int .i64 (.full op.val)])) = (
  SI.val op = SI.val op) := by kernel_rfl
theorem runrTwo (gl : List (Nat × SVal)) (op : SI) : (Tr.sat (plainQ (.bool (.sym (isaTwo op.val)))) (run (env gl []) [] (bodyOf Tryd.f64) (start [.int .i64 (.full op.val)] 29) (ends (env gl []) Tryd.f64.results.toList))) = (
  (decide (SI.val op = (14 : Int)) || decide (SI.val op = (15 : Int)) || decide (SI.val op = (19 : Int)) || decide (SI.val op = (20 : Int)) || decide (SI.val op = (21 : Int)) || decide (SI.val op = (22 : Int)) || decide (SI.val op = (96 : Int))) = isaTwo (SI.val op)) := by kernel_rfl
set_option maxHeartbeats 4000000 in
theorem crTwo : Con ea has gl 64 krTwo := by
  refine plain_mk Tryd.func64 29 (con := []) trivial (fun hA hr hv => ?_) (by kernel_rfl) (by kernel_rfl) Tryd.ntmps64
  unfold krTwo at hr; split at hr
  · rename_i op
    have := ret_ok hr; subst this
    refine ⟨_, [], rfl, rfl, (argrTwo op).mpr (by simp), rfl, (fun W R ρ0 own0 hown => noLoops (by kernel_rfl)), (runrTwo gl op).mpr ?_⟩
    clear hr
    rfl
  · cases hr
def regB (n : Int) (h : Bool) : Bool := decide (n = 0) || h && decide (0 < n) && decide (n < 16)
def kreg : List SVal → Nat → Acc ORes := fun a n => match a with | [.int .i64 n', .bool b] => .ret ({ v := .bool (.sym (regB n'.val b.val)) }) | _ => .fail "reg"
theorem argreg (n' : SI) (b : SB) : (all (subL 134 none' [] deep [.int .i64 n', .bool b] [.int .i64 (.full n'.val), .bool (.sym b.val)])) = (
  SI.val n' = SI.val n' ∧ SB.val b = SB.val b) := by kernel_rfl
theorem runreg (gl : List (Nat × SVal)) (n' : SI) (b : SB) : (Tr.sat (plainQ (.bool (.sym (regB n'.val b.val)))) (run (env gl []) [] (bodyOf Tryd.f99) (start [.int .i64 (.full n'.val), .bool (.sym b.val)] 18) (ends (env gl []) Tryd.f99.results.toList))) = (
  (decide (SI.val n' = (0 : Int)) || SB.val b && decide ((0 : Int) < SI.val n') && decide (SI.val n' < (16 : Int))) = regB (SI.val n') (SB.val b)) := by kernel_rfl
set_option maxHeartbeats 4000000 in
theorem creg : Con ea has gl 99 kreg := by
  refine plain_mk Tryd.func99 18 (con := []) trivial (fun hA hr hv => ?_) (by kernel_rfl) (by kernel_rfl) Tryd.ntmps99
  unfold kreg at hr; split at hr
  · rename_i n' b
    have := ret_ok hr; subst this
    refine ⟨_, [], rfl, rfl, (argreg n' b).mpr (by simp), rfl, (fun W R ρ0 own0 hown => noLoops (by kernel_rfl)), (runreg gl n' b).mpr ?_⟩
    clear hr
    rfl
  · cases hr
def kUses : List SVal → Nat → Acc ORes := fun a n => match a with | [.int .i64 op] => .ret ({ v := .tuple [.bool (.sym (uA op.val)), .bool (.sym (uB op.val)), .bool (.sym (uC op.val)), .bool (.sym (uN op.val))] }) | _ => .fail "Uses"
theorem argUses (op : SI) : (all (subL 134 none' [] deep [.int .i64 op] [.int .i64 (.full op.val)])) = (
  SI.val op = SI.val op) := by kernel_rfl
theorem runUses (gl : List (Nat × SVal)) (op : SI) : (Tr.sat (plainQ (.tuple [.bool (.sym (uA op.val)), .bool (.sym (uB op.val)), .bool (.sym (uC op.val)), .bool (.sym (uN op.val))])) (run (env gl []) [] (bodyOf Tryd.f97) (start [.int .i64 (.full op.val)] 40) (ends (env gl []) Tryd.f97.results.toList))) = (
  (decide (SI.val op = (1 : Int)) = true → false = uA (SI.val op) ∧ false = uB (SI.val op) ∧ false = uC (SI.val op) ∧ false = uN (SI.val op)) ∧ (decide (SI.val op = (1 : Int)) = false → (decide (SI.val op = (34 : Int)) = true → false = uA (SI.val op) ∧ false = uB (SI.val op) ∧ false = uC (SI.val op) ∧ false = uN (SI.val op)) ∧ (decide (SI.val op = (34 : Int)) = false → (decide (SI.val op = (42 : Int)) = true → false = uA (SI.val op) ∧ false = uB (SI.val op) ∧ false = uC (SI.val op) ∧ false = uN (SI.val op)) ∧ (decide (SI.val op = (42 : Int)) = false → (decide (SI.val op = (64 : Int)) = true → false = uA (SI.val op) ∧ false = uB (SI.val op) ∧ false = uC (SI.val op) ∧ false = uN (SI.val op)) ∧ (decide (SI.val op = (64 : Int)) = false → (decide (SI.val op = (65 : Int)) = true → false = uA (SI.val op) ∧ false = uB (SI.val op) ∧ false = uC (SI.val op) ∧ false = uN (SI.val op)) ∧ (decide (SI.val op = (65 : Int)) = false → (decide (SI.val op = (19 : Int)) = true → false = uA (SI.val op) ∧ false = uB (SI.val op) ∧ false = uC (SI.val op) ∧ false = uN (SI.val op)) ∧ (decide (SI.val op = (19 : Int)) = false → (decide (SI.val op = (22 : Int)) = true → false = uA (SI.val op) ∧ false = uB (SI.val op) ∧ false = uC (SI.val op) ∧ false = uN (SI.val op)) ∧ (decide (SI.val op = (22 : Int)) = false → (decide (SI.val op = (96 : Int)) = true → false = uA (SI.val op) ∧ false = uB (SI.val op) ∧ false = uC (SI.val op) ∧ false = uN (SI.val op)) ∧ (decide (SI.val op = (96 : Int)) = false → (decide (SI.val op = (2 : Int)) = true → true = uA (SI.val op) ∧ true = uB (SI.val op) ∧ false = uC (SI.val op) ∧ false = uN (SI.val op)) ∧ (decide (SI.val op = (2 : Int)) = false → (decide (SI.val op = (37 : Int)) = true → true = uA (SI.val op) ∧ true = uB (SI.val op) ∧ false = uC (SI.val op) ∧ false = uN (SI.val op)) ∧ (decide (SI.val op = (37 : Int)) = false → (decide (SI.val op = (38 : Int)) = true → true = uA (SI.val op) ∧ true = uB (SI.val op) ∧ false = uC (SI.val op) ∧ false = uN (SI.val op)) ∧ (decide (SI.val op = (38 : Int)) = false → (decide (SI.val op = (41 : Int)) = true → true = uA (SI.val op) ∧ true = uB (SI.val op) ∧ false = uC (SI.val op) ∧ false = uN (SI.val op)) ∧ (decide (SI.val op = (41 : Int)) = false → (decide (SI.val op = (12 : Int)) = true → true = uA (SI.val op) ∧ true = uB (SI.val op) ∧ true = uC (SI.val op) ∧ true = uN (SI.val op)) ∧ (decide (SI.val op = (12 : Int)) = false → (decide (SI.val op = (13 : Int)) = true → true = uA (SI.val op) ∧ true = uB (SI.val op) ∧ true = uC (SI.val op) ∧ true = uN (SI.val op)) ∧ (decide (SI.val op = (13 : Int)) = false → (decide (SI.val op = (16 : Int)) = true → false = uA (SI.val op) ∧ false = uB (SI.val op) ∧ true = uC (SI.val op) ∧ true = uN (SI.val op)) ∧ (decide (SI.val op = (16 : Int)) = false → (decide (SI.val op = (17 : Int)) = true → true = uA (SI.val op) ∧ false = uB (SI.val op) ∧ true = uC (SI.val op) ∧ true = uN (SI.val op)) ∧ (decide (SI.val op = (17 : Int)) = false → (decide (SI.val op = (18 : Int)) = true → true = uA (SI.val op) ∧ false = uB (SI.val op) ∧ true = uC (SI.val op) ∧ true = uN (SI.val op)) ∧ (decide (SI.val op = (18 : Int)) = false → (decide (SI.val op = (3 : Int)) = true → true = uA (SI.val op) ∧ true = uB (SI.val op) ∧ true = uC (SI.val op) ∧ false = uN (SI.val op)) ∧ (decide (SI.val op = (3 : Int)) = false → (decide (SI.val op = (4 : Int)) = true → true = uA (SI.val op) ∧ true = uB (SI.val op) ∧ true = uC (SI.val op) ∧ false = uN (SI.val op)) ∧ (decide (SI.val op = (4 : Int)) = false → (decide (SI.val op = (5 : Int)) = true → true = uA (SI.val op) ∧ true = uB (SI.val op) ∧ true = uC (SI.val op) ∧ false = uN (SI.val op)) ∧ (decide (SI.val op = (5 : Int)) = false → (decide (SI.val op = (6 : Int)) = true → true = uA (SI.val op) ∧ true = uB (SI.val op) ∧ true = uC (SI.val op) ∧ false = uN (SI.val op)) ∧ (decide (SI.val op = (6 : Int)) = false → (decide (SI.val op = (7 : Int)) = true → true = uA (SI.val op) ∧ true = uB (SI.val op) ∧ true = uC (SI.val op) ∧ false = uN (SI.val op)) ∧ (decide (SI.val op = (7 : Int)) = false → (decide (SI.val op = (8 : Int)) = true → true = uA (SI.val op) ∧ true = uB (SI.val op) ∧ true = uC (SI.val op) ∧ false = uN (SI.val op)) ∧ (decide (SI.val op = (8 : Int)) = false → (decide (SI.val op = (9 : Int)) = true → true = uA (SI.val op) ∧ true = uB (SI.val op) ∧ true = uC (SI.val op) ∧ false = uN (SI.val op)) ∧ (decide (SI.val op = (9 : Int)) = false → (decide (SI.val op = (10 : Int)) = true → true = uA (SI.val op) ∧ true = uB (SI.val op) ∧ true = uC (SI.val op) ∧ false = uN (SI.val op)) ∧ (decide (SI.val op = (10 : Int)) = false → (decide (SI.val op = (11 : Int)) = true → true = uA (SI.val op) ∧ true = uB (SI.val op) ∧ true = uC (SI.val op) ∧ false = uN (SI.val op)) ∧ (decide (SI.val op = (11 : Int)) = false → (decide (SI.val op = (24 : Int)) = true → true = uA (SI.val op) ∧ true = uB (SI.val op) ∧ true = uC (SI.val op) ∧ false = uN (SI.val op)) ∧ (decide (SI.val op = (24 : Int)) = false → true = uA (SI.val op) ∧ false = uB (SI.val op) ∧ false = uC (SI.val op) ∧ false = uN (SI.val op))))))))))))))))))))))))))))) := by kernel_rfl
set_option maxHeartbeats 4000000 in
theorem cUses : Con ea has gl 97 kUses := by
  refine plain_mk Tryd.func97 40 (con := []) trivial (fun hA hr hv => ?_) (by kernel_rfl) (by kernel_rfl) Tryd.ntmps97
  unfold kUses at hr; split at hr
  · rename_i op
    have := ret_ok hr; subst this
    refine ⟨_, [], rfl, rfl, (argUses op).mpr (by simp), rfl, (fun W R ρ0 own0 hown => noLoops (by kernel_rfl)), (runUses gl op).mpr ?_⟩
    clear hr
    generalize op.val = op
    simp only [decide_eq_true_eq, decide_eq_false_iff_not]
    repeat (first | (intro h; subst h; decide) | (with_reducible intro _) | (with_reducible refine ⟨?_, fun _ => ?_⟩))
    all_goals (refine ⟨?_, ?_, ?_, ?_⟩ <;> simp [uA, uB, uC, uN, *] <;> omega)
  · cases hr
theorem uN_uC {op : Int} (h : uN op = true) : uC op = true := by
  simp only [uN, uC, Bool.or_eq_true, beq_iff_eq] at h ⊢
  omega
theorem ref_ok (op a b c imm : Int) : (uN op = true → (!decide (isaClass op = 0) && regB a (uA op) && regB b (uB op) && (isaTwo op || decide (imm = 0)) && decide (0 ≤ c) && decide (c ≤ 255)) = wordOk op a b c imm) ∧
    (uN op = false → (!decide (isaClass op = 0) && regB a (uA op) && regB b (uB op) && (isaTwo op || decide (imm = 0)) && regB c (uC op)) = wordOk op a b c imm) := by
  cases hc : (isaClass op == 0) with
  | true =>
    have : isaClass op = 0 := by simpa using hc
    simp [wordOk, this]
  | false =>
    have hne : ¬ isaClass op = 0 := by simpa using hc
    unfold wordOk
    rw [fitsA_ok hc, fitsB_ok hc, fitsC_ok hc, hc]
    refine ⟨fun h => ?_, fun h => ?_⟩
    · have hC := uN_uC h
      rw [Bool.eq_iff_iff]
      unfold okA okB Fac.okC regB
      rw [h, hC]
      cases uA op <;> cases uB op <;> cases isaTwo op <;> simp [hne] <;> omega
    · rw [Bool.eq_iff_iff]
      unfold okA okB Fac.okC regB
      rw [h]
      cases uA op <;> cases uB op <;> cases uC op <;> cases isaTwo op <;> simp [hne] <;> omega
def krWord : List SVal → Nat → Acc ORes := fun a n => match a with | [.agg [.int .i64 op, .int .i64 a, .int .i64 b, .int .i64 c, .int .u32 imm]] => .ret ({ v := .tuple [.int .u32 (.full (wordW op.val a.val b.val c.val imm.val)), .bool (.sym (wordOk op.val a.val b.val c.val imm.val))] }) | _ => .fail "rWord"
theorem argrWord (op a b c imm : SI) : (all (subL 134 none' [] deep [.agg [.int .i64 op, .int .i64 a, .int .i64 b, .int .i64 c, .int .u32 imm]] [.agg [.int .i64 (.full op.val), .int .i64 (.full a.val), .int .i64 (.full b.val), .int .i64 (.full c.val), .int .u32 (.full imm.val)]])) = (
  SI.val op = SI.val op ∧ SI.val a = SI.val a ∧ SI.val b = SI.val b ∧ SI.val c = SI.val c ∧ SI.val imm = SI.val imm) := by kernel_rfl
theorem runrWord (gl : List (Nat × SVal)) (op a b c imm : SI) : (Tr.sat (plainQ (.tuple [.int .u32 (.full (wordW op.val a.val b.val c.val imm.val)), .bool (.sym (wordOk op.val a.val b.val c.val imm.val))])) (run (env gl [(97, kUses), (19, krClass), (99, kreg), (64, krTwo)]) [] (bodyOf Tryd.f63) (start [.agg [.int .i64 (.full op.val), .int .i64 (.full a.val), .int .i64 (.full b.val), .int .i64 (.full c.val), .int .u32 (.full imm.val)]] 82) (ends (env gl [(97, kUses), (19, krClass), (99, kreg), (64, krTwo)]) Tryd.f63.results.toList))) = (
  (uN (SI.val op) = true → ((!(!decide (isaClass (SI.val op) = (0 : Int)) && regB (SI.val a) (uA (SI.val op)) && regB (SI.val b) (uB (SI.val op)) && (isaTwo (SI.val op) || decide (SI.val imm = (0 : Int))) && decide ((0 : Int) ≤ SI.val c) && decide (SI.val c ≤ (255 : Int)))) = true → (0 : Int) = wordW (SI.val op) (SI.val a) (SI.val b) (SI.val c) (SI.val imm) ∧ false = wordOk (SI.val op) (SI.val a) (SI.val b) (SI.val c) (SI.val imm)) ∧ ((!(!decide (isaClass (SI.val op) = (0 : Int)) && regB (SI.val a) (uA (SI.val op)) && regB (SI.val b) (uB (SI.val op)) && (isaTwo (SI.val op) || decide (SI.val imm = (0 : Int))) && decide ((0 : Int) ≤ SI.val c) && decide (SI.val c ≤ (255 : Int)))) = false → bits BinOp.or IntKind.u32 (bits BinOp.or IntKind.u32 (bits BinOp.or IntKind.u32 (IntKind.wrap IntKind.u32 (IntKind.wrap IntKind.u32 (SI.val op) * (16777216 : Int))) (IntKind.wrap IntKind.u32 (IntKind.wrap IntKind.u32 (SI.val a) * (65536 : Int)))) (IntKind.wrap IntKind.u32 (IntKind.wrap IntKind.u32 (SI.val b) * (256 : Int)))) (IntKind.wrap IntKind.u32 (SI.val c)) = wordW (SI.val op) (SI.val a) (SI.val b) (SI.val c) (SI.val imm) ∧ true = wordOk (SI.val op) (SI.val a) (SI.val b) (SI.val c) (SI.val imm))) ∧ (uN (SI.val op) = false → ((!(!decide (isaClass (SI.val op) = (0 : Int)) && regB (SI.val a) (uA (SI.val op)) && regB (SI.val b) (uB (SI.val op)) && (isaTwo (SI.val op) || decide (SI.val imm = (0 : Int))) && regB (SI.val c) (uC (SI.val op)))) = true → (0 : Int) = wordW (SI.val op) (SI.val a) (SI.val b) (SI.val c) (SI.val imm) ∧ false = wordOk (SI.val op) (SI.val a) (SI.val b) (SI.val c) (SI.val imm)) ∧ ((!(!decide (isaClass (SI.val op) = (0 : Int)) && regB (SI.val a) (uA (SI.val op)) && regB (SI.val b) (uB (SI.val op)) && (isaTwo (SI.val op) || decide (SI.val imm = (0 : Int))) && regB (SI.val c) (uC (SI.val op)))) = false → bits BinOp.or IntKind.u32 (bits BinOp.or IntKind.u32 (bits BinOp.or IntKind.u32 (IntKind.wrap IntKind.u32 (IntKind.wrap IntKind.u32 (SI.val op) * (16777216 : Int))) (IntKind.wrap IntKind.u32 (IntKind.wrap IntKind.u32 (SI.val a) * (65536 : Int)))) (IntKind.wrap IntKind.u32 (IntKind.wrap IntKind.u32 (SI.val b) * (256 : Int)))) (IntKind.wrap IntKind.u32 (SI.val c)) = wordW (SI.val op) (SI.val a) (SI.val b) (SI.val c) (SI.val imm) ∧ true = wordOk (SI.val op) (SI.val a) (SI.val b) (SI.val c) (SI.val imm)))) := by kernel_rfl
set_option maxHeartbeats 4000000 in
theorem crWord : Con ea has gl 63 krWord := by
  refine plain_mk Tryd.func63 82 (con := [(97, kUses), (19, krClass), (99, kreg), (64, krTwo)]) ⟨cUses, crClass, creg, crTwo, trivial⟩ (fun hA hr hv => ?_) (by kernel_rfl) (by kernel_rfl) Tryd.ntmps63
  unfold krWord at hr; split at hr
  · rename_i op a b c imm
    have := ret_ok hr; subst this
    refine ⟨_, [], rfl, rfl, (argrWord op a b c imm).mpr (by simp), rfl, (fun W R ρ0 own0 hown => noLoops (by kernel_rfl)), (runrWord gl op a b c imm).mpr ?_⟩
    clear hr
    clear hA hv
    generalize op.val = op
    generalize a.val = a
    generalize b.val = b
    generalize c.val = c
    generalize imm.val = imm
    have h1 := (ref_ok op a b c imm).1
    have h2 := (ref_ok op a b c imm).2
    have fin : ((!wordOk op a b c imm) = true → 0 = wordW op a b c imm ∧ false = wordOk op a b c imm) ∧ ((!wordOk op a b c imm) = false →
        bits BinOp.or IntKind.u32 (bits BinOp.or IntKind.u32 (bits BinOp.or IntKind.u32 (IntKind.u32.wrap (IntKind.u32.wrap op * 16777216)) (IntKind.u32.wrap (IntKind.u32.wrap a * 65536))) (IntKind.u32.wrap (IntKind.u32.wrap b * 256))) (IntKind.u32.wrap c) = wordW op a b c imm ∧ true = wordOk op a b c imm) := by
      refine ⟨fun h => ?_, fun h => ?_⟩
      · have h : wordOk op a b c imm = false := by simpa using h
        rw [wordW, h]; exact ⟨rfl, rfl⟩
      · have h : wordOk op a b c imm = true := by simpa using h
        refine ⟨?_, h.symm⟩
        rw [wordW, if_pos h]
        unfold wordOk at h
        simp only [Bool.and_eq_true, Bool.not_eq_true'] at h
        obtain ⟨⟨⟨⟨g1, g2⟩, g3⟩, g4⟩, _⟩ := h
        have := class_in g1
        simp only [IntKind.wrap_u32]
        exact word_bits (by omega) (fits_in g2) (fits_in g3) (fits_in g4)
    refine ⟨fun h => ?_, fun h => ?_⟩
    · rw [h1 h]; exact fin
    · rw [h2 h]; exact fin
  · cases hr
end
end Go.Proofs.YtbdfibaljoedpaaDoor

