/- Contracts that the proofs use. -/
import Derived.Test.YtacmmedhjebfjaaGreatDoorQLinkNames5
set_option linter.unusedVariables false
set_option linter.unusedSimpArgs false
set_option linter.unusedSectionVars false
namespace Go.Proofs.YtacmmedhjebfjaaGreatDoor
open Go.RowKit Go.Sy Go.Fac
section
variable {ea : Ear} {has : Int → Prop} {rest : List (Nat × SVal)} [ht : Nonempty (EType ea)]
def kTo : List SVal → Nat → Acc ORes := fun a n => match a with | [.int .i64 op, .int .i64 a, .str nm] => .ret ({ v := .agg (RT.line.enc ⟨⟨op.val, a.val, 0, 0, 0⟩, ByteArray.empty, nm, false⟩) }) | _ => .fail "To"
theorem argTo (op a : SI) (nm : ByteArray) : (all (subL tAtN none' [] deep [.int .i64 op, .int .i64 a, .str nm] [.int .i64 (.full op.val), .int .i64 (.full a.val), .str nm])) = (
 SI.val op = SI.val op ∧ SI.val a = SI.val a ∧ nm = nm) := by kernel_rfl
theorem runTo (rest : List (Nat × SVal)) (op : Int) (a : Int) (nm : ByteArray) : (Tr.sat (plainQ (.agg (RT.line.enc ⟨⟨op, a, 0, 0, 0⟩, ByteArray.empty, nm, false⟩))) (run (env (G7 ++ rest) []) [] (bodyOf Tryz.f13) (start [.int .i64 (.full op), .int .i64 (.full a), .str nm] 12) (ends (env (G7 ++ rest) []) Tryz.f13.results.toList))) = (
 op = op ∧ a = a ∧ (0 : Int) = (0 : Int) ∧ (0 : Int) = (0 : Int) ∧ (0 : Int) = (0 : Int) ∧ ByteArray.empty = ByteArray.empty ∧ nm = nm ∧ false = false) := by kernel_rfl
set_option maxHeartbeats 4000000 in
theorem cTo : Con ea has (G7 ++ rest) 13 kTo := by
 refine plain_mkB Tryz.func13 12 (con := []) trivial (fun hA hr hv => ?_) (by kernel_rfl) (by kernel_rfl) Tryz.ntmps13
 unfold kTo at hr; split at hr
 ·rename_i op a nm
  have := ret_ok hr; subst this
  refine ⟨_, [], rfl, rfl, .of (argTo op a nm) (by simp), rfl, (fun W R ρ0 own0 hown => noSums (by kernel_rfl)), .of (runTo rest op.val a.val nm) ?_⟩
  clear hr
  exact ⟨rfl, rfl, rfl, rfl, rfl, rfl, rfl, rfl⟩
 ·cases hr
def kObjectR : List SVal → Nat → Acc ORes := fun a n => match a with | [.ro .u32 dd, .ro .line ls] => .ret ({ v := obV dd (oAll ls).code (oAll ls).map (nilR .rel) (oAll ls).cr (oAll ls).sy, vc := some (ls.length ≤ 100000 ∧ shortN dd) }) | _ => .fail "ObjectR"
theorem argObjectR (dd : List Int) (ls : List Ln) : (all (subL tAtN none' [] deep [.ro .u32 dd, .ro .line ls] [.ro .u32 dd, .ro .line ls])) = (
 dd = dd ∧ ls = ls) := by kernel_rfl
theorem runObjectR (rest : List (Nat × SVal)) (dd : List Int) (ls : List Ln) : (Tr.sat (plainQ (obV dd (oAll ls).code (oAll ls).map (nilR .rel) (oAll ls).cr (oAll ls).sy)) (run (env (G7 ++ rest) [(18, kWords), (19, kSym), (20, krWord), (21, krTwo)]) [(3, LObj dd ls)] (bodyOf Tryz.f10) (start [.ro .u32 dd, .ro .line ls] 132) (ends (env (G7 ++ rest) [(18, kWords), (19, kSym), (20, krWord), (21, krTwo)]) Tryz.f10.results.toList))) = (
 RQ (List.length dd ≤ 1000000) (RQ (List.length ls ≤ 100000 ∧ ls = ls ∧ (0 : Int) = (↑(0 : Nat) : Int) ∧ dd = dd ∧ (oSt ls (0 : Nat)).code = @List.nil (RT.ty RT.u32) ∧ (oSt ls (0 : Nat)).map = @List.nil (RT.ty RT.u8) ∧ (oSt ls (0 : Nat)).cr = @List.nil (RT.ty RT.rel) ∧ (oSt ls (0 : Nat)).sy = @List.nil (RT.ty RT.sym)) (dd = dd ∧ (oAll ls).code = (oAll ls).code ∧ (oAll ls).map = (oAll ls).map ∧ nilR RT.rel = @List.nil (RT.ty RT.rel) ∧ (oAll ls).cr = (oAll ls).cr ∧ (oAll ls).sy = (oAll ls).sy))) := by kernel_rfl
set_option maxHeartbeats 4000000 in
theorem cObjectR : Con ea has (G7 ++ rest) 10 kObjectR := by
 refine plain_mkB Tryz.func10 132 (con := [(18, kWords), (19, kSym), (20, krWord), (21, krTwo)]) ⟨cWords, cSym, crWord, crTwo, trivial⟩ (fun hA hr hv => ?_) (by kernel_rfl) (by kernel_rfl) Tryz.ntmps10
 unfold kObjectR at hr; split at hr
 ·rename_i dd ls
  have := ret_ok hr; subst this
  replace hv := hv _ rfl
  refine ⟨_, [(3, LObj dd ls)], rfl, rfl, .of (argObjectR dd ls) (by simp), rfl, (fun W R ρ0 own0 hown => hl1 (by kernel_rfl) (by kernel_rfl) (lObj dd ls hown)), .of (runObjectR rest dd ls) ?_⟩
  delta RQ
  clear hr
  exact ⟨hv.2, fun _ => ⟨⟨hv.1, rfl, rfl, rfl, rfl, rfl, rfl, rfl⟩, fun _ => ⟨rfl, rfl, rfl, rfl, rfl, rfl⟩⟩⟩
 ·cases hr
abbrev kObjectRF := frz shObj kObjectR
theorem cObjectRF : Con ea has (G7 ++ rest) 10 kObjectRF := frz_ok cObjectR shObj
abbrev kLinkF := frz [.ro .obj] kLinkC
theorem cLinkF : Con ea has (G7 ++ rest) 11 kLinkF := frz_ok cLinkC _
def kfirst13 : List SVal → Nat → Acc ORes := fun a n => match a with | [] => .ret ({ v := .bool (.lit true) }) | _ => .fail "first13"
theorem argfirst13  : (all (subL tAtN none' [] deep [] [])) = (
 True) := by kernel_rfl
theorem runfirst13 (rest : List (Nat × SVal)) : (Tr.sat (plainQ (.bool (.lit true))) (run (env (G7 ++ rest) [(7, kAt), (9, kOp), (10, kObjectRF), (11, kLinkF)]) [] (bodyOf Tryz.f5) (start [] 25) (ends (env (G7 ++ rest) [(7, kAt), (9, kOp), (10, kObjectRF), (11, kLinkF)]) Tryz.f5.results.toList))) = (
 RQ (List.length [Ln.mk (In5.mk (0 : Int) (0 : Int) (0 : Int) (0 : Int) (0 : Int)) (ByteArray.mk #[(109 : UInt8), (97 : UInt8), (105 : UInt8), (110 : UInt8)]) ByteArray.empty false, opL (1 : Int) (nilR RT.i64)] ≤ 100000 ∧ shortN (@List.nil (RT.ty RT.u32))) (true = true)) := by kernel_rfl
set_option maxHeartbeats 4000000 in
theorem cfirst13 : Con ea has (G7 ++ rest) 5 kfirst13 := by
 refine plain_mkB Tryz.func5 25 (con := [(7, kAt), (9, kOp), (10, kObjectRF), (11, kLinkF)]) ⟨cAt, cOp, cObjectRF, cLinkF, trivial⟩ (fun hA hr hv => ?_) (by kernel_rfl) (by kernel_rfl) Tryz.ntmps5
 unfold kfirst13 at hr; split at hr
 ·skip
  have := ret_ok hr; subst this
  refine ⟨_, [], rfl, rfl, .of (argfirst13 ) (by simp), rfl, (fun W R ρ0 own0 hown => noSums (by kernel_rfl)), .of (runfirst13 rest ) ?_⟩
  delta RQ
  clear hr
  exact ⟨⟨by simp, Nat.zero_le _⟩, fun _ => rfl⟩
 ·cases hr
end
end Go.Proofs.YtacmmedhjebfjaaGreatDoor
