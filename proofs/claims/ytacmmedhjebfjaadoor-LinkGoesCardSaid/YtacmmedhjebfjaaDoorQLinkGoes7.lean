/- Contracts that the proofs use. -/
import Derived.Test.YtacmmedhjebfjaaDoorQLinkGoes6
import Derived.Test.YtacmmedhjebfjaaDoorRows
set_option linter.unusedVariables false
set_option linter.unusedSimpArgs false
set_option linter.unusedSectionVars false
namespace Go.Proofs.YtacmmedhjebfjaaDoor
open Go.RowKit Go.Sy Go.Fac
section
variable {ea : Ear} {has : Int → Prop} {rest : List (Nat × SVal)} [ht : Nonempty (EType ea)]
def kObjectR : List SVal → Nat → Acc ORes := fun a n => match a with | [.ro .u32 dd, .ro .line ls] => .ret ({ v := obV dd (oAll ls).code (oAll ls).map (nilR .rel) (oAll ls).cr (oAll ls).sy, vc := some (ls.length ≤ 100000 ∧ shortN dd) }) | _ => .fail "ObjectR"
theorem argObjectR (dd : List Int) (ls : List Ln) : (all (subL tAtN none' [] deep [.ro .u32 dd, .ro .line ls] [.ro .u32 dd, .ro .line ls])) = (
  dd = dd ∧ ls = ls) := by kernel_rfl
theorem runObjectR (rest : List (Nat × SVal)) (dd : List Int) (ls : List Ln) : (Tr.sat (plainQ (obV dd (oAll ls).code (oAll ls).map (nilR .rel) (oAll ls).cr (oAll ls).sy)) (run (env (G7 ++ rest) [(33, kWords), (34, kSym), (32, krWord), (31, krTwo)]) [(3, LObj dd ls)] (bodyOf Tryd.f18) (start [.ro .u32 dd, .ro .line ls] 132) (ends (env (G7 ++ rest) [(33, kWords), (34, kSym), (32, krWord), (31, krTwo)]) Tryd.f18.results.toList))) = (
  RQ (List.length dd ≤ (1000000 : Nat)) (RQ (List.length ls ≤ (100000 : Nat) ∧ ls = ls ∧ (0 : Int) = (↑(0 : Nat) : Int) ∧ dd = dd ∧ (oSt ls (0 : Nat)).code = @List.nil (RT.ty RT.u32) ∧ (oSt ls (0 : Nat)).map = @List.nil (RT.ty RT.u8) ∧ (oSt ls (0 : Nat)).cr = @List.nil (RT.ty RT.rel) ∧ (oSt ls (0 : Nat)).sy = @List.nil (RT.ty RT.sym)) (dd = dd ∧ (oAll ls).code = (oAll ls).code ∧ (oAll ls).map = (oAll ls).map ∧ nilR RT.rel = @List.nil (RT.ty RT.rel) ∧ (oAll ls).cr = (oAll ls).cr ∧ (oAll ls).sy = (oAll ls).sy))) := by kernel_rfl
set_option maxHeartbeats 4000000 in
theorem cObjectR : Con ea has (G7 ++ rest) 18 kObjectR := by
  refine plain_mkB Tryd.func18 132 (con := [(33, kWords), (34, kSym), (32, krWord), (31, krTwo)]) ⟨cWords, cSym, crWord, crTwo, trivial⟩ (fun hA hr hv => ?_) (by kernel_rfl) (by kernel_rfl) Tryd.ntmps18
  unfold kObjectR at hr; split at hr
  · rename_i dd ls
    have := ret_ok hr; subst this
    replace hv := hv _ rfl
    refine ⟨_, [(3, LObj dd ls)], rfl, rfl, .of (argObjectR dd ls) (by simp), rfl, (fun W R ρ0 own0 hown => hl1 (by kernel_rfl) (by kernel_rfl) (lObj dd ls hown)), .of (runObjectR rest dd ls) ?_⟩
    delta RQ
    clear hr
    exact ⟨hv.2, fun _ => ⟨⟨hv.1, rfl, rfl, rfl, rfl, rfl, rfl, rfl⟩, fun _ => ⟨rfl, rfl, rfl, rfl, rfl, rfl⟩⟩⟩
  · cases hr
abbrev kObjectRF := frz shObj kObjectR
theorem cObjectRF : Con ea has (G7 ++ rest) 18 kObjectRF := frz_ok cObjectR shObj
def amongB (l : List Int) (n : Int) : Bool := decide (n ∈ l)
theorem amongB_iff {l : List Int} {n : Int} : amongB l n = true ↔ n ∈ l := by unfold amongB; exact decide_eq_true_iff
def HAmong (l : List Int) (n' : Int) (i : Nat) : SState := { fr := [(0, .ro .i64 l), (1, .int .i64 (.full n')), (5, .int .i64 (.sym i 0 1000000))], hp := [], next := 0, sz := 18 }
def XAmong (l : List Int) (n' : Int) : SState := { fr := [], hp := [], next := 0, sz := 18 }
def YAmong (l : List Int) (n' : Int) : SState := { fr := [(4, .bool (.lit true))], hp := [], next := 0, sz := 18 }
def LAmong (l : List Int) (n' : Int) : LSum := ⟨HAmong l n' 0, fun k => .ite (!amongB l n') (k (.exit 0) (XAmong l n')) (k .ret (YAmong l n')), l.length ≤ 1000000⟩
theorem bAmong (rest : List (Nat × SVal)) (l : List Int) (n' : Int) (i : Nat) : (Tr.sat (rnd2 (env (G7 ++ rest) []) (fun i => ∀ j, j < i → l.getD j 0 ≠ n') (l.length) (HAmong l n') 0 (!amongB l n') (XAmong l n') (YAmong l n') i) (run (env (G7 ++ rest) []) [] (loopN (bodyOf Tryd.f11) 0) (HAmong l n' i) .leaf)) = (
  IT (decide ((↑i : Int) < (↑(List.length l) : Int))) (RQ ((0 : Int) ≤ (↑i : Int) ∧ (↑i : Int) < (↑(List.length l) : Int)) (IT (decide (List.getD l (Int.toNat (↑i : Int)) (RT.dflt RT.i64) = n')) ((!amongB l n') = false ∧ true = true) (i < List.length l ∧ (∀ (j : Nat), j < i + (1 : Nat) → List.getD l j (0 : Int) ≠ n') ∧ l = l ∧ n' = n' ∧ (↑i : Int) + (1 : Int) = (↑(i + (1 : Nat)) : Int) ∧ (0 : Int) ≤ (↑(i + (1 : Nat)) : Int) ∧ (↑(i + (1 : Nat)) : Int) ≤ (1000000 : Int)))) (Nat.beq (0 : Nat) (0 : Nat) = true ∧ (!amongB l n') = true ∧ True)) := by kernel_rfl
set_option maxHeartbeats 4000000 in
theorem lAmong (l : List Int) (n' : Int) {W : World} {R own0 : Nat → Prop} {ρ0 : Nat → Option Value} (hown : HownOk (env (G7 ++ rest) []) own0 ρ0) : LOk Tryd.prog (env (G7 ++ rest) []) (ctx ea has) (G7 ++ rest) W R own0 ρ0 (loopN (bodyOf Tryd.f11) 0) (LAmong l n') := by
  refine loop2_ok (J := fun i => ∀ j, j < i → l.getD j 0 ≠ n') (N := l.length) (H := HAmong l n') (X := XAmong l n') (Y := YAmong l n') (env_ok (con := []) trivial) hown (ls := fun i => []) (fun i => noSums (by kernel_rfl)) (fun hm i hi hj => ?_) 0 (fun hm => by first | exact Nat.zero_le _ | omega) (fun hm => fun j h => absurd h (Nat.not_lt_zero _))
  rw [bAmong rest l n' i]
  delta RQ IT
  simp only [Int.toNat_natCast, eq_self, true_and, and_true]
  have d0 : RT.i64.dflt = (0 : Int) := rfl
  rw [d0]
  refine ⟨fun h => ?_, fun h => ?_⟩
  · have h := of_decide_eq_true h
    have hlt : i < l.length := by omega
    refine ⟨by omega, fun _ => ⟨fun g1 => ?_, fun g1 => ?_⟩⟩
    · have g1 := of_decide_eq_true g1
      have : n' ∈ l := by rw [← g1, List.getD_eq_getElem?_getD, List.getElem?_eq_getElem hlt]; exact List.getElem_mem hlt
      rw [amongB_iff.2 this]; rfl
    · have g1 := of_decide_eq_false g1
      have hJ : ∀ j, j < i + 1 → l.getD j 0 ≠ n' := fun j hj' => by
        by_cases e : j < i
        · exact hj j e
        · have : j = i := by omega
          subst this; exact g1
      have w : IntKind.i64.wrap ((i : Int) + 1) = i + 1 := by rw [IntKind.wrap_i64]; omega
      first | exact ⟨hlt, hJ, by omega, by omega, by omega⟩ | exact ⟨hlt, hJ, by omega, by omega⟩
  · have h := of_decide_eq_false h
    have : i = l.length := by omega
    have hn : n' ∉ l := fun hmem => by
      obtain ⟨j, hj', e⟩ := List.getElem_of_mem hmem
      have := hj j (by omega)
      rw [List.getD_eq_getElem?_getD, List.getElem?_eq_getElem hj'] at this
      exact this e
    have : amongB l n' = false := by
      cases h : amongB l n' with
      | false => rfl
      | true => exact absurd (amongB_iff.1 h) hn
    rw [this]; exact ⟨rfl, rfl⟩
def kAmong : List SVal → Nat → Acc ORes := fun a n => match a with | [.ro .i64 l, .int .i64 n'] => .ret ({ v := .bool (.sym (amongB l n'.val)), vc := some (l.length ≤ 1000000) }) | _ => .fail "Among"
theorem argAmong (l : List Int) (n' : SI) : (all (subL tAtN none' [] deep [.ro .i64 l, .int .i64 n'] [.ro .i64 l, .int .i64 (.full n'.val)])) = (
  l = l ∧ SI.val n' = SI.val n') := by kernel_rfl
theorem runAmong (rest : List (Nat × SVal)) (l : List Int) (n' : Int) : (Tr.sat (plainQ (.bool (.sym (amongB l n')))) (run (env (G7 ++ rest) []) [(2, LAmong l n')] (bodyOf Tryd.f11) (start [.ro .i64 l, .int .i64 (.full n')] 18) (ends (env (G7 ++ rest) []) Tryd.f11.results.toList))) = (
  RQ (List.length l ≤ (1000000 : Nat) ∧ l = l ∧ n' = n' ∧ (0 : Int) = (↑(0 : Nat) : Int)) (IT (!amongB l n') (false = amongB l n') (true = amongB l n'))) := by kernel_rfl
set_option maxHeartbeats 4000000 in
theorem cAmong : Con ea has (G7 ++ rest) 11 kAmong := by
  refine plain_mkB Tryd.func11 18 (con := []) trivial (fun hA hr hv => ?_) (by kernel_rfl) (by kernel_rfl) Tryd.ntmps11
  unfold kAmong at hr; split at hr
  · rename_i l n'
    have := ret_ok hr; subst this
    replace hv := hv _ rfl
    refine ⟨_, [(2, LAmong l n'.val)], rfl, rfl, .of (argAmong l n') (by simp), rfl, (fun W R ρ0 own0 hown => hl1 (by kernel_rfl) (by kernel_rfl) (lAmong l n'.val hown)), .of (runAmong rest l n'.val) ?_⟩
    delta RQ IT
    clear hr
    clear hA
    generalize n'.val = m at *
    refine ⟨⟨hv, rfl, rfl, rfl⟩, fun _ => ⟨fun h => ?_, fun h => ?_⟩⟩
    · have h : amongB l m = false := by simpa using h
      rw [h]
    · have h : amongB l m = true := by simpa using h
      rw [h]
  · cases hr
def heavy (l : List Ob) (w : Int) (i : Nat) : Bool := !(!lightB (obN l i).data (obN l i).code (obN l i).map (obN l i).drels (obN l i).crels (obN l i).syms w && noneP (longP (obN l i).syms) (obN l i).syms.length)
def objsB (l : List Ob) (many w : Int) : Bool := !decide (many < (l.length : Int)) && noneP (heavy l w) l.length
def HObjs (l : List Ob) (w : Int) (i : Nat) : SState := { fr := [(0, .ro .obj l), (2, .int .i64 (.full w)), (7, .int .i64 (.sym i 0 1000000))], hp := [], next := 0, sz := 25 }
def XObjs (l : List Ob) (w : Int) : SState := { fr := [], hp := [], next := 0, sz := 25 }
def YObjs (l : List Ob) (w : Int) : SState := { fr := [(6, .bool (.lit false))], hp := [], next := 0, sz := 25 }
def LObjs (l : List Ob) (w : Int) : LSum := ⟨HObjs l w 0, fun k => .ite (noneP (heavy l w) l.length) (k (.exit 0) (XObjs l w)) (k .ret (YObjs l w)), l.length ≤ 1000000 ∧ 0 ≤ w ∧ w ≤ 1000000⟩
theorem bObjs (rest : List (Nat × SVal)) (l : List Ob) (w : Int) (i : Nat) : (Tr.sat (rnd2 (env (G7 ++ rest) [(28, kLight)]) (fun i => noneP (heavy l w) i = true) (l.length) (HObjs l w) 0 (noneP (heavy l w) l.length) (XObjs l w) (YObjs l w) i) (run (env (G7 ++ rest) [(28, kLight)]) [] (loopN (bodyOf Tryd.f9) 0) (HObjs l w i) .leaf)) = (
  IT (decide ((↑i : Int) < (↑(List.length l) : Int))) (RQ ((0 : Int) ≤ (↑i : Int) ∧ (↑i : Int) < (↑(List.length l) : Int)) (RQ ((0 : Int) ≤ w ∧ w ≤ (1000000 : Int)) (IT (!(!lightB (List.getD l (Int.toNat (↑i : Int)) (RT.dflt RT.obj)).data (List.getD l (Int.toNat (↑i : Int)) (RT.dflt RT.obj)).code (List.getD l (Int.toNat (↑i : Int)) (RT.dflt RT.obj)).map (List.getD l (Int.toNat (↑i : Int)) (RT.dflt RT.obj)).drels (List.getD l (Int.toNat (↑i : Int)) (RT.dflt RT.obj)).crels (List.getD l (Int.toNat (↑i : Int)) (RT.dflt RT.obj)).syms w && noneP (longP (List.getD l (Int.toNat (↑i : Int)) (RT.dflt RT.obj)).syms) (List.length (List.getD l (Int.toNat (↑i : Int)) (RT.dflt RT.obj)).syms))) (noneP (heavy l w) (List.length l) = false ∧ false = false) (i < List.length l ∧ noneP (heavy l w) (i + (1 : Nat)) = true ∧ l = l ∧ w = w ∧ (↑i : Int) + (1 : Int) = (↑(i + (1 : Nat)) : Int) ∧ (0 : Int) ≤ (↑(i + (1 : Nat)) : Int) ∧ (↑(i + (1 : Nat)) : Int) ≤ (1000000 : Int))))) (Nat.beq (0 : Nat) (0 : Nat) = true ∧ noneP (heavy l w) (List.length l) = true ∧ True)) := by kernel_rfl
set_option maxHeartbeats 4000000 in
theorem lObjs (l : List Ob) (w : Int) {W : World} {R own0 : Nat → Prop} {ρ0 : Nat → Option Value} (hown : HownOk (env (G7 ++ rest) [(28, kLight)]) own0 ρ0) : LOk Tryd.prog (env (G7 ++ rest) [(28, kLight)]) (ctx ea has) (G7 ++ rest) W R own0 ρ0 (loopN (bodyOf Tryd.f9) 0) (LObjs l w) := by
  refine loop2_ok (J := fun i => noneP (heavy l w) i = true) (N := l.length) (H := HObjs l w) (X := XObjs l w) (Y := YObjs l w) (env_ok (con := [(28, kLight)]) ⟨cLight, trivial⟩) hown (ls := fun i => []) (fun i => noSums (by kernel_rfl)) (fun hm i hi hj => ?_) 0 (fun hm => by first | exact Nat.zero_le _ | omega) (fun hm => rfl)
  rw [bObjs rest l w i]
  delta RQ IT
  simp only [Int.toNat_natCast, eq_self, true_and, and_true]
  obtain ⟨h1, h2, h3⟩ := hm
  refine ⟨fun h => ?_, fun h => ?_⟩
  · have h := of_decide_eq_true h
    have hlt : i < l.length := by omega
    refine ⟨by omega, fun _ => ⟨⟨h2, h3⟩, fun _ => ⟨fun g1 => ?_, fun g1 => ?_⟩⟩⟩
    · exact noneP_at (p := heavy l w) g1 hlt
    · have g1 : heavy l w i = false := g1
      refine ⟨hlt, by rw [noneP, hj, g1]; rfl, ?_⟩
      first | exact ⟨by omega, by omega, by omega⟩ | exact ⟨by omega, by omega⟩
  · have h := of_decide_eq_false h
    have : i = l.length := by omega
    subst this
    exact ⟨rfl, hj⟩
def kObjects : List SVal → Nat → Acc ORes := fun a n => match a with | [.ro .obj l, .int .i64 many, .int .i64 w] => .ret ({ v := .bool (.sym (objsB l many.val w.val)), vc := some (many.val ≤ 1000000 ∧ 0 ≤ w.val ∧ w.val ≤ 1000000) }) | _ => .fail "Objects"
theorem argObjects (l : List Ob) (many w : SI) : (all (subL tAtN none' [] deep [.ro .obj l, .int .i64 many, .int .i64 w] [.ro .obj l, .int .i64 (.full many.val), .int .i64 (.full w.val)])) = (
  l = l ∧ SI.val many = SI.val many ∧ SI.val w = SI.val w) := by kernel_rfl
theorem runObjects (rest : List (Nat × SVal)) (l : List Ob) (many : Int) (w : Int) : (Tr.sat (plainQ (.bool (.sym (objsB l many w)))) (run (env (G7 ++ rest) [(28, kLight)]) [(4, LObjs l w)] (bodyOf Tryd.f9) (start [.ro .obj l, .int .i64 (.full many), .int .i64 (.full w)] 25) (ends (env (G7 ++ rest) [(28, kLight)]) Tryd.f9.results.toList))) = (
  IT (decide (many < (↑(List.length l) : Int))) (false = objsB l many w) (RQ ((List.length l ≤ (1000000 : Nat) ∧ (0 : Int) ≤ w ∧ w ≤ (1000000 : Int)) ∧ l = l ∧ w = w ∧ (0 : Int) = (↑(0 : Nat) : Int)) (IT (noneP (heavy l w) (List.length l)) (true = objsB l many w) (false = objsB l many w)))) := by kernel_rfl
set_option maxHeartbeats 4000000 in
theorem cObjects : Con ea has (G7 ++ rest) 9 kObjects := by
  refine plain_mkB Tryd.func9 25 (con := [(28, kLight)]) ⟨cLight, trivial⟩ (fun hA hr hv => ?_) (by kernel_rfl) (by kernel_rfl) Tryd.ntmps9
  unfold kObjects at hr; split at hr
  · rename_i l many w
    have := ret_ok hr; subst this
    replace hv := hv _ rfl
    refine ⟨_, [(4, LObjs l w.val)], rfl, rfl, .of (argObjects l many w) (by simp), rfl, (fun W R ρ0 own0 hown => hl1 (by kernel_rfl) (by kernel_rfl) (lObjs l w.val hown)), .of (runObjects rest l many.val w.val) ?_⟩
    delta RQ IT
    clear hr
    clear hA
    generalize many.val = m at *
    generalize w.val = w at *
    obtain ⟨h1, h2, h3⟩ := hv
    unfold objsB
    refine ⟨fun h => ?_, fun h => ?_⟩
    · rw [h]; rfl
    · have h' := of_decide_eq_false h
      rw [h]
      refine ⟨⟨⟨by omega, h2, h3⟩, rfl, rfl, rfl⟩, fun _ => ⟨fun g => ?_, fun g => ?_⟩⟩
      · rw [g]; rfl
      · rw [g]; rfl
  · cases hr
abbrev kLinkF := frz [.ro .obj] kLinkC
theorem cLinkF : Con ea has (G7 ++ rest) 10 kLinkF := frz_ok cLinkC _
def kfirst13 : List SVal → Nat → Acc ORes := fun a n => match a with | [] => .ret ({ v := .bool (.lit true) }) | _ => .fail "first13"
theorem argfirst13  : (all (subL tAtN none' [] deep [] [])) = (
  True) := by kernel_rfl
theorem runfirst13 (rest : List (Nat × SVal)) : (Tr.sat (plainQ (.bool (.lit true))) (run (env (G7 ++ rest) [(15, kAt), (17, kOp), (18, kObjectRF), (10, kLinkF)]) [] (bodyOf Tryd.f8) (start [] 25) (ends (env (G7 ++ rest) [(15, kAt), (17, kOp), (18, kObjectRF), (10, kLinkF)]) Tryd.f8.results.toList))) = (
  RQ (List.length [Ln.mk (In5.mk (0 : Int) (0 : Int) (0 : Int) (0 : Int) (0 : Int)) (ByteArray.mk #[(109 : UInt8), (97 : UInt8), (105 : UInt8), (110 : UInt8)]) ByteArray.empty false, opL (1 : Int) (nilR RT.i64)] ≤ (100000 : Nat) ∧ shortN (@List.nil (RT.ty RT.u32))) (true = true)) := by kernel_rfl
set_option maxHeartbeats 4000000 in
theorem cfirst13 : Con ea has (G7 ++ rest) 8 kfirst13 := by
  refine plain_mkB Tryd.func8 25 (con := [(15, kAt), (17, kOp), (18, kObjectRF), (10, kLinkF)]) ⟨cAt, cOp, cObjectRF, cLinkF, trivial⟩ (fun hA hr hv => ?_) (by kernel_rfl) (by kernel_rfl) Tryd.ntmps8
  unfold kfirst13 at hr; split at hr
  · skip
    have := ret_ok hr; subst this
    refine ⟨_, [], rfl, rfl, .of (argfirst13 ) (by simp), rfl, (fun W R ρ0 own0 hown => noSums (by kernel_rfl)), .of (runfirst13 rest ) ?_⟩
    delta RQ
    clear hr
    exact ⟨⟨by simp, Nat.zero_le _⟩, fun _ => rfl⟩
  · cases hr
end
end Go.Proofs.YtacmmedhjebfjaaDoor
set_option linter.unusedVariables false
set_option linter.unusedSimpArgs false
set_option linter.unusedSectionVars false
namespace Go.Proofs.YtacmmedhjebfjaaDoor
open Go.RowKit Go.Sy Go.Fac
section
variable {ea : Ear} {has : Int → Prop} {rest : List (Nat × SVal)} [ht : Nonempty (EType ea)]
theorem getD_mem {α : Type} {l : List α} {i : Nat} (d : α) (h : i < l.length) : l.getD i d ∈ l := by
  rw [List.getD_eq_getElem?_getD, List.getElem?_eq_getElem h]; exact List.getElem_mem h
theorem img_few {l : List Ob} {g : Glb} (K : LkOk l g) : (imgM l g).code.length ≤ 2048 ∧ (imgM l g).places.length ≤ 4096 ∧ (imgM l g).starts.length ≤ 2048 ∧ (imgM l g).drefs.length ≤ 16384 ∧ (imgM l g).data.length ≤ 2048 := by
  have h := ptN_len l g (itF l g).length
  have hb := K.bs
  obtain ⟨_, e2, e3⟩ := ptN_entry l g (itF l g).length
  have e2 : (imgM l g).data = (dtO l g l.length).1 := e2
  have e3 : (imgM l g).drefs = (dtO l g l.length).2 := e3
  have h2 := dtO_len l g l.length
  have h3 := dtO_ref K.nm l.length (Nat.le_refl _)
  have h4 := K.nm.few
  have h5 := code_len K
  have h6 := K.plN (n := oBs l l.length) (by omega)
  have h7 : (imgM l g).places.length ≤ 2 * (itF l g).length := h.2.1
  have h8 : (imgM l g).starts.length ≤ (itF l g).length := h.2.2
  rw [e2, e3]
  omega
def HgoA (l : List Ob) (i : Nat) : SState := { fr := [(3, .bool (.lit true)), (4, .ptr 0 0), (6, .int .i64 (.sym i 0 1000000))], hp := [(0, some (.cells (imgV (imgM l (nmG l)))))], next := 1, sz := 198 }
def XgoA (l : List Ob) : SState := { fr := [(3, .bool (.lit true)), (4, .ptr 0 0)], hp := [(0, some (.cells (imgV (imgM l (nmG l)))))], next := 1, sz := 198 }
def LgoA (l : List Ob) : LSum := ⟨HgoA l 0, fun k => k (.exit 0) (XgoA l), LkOk l (nmG l) ∧ NoData l (nmG l)⟩
theorem bgoA (rest : List (Nat × SVal)) (l : List Ob) (i : Nat) : (Tr.sat (rnd1 (env (G7 ++ rest) [(8, kfirst13), (9, kObjects), (10, kLinkC), (11, kAmong), (12, krOf), (13, krDisp)]) (fun _ => True) ((imgM l (nmG l)).places.length) (HgoA l) 0 (XgoA l) i) (run (env (G7 ++ rest) [(8, kfirst13), (9, kObjects), (10, kLinkC), (11, kAmong), (12, krOf), (13, krDisp)]) [] (loopN (bodyOf Tryd.f3) 0) (HgoA l i) .leaf)) = (
  IT (decide ((↑i : Int) < (↑(List.length (imgM l (nmG l)).places) : Int))) (RQ ((0 : Int) ≤ (↑i : Int) ∧ (↑i : Int) < (↑(List.length (imgM l (nmG l)).places) : Int)) (RQ ((!(decide (List.getD (imgM l (nmG l)).places (Int.toNat (↑i : Int)) (RT.dflt RT.i64) < (0 : Int)) || decide ((↑(List.length (imgM l (nmG l)).code) : Int) ≤ List.getD (imgM l (nmG l)).places (Int.toNat (↑i : Int)) (RT.dflt RT.i64)))) = true → (0 : Int) ≤ List.getD (imgM l (nmG l)).places (Int.toNat (↑i : Int)) (RT.dflt RT.i64) ∧ List.getD (imgM l (nmG l)).places (Int.toNat (↑i : Int)) (RT.dflt RT.i64) < (↑(List.length (imgM l (nmG l)).code) : Int)) (RQ ((!(decide (List.getD (imgM l (nmG l)).places (Int.toNat (↑i : Int)) (RT.dflt RT.i64) < (0 : Int)) || decide ((↑(List.length (imgM l (nmG l)).code) : Int) ≤ List.getD (imgM l (nmG l)).places (Int.toNat (↑i : Int)) (RT.dflt RT.i64)))) = true → List.length (imgM l (nmG l)).starts ≤ (1000000 : Nat)) (IT (decide (List.getD (imgM l (nmG l)).places (Int.toNat (↑i : Int)) (RT.dflt RT.i64) < (0 : Int)) || decide ((↑(List.length (imgM l (nmG l)).code) : Int) ≤ List.getD (imgM l (nmG l)).places (Int.toNat (↑i : Int)) (RT.dflt RT.i64)) || !amongB (imgM l (nmG l)).starts (List.getD (imgM l (nmG l)).code (Int.toNat (List.getD (imgM l (nmG l)).places (Int.toNat (↑i : Int)) (RT.dflt RT.i64))) (RT.dflt RT.u32) - (2048 : Int))) False (i < List.length (imgM l (nmG l)).places ∧ True ∧ true = true ∧ (↑i : Int) + (1 : Int) = (↑(i + (1 : Nat)) : Int) ∧ ((0 : Int) ≤ (↑(i + (1 : Nat)) : Int) ∧ (↑(i + (1 : Nat)) : Int) ≤ (1000000 : Int)) ∧ (imgM l (nmG l)).entry = (imgM l (nmG l)).entry ∧ (imgM l (nmG l)).data = (imgM l (nmG l)).data ∧ (imgM l (nmG l)).code = (imgM l (nmG l)).code ∧ (imgM l (nmG l)).drefs = (imgM l (nmG l)).drefs ∧ (imgM l (nmG l)).places = (imgM l (nmG l)).places ∧ (imgM l (nmG l)).starts = (imgM l (nmG l)).starts))))) (Nat.beq (0 : Nat) (0 : Nat) = true ∧ true = true ∧ (imgM l (nmG l)).entry = (imgM l (nmG l)).entry ∧ (imgM l (nmG l)).data = (imgM l (nmG l)).data ∧ (imgM l (nmG l)).code = (imgM l (nmG l)).code ∧ (imgM l (nmG l)).drefs = (imgM l (nmG l)).drefs ∧ (imgM l (nmG l)).places = (imgM l (nmG l)).places ∧ (imgM l (nmG l)).starts = (imgM l (nmG l)).starts)) := by kernel_rfl
set_option maxHeartbeats 4000000 in
theorem lgoA (l : List Ob) {W : World} {R own0 : Nat → Prop} {ρ0 : Nat → Option Value} (hown : HownOk (env (G7 ++ rest) [(8, kfirst13), (9, kObjects), (10, kLinkC), (11, kAmong), (12, krOf), (13, krDisp)]) own0 ρ0) : LOk Tryd.prog (env (G7 ++ rest) [(8, kfirst13), (9, kObjects), (10, kLinkC), (11, kAmong), (12, krOf), (13, krDisp)]) (ctx ea has) (G7 ++ rest) W R own0 ρ0 (loopN (bodyOf Tryd.f3) 0) (LgoA l) := by
  refine loop1_ok (J := fun _ => True) (N := (imgM l (nmG l)).places.length) (H := HgoA l) (X := XgoA l) (env_ok (con := [(8, kfirst13), (9, kObjects), (10, kLinkC), (11, kAmong), (12, krOf), (13, krDisp)]) ⟨cfirst13, cObjects, cLinkC, cAmong, crOf, crDisp, trivial⟩) hown (ls := fun i => []) (fun i => noSums (by kernel_rfl)) (fun hm i hi hj => ?_) 0 (fun hm => by first | exact Nat.zero_le _ | omega) (fun hm => trivial)
  rw [bgoA rest l i]
  delta RQ IT
  simp only [Int.toNat_natCast, eq_self, true_and, and_true]
  obtain ⟨K, T⟩ := hm
  have B := img_few K
  refine ⟨fun h => ?_, fun h => ?_⟩
  · have h := of_decide_eq_true h
    have hlt : i < (imgM l (nmG l)).places.length := by omega
    have hmem : (imgM l (nmG l)).places.getD i RT.i64.dflt ∈ (imgM l (nmG l)).places := getD_mem _ hlt
    obtain ⟨g1, g2, g3⟩ := goes_places K T hmem
    refine ⟨by omega, fun _ => ⟨fun _ => ⟨g1, g2⟩, fun _ => ⟨fun _ => by omega, fun _ => ⟨fun g => ?_, fun _ => ⟨hlt, by omega, by omega⟩⟩⟩⟩⟩
    rw [Bool.or_eq_true, Bool.or_eq_true, decide_eq_true_eq, decide_eq_true_eq, Bool.not_eq_true'] at g
    rcases g with (g | g) | g
    · omega
    · exact absurd g2 (by omega)
    · exact Bool.noConfusion (g.symm.trans (amongB_iff.2 g3))
  · exact rfl
def HgoB (l : List Ob) (i : Nat) : SState := { fr := [(3, .bool (.lit true)), (4, .ptr 0 0), (8, .int .i64 (.sym i 0 1000000))], hp := [(0, some (.cells (imgV (imgM l (nmG l)))))], next := 1, sz := 198 }
def XgoB (l : List Ob) : SState := { fr := [(3, .bool (.lit true)), (4, .ptr 0 0)], hp := [(0, some (.cells (imgV (imgM l (nmG l)))))], next := 1, sz := 198 }
def LgoB (l : List Ob) : LSum := ⟨HgoB l 0, fun k => k (.exit 2) (XgoB l), LkOk l (nmG l) ∧ NoData l (nmG l)⟩
theorem bgoB (rest : List (Nat × SVal)) (l : List Ob) (i : Nat) : (Tr.sat (rnd1 (env (G7 ++ rest) [(8, kfirst13), (9, kObjects), (10, kLinkC), (11, kAmong), (12, krOf), (13, krDisp)]) (fun _ => True) ((imgM l (nmG l)).drefs.length) (HgoB l) 2 (XgoB l) i) (run (env (G7 ++ rest) [(8, kfirst13), (9, kObjects), (10, kLinkC), (11, kAmong), (12, krOf), (13, krDisp)]) [] (loopN (bodyOf Tryd.f3) 1) (HgoB l i) .leaf)) = (
  IT (decide ((↑i : Int) < (↑(List.length (imgM l (nmG l)).drefs) : Int))) (RQ ((0 : Int) ≤ (↑i : Int) ∧ (↑i : Int) < (↑(List.length (imgM l (nmG l)).drefs) : Int)) (RQ ((!(decide (List.getD (imgM l (nmG l)).drefs (Int.toNat (↑i : Int)) (RT.dflt RT.i64) < (0 : Int)) || decide ((↑(List.length (imgM l (nmG l)).data) : Int) ≤ List.getD (imgM l (nmG l)).drefs (Int.toNat (↑i : Int)) (RT.dflt RT.i64)))) = true → (0 : Int) ≤ List.getD (imgM l (nmG l)).drefs (Int.toNat (↑i : Int)) (RT.dflt RT.i64) ∧ List.getD (imgM l (nmG l)).drefs (Int.toNat (↑i : Int)) (RT.dflt RT.i64) < (↑(List.length (imgM l (nmG l)).data) : Int)) (RQ ((!(decide (List.getD (imgM l (nmG l)).drefs (Int.toNat (↑i : Int)) (RT.dflt RT.i64) < (0 : Int)) || decide ((↑(List.length (imgM l (nmG l)).data) : Int) ≤ List.getD (imgM l (nmG l)).drefs (Int.toNat (↑i : Int)) (RT.dflt RT.i64)))) = true → List.length (imgM l (nmG l)).starts ≤ (1000000 : Nat)) (IT (decide (List.getD (imgM l (nmG l)).drefs (Int.toNat (↑i : Int)) (RT.dflt RT.i64) < (0 : Int)) || decide ((↑(List.length (imgM l (nmG l)).data) : Int) ≤ List.getD (imgM l (nmG l)).drefs (Int.toNat (↑i : Int)) (RT.dflt RT.i64)) || !amongB (imgM l (nmG l)).starts (List.getD (imgM l (nmG l)).data (Int.toNat (List.getD (imgM l (nmG l)).drefs (Int.toNat (↑i : Int)) (RT.dflt RT.i64))) (RT.dflt RT.u32) - (2048 : Int))) False (i < List.length (imgM l (nmG l)).drefs ∧ True ∧ true = true ∧ (↑i : Int) + (1 : Int) = (↑(i + (1 : Nat)) : Int) ∧ ((0 : Int) ≤ (↑(i + (1 : Nat)) : Int) ∧ (↑(i + (1 : Nat)) : Int) ≤ (1000000 : Int)) ∧ (imgM l (nmG l)).entry = (imgM l (nmG l)).entry ∧ (imgM l (nmG l)).data = (imgM l (nmG l)).data ∧ (imgM l (nmG l)).code = (imgM l (nmG l)).code ∧ (imgM l (nmG l)).drefs = (imgM l (nmG l)).drefs ∧ (imgM l (nmG l)).places = (imgM l (nmG l)).places ∧ (imgM l (nmG l)).starts = (imgM l (nmG l)).starts))))) (Nat.beq (2 : Nat) (2 : Nat) = true ∧ true = true ∧ (imgM l (nmG l)).entry = (imgM l (nmG l)).entry ∧ (imgM l (nmG l)).data = (imgM l (nmG l)).data ∧ (imgM l (nmG l)).code = (imgM l (nmG l)).code ∧ (imgM l (nmG l)).drefs = (imgM l (nmG l)).drefs ∧ (imgM l (nmG l)).places = (imgM l (nmG l)).places ∧ (imgM l (nmG l)).starts = (imgM l (nmG l)).starts)) := by kernel_rfl
set_option maxHeartbeats 4000000 in
theorem lgoB (l : List Ob) {W : World} {R own0 : Nat → Prop} {ρ0 : Nat → Option Value} (hown : HownOk (env (G7 ++ rest) [(8, kfirst13), (9, kObjects), (10, kLinkC), (11, kAmong), (12, krOf), (13, krDisp)]) own0 ρ0) : LOk Tryd.prog (env (G7 ++ rest) [(8, kfirst13), (9, kObjects), (10, kLinkC), (11, kAmong), (12, krOf), (13, krDisp)]) (ctx ea has) (G7 ++ rest) W R own0 ρ0 (loopN (bodyOf Tryd.f3) 1) (LgoB l) := by
  refine loop1_ok (J := fun _ => True) (N := (imgM l (nmG l)).drefs.length) (H := HgoB l) (X := XgoB l) (env_ok (con := [(8, kfirst13), (9, kObjects), (10, kLinkC), (11, kAmong), (12, krOf), (13, krDisp)]) ⟨cfirst13, cObjects, cLinkC, cAmong, crOf, crDisp, trivial⟩) hown (ls := fun i => []) (fun i => noSums (by kernel_rfl)) (fun hm i hi hj => ?_) 0 (fun hm => by first | exact Nat.zero_le _ | omega) (fun hm => trivial)
  rw [bgoB rest l i]
  delta RQ IT
  simp only [Int.toNat_natCast, eq_self, true_and, and_true]
  obtain ⟨K, T⟩ := hm
  have B := img_few K
  refine ⟨fun h => ?_, fun h => ?_⟩
  · have h := of_decide_eq_true h
    have hlt : i < (imgM l (nmG l)).drefs.length := by omega
    have hmem : (imgM l (nmG l)).drefs.getD i RT.i64.dflt ∈ (imgM l (nmG l)).drefs := getD_mem _ hlt
    obtain ⟨g1, g2, g3⟩ := goes_drefs K hmem
    refine ⟨by omega, fun _ => ⟨fun _ => ⟨g1, g2⟩, fun _ => ⟨fun _ => by omega, fun _ => ⟨fun g => ?_, fun _ => ⟨hlt, by omega, by omega⟩⟩⟩⟩⟩
    rw [Bool.or_eq_true, Bool.or_eq_true, decide_eq_true_eq, decide_eq_true_eq, Bool.not_eq_true'] at g
    rcases g with (g | g) | g
    · omega
    · exact absurd g2 (by omega)
    · exact Bool.noConfusion (g.symm.trans (amongB_iff.2 g3))
  · exact rfl
def HgoC (l : List Ob) (i : Nat) : SState := { fr := [(3, .bool (.lit true)), (4, .ptr 0 0), (10, .int .i64 (.sym i 0 1000000))], hp := [(0, some (.cells (imgV (imgM l (nmG l)))))], next := 1, sz := 198 }
def XgoC (l : List Ob) : SState := { fr := [(3, .bool (.lit true)), (4, .ptr 0 0)], hp := [(0, some (.cells (imgV (imgM l (nmG l)))))], next := 1, sz := 198 }
def LgoC (l : List Ob) : LSum := ⟨HgoC l 0, fun k => k (.exit 4) (XgoC l), LkOk l (nmG l) ∧ NoData l (nmG l)⟩
theorem bgoC (rest : List (Nat × SVal)) (l : List Ob) (i : Nat) : (Tr.sat (rnd1 (env (G7 ++ rest) [(8, kfirst13), (9, kObjects), (10, kLinkC), (11, kAmong), (12, krOf), (13, krDisp)]) (fun _ => True) ((imgM l (nmG l)).starts.length) (HgoC l) 4 (XgoC l) i) (run (env (G7 ++ rest) [(8, kfirst13), (9, kObjects), (10, kLinkC), (11, kAmong), (12, krOf), (13, krDisp)]) [] (loopN (bodyOf Tryd.f3) 2) (HgoC l i) .leaf)) = (
  IT (decide ((↑i : Int) < (↑(List.length (imgM l (nmG l)).starts) : Int))) (RQ ((0 : Int) ≤ (↑i : Int) ∧ (↑i : Int) < (↑(List.length (imgM l (nmG l)).starts) : Int)) (RQ ((0 : Int) ≤ List.getD (imgM l (nmG l)).starts (Int.toNat (↑i : Int)) (RT.dflt RT.i64) ∧ List.getD (imgM l (nmG l)).starts (Int.toNat (↑i : Int)) (RT.dflt RT.i64) < (↑(List.length (imgM l (nmG l)).code) : Int)) (IT (!ofOk (List.getD (imgM l (nmG l)).code (Int.toNat (List.getD (imgM l (nmG l)).starts (Int.toNat (↑i : Int)) (RT.dflt RT.i64))) (RT.dflt RT.u32))) False (RQ ((decide ((ofF (List.getD (imgM l (nmG l)).code (Int.toNat (List.getD (imgM l (nmG l)).starts (Int.toNat (↑i : Int)) (RT.dflt RT.i64))) (RT.dflt RT.u32)) (0 : Int)).op = (16 : Int)) || decide ((ofF (List.getD (imgM l (nmG l)).code (Int.toNat (List.getD (imgM l (nmG l)).starts (Int.toNat (↑i : Int)) (RT.dflt RT.i64))) (RT.dflt RT.u32)) (0 : Int)).op = (17 : Int)) || decide ((ofF (List.getD (imgM l (nmG l)).code (Int.toNat (List.getD (imgM l (nmG l)).starts (Int.toNat (↑i : Int)) (RT.dflt RT.i64))) (RT.dflt RT.u32)) (0 : Int)).op = (18 : Int))) = true → List.length (imgM l (nmG l)).starts ≤ (1000000 : Nat)) (IT ((decide ((ofF (List.getD (imgM l (nmG l)).code (Int.toNat (List.getD (imgM l (nmG l)).starts (Int.toNat (↑i : Int)) (RT.dflt RT.i64))) (RT.dflt RT.u32)) (0 : Int)).op = (16 : Int)) || decide ((ofF (List.getD (imgM l (nmG l)).code (Int.toNat (List.getD (imgM l (nmG l)).starts (Int.toNat (↑i : Int)) (RT.dflt RT.i64))) (RT.dflt RT.u32)) (0 : Int)).op = (17 : Int)) || decide ((ofF (List.getD (imgM l (nmG l)).code (Int.toNat (List.getD (imgM l (nmG l)).starts (Int.toNat (↑i : Int)) (RT.dflt RT.i64))) (RT.dflt RT.u32)) (0 : Int)).op = (18 : Int))) && !amongB (imgM l (nmG l)).starts (IntKind.wrap IntKind.i64 (List.getD (imgM l (nmG l)).starts (Int.toNat (↑i : Int)) (RT.dflt RT.i64) + dispM (ofF (List.getD (imgM l (nmG l)).code (Int.toNat (List.getD (imgM l (nmG l)).starts (Int.toNat (↑i : Int)) (RT.dflt RT.i64))) (RT.dflt RT.u32)) (0 : Int)).c))) False (RQ ((decide ((ofF (List.getD (imgM l (nmG l)).code (Int.toNat (List.getD (imgM l (nmG l)).starts (Int.toNat (↑i : Int)) (RT.dflt RT.i64))) (RT.dflt RT.u32)) (0 : Int)).op = (19 : Int)) || decide ((ofF (List.getD (imgM l (nmG l)).code (Int.toNat (List.getD (imgM l (nmG l)).starts (Int.toNat (↑i : Int)) (RT.dflt RT.i64))) (RT.dflt RT.u32)) (0 : Int)).op = (20 : Int)) || decide ((ofF (List.getD (imgM l (nmG l)).code (Int.toNat (List.getD (imgM l (nmG l)).starts (Int.toNat (↑i : Int)) (RT.dflt RT.i64))) (RT.dflt RT.u32)) (0 : Int)).op = (21 : Int)) || decide ((ofF (List.getD (imgM l (nmG l)).code (Int.toNat (List.getD (imgM l (nmG l)).starts (Int.toNat (↑i : Int)) (RT.dflt RT.i64))) (RT.dflt RT.u32)) (0 : Int)).op = (22 : Int))) = true → List.length (imgM l (nmG l)).places ≤ (1000000 : Nat)) (IT ((decide ((ofF (List.getD (imgM l (nmG l)).code (Int.toNat (List.getD (imgM l (nmG l)).starts (Int.toNat (↑i : Int)) (RT.dflt RT.i64))) (RT.dflt RT.u32)) (0 : Int)).op = (19 : Int)) || decide ((ofF (List.getD (imgM l (nmG l)).code (Int.toNat (List.getD (imgM l (nmG l)).starts (Int.toNat (↑i : Int)) (RT.dflt RT.i64))) (RT.dflt RT.u32)) (0 : Int)).op = (20 : Int)) || decide ((ofF (List.getD (imgM l (nmG l)).code (Int.toNat (List.getD (imgM l (nmG l)).starts (Int.toNat (↑i : Int)) (RT.dflt RT.i64))) (RT.dflt RT.u32)) (0 : Int)).op = (21 : Int)) || decide ((ofF (List.getD (imgM l (nmG l)).code (Int.toNat (List.getD (imgM l (nmG l)).starts (Int.toNat (↑i : Int)) (RT.dflt RT.i64))) (RT.dflt RT.u32)) (0 : Int)).op = (22 : Int))) && !amongB (imgM l (nmG l)).places (IntKind.wrap IntKind.i64 (List.getD (imgM l (nmG l)).starts (Int.toNat (↑i : Int)) (RT.dflt RT.i64) + (1 : Int)))) False (i < List.length (imgM l (nmG l)).starts ∧ True ∧ true = true ∧ (↑i : Int) + (1 : Int) = (↑(i + (1 : Nat)) : Int) ∧ ((0 : Int) ≤ (↑(i + (1 : Nat)) : Int) ∧ (↑(i + (1 : Nat)) : Int) ≤ (1000000 : Int)) ∧ (imgM l (nmG l)).entry = (imgM l (nmG l)).entry ∧ (imgM l (nmG l)).data = (imgM l (nmG l)).data ∧ (imgM l (nmG l)).code = (imgM l (nmG l)).code ∧ (imgM l (nmG l)).drefs = (imgM l (nmG l)).drefs ∧ (imgM l (nmG l)).places = (imgM l (nmG l)).places ∧ (imgM l (nmG l)).starts = (imgM l (nmG l)).starts)))))))) (Nat.beq (4 : Nat) (4 : Nat) = true ∧ true = true ∧ (imgM l (nmG l)).entry = (imgM l (nmG l)).entry ∧ (imgM l (nmG l)).data = (imgM l (nmG l)).data ∧ (imgM l (nmG l)).code = (imgM l (nmG l)).code ∧ (imgM l (nmG l)).drefs = (imgM l (nmG l)).drefs ∧ (imgM l (nmG l)).places = (imgM l (nmG l)).places ∧ (imgM l (nmG l)).starts = (imgM l (nmG l)).starts)) := by kernel_rfl
set_option maxHeartbeats 4000000 in
theorem lgoC (l : List Ob) {W : World} {R own0 : Nat → Prop} {ρ0 : Nat → Option Value} (hown : HownOk (env (G7 ++ rest) [(8, kfirst13), (9, kObjects), (10, kLinkC), (11, kAmong), (12, krOf), (13, krDisp)]) own0 ρ0) : LOk Tryd.prog (env (G7 ++ rest) [(8, kfirst13), (9, kObjects), (10, kLinkC), (11, kAmong), (12, krOf), (13, krDisp)]) (ctx ea has) (G7 ++ rest) W R own0 ρ0 (loopN (bodyOf Tryd.f3) 2) (LgoC l) := by
  refine loop1_ok (J := fun _ => True) (N := (imgM l (nmG l)).starts.length) (H := HgoC l) (X := XgoC l) (env_ok (con := [(8, kfirst13), (9, kObjects), (10, kLinkC), (11, kAmong), (12, krOf), (13, krDisp)]) ⟨cfirst13, cObjects, cLinkC, cAmong, crOf, crDisp, trivial⟩) hown (ls := fun i => []) (fun i => noSums (by kernel_rfl)) (fun hm i hi hj => ?_) 0 (fun hm => by first | exact Nat.zero_le _ | omega) (fun hm => trivial)
  rw [bgoC rest l i]
  delta RQ IT
  simp only [Int.toNat_natCast, eq_self, true_and, and_true]
  obtain ⟨K, T⟩ := hm
  have B := img_few K
  refine ⟨fun h => ?_, fun h => ?_⟩
  · have h := of_decide_eq_true h
    have hlt : i < (imgM l (nmG l)).starts.length := by omega
    have hmem : (imgM l (nmG l)).starts.getD i RT.i64.dflt ∈ (imgM l (nmG l)).starts := getD_mem _ hlt
    obtain ⟨g1, g2, g3, g4, g5⟩ := goes_starts K T hmem
    have d0 : RT.u32.dflt = (0 : Int) := rfl
    rw [d0]
    have g2' : (imgM l (nmG l)).starts.getD i RT.i64.dflt < 2048 := by
      have : (imgM l (nmG l)).starts.getD i RT.i64.dflt < ((imgM l (nmG l)).code.length : Int) := g2
      omega
    have wid : ∀ p d : Int, 0 ≤ p → p < 2048 → -128 ≤ d → d ≤ 127 → IntKind.i64.wrap (p + d) = p + d := fun p d h1 h2 h3 h4 => by rw [IntKind.wrap_i64]; omega
    have eO : ∀ c, ofOk c = true → (ofF c 0).op = c / 16777216 ∧ (ofF c 0).c = c % 256 := fun c h => by unfold ofF; rw [if_pos h]; exact ⟨rfl, rfl⟩
    refine ⟨by omega, fun _ => ⟨⟨g1, g2⟩, fun _ => ⟨fun h => (by rw [g3] at h; cases h), fun _ => ⟨fun _ => by omega, fun _ => ⟨fun g => ?_, fun _ => ⟨fun _ => by omega, fun _ => ⟨fun g => ?_, fun _ => ⟨hlt, by omega, by omega⟩⟩⟩⟩⟩⟩⟩⟩
    · rw [Bool.and_eq_true, Bool.not_eq_true', (eO _ g3).2, wid _ _ g1 g2' (dispM_in _).1 (dispM_in _).2] at g
      have sh := g4 (by rw [← (eO _ g3).1]; exact g.1)
      exact Bool.noConfusion (g.2.symm.trans (amongB_iff.2 sh))
    · rw [Bool.and_eq_true, Bool.not_eq_true', wid _ 1 g1 g2' (by decide) (by decide)] at g
      have sh := g5 (by rw [← (eO _ g3).1]; exact g.1)
      exact Bool.noConfusion (g.2.symm.trans (amongB_iff.2 sh))
  · exact rfl
def kLinkGoes : List SVal → Nat → Acc ORes := fun a n => match a with | [.ro .obj l] => .ret ({ v := .bool (.lit true) }) | _ => .fail "LinkGoes"
theorem argLinkGoes (l : List Ob) : (all (subL tAtN none' [] deep [.ro .obj l] [.ro .obj l])) = (
  l = l) := by kernel_rfl
theorem runLinkGoes (rest : List (Nat × SVal)) (l : List Ob) : (Tr.sat (plainQ (.bool (.lit true))) (run (env (G7 ++ rest) [(8, kfirst13), (9, kObjects), (10, kLinkC), (11, kAmong), (12, krOf), (13, krDisp)]) [(10, LgoA l), (16, LgoB l), (22, LgoC l)] (bodyOf Tryd.f3) (start [.ro .obj l] 198) (ends (env (G7 ++ rest) [(8, kfirst13), (9, kObjects), (10, kLinkC), (11, kAmong), (12, krOf), (13, krDisp)]) Tryd.f3.results.toList))) = (
  RQ ((4 : Int) ≤ (1000000 : Int) ∧ (0 : Int) ≤ (150 : Int) ∧ (150 : Int) ≤ (1000000 : Int)) (IT (!objsB l (4 : Int) (150 : Int)) (true = true) (IT (!!FErr.isErr (laidE l)) (decide ((↑(List.length (linkI l).code) : Int) = (0 : Int)) = true) (RQ ((LkOk l (nmG l) ∧ NoData l (nmG l)) ∧ true = true ∧ (0 : Int) = (↑(0 : Nat) : Int) ∧ (linkI l).entry = (imgM l (nmG l)).entry ∧ (linkI l).data = (imgM l (nmG l)).data ∧ (linkI l).code = (imgM l (nmG l)).code ∧ (linkI l).drefs = (imgM l (nmG l)).drefs ∧ (linkI l).places = (imgM l (nmG l)).places ∧ (linkI l).starts = (imgM l (nmG l)).starts) (RQ ((LkOk l (nmG l) ∧ NoData l (nmG l)) ∧ true = true ∧ (0 : Int) = (↑(0 : Nat) : Int) ∧ (imgM l (nmG l)).entry = (imgM l (nmG l)).entry ∧ (imgM l (nmG l)).data = (imgM l (nmG l)).data ∧ (imgM l (nmG l)).code = (imgM l (nmG l)).code ∧ (imgM l (nmG l)).drefs = (imgM l (nmG l)).drefs ∧ (imgM l (nmG l)).places = (imgM l (nmG l)).places ∧ (imgM l (nmG l)).starts = (imgM l (nmG l)).starts) (RQ ((LkOk l (nmG l) ∧ NoData l (nmG l)) ∧ true = true ∧ (0 : Int) = (↑(0 : Nat) : Int) ∧ (imgM l (nmG l)).entry = (imgM l (nmG l)).entry ∧ (imgM l (nmG l)).data = (imgM l (nmG l)).data ∧ (imgM l (nmG l)).code = (imgM l (nmG l)).code ∧ (imgM l (nmG l)).drefs = (imgM l (nmG l)).drefs ∧ (imgM l (nmG l)).places = (imgM l (nmG l)).places ∧ (imgM l (nmG l)).starts = (imgM l (nmG l)).starts) (RQ (List.length (imgM l (nmG l)).starts ≤ (1000000 : Nat)) ((amongB (imgM l (nmG l)).starts ((imgM l (nmG l)).entry - (2048 : Int)) && decide ((↑(List.length (imgM l (nmG l)).data) : Int) ≤ (2048 : Int)) && decide ((↑(List.length (imgM l (nmG l)).code) : Int) ≤ (2048 : Int))) = true)))))))) := by kernel_rfl
set_option maxHeartbeats 4000000 in
theorem cLinkGoes : Con ea has (G7 ++ rest) 3 kLinkGoes := by
  refine plain_mkB Tryd.func3 198 (con := [(8, kfirst13), (9, kObjects), (10, kLinkC), (11, kAmong), (12, krOf), (13, krDisp)]) ⟨cfirst13, cObjects, cLinkC, cAmong, crOf, crDisp, trivial⟩ (fun hA hr hv => ?_) (by kernel_rfl) (by kernel_rfl) Tryd.ntmps3
  unfold kLinkGoes at hr; split at hr
  · rename_i l
    have := ret_ok hr; subst this
    refine ⟨_, [(10, LgoA l), (16, LgoB l), (22, LgoC l)], rfl, rfl, .of (argLinkGoes l) (by simp), rfl, (fun W R ρ0 own0 hown => hl3 (by kernel_rfl) (by kernel_rfl) (lgoA l hown) (by kernel_rfl) (lgoB l hown) (by kernel_rfl) (lgoC l hown)), .of (runLinkGoes rest l) ?_⟩
    delta RQ IT
    clear hr
    clear hA
    have hL : linkI l = _ := linkI.eq_1 l
    refine ⟨⟨by decide, by decide, by decide⟩, fun _ => ⟨fun _ => rfl, fun _ => ⟨fun h => ?_, fun h => ?_⟩⟩⟩
    · have h : (laidE l).isErr = true := by simpa using h
      rw [if_pos h] at hL
      rw [hL]; rfl
    · have h : (laidE l).isErr = false := by simpa using h
      rw [if_neg (by rw [h]; simp)] at hL
      obtain ⟨K, T, hmn⟩ := laid_ok h
      have B := img_few K
      obtain ⟨_, m1, m2⟩ := main_own K.nm hmn
      have me : (imgM l (nmG l)).entry = adrL l (nmG l) (glG (nmG l) mainT) := (ptN_entry l (nmG l) _).1
      have hs := adr_start K m1 m2
      rw [← me] at hs
      rw [hL]
      refine ⟨⟨⟨K, T⟩, rfl, rfl, rfl, rfl, rfl, rfl, rfl, rfl⟩, fun _ => ⟨⟨⟨K, T⟩, rfl, rfl, rfl, rfl, rfl, rfl, rfl, rfl⟩, fun _ => ⟨⟨⟨K, T⟩, rfl, rfl, rfl, rfl, rfl, rfl, rfl, rfl⟩, fun _ => ⟨by omega, fun _ => ?_⟩⟩⟩⟩
      rw [amongB_iff.2 hs, decide_eq_true (by omega), decide_eq_true (by omega)]; rfl
  · cases hr
end
end Go.Proofs.YtacmmedhjebfjaaDoor
set_option linter.unusedVariables false
set_option linter.unusedSimpArgs false
set_option maxRecDepth 100000
namespace Go.Proofs.YtacmmedhjebfjaaDoor
open Go.ChangeShapes Go.RowKit Go.Sy
theorem own : ownKnob Tryd.prog.godebug = none := by kernel_rfl
theorem laidOut : laidOutB Tryd.prog = true := by kernel_rfl
theorem op_i64 : Opens Tryd.prog 3 .i64 := opens_i64 (by kernel_rfl) Tryd.underlying3
theorem op_bool : Opens Tryd.prog 4 .bool := opens_bool (by kernel_rfl) Tryd.underlying4
theorem op_str : Opens Tryd.prog 9 .str := opens_str (by kernel_rfl) Tryd.underlying9
theorem op_u8 : Opens Tryd.prog 5 .u8 := opens_u8 (by kernel_rfl) Tryd.underlying5
theorem op_u32 : Opens Tryd.prog 25 .u32 := opens_u32 (by kernel_rfl) Tryd.underlying25
theorem op_rel : Opens Tryd.prog 69 .rel := opens_rel (by kernel_rfl) Tryd.underlying69 rfl rfl rfl rfl rfl rfl rfl rfl op_i64
theorem op_sym : Opens Tryd.prog 67 .sym := opens_sym (by kernel_rfl) Tryd.underlying67 rfl rfl rfl rfl rfl rfl rfl rfl op_str op_i64 op_bool
section
variable {W : World} {H : Type} {enc : TypeId × Value → H} {C : Ctx} {R : Nat → Prop} {ρ : Nat → Option Value} {base : Nat} {sp : Nat → Bool} {held : Bool} {r : Reach} {b0 : Nat}
end
def txt : DataW Unit → List UInt8
  | .iface _ (.ptr (.agg [.lit (.string s)])) => s
  | _ => []
def L7 : List Snt := [⟨"facade/api.ErrShape", 3, 102, txt Rows.laid_facade_api_ErrShape⟩, ⟨"facade/api.ErrRange", 7, 103, txt Rows.laid_facade_api_ErrRange⟩, ⟨"facade/api.ErrMany", 1, 104, txt Rows.laid_facade_api_ErrMany⟩,
  ⟨"facade/api.ErrOp", 6, 105, txt Rows.laid_facade_api_ErrOp⟩, ⟨"facade/api.ErrTwice", 2, 106, txt Rows.laid_facade_api_ErrTwice⟩, ⟨"facade/api.ErrNone", 0, 107, txt Rows.laid_facade_api_ErrNone⟩, ⟨"facade/api.ErrMap", 4, 109, txt Rows.laid_facade_api_ErrMap⟩]
abbrev nmE : String := "*errors.errorString"
theorem star : "*" ++ "errors.errorString" = nmE := by decide
theorem err_types : ErrTypes Tryd.prog 31 193 214 9 nmE where
  hi := ⟨_, Tryd.underlying31⟩
  row := fun u h => typeName_ptr_named (nm := "errors.errorString") (by rw [star]; kernel_rfl) (by kernel_rfl) (by decide) u (by rw [star]; exact h)
  hp := Tryd.underlying193
  he := ⟨_, Tryd.underlying214, rfl, rfl⟩
  hs := Tryd.underlying9
  ce := by kernel_rfl
  cs := by kernel_rfl
theorem named_of {L : List Snt} (h : (L.all fun x => Tryd.prog.globalNamed x.name == some x.g && (Tryd.prog.globals[x.g]?).map (·.type) == some 31) = true) : ∀ x ∈ L, Tryd.prog.globalNamed x.name = some x.g ∧ (Tryd.prog.globals[x.g]?).map (·.type) = some 31 := fun x hx => by
  have := List.all_eq_true.1 h x hx
  simpa using this
end Go.Proofs.YtacmmedhjebfjaaDoor
