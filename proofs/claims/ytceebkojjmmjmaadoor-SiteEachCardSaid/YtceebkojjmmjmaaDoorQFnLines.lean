/- Contracts that the proofs use. -/
import Derived.Test.YtceebkojjmmjmaaDoorQFnSite
import Derived.Test.YtceebkojjmmjmaaDoorQFnText
set_option linter.unusedVariables false
set_option linter.unusedSimpArgs false
set_option linter.unusedSectionVars false
namespace Go.Proofs.YtceebkojjmmjmaaDoor
open Go.RowKit Go.Sy Go.Fac
abbrev obBoxL (d c m : List Int) (dr cr : List Rel) (sy : List Sm) : Option Cont := some (.cells [.ro .u32 d, .ro .u32 c, .ro .u8 m, .ro .rel dr, .ro .rel cr, .ro .sym sy])
section
variable {ea : Ear} {has : Int → Prop} {rest : List (Nat × SVal)} [ht : Nonempty (Tabs ea)]
def inS (c : List Int) (i : Nat) : In5 := ofF (c.getD i 0) (nextW c i)
def isS (c m : List Int) (i : Nat) : Bool := decide (m.getD i 0 = 1) && (decide (isaClass (inS c i).op = 2) || decide (isaClass (inS c i).op = 3))
def s9 (c m : List Int) : Nat → List St
  | 0 => []
  | i + 1 => if isS c m i = true then s9 c m i ++ [⟨(i : Int), isaClass (inS c i).op, inS c i⟩] else s9 c m i
theorem s9_len (c m : List Int) : ∀ i, (s9 c m i).length ≤ i
  | 0 => Nat.le_refl _
  | i + 1 => by
    have := s9_len c m i
    rw [s9]; split
    · rw [List.length_append]; simp only [List.length_singleton]; omega
    · omega
def kSecond : List SVal → Nat → Acc ORes := fun a n => match a with | [.agg [.ro .u32 d, .ro .u32 c, .ro .u8 m, .ro .rel dr, .ro .rel cr, .ro .sym sy], .int .i64 i] => .ret ({ v := .int .u32 (.full (nextW c i.val)), vc := some (0 ≤ i.val ∧ i.val < (c.length : Int) ∧ c.length ≤ 1000000) }) | _ => .fail "Second"
theorem argSecond (d c m : List Int) (dr cr : List Rel) (sy : List Sm) (i : SI) : (all (subL tAtN none' [] deep [.agg [.ro .u32 d, .ro .u32 c, .ro .u8 m, .ro .rel dr, .ro .rel cr, .ro .sym sy], .int .i64 i] [.agg [.ro .u32 d, .ro .u32 c, .ro .u8 m, .ro .rel dr, .ro .rel cr, .ro .sym sy], .int .i64 (.full i.val)])) = (
  d = d ∧ c = c ∧ m = m ∧ dr = dr ∧ cr = cr ∧ sy = sy ∧ SI.val i = SI.val i) := by kernel_rfl
theorem runSecond (rest : List (Nat × SVal)) (d : List Int) (c : List Int) (m : List Int) (dr : List Rel) (cr : List Rel) (sy : List Sm) (i : Int) : (Tr.sat (plainQ (.int .u32 (.full (nextW c i)))) (run (env (G7 ++ rest) []) [] (bodyOf Tryd.f83) (start [.agg [.ro .u32 d, .ro .u32 c, .ro .u8 m, .ro .rel dr, .ro .rel cr, .ro .sym sy], .int .i64 (.full i)] 17) (ends (env (G7 ++ rest) []) Tryd.f83.results.toList))) = (
  (decide (IntKind.wrap IntKind.i64 (i + (1 : Int)) < (↑(List.length c) : Int)) = true → ((0 : Int) ≤ IntKind.wrap IntKind.i64 (i + (1 : Int)) ∧ IntKind.wrap IntKind.i64 (i + (1 : Int)) < (↑(List.length c) : Int)) ∧ ((0 : Int) ≤ IntKind.wrap IntKind.i64 (i + (1 : Int)) ∧ IntKind.wrap IntKind.i64 (i + (1 : Int)) < (↑(List.length c) : Int) → List.getD c (Int.toNat (IntKind.wrap IntKind.i64 (i + (1 : Int)))) (RT.dflt RT.u32) = nextW c i)) ∧ (decide (IntKind.wrap IntKind.i64 (i + (1 : Int)) < (↑(List.length c) : Int)) = false → (0 : Int) = nextW c i)) := by kernel_rfl
set_option maxHeartbeats 4000000 in
theorem cSecond : Con ea has (G7 ++ rest) 83 kSecond := by
  refine plain_mkB Tryd.func83 17 (con := []) trivial (fun hA hr hv => ?_) (by kernel_rfl) (by kernel_rfl) Tryd.ntmps83
  unfold kSecond at hr; split at hr
  · rename_i d c m dr cr sy i
    have := ret_ok hr; subst this
    replace hv := hv _ rfl
    refine ⟨_, [], rfl, rfl, .of (argSecond d c m dr cr sy i) (by simp), rfl, (fun W R ρ0 own0 hown => noSums (by kernel_rfl)), .of (runSecond rest d c m dr cr sy i.val) ?_⟩
    clear hr
    obtain ⟨q1, q2, q3⟩ := hv
    have w : IntKind.i64.wrap (i.val + 1) = i.val + 1 := by rw [IntKind.wrap_i64]; omega
    rw [w]
    unfold nextW
    refine ⟨fun h => ⟨by have := of_decide_eq_true h; omega, fun _ => ?_⟩, fun h => ?_⟩
    · rw [if_pos (of_decide_eq_true h)]; rfl
    · rw [if_neg (of_decide_eq_false h)]
  · cases hr
def HSites9 (d c m : List Int) (dr cr : List Rel) (sy : List Sm) (i : Nat) : SState := { fr := [(1, .ptr 0 0), (3, .own 1), (4, .int .i64 (.sym i 0 1000000))], hp := [(0, obBoxL d c m dr cr sy), (1, some (.recs .site (s9 c m i)))], next := 2, sz := 52 }
def XSites9 (d c m : List Int) (dr cr : List Rel) (sy : List Sm) : SState := { fr := [(3, .own 1)], hp := [(1, some (.recs .site (s9 c m c.length)))], next := 2, sz := 52 }
def LSites9 (d c m : List Int) (dr cr : List Rel) (sy : List Sm) : LSum := ⟨HSites9 d c m dr cr sy 0, fun k => k (.exit 0) (XSites9 d c m dr cr sy), c.length ≤ 1000000 ∧ m.length = c.length⟩
theorem bSites9 (rest : List (Nat × SVal)) (d c m : List Int) (dr cr : List Rel) (sy : List Sm) (i : Nat) : (Tr.sat (rnd1 (env (G7 ++ rest) [(83, kSecond), (16, krOf), (19, krClass)]) (fun _ => True) (c.length) (HSites9 d c m dr cr sy) 0 (XSites9 d c m dr cr sy) i) (run (env (G7 ++ rest) [(83, kSecond), (16, krOf), (19, krClass)]) [] (loopN (bodyOf Tryd.f45) 0) (HSites9 d c m dr cr sy i) .leaf)) = (
  (decide ((↑i : Int) < (↑(List.length c) : Int)) = true → ((0 : Int) ≤ (↑i : Int) ∧ (↑i : Int) < (↑(List.length c) : Int)) ∧ ((0 : Int) ≤ (↑i : Int) ∧ (↑i : Int) < (↑(List.length c) : Int) → ((0 : Int) ≤ (↑i : Int) ∧ (↑i : Int) < (↑(List.length c) : Int) ∧ List.length c ≤ (1000000 : Nat)) ∧ ((0 : Int) ≤ (↑i : Int) ∧ (↑i : Int) < (↑(List.length c) : Int) ∧ List.length c ≤ (1000000 : Nat) → ((0 : Int) ≤ (↑i : Int) ∧ (↑i : Int) < (↑(List.length m) : Int)) ∧ ((0 : Int) ≤ (↑i : Int) ∧ (↑i : Int) < (↑(List.length m) : Int) → ((decide (List.getD m (Int.toNat (↑i : Int)) (RT.dflt RT.u8) = (1 : Int)) && (decide (isaClass (ofF (List.getD c (Int.toNat (↑i : Int)) (RT.dflt RT.u32)) (nextW c (↑i : Int))).op = (2 : Int)) || decide (isaClass (ofF (List.getD c (Int.toNat (↑i : Int)) (RT.dflt RT.u32)) (nextW c (↑i : Int))).op = (3 : Int)))) = true → List.length (s9 c m i) + List.length [St.mk (↑i : Int) (isaClass (ofF (List.getD c (Int.toNat (↑i : Int)) (RT.dflt RT.u32)) (nextW c (↑i : Int))).op) (In5.mk (ofF (List.getD c (Int.toNat (↑i : Int)) (RT.dflt RT.u32)) (nextW c (↑i : Int))).op (ofF (List.getD c (Int.toNat (↑i : Int)) (RT.dflt RT.u32)) (nextW c (↑i : Int))).a (ofF (List.getD c (Int.toNat (↑i : Int)) (RT.dflt RT.u32)) (nextW c (↑i : Int))).b (ofF (List.getD c (Int.toNat (↑i : Int)) (RT.dflt RT.u32)) (nextW c (↑i : Int))).c (ofF (List.getD c (Int.toNat (↑i : Int)) (RT.dflt RT.u32)) (nextW c (↑i : Int))).imm)] ≤ (137438953472 : Nat) ∧ (List.length (s9 c m i) + List.length [St.mk (↑i : Int) (isaClass (ofF (List.getD c (Int.toNat (↑i : Int)) (RT.dflt RT.u32)) (nextW c (↑i : Int))).op) (In5.mk (ofF (List.getD c (Int.toNat (↑i : Int)) (RT.dflt RT.u32)) (nextW c (↑i : Int))).op (ofF (List.getD c (Int.toNat (↑i : Int)) (RT.dflt RT.u32)) (nextW c (↑i : Int))).a (ofF (List.getD c (Int.toNat (↑i : Int)) (RT.dflt RT.u32)) (nextW c (↑i : Int))).b (ofF (List.getD c (Int.toNat (↑i : Int)) (RT.dflt RT.u32)) (nextW c (↑i : Int))).c (ofF (List.getD c (Int.toNat (↑i : Int)) (RT.dflt RT.u32)) (nextW c (↑i : Int))).imm)] ≤ (137438953472 : Nat) → i < List.length c ∧ True ∧ (↑i : Int) + (1 : Int) = (↑(i + (1 : Nat)) : Int) ∧ ((0 : Int) ≤ (↑(i + (1 : Nat)) : Int) ∧ (↑(i + (1 : Nat)) : Int) ≤ (1000000 : Int)) ∧ d = d ∧ c = c ∧ m = m ∧ dr = dr ∧ cr = cr ∧ sy = sy ∧ s9 c m i ++ [St.mk (↑i : Int) (isaClass (ofF (List.getD c (Int.toNat (↑i : Int)) (RT.dflt RT.u32)) (nextW c (↑i : Int))).op) (In5.mk (ofF (List.getD c (Int.toNat (↑i : Int)) (RT.dflt RT.u32)) (nextW c (↑i : Int))).op (ofF (List.getD c (Int.toNat (↑i : Int)) (RT.dflt RT.u32)) (nextW c (↑i : Int))).a (ofF (List.getD c (Int.toNat (↑i : Int)) (RT.dflt RT.u32)) (nextW c (↑i : Int))).b (ofF (List.getD c (Int.toNat (↑i : Int)) (RT.dflt RT.u32)) (nextW c (↑i : Int))).c (ofF (List.getD c (Int.toNat (↑i : Int)) (RT.dflt RT.u32)) (nextW c (↑i : Int))).imm)] = s9 c m (i + (1 : Nat)))) ∧ ((decide (List.getD m (Int.toNat (↑i : Int)) (RT.dflt RT.u8) = (1 : Int)) && (decide (isaClass (ofF (List.getD c (Int.toNat (↑i : Int)) (RT.dflt RT.u32)) (nextW c (↑i : Int))).op = (2 : Int)) || decide (isaClass (ofF (List.getD c (Int.toNat (↑i : Int)) (RT.dflt RT.u32)) (nextW c (↑i : Int))).op = (3 : Int)))) = false → i < List.length c ∧ True ∧ (↑i : Int) + (1 : Int) = (↑(i + (1 : Nat)) : Int) ∧ ((0 : Int) ≤ (↑(i + (1 : Nat)) : Int) ∧ (↑(i + (1 : Nat)) : Int) ≤ (1000000 : Int)) ∧ d = d ∧ c = c ∧ m = m ∧ dr = dr ∧ cr = cr ∧ sy = sy ∧ s9 c m i = s9 c m (i + (1 : Nat))))))) ∧ (decide ((↑i : Int) < (↑(List.length c) : Int)) = false → Nat.beq (0 : Nat) (0 : Nat) = true ∧ s9 c m i = s9 c m (List.length c))) := by kernel_rfl
set_option maxHeartbeats 4000000 in
theorem lSites9 (d c m : List Int) (dr cr : List Rel) (sy : List Sm) {W : World} {R own0 : Nat → Prop} {ρ0 : Nat → Option Value} (hown : HownOk (env (G7 ++ rest) [(83, kSecond), (16, krOf), (19, krClass)]) own0 ρ0) : LOk Tryd.prog (env (G7 ++ rest) [(83, kSecond), (16, krOf), (19, krClass)]) (ctx ea has) (G7 ++ rest) W R own0 ρ0 (loopN (bodyOf Tryd.f45) 0) (LSites9 d c m dr cr sy) := by
  refine loop1_ok (env_ok (con := [(83, kSecond), (16, krOf), (19, krClass)]) ⟨cSecond, crOf, crClass, trivial⟩) hown (ls := fun i => []) (fun i => noSums (by kernel_rfl)) (fun hm i hi hj => (bSites9 rest d c m dr cr sy i).mpr ?_) 0 (fun hm => by first | exact Nat.zero_le _ | omega) (fun hm => trivial)
  obtain ⟨z1, z2⟩ := hm
  have hl := s9_len c m i
  refine ⟨fun h => ?_, fun h => ?_⟩
  · have h := of_decide_eq_true h
    have hlt : i < c.length := by omega
    refine ⟨by omega, fun _ => ⟨by omega, fun _ => ⟨by omega, fun _ => ⟨fun h2 => ⟨by simp only [List.length_singleton]; omega, fun _ => ?_⟩, fun h2 => ?_⟩⟩⟩⟩
    · have h3 : isS c m i = true := h2
      refine ⟨hlt, trivial, by omega, by omega, rfl, rfl, rfl, rfl, rfl, rfl, ?_⟩
      rw [s9, if_pos h3]; rfl
    · have h3 : isS c m i = false := h2
      refine ⟨hlt, trivial, by omega, by omega, rfl, rfl, rfl, rfl, rfl, rfl, ?_⟩
      rw [s9, if_neg (by rw [h3]; simp)]
  · have h := of_decide_eq_false h
    have e : i = c.length := by omega
    subst e
    exact ⟨rfl, rfl⟩
def kSites9 : List SVal → Nat → Acc ORes := fun a n => match a with | [.agg [.ro .u32 d, .ro .u32 c, .ro .u8 m, .ro .rel dr, .ro .rel cr, .ro .sym sy]] => .ret ({ v := .ro .site (s9 c m c.length), vc := some (c.length ≤ 1000000 ∧ m.length = c.length) }) | _ => .fail "Sites9"
theorem argSites9 (d c m : List Int) (dr cr : List Rel) (sy : List Sm) : (all (subL tAtN none' [] deep [.agg [.ro .u32 d, .ro .u32 c, .ro .u8 m, .ro .rel dr, .ro .rel cr, .ro .sym sy]] [.agg [.ro .u32 d, .ro .u32 c, .ro .u8 m, .ro .rel dr, .ro .rel cr, .ro .sym sy]])) = (
  d = d ∧ c = c ∧ m = m ∧ dr = dr ∧ cr = cr ∧ sy = sy) := by kernel_rfl
theorem runSites9 (rest : List (Nat × SVal)) (d : List Int) (c : List Int) (m : List Int) (dr : List Rel) (cr : List Rel) (sy : List Sm) : (Tr.sat (plainQ (.ro .site (s9 c m c.length))) (run (env (G7 ++ rest) [(83, kSecond), (16, krOf), (19, krClass)]) [(3, LSites9 d c m dr cr sy)] (bodyOf Tryd.f45) (start [.agg [.ro .u32 d, .ro .u32 c, .ro .u8 m, .ro .rel dr, .ro .rel cr, .ro .sym sy]] 52) (ends (env (G7 ++ rest) [(83, kSecond), (16, krOf), (19, krClass)]) Tryd.f45.results.toList))) = (
  ((List.length c ≤ (1000000 : Nat) ∧ List.length m = List.length c) ∧ (0 : Int) = (↑(0 : Nat) : Int) ∧ d = d ∧ c = c ∧ m = m ∧ dr = dr ∧ cr = cr ∧ sy = sy ∧ @List.nil (RT.ty RT.site) = s9 c m (0 : Nat)) ∧ ((List.length c ≤ (1000000 : Nat) ∧ List.length m = List.length c) ∧ (0 : Int) = (↑(0 : Nat) : Int) ∧ d = d ∧ c = c ∧ m = m ∧ dr = dr ∧ cr = cr ∧ sy = sy ∧ @List.nil (RT.ty RT.site) = s9 c m (0 : Nat) → s9 c m (List.length c) = s9 c m (List.length c))) := by kernel_rfl
set_option maxHeartbeats 4000000 in
theorem cSites9 : Con ea has (G7 ++ rest) 45 kSites9 := by
  refine plain_mkB Tryd.func45 52 (con := [(83, kSecond), (16, krOf), (19, krClass)]) ⟨cSecond, crOf, crClass, trivial⟩ (fun hA hr hv => ?_) (by kernel_rfl) (by kernel_rfl) Tryd.ntmps45
  unfold kSites9 at hr; split at hr
  · rename_i d c m dr cr sy
    have := ret_ok hr; subst this
    replace hv := hv _ rfl
    refine ⟨_, [(3, LSites9 d c m dr cr sy)], rfl, rfl, .of (argSites9 d c m dr cr sy) (by simp), rfl, (fun W R ρ0 own0 hown => hl1 (by kernel_rfl) (by kernel_rfl) (lSites9 d c m dr cr sy hown)), .of (runSites9 rest d c m dr cr sy) ?_⟩
    clear hr
    exact ⟨⟨hv, rfl, rfl, rfl, rfl, rfl, rfl, rfl, rfl⟩, fun _ => rfl⟩
  · cases hr
def wTxt : ByteArray := ⟨#[119, 111, 114, 100, 32]⟩
def lineOf (c m : List Int) (i : Nat) : List ByteArray :=
  if m.getD i 0 = 1 then [textM (insI c m i).op (insI c m i).a (insI c m i).b (insI c m i).c (insI c m i).imm]
  else if m.getD i 0 = 2 then [wTxt ++ (⟨#[48, 120]⟩ ++ hexB (c.getD i 0))] else []
def linesF (c m : List Int) : Nat → List ByteArray
  | 0 => []
  | i + 1 => linesF c m i ++ lineOf c m i
theorem linesF_len (c m : List Int) : ∀ i, (linesF c m i).length ≤ i
  | 0 => Nat.le_refl _
  | i + 1 => by
    have := linesF_len c m i
    have h : (lineOf c m i).length ≤ 1 := by unfold lineOf; split <;> (try split) <;> simp
    rw [linesF, List.length_append]; omega
def linesM (d c m : List Int) (dr cr : List Rel) (sy : List Sm) : List ByteArray := if (validE d c m dr cr sy).isErr = true then [] else linesF c m m.length
def HsText (d c m : List Int) (dr cr : List Rel) (sy : List Sm) (i : Nat) : SState := { fr := [(1, .ptr 0 0), (5, .own 1), (16, .ro .u8 m), (17, .int .i64 (.full m.length)), (18, .int .i64 (.sym i 0 1000000))], hp := [(0, obBoxL d c m dr cr sy), (1, some (.recs .str (linesF c m i)))], next := 2, sz := 51 }
def XsText (d c m : List Int) (dr cr : List Rel) (sy : List Sm) : SState := { fr := [(5, .own 1)], hp := [(1, some (.recs .str (linesF c m m.length)))], next := 2, sz := 51 }
def LsText (d c m : List Int) (dr cr : List Rel) (sy : List Sm) : LSum := ⟨HsText d c m dr cr sy 0, fun k => k (.exit 0) (XsText d c m dr cr sy), c.length ≤ 1000000 ∧ m.length = c.length⟩
theorem bsText (rest : List (Nat × SVal)) (d c m : List Int) (dr cr : List Rel) (sy : List Sm) (i : Nat) : (Tr.sat (rnd1 (env (G7 ++ rest) [(31, kValid), (82, kInstr), (14, kText), (58, kHex)]) (fun _ => True) (m.length) (HsText d c m dr cr sy) 0 (XsText d c m dr cr sy) i) (run (env (G7 ++ rest) [(31, kValid), (82, kInstr), (14, kText), (58, kHex)]) [] (loopN (bodyOf Tryd.f44) 0) (HsText d c m dr cr sy i) .leaf)) = (
  (decide ((↑i : Int) < (↑(List.length m) : Int)) = true → ((0 : Int) ≤ (↑i : Int) ∧ (↑i : Int) < (↑(List.length m) : Int)) ∧ ((0 : Int) ≤ (↑i : Int) ∧ (↑i : Int) < (↑(List.length m) : Int) → (decide (List.getD m (Int.toNat (↑i : Int)) (RT.dflt RT.u8) = (1 : Int)) = true → List.length (linesF c m i) + List.length [textM (insI c m (↑i : Int)).op (insI c m (↑i : Int)).a (insI c m (↑i : Int)).b (insI c m (↑i : Int)).c (insI c m (↑i : Int)).imm] ≤ (137438953472 : Nat) ∧ (List.length (linesF c m i) + List.length [textM (insI c m (↑i : Int)).op (insI c m (↑i : Int)).a (insI c m (↑i : Int)).b (insI c m (↑i : Int)).c (insI c m (↑i : Int)).imm] ≤ (137438953472 : Nat) → i < List.length m ∧ True ∧ m = m ∧ (↑(List.length m) : Int) = (↑(List.length m) : Int) ∧ (↑i : Int) + (1 : Int) = (↑(i + (1 : Nat)) : Int) ∧ ((0 : Int) ≤ (↑(i + (1 : Nat)) : Int) ∧ (↑(i + (1 : Nat)) : Int) ≤ (1000000 : Int)) ∧ d = d ∧ c = c ∧ m = m ∧ dr = dr ∧ cr = cr ∧ sy = sy ∧ linesF c m i ++ [textM (insI c m (↑i : Int)).op (insI c m (↑i : Int)).a (insI c m (↑i : Int)).b (insI c m (↑i : Int)).c (insI c m (↑i : Int)).imm] = linesF c m (i + (1 : Nat)))) ∧ (decide (List.getD m (Int.toNat (↑i : Int)) (RT.dflt RT.u8) = (1 : Int)) = false → (decide (List.getD m (Int.toNat (↑i : Int)) (RT.dflt RT.u8) = (2 : Int)) = true → ((0 : Int) ≤ (↑i : Int) ∧ (↑i : Int) < (↑(List.length c) : Int)) ∧ ((0 : Int) ≤ (↑i : Int) ∧ (↑i : Int) < (↑(List.length c) : Int) → ByteArray.size (ByteArray.mk #[(119 : UInt8), (111 : UInt8), (114 : UInt8), (100 : UInt8), (32 : UInt8)]) + ByteArray.size (ByteArray.mk #[(48 : UInt8), (120 : UInt8)] ++ hexB (List.getD c (Int.toNat (↑i : Int)) (RT.dflt RT.u32))) ≤ (9223372036854775807 : Nat) ∧ (ByteArray.size (ByteArray.mk #[(119 : UInt8), (111 : UInt8), (114 : UInt8), (100 : UInt8), (32 : UInt8)]) + ByteArray.size (ByteArray.mk #[(48 : UInt8), (120 : UInt8)] ++ hexB (List.getD c (Int.toNat (↑i : Int)) (RT.dflt RT.u32))) ≤ (9223372036854775807 : Nat) → List.length (linesF c m i) + List.length [ByteArray.mk #[(119 : UInt8), (111 : UInt8), (114 : UInt8), (100 : UInt8), (32 : UInt8)] ++ (ByteArray.mk #[(48 : UInt8), (120 : UInt8)] ++ hexB (List.getD c (Int.toNat (↑i : Int)) (RT.dflt RT.u32)))] ≤ (137438953472 : Nat) ∧ (List.length (linesF c m i) + List.length [ByteArray.mk #[(119 : UInt8), (111 : UInt8), (114 : UInt8), (100 : UInt8), (32 : UInt8)] ++ (ByteArray.mk #[(48 : UInt8), (120 : UInt8)] ++ hexB (List.getD c (Int.toNat (↑i : Int)) (RT.dflt RT.u32)))] ≤ (137438953472 : Nat) → i < List.length m ∧ True ∧ m = m ∧ (↑(List.length m) : Int) = (↑(List.length m) : Int) ∧ (↑i : Int) + (1 : Int) = (↑(i + (1 : Nat)) : Int) ∧ ((0 : Int) ≤ (↑(i + (1 : Nat)) : Int) ∧ (↑(i + (1 : Nat)) : Int) ≤ (1000000 : Int)) ∧ d = d ∧ c = c ∧ m = m ∧ dr = dr ∧ cr = cr ∧ sy = sy ∧ linesF c m i ++ [ByteArray.mk #[(119 : UInt8), (111 : UInt8), (114 : UInt8), (100 : UInt8), (32 : UInt8)] ++ (ByteArray.mk #[(48 : UInt8), (120 : UInt8)] ++ hexB (List.getD c (Int.toNat (↑i : Int)) (RT.dflt RT.u32)))] = linesF c m (i + (1 : Nat)))))) ∧ (decide (List.getD m (Int.toNat (↑i : Int)) (RT.dflt RT.u8) = (2 : Int)) = false → i < List.length m ∧ True ∧ m = m ∧ (↑(List.length m) : Int) = (↑(List.length m) : Int) ∧ (↑i : Int) + (1 : Int) = (↑(i + (1 : Nat)) : Int) ∧ ((0 : Int) ≤ (↑(i + (1 : Nat)) : Int) ∧ (↑(i + (1 : Nat)) : Int) ≤ (1000000 : Int)) ∧ d = d ∧ c = c ∧ m = m ∧ dr = dr ∧ cr = cr ∧ sy = sy ∧ linesF c m i = linesF c m (i + (1 : Nat)))))) ∧ (decide ((↑i : Int) < (↑(List.length m) : Int)) = false → Nat.beq (0 : Nat) (0 : Nat) = true ∧ linesF c m i = linesF c m (List.length m))) := by kernel_rfl
set_option maxHeartbeats 4000000 in
theorem lsText (d c m : List Int) (dr cr : List Rel) (sy : List Sm) {W : World} {R own0 : Nat → Prop} {ρ0 : Nat → Option Value} (hown : HownOk (env (G7 ++ rest) [(31, kValid), (82, kInstr), (14, kText), (58, kHex)]) own0 ρ0) : LOk Tryd.prog (env (G7 ++ rest) [(31, kValid), (82, kInstr), (14, kText), (58, kHex)]) (ctx ea has) (G7 ++ rest) W R own0 ρ0 (loopN (bodyOf Tryd.f44) 0) (LsText d c m dr cr sy) := by
  refine loop1_ok (env_ok (con := [(31, kValid), (82, kInstr), (14, kText), (58, kHex)]) ⟨cValid, cInstr, cText, cHex, trivial⟩) hown (ls := fun i => []) (fun i => noSums (by kernel_rfl)) (fun hm i hi hj => (bsText rest d c m dr cr sy i).mpr ?_) 0 (fun hm => by first | exact Nat.zero_le _ | omega) (fun hm => trivial)
  obtain ⟨z1, z2⟩ := hm
  have hl := linesF_len c m i
  have hx := hexB_size (c.getD i 0)
  refine ⟨fun h => ?_, fun h => ?_⟩
  · have h := of_decide_eq_true h
    have hlt : i < m.length := by omega
    refine ⟨by omega, fun _ => ⟨fun h2 => ⟨by simp only [List.length_singleton]; omega, fun _ => ?_⟩, fun h2 => ⟨fun h3 => ⟨by omega, fun _ => ⟨?_, fun _ => ⟨by simp only [List.length_singleton]; omega, fun _ => ?_⟩⟩⟩, fun h3 => ?_⟩⟩⟩
    · have e : m.getD i 0 = 1 := of_decide_eq_true h2
      refine ⟨hlt, trivial, rfl, rfl, by omega, by omega, rfl, rfl, rfl, rfl, rfl, rfl, ?_⟩
      rw [linesF, lineOf, if_pos e]
    · show 5 + ((⟨#[48, 120]⟩ : ByteArray) ++ hexB (c.getD i 0)).size ≤ _
      rw [ByteArray.size_append]; show 5 + (2 + _) ≤ _; omega
    · have e1 : ¬ m.getD i 0 = 1 := of_decide_eq_false h2
      have e2 : m.getD i 0 = 2 := of_decide_eq_true h3
      refine ⟨hlt, trivial, rfl, rfl, by omega, by omega, rfl, rfl, rfl, rfl, rfl, rfl, ?_⟩
      rw [linesF, lineOf, if_neg e1, if_pos e2]; rfl
    · have e1 : ¬ m.getD i 0 = 1 := of_decide_eq_false h2
      have e2 : ¬ m.getD i 0 = 2 := of_decide_eq_false h3
      refine ⟨hlt, trivial, rfl, rfl, by omega, by omega, rfl, rfl, rfl, rfl, rfl, rfl, ?_⟩
      rw [linesF, lineOf, if_neg e1, if_neg e2, List.append_nil]
  · have h := of_decide_eq_false h
    exact ⟨rfl, by rw [show i = m.length by omega]⟩
def ksText : List SVal → Nat → Acc ORes := fun a n => match a with | [.agg [.ro .u32 d, .ro .u32 c, .ro .u8 m, .ro .rel dr, .ro .rel cr, .ro .sym sy]] => .ret ({ v := .tuple [.ro .str (linesM d c m dr cr sy), .err (validE d c m dr cr sy)] }) | _ => .fail "sText"
theorem argsText (d c m : List Int) (dr cr : List Rel) (sy : List Sm) : (all (subL tAtN none' [] deep [.agg [.ro .u32 d, .ro .u32 c, .ro .u8 m, .ro .rel dr, .ro .rel cr, .ro .sym sy]] [.agg [.ro .u32 d, .ro .u32 c, .ro .u8 m, .ro .rel dr, .ro .rel cr, .ro .sym sy]])) = (
  d = d ∧ c = c ∧ m = m ∧ dr = dr ∧ cr = cr ∧ sy = sy) := by kernel_rfl
theorem runsText (rest : List (Nat × SVal)) (d : List Int) (c : List Int) (m : List Int) (dr : List Rel) (cr : List Rel) (sy : List Sm) : (Tr.sat (plainQ (.tuple [.ro .str (linesM d c m dr cr sy), .err (validE d c m dr cr sy)])) (run (env (G7 ++ rest) [(31, kValid), (82, kInstr), (14, kText), (58, kHex)]) [(6, LsText d c m dr cr sy)] (bodyOf Tryd.f44) (start [.agg [.ro .u32 d, .ro .u32 c, .ro .u8 m, .ro .rel dr, .ro .rel cr, .ro .sym sy]] 51) (ends (env (G7 ++ rest) [(31, kValid), (82, kInstr), (14, kText), (58, kHex)]) Tryd.f44.results.toList))) = (
  ((!!FErr.isErr (validE d c m dr cr sy)) = true → @List.nil (RT.ty RT.str) = linesM d c m dr cr sy ∧ validE d c m dr cr sy = validE d c m dr cr sy) ∧ ((!!FErr.isErr (validE d c m dr cr sy)) = false → ((List.length c ≤ (1000000 : Nat) ∧ List.length m = List.length c) ∧ m = m ∧ (↑(List.length m) : Int) = (↑(List.length m) : Int) ∧ (0 : Int) = (↑(0 : Nat) : Int) ∧ d = d ∧ c = c ∧ m = m ∧ dr = dr ∧ cr = cr ∧ sy = sy ∧ @List.nil (RT.ty RT.str) = linesF c m (0 : Nat)) ∧ ((List.length c ≤ (1000000 : Nat) ∧ List.length m = List.length c) ∧ m = m ∧ (↑(List.length m) : Int) = (↑(List.length m) : Int) ∧ (0 : Int) = (↑(0 : Nat) : Int) ∧ d = d ∧ c = c ∧ m = m ∧ dr = dr ∧ cr = cr ∧ sy = sy ∧ @List.nil (RT.ty RT.str) = linesF c m (0 : Nat) → linesF c m (List.length m) = linesM d c m dr cr sy ∧ FErr.fine = validE d c m dr cr sy))) := by kernel_rfl
set_option maxHeartbeats 4000000 in
theorem csText : Con ea has (G7 ++ rest) 44 ksText := by
  refine plain_mkB Tryd.func44 51 (con := [(31, kValid), (82, kInstr), (14, kText), (58, kHex)]) ⟨cValid, cInstr, cText, cHex, trivial⟩ (fun hA hr hv => ?_) (by kernel_rfl) (by kernel_rfl) Tryd.ntmps44
  unfold ksText at hr; split at hr
  · rename_i d c m dr cr sy
    have := ret_ok hr; subst this
    refine ⟨_, [(6, LsText d c m dr cr sy)], rfl, rfl, .of (argsText d c m dr cr sy) (by simp), rfl, (fun W R ρ0 own0 hown => hl1 (by kernel_rfl) (by kernel_rfl) (lsText d c m dr cr sy hown)), .of (runsText rest d c m dr cr sy) ?_⟩
    clear hr
    refine ⟨fun h => ?_, fun h => ?_⟩
    · have h : (validE d c m dr cr sy).isErr = true := by simpa using h
      rw [linesM, if_pos h]; exact ⟨rfl, rfl⟩
    · have h : (validE d c m dr cr sy).isErr = false := by simpa using h
      obtain ⟨v1, v2, _⟩ := valid_size h
      rw [linesM, if_neg (by rw [h]; simp)]
      exact ⟨⟨⟨by omega, v2⟩, rfl, rfl, rfl, rfl, rfl, rfl, rfl, rfl, rfl, rfl⟩, fun _ => ⟨rfl, (fine_of h).symm⟩⟩
  · cases hr
def refLine (c m : List Int) (i : Nat) : List ByteArray :=
  if m.getD i 0 = 1 then [textM (inS c i).op (inS c i).a (inS c i).b (inS c i).c (inS c i).imm]
  else if m.getD i 0 = 2 then [⟨#[119, 111, 114, 100, 32, 48, 120]⟩ ++ hexB (c.getD i 0)] else []
def refLines (c m : List Int) : Nat → List ByteArray
  | 0 => []
  | i + 1 => refLines c m i ++ refLine c m i
theorem refLines_len (c m : List Int) : ∀ i, (refLines c m i).length ≤ i
  | 0 => Nat.le_refl _
  | i + 1 => by
    have := refLines_len c m i
    have h : (refLine c m i).length ≤ 1 := by unfold refLine; split <;> (try split) <;> simp
    rw [refLines, List.length_append]; omega
def HrLines (d c m : List Int) (dr cr : List Rel) (sy : List Sm) (i : Nat) : SState := { fr := [(1, .ptr 0 0), (3, .own 1), (4, .int .i64 (.sym i 0 1000000))], hp := [(0, obBoxL d c m dr cr sy), (1, some (.recs .str (refLines c m i)))], next := 2, sz := 52 }
def XrLines (d c m : List Int) (dr cr : List Rel) (sy : List Sm) : SState := { fr := [(3, .own 1)], hp := [(1, some (.recs .str (refLines c m c.length)))], next := 2, sz := 52 }
def LrLines (d c m : List Int) (dr cr : List Rel) (sy : List Sm) : LSum := ⟨HrLines d c m dr cr sy 0, fun k => k (.exit 0) (XrLines d c m dr cr sy), (c.length ≤ 1000000 ∧ m.length = c.length) ∧ ∀ i, i < c.length → m.getD i 0 = 1 → isaClass (inS c i).op ≠ 0⟩
theorem brLines (rest : List (Nat × SVal)) (d c m : List Int) (dr cr : List Rel) (sy : List Sm) (i : Nat) : (Tr.sat (rnd1 (env (G7 ++ rest) [(83, kSecond), (16, krOf), (26, krText), (62, kFmtV)]) (fun _ => True) (c.length) (HrLines d c m dr cr sy) 0 (XrLines d c m dr cr sy) i) (run (env (G7 ++ rest) [(83, kSecond), (16, krOf), (26, krText), (62, kFmtV)]) [] (loopN (bodyOf Tryd.f47) 0) (HrLines d c m dr cr sy i) .leaf)) = (
  (decide ((↑i : Int) < (↑(List.length c) : Int)) = true → ((0 : Int) ≤ (↑i : Int) ∧ (↑i : Int) < (↑(List.length m) : Int)) ∧ ((0 : Int) ≤ (↑i : Int) ∧ (↑i : Int) < (↑(List.length m) : Int) → (decide (List.getD m (Int.toNat (↑i : Int)) (RT.dflt RT.u8) = (1 : Int)) = true → ((0 : Int) ≤ (↑i : Int) ∧ (↑i : Int) < (↑(List.length c) : Int)) ∧ ((0 : Int) ≤ (↑i : Int) ∧ (↑i : Int) < (↑(List.length c) : Int) → ((0 : Int) ≤ (↑i : Int) ∧ (↑i : Int) < (↑(List.length c) : Int) ∧ List.length c ≤ (1000000 : Nat)) ∧ ((0 : Int) ≤ (↑i : Int) ∧ (↑i : Int) < (↑(List.length c) : Int) ∧ List.length c ≤ (1000000 : Nat) → isaClass (ofF (List.getD c (Int.toNat (↑i : Int)) (RT.dflt RT.u32)) (nextW c (↑i : Int))).op ≠ (0 : Int) ∧ (isaClass (ofF (List.getD c (Int.toNat (↑i : Int)) (RT.dflt RT.u32)) (nextW c (↑i : Int))).op ≠ (0 : Int) → List.length (refLines c m i) + List.length [textM (ofF (List.getD c (Int.toNat (↑i : Int)) (RT.dflt RT.u32)) (nextW c (↑i : Int))).op (ofF (List.getD c (Int.toNat (↑i : Int)) (RT.dflt RT.u32)) (nextW c (↑i : Int))).a (ofF (List.getD c (Int.toNat (↑i : Int)) (RT.dflt RT.u32)) (nextW c (↑i : Int))).b (ofF (List.getD c (Int.toNat (↑i : Int)) (RT.dflt RT.u32)) (nextW c (↑i : Int))).c (ofF (List.getD c (Int.toNat (↑i : Int)) (RT.dflt RT.u32)) (nextW c (↑i : Int))).imm] ≤ (137438953472 : Nat) ∧ (List.length (refLines c m i) + List.length [textM (ofF (List.getD c (Int.toNat (↑i : Int)) (RT.dflt RT.u32)) (nextW c (↑i : Int))).op (ofF (List.getD c (Int.toNat (↑i : Int)) (RT.dflt RT.u32)) (nextW c (↑i : Int))).a (ofF (List.getD c (Int.toNat (↑i : Int)) (RT.dflt RT.u32)) (nextW c (↑i : Int))).b (ofF (List.getD c (Int.toNat (↑i : Int)) (RT.dflt RT.u32)) (nextW c (↑i : Int))).c (ofF (List.getD c (Int.toNat (↑i : Int)) (RT.dflt RT.u32)) (nextW c (↑i : Int))).imm] ≤ (137438953472 : Nat) → i < List.length c ∧ True ∧ (↑i : Int) + (1 : Int) = (↑(i + (1 : Nat)) : Int) ∧ ((0 : Int) ≤ (↑(i + (1 : Nat)) : Int) ∧ (↑(i + (1 : Nat)) : Int) ≤ (1000000 : Int)) ∧ d = d ∧ c = c ∧ m = m ∧ dr = dr ∧ cr = cr ∧ sy = sy ∧ refLines c m i ++ [textM (ofF (List.getD c (Int.toNat (↑i : Int)) (RT.dflt RT.u32)) (nextW c (↑i : Int))).op (ofF (List.getD c (Int.toNat (↑i : Int)) (RT.dflt RT.u32)) (nextW c (↑i : Int))).a (ofF (List.getD c (Int.toNat (↑i : Int)) (RT.dflt RT.u32)) (nextW c (↑i : Int))).b (ofF (List.getD c (Int.toNat (↑i : Int)) (RT.dflt RT.u32)) (nextW c (↑i : Int))).c (ofF (List.getD c (Int.toNat (↑i : Int)) (RT.dflt RT.u32)) (nextW c (↑i : Int))).imm] = refLines c m (i + (1 : Nat))))))) ∧ (decide (List.getD m (Int.toNat (↑i : Int)) (RT.dflt RT.u8) = (1 : Int)) = false → (decide (List.getD m (Int.toNat (↑i : Int)) (RT.dflt RT.u8) = (2 : Int)) = true → ((0 : Int) ≤ (↑i : Int) ∧ (↑i : Int) < (↑(List.length c) : Int)) ∧ ((0 : Int) ≤ (↑i : Int) ∧ (↑i : Int) < (↑(List.length c) : Int) → ByteArray.size (ByteArray.mk #[(119 : UInt8), (111 : UInt8), (114 : UInt8), (100 : UInt8), (32 : UInt8), (48 : UInt8), (120 : UInt8)]) + ByteArray.size (hexB (List.getD c (Int.toNat (↑i : Int)) (RT.dflt RT.u32))) ≤ (9223372036854775807 : Nat) ∧ (ByteArray.size (ByteArray.mk #[(119 : UInt8), (111 : UInt8), (114 : UInt8), (100 : UInt8), (32 : UInt8), (48 : UInt8), (120 : UInt8)]) + ByteArray.size (hexB (List.getD c (Int.toNat (↑i : Int)) (RT.dflt RT.u32))) ≤ (9223372036854775807 : Nat) → List.length (refLines c m i) + List.length [ByteArray.mk #[(119 : UInt8), (111 : UInt8), (114 : UInt8), (100 : UInt8), (32 : UInt8), (48 : UInt8), (120 : UInt8)] ++ hexB (List.getD c (Int.toNat (↑i : Int)) (RT.dflt RT.u32))] ≤ (137438953472 : Nat) ∧ (List.length (refLines c m i) + List.length [ByteArray.mk #[(119 : UInt8), (111 : UInt8), (114 : UInt8), (100 : UInt8), (32 : UInt8), (48 : UInt8), (120 : UInt8)] ++ hexB (List.getD c (Int.toNat (↑i : Int)) (RT.dflt RT.u32))] ≤ (137438953472 : Nat) → i < List.length c ∧ True ∧ (↑i : Int) + (1 : Int) = (↑(i + (1 : Nat)) : Int) ∧ ((0 : Int) ≤ (↑(i + (1 : Nat)) : Int) ∧ (↑(i + (1 : Nat)) : Int) ≤ (1000000 : Int)) ∧ d = d ∧ c = c ∧ m = m ∧ dr = dr ∧ cr = cr ∧ sy = sy ∧ refLines c m i ++ [ByteArray.mk #[(119 : UInt8), (111 : UInt8), (114 : UInt8), (100 : UInt8), (32 : UInt8), (48 : UInt8), (120 : UInt8)] ++ hexB (List.getD c (Int.toNat (↑i : Int)) (RT.dflt RT.u32))] = refLines c m (i + (1 : Nat)))))) ∧ (decide (List.getD m (Int.toNat (↑i : Int)) (RT.dflt RT.u8) = (2 : Int)) = false → i < List.length c ∧ True ∧ (↑i : Int) + (1 : Int) = (↑(i + (1 : Nat)) : Int) ∧ ((0 : Int) ≤ (↑(i + (1 : Nat)) : Int) ∧ (↑(i + (1 : Nat)) : Int) ≤ (1000000 : Int)) ∧ d = d ∧ c = c ∧ m = m ∧ dr = dr ∧ cr = cr ∧ sy = sy ∧ refLines c m i = refLines c m (i + (1 : Nat)))))) ∧ (decide ((↑i : Int) < (↑(List.length c) : Int)) = false → Nat.beq (0 : Nat) (0 : Nat) = true ∧ refLines c m i = refLines c m (List.length c))) := by kernel_rfl
set_option maxHeartbeats 4000000 in
theorem lrLines (d c m : List Int) (dr cr : List Rel) (sy : List Sm) {W : World} {R own0 : Nat → Prop} {ρ0 : Nat → Option Value} (hown : HownOk (env (G7 ++ rest) [(83, kSecond), (16, krOf), (26, krText), (62, kFmtV)]) own0 ρ0) : LOk Tryd.prog (env (G7 ++ rest) [(83, kSecond), (16, krOf), (26, krText), (62, kFmtV)]) (ctx ea has) (G7 ++ rest) W R own0 ρ0 (loopN (bodyOf Tryd.f47) 0) (LrLines d c m dr cr sy) := by
  refine loop1_ok (env_ok (con := [(83, kSecond), (16, krOf), (26, krText), (62, kFmtV)]) ⟨cSecond, crOf, crText, cFmtV, trivial⟩) hown (ls := fun i => []) (fun i => noSums (by kernel_rfl)) (fun hm i hi hj => (brLines rest d c m dr cr sy i).mpr ?_) 0 (fun hm => by first | exact Nat.zero_le _ | omega) (fun hm => trivial)
  obtain ⟨⟨z1, z2⟩, z3⟩ := hm
  have hl := refLines_len c m i
  have hx := hexB_size (c.getD i 0)
  refine ⟨fun h => ?_, fun h => ?_⟩
  · have h := of_decide_eq_true h
    have hlt : i < c.length := by omega
    refine ⟨by omega, fun _ => ⟨fun h2 => ?_, fun h2 => ⟨fun h3 => ⟨by omega, fun _ => ⟨?_, fun _ => ⟨by simp only [List.length_singleton]; omega, fun _ => ?_⟩⟩⟩, fun h3 => ?_⟩⟩⟩
    · have e : m.getD i 0 = 1 := of_decide_eq_true h2
      refine ⟨by omega, fun _ => ⟨⟨by omega, by omega, z1⟩, fun _ => ⟨z3 i hlt e, fun _ => ⟨by simp only [List.length_singleton]; omega, fun _ => ⟨hlt, trivial, by omega, by omega, rfl, rfl, rfl, rfl, rfl, rfl, ?_⟩⟩⟩⟩⟩
      rw [refLines, refLine, if_pos e]; rfl
    · show 7 + (hexB (c.getD i 0)).size ≤ _
      omega
    · have e1 : ¬ m.getD i 0 = 1 := of_decide_eq_false h2
      have e2 : m.getD i 0 = 2 := of_decide_eq_true h3
      refine ⟨hlt, trivial, by omega, by omega, rfl, rfl, rfl, rfl, rfl, rfl, ?_⟩
      rw [refLines, refLine, if_neg e1, if_pos e2]; rfl
    · have e1 : ¬ m.getD i 0 = 1 := of_decide_eq_false h2
      have e2 : ¬ m.getD i 0 = 2 := of_decide_eq_false h3
      refine ⟨hlt, trivial, by omega, by omega, rfl, rfl, rfl, rfl, rfl, rfl, ?_⟩
      rw [refLines, refLine, if_neg e1, if_neg e2, List.append_nil]
  · have h := of_decide_eq_false h
    exact ⟨rfl, by rw [show i = c.length by omega]⟩
def krLines : List SVal → Nat → Acc ORes := fun a n => match a with | [.agg [.ro .u32 d, .ro .u32 c, .ro .u8 m, .ro .rel dr, .ro .rel cr, .ro .sym sy]] => .ret ({ v := .ro .str (refLines c m c.length), vc := some ((c.length ≤ 1000000 ∧ m.length = c.length) ∧ ∀ i, i < c.length → m.getD i 0 = 1 → isaClass (inS c i).op ≠ 0) }) | _ => .fail "rLines"
theorem argrLines (d c m : List Int) (dr cr : List Rel) (sy : List Sm) : (all (subL tAtN none' [] deep [.agg [.ro .u32 d, .ro .u32 c, .ro .u8 m, .ro .rel dr, .ro .rel cr, .ro .sym sy]] [.agg [.ro .u32 d, .ro .u32 c, .ro .u8 m, .ro .rel dr, .ro .rel cr, .ro .sym sy]])) = (
  d = d ∧ c = c ∧ m = m ∧ dr = dr ∧ cr = cr ∧ sy = sy) := by kernel_rfl
theorem runrLines (rest : List (Nat × SVal)) (d : List Int) (c : List Int) (m : List Int) (dr : List Rel) (cr : List Rel) (sy : List Sm) : (Tr.sat (plainQ (.ro .str (refLines c m c.length))) (run (env (G7 ++ rest) [(83, kSecond), (16, krOf), (26, krText), (62, kFmtV)]) [(3, LrLines d c m dr cr sy)] (bodyOf Tryd.f47) (start [.agg [.ro .u32 d, .ro .u32 c, .ro .u8 m, .ro .rel dr, .ro .rel cr, .ro .sym sy]] 52) (ends (env (G7 ++ rest) [(83, kSecond), (16, krOf), (26, krText), (62, kFmtV)]) Tryd.f47.results.toList))) = (
  (((List.length c ≤ (1000000 : Nat) ∧ List.length m = List.length c) ∧ ∀ (i : Nat), i < List.length c → List.getD m i (0 : Int) = (1 : Int) → isaClass (inS c i).op ≠ (0 : Int)) ∧ (0 : Int) = (↑(0 : Nat) : Int) ∧ d = d ∧ c = c ∧ m = m ∧ dr = dr ∧ cr = cr ∧ sy = sy ∧ @List.nil (RT.ty RT.str) = refLines c m (0 : Nat)) ∧ (((List.length c ≤ (1000000 : Nat) ∧ List.length m = List.length c) ∧ ∀ (i : Nat), i < List.length c → List.getD m i (0 : Int) = (1 : Int) → isaClass (inS c i).op ≠ (0 : Int)) ∧ (0 : Int) = (↑(0 : Nat) : Int) ∧ d = d ∧ c = c ∧ m = m ∧ dr = dr ∧ cr = cr ∧ sy = sy ∧ @List.nil (RT.ty RT.str) = refLines c m (0 : Nat) → refLines c m (List.length c) = refLines c m (List.length c))) := by kernel_rfl
set_option maxHeartbeats 4000000 in
theorem crLines : Con ea has (G7 ++ rest) 47 krLines := by
  refine plain_mkB Tryd.func47 52 (con := [(83, kSecond), (16, krOf), (26, krText), (62, kFmtV)]) ⟨cSecond, crOf, crText, cFmtV, trivial⟩ (fun hA hr hv => ?_) (by kernel_rfl) (by kernel_rfl) Tryd.ntmps47
  unfold krLines at hr; split at hr
  · rename_i d c m dr cr sy
    have := ret_ok hr; subst this
    replace hv := hv _ rfl
    refine ⟨_, [(3, LrLines d c m dr cr sy)], rfl, rfl, .of (argrLines d c m dr cr sy) (by simp), rfl, (fun W R ρ0 own0 hown => hl1 (by kernel_rfl) (by kernel_rfl) (lrLines d c m dr cr sy hown)), .of (runrLines rest d c m dr cr sy) ?_⟩
    clear hr
    exact ⟨⟨hv, rfl, rfl, rfl, rfl, rfl, rfl, rfl, rfl⟩, fun _ => rfl⟩
  · cases hr
end
end Go.Proofs.YtceebkojjmmjmaaDoor

