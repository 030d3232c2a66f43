/- Contracts that the proofs use. -/
import Derived.Test.YtceebkojjmmjmaaDoorQFnLines
import Derived.Test.YtceebkojjmmjmaaDoorQFnSee
import Derived.Test.YtceebkojjmmjmaaDoorQFnBytes
import Derived.Test.YtceebkojjmmjmaaDoorQMarkM
set_option linter.unusedVariables false
set_option linter.unusedSimpArgs false
set_option linter.unusedSectionVars false
set_option linter.unusedSectionVars false
namespace Go.Proofs.YtceebkojjmmjmaaDoor
open Go.RowKit Go.Sy Go.Fac
section
variable {ea : Ear} {has : Int → Prop} {rest : List (Nat × SVal)} [ht : Nonempty (Tabs ea)]
def krBack : List SVal → Nat → Acc ORes := fun a n => match a with | [.int .u32 w] => .ret ({ v := .tuple [.agg (backI w.val).enc, .bool (.sym (backB w.val))] }) | _ => .fail "rBack"
theorem argrBack (w : SI) : (all (subL tAtN none' [] deep [.int .u32 w] [.int .u32 (.full w.val)])) = (
  SI.val w = SI.val w) := by kernel_rfl
theorem runrBack (rest : List (Nat × SVal)) (w : Int) : (Tr.sat (plainQ (.tuple [.agg (backI w).enc, .bool (.sym (backB w))])) (run (env (G7 ++ (G9 ++ rest)) [(16, krOf), (19, krClass)]) [] (bodyOf Tryd.f111) (start [.int .u32 (.full w)] 31) (ends (env (G7 ++ (G9 ++ rest)) [(16, krOf), (19, krClass)]) Tryd.f111.results.toList))) = (
  (decide (w < (2147483648 : Int)) = true → (0 : Int) = (backI w).op ∧ (0 : Int) = (backI w).a ∧ (0 : Int) = (backI w).b ∧ (0 : Int) = (backI w).c ∧ (0 : Int) = (backI w).imm ∧ false = backB w) ∧ (decide (w < (2147483648 : Int)) = false → ((!ofOk (IntKind.wrap IntKind.u32 (w - (2147483648 : Int))) || !decide (isaClass (ofF (IntKind.wrap IntKind.u32 (w - (2147483648 : Int))) (0 : Int)).op = (2 : Int)) && !decide (isaClass (ofF (IntKind.wrap IntKind.u32 (w - (2147483648 : Int))) (0 : Int)).op = (3 : Int))) = true → (0 : Int) = (backI w).op ∧ (0 : Int) = (backI w).a ∧ (0 : Int) = (backI w).b ∧ (0 : Int) = (backI w).c ∧ (0 : Int) = (backI w).imm ∧ false = backB w) ∧ ((!ofOk (IntKind.wrap IntKind.u32 (w - (2147483648 : Int))) || !decide (isaClass (ofF (IntKind.wrap IntKind.u32 (w - (2147483648 : Int))) (0 : Int)).op = (2 : Int)) && !decide (isaClass (ofF (IntKind.wrap IntKind.u32 (w - (2147483648 : Int))) (0 : Int)).op = (3 : Int))) = false → (ofF (IntKind.wrap IntKind.u32 (w - (2147483648 : Int))) (0 : Int)).op = (backI w).op ∧ (ofF (IntKind.wrap IntKind.u32 (w - (2147483648 : Int))) (0 : Int)).a = (backI w).a ∧ (ofF (IntKind.wrap IntKind.u32 (w - (2147483648 : Int))) (0 : Int)).b = (backI w).b ∧ (ofF (IntKind.wrap IntKind.u32 (w - (2147483648 : Int))) (0 : Int)).c = (backI w).c ∧ (ofF (IntKind.wrap IntKind.u32 (w - (2147483648 : Int))) (0 : Int)).imm = (backI w).imm ∧ true = backB w))) := by kernel_rfl
set_option maxHeartbeats 4000000 in
theorem crBack : Con ea has (G7 ++ (G9 ++ rest)) 111 krBack := by
  refine plain_mkB Tryd.func111 31 (con := [(16, krOf), (19, krClass)]) ⟨crOf, crClass, trivial⟩ (fun hA hr hv => ?_) (by kernel_rfl) (by kernel_rfl) Tryd.ntmps111
  unfold krBack at hr; split at hr
  · rename_i w
    have := ret_ok hr; subst this
    refine ⟨_, [], rfl, rfl, .of (argrBack w) (by simp), rfl, (fun W R ρ0 own0 hown => noSums (by kernel_rfl)), .of (runrBack rest w.val) ?_⟩
    clear hr
    have hw := DenA.i0 hA
    have h1 := hw.lo; have h2 := hw.hi
    simp only [kmin, kmax] at h1 h2
    clear hA hv hw
    generalize w.val = w at *
    have hb := backB_eq (w := w) ⟨h1, by omega⟩
    have hu : unmark w = w % 2147483648 := mark_andNot
    refine ⟨fun h => ?_, fun h => ?_⟩
    · rw [h] at hb
      simp at hb
      unfold backI; rw [hb]; exact ⟨rfl, rfl, rfl, rfl, rfl, rfl⟩
    · have hl := of_decide_eq_false h
      have hw : IntKind.u32.wrap (w - 2147483648) = w % 2147483648 := by rw [IntKind.wrap_u32]; omega
      rw [hw]
      rw [h] at hb
      unfold backI
      rw [hu]
      refine ⟨fun g => ?_, fun g => ?_⟩
      · have : backB w = false := by
          rw [hb]
          cases h3 : ofOk (w % 2147483648) <;> rw [h3] at g <;> simp at g ⊢
          exact g
        rw [this]; exact ⟨rfl, rfl, rfl, rfl, rfl, rfl⟩
      · have : backB w = true := by
          rw [hb]
          cases h3 : ofOk (w % 2147483648) <;> rw [h3] at g <;> simp at g ⊢
          by_cases h4 : isaClass (ofF (w % 2147483648) 0).op = 2
          · exact .inl h4
          · exact .inr (g h4)
        rw [this]; exact ⟨rfl, rfl, rfl, rfl, rfl, rfl⟩
  · cases hr
def codeN : FErr → Int
  | .bare n => n
  | .placed n _ => n
  | _ => 0
abbrev rF (e : FErr) : SVal := .agg [.int .i64 (.full (codeN e)), .bool (.sym e.isPlaced), .int .i64 (.full e.pos)]
abbrev opW (w : Int) : Int := w / 16777216
def ahead9 (c m : List Int) (i : Nat) : Bool := decide (0 < i) && decide (m.getD (i - 1) 0 = 1) && isaTwo (opW (c.getD (i - 1) 0))
def two9 (c m : List Int) (i : Nat) : Bool := isaTwo (inS c i).op && (decide (c.length ≤ i + 1) || !decide (m.getD (i + 1) 0 = 0))
def no9 (c : List Int) (i : Nat) : Bool := !ofOk (c.getD i 0) || decide ((inS c i).op = 96)
def bad9 (c m : List Int) (i : Nat) : Int :=
  if m.getD i 0 = 0 then (if ahead9 c m i = true then 0 else 109)
  else if m.getD i 0 = 1 then (if no9 c i = true then 105 else if two9 c m i = true then 109 else 0)
  else if m.getD i 0 = 2 then 0 else 109
def badE (n : Int) : FErr := if n = 0 then .fine else .bare n
def wd9 (c m : List Int) (i : Nat) : FErr := badE (bad9 c m i)
theorem bad_at {f : Nat → FErr} {i n : Nat} {x : Int} (hj : firstE f i = .fine) (hf : f i = .bare x) (hi : i < n) : (!(firstE f n).isErr) = false ∧ x = codeN (firstE f n) ∧ true = (firstE f n).isPlaced ∧ (i : Int) = (firstE f n).pos := by
  have := firstE_at hj (by rw [hf]; rfl) (by rw [hf]; rfl) hi
  rw [hf] at this
  rw [this.1]
  exact ⟨rfl, rfl, rfl, rfl⟩
theorem good_at {f : Nat → FErr} {i : Nat} (hj : firstE f i = .fine) (hf : f i = .fine) : firstE f (i + 1) = .fine := firstE_fine hj (by rw [hf]; rfl)
def kfar9 : List SVal → Nat → Acc ORes := fun a n => match a with | [.int .i64 n'] => .ret ({ v := .bool (.sym (decide (n'.val < -65536) || decide (65536 < n'.val))) }) | _ => .fail "far9"
theorem argfar9 (n' : SI) : (all (subL tAtN none' [] deep [.int .i64 n'] [.int .i64 (.full n'.val)])) = (
  SI.val n' = SI.val n') := by kernel_rfl
theorem runfar9 (rest : List (Nat × SVal)) (n' : Int) : (Tr.sat (plainQ (.bool (.sym (decide (n' < -65536) || decide (65536 < n'))))) (run (env (G7 ++ (G9 ++ rest)) []) [] (bodyOf Tryd.f112) (start [.int .i64 (.full n')] 9) (ends (env (G7 ++ (G9 ++ rest)) []) Tryd.f112.results.toList))) = (
  (decide (n' < (-65536 : Int)) || decide ((65536 : Int) < n')) = (decide (n' < (-65536 : Int)) || decide ((65536 : Int) < n'))) := by kernel_rfl
set_option maxHeartbeats 4000000 in
theorem cfar9 : Con ea has (G7 ++ (G9 ++ rest)) 112 kfar9 := by
  refine plain_mkB Tryd.func112 9 (con := []) trivial (fun hA hr hv => ?_) (by kernel_rfl) (by kernel_rfl) Tryd.ntmps112
  unfold kfar9 at hr; split at hr
  · rename_i n'
    have := ret_ok hr; subst this
    refine ⟨_, [], rfl, rfl, .of (argfar9 n') (by simp), rfl, (fun W R ρ0 own0 hown => noSums (by kernel_rfl)), .of (runfar9 rest n'.val) ?_⟩
    clear hr
    rfl
  · cases hr
def kjump9 : List SVal → Nat → Acc ORes := fun a n => match a with | [.int .i64 o] => .ret ({ v := .bool (.sym (decide (o.val = 19) || decide (o.val = 20) || decide (o.val = 21) || decide (o.val = 22))) }) | _ => .fail "jump9"
theorem argjump9 (o : SI) : (all (subL tAtN none' [] deep [.int .i64 o] [.int .i64 (.full o.val)])) = (
  SI.val o = SI.val o) := by kernel_rfl
theorem runjump9 (rest : List (Nat × SVal)) (o : Int) : (Tr.sat (plainQ (.bool (.sym (decide (o = 19) || decide (o = 20) || decide (o = 21) || decide (o = 22))))) (run (env (G7 ++ (G9 ++ rest)) []) [] (bodyOf Tryd.f100) (start [.int .i64 (.full o)] 17) (ends (env (G7 ++ (G9 ++ rest)) []) Tryd.f100.results.toList))) = (
  (decide (o = (19 : Int)) || decide (o = (20 : Int)) || decide (o = (21 : Int)) || decide (o = (22 : Int))) = (decide (o = (19 : Int)) || decide (o = (20 : Int)) || decide (o = (21 : Int)) || decide (o = (22 : Int)))) := by kernel_rfl
set_option maxHeartbeats 4000000 in
theorem cjump9 : Con ea has (G7 ++ (G9 ++ rest)) 100 kjump9 := by
  refine plain_mkB Tryd.func100 17 (con := []) trivial (fun hA hr hv => ?_) (by kernel_rfl) (by kernel_rfl) Tryd.ntmps100
  unfold kjump9 at hr; split at hr
  · rename_i o
    have := ret_ok hr; subst this
    refine ⟨_, [], rfl, rfl, .of (argjump9 o) (by simp), rfl, (fun W R ρ0 own0 hown => noSums (by kernel_rfl)), .of (runjump9 rest o.val) ?_⟩
    clear hr
    rfl
  · cases hr
def short9 (c m : List Int) (i : Int) : Bool := decide (m.getD i.toNat 0 = 1) && (decide (opW (c.getD i.toNat 0) = 16) || decide (opW (c.getD i.toNat 0) = 17) || decide (opW (c.getD i.toNat 0) = 18))
def kshort9 : List SVal → Nat → Acc ORes := fun a n => match a with | [.agg [.ro .u32 d, .ro .u32 c, .ro .u8 m, .ro .rel dr, .ro .rel cr, .ro .sym sy], .int .i64 i] => .ret ({ v := .bool (.sym (short9 c m i.val)), vc := some (0 ≤ i.val ∧ i.val < (c.length : Int) ∧ m.length = c.length) }) | _ => .fail "short9"
theorem argshort9 (d c m : List Int) (dr cr : List Rel) (sy : List Sm) (i : SI) : (all (subL tAtN none' [] deep [.agg [.ro .u32 d, .ro .u32 c, .ro .u8 m, .ro .rel dr, .ro .rel cr, .ro .sym sy], .int .i64 i] [.agg [.ro .u32 d, .ro .u32 c, .ro .u8 m, .ro .rel dr, .ro .rel cr, .ro .sym sy], .int .i64 (.full i.val)])) = (
  d = d ∧ c = c ∧ m = m ∧ dr = dr ∧ cr = cr ∧ sy = sy ∧ SI.val i = SI.val i) := by kernel_rfl
theorem runshort9 (rest : List (Nat × SVal)) (d : List Int) (c : List Int) (m : List Int) (dr : List Rel) (cr : List Rel) (sy : List Sm) (i : Int) : (Tr.sat (plainQ (.bool (.sym (short9 c m i)))) (run (env (G7 ++ (G9 ++ rest)) []) [] (bodyOf Tryd.f98) (start [.agg [.ro .u32 d, .ro .u32 c, .ro .u8 m, .ro .rel dr, .ro .rel cr, .ro .sym sy], .int .i64 (.full i)] 31) (ends (env (G7 ++ (G9 ++ rest)) []) Tryd.f98.results.toList))) = (
  ((0 : Int) ≤ i ∧ i < (↑(List.length c) : Int)) ∧ ((0 : Int) ≤ i ∧ i < (↑(List.length c) : Int) → ((0 : Int) ≤ i ∧ i < (↑(List.length m) : Int)) ∧ ((0 : Int) ≤ i ∧ i < (↑(List.length m) : Int) → (decide (List.getD m (Int.toNat i) (RT.dflt RT.u8) = (1 : Int)) && (decide (List.getD c (Int.toNat i) (RT.dflt RT.u32) / (16777216 : Int) = (16 : Int)) || decide (List.getD c (Int.toNat i) (RT.dflt RT.u32) / (16777216 : Int) = (17 : Int)) || decide (List.getD c (Int.toNat i) (RT.dflt RT.u32) / (16777216 : Int) = (18 : Int)))) = short9 c m i))) := by kernel_rfl
set_option maxHeartbeats 4000000 in
theorem cshort9 : Con ea has (G7 ++ (G9 ++ rest)) 98 kshort9 := by
  refine plain_mkB Tryd.func98 31 (con := []) trivial (fun hA hr hv => ?_) (by kernel_rfl) (by kernel_rfl) Tryd.ntmps98
  unfold kshort9 at hr; split at hr
  · rename_i d c m dr cr sy i
    have := ret_ok hr; subst this
    replace hv := hv _ rfl
    refine ⟨_, [], rfl, rfl, .of (argshort9 d c m dr cr sy i) (by simp), rfl, (fun W R ρ0 own0 hown => noSums (by kernel_rfl)), .of (runshort9 rest d c m dr cr sy i.val) ?_⟩
    clear hr
    obtain ⟨q1, q2, q3⟩ := hv
    exact ⟨by omega, fun _ => ⟨by omega, fun _ => rfl⟩⟩
  · cases hr
def Hcode9 (d c m : List Int) (dr cr : List Rel) (sy : List Sm) (i : Nat) : SState := { fr := [(1, .bool (.lit false)), (2, .ptr 0 0), (4, .ptr 1 0), (5, .int .i64 (.sym i 0 1000000))], hp := [(0, obBox d c m dr cr sy), (1, some (.cells [.int .i64 (.lit 0), .bool (.lit false), .int .i64 (.lit 0)]))], next := 2, sz := 115 }
def Xcode9 (d c m : List Int) (dr cr : List Rel) (sy : List Sm) : SState := { fr := [(4, .ptr 0 0)], hp := [(0, some (.cells [.int .i64 (.lit 0), .bool (.lit false), .int .i64 (.lit 0)]))], next := 1, sz := 115 }
def Ycode9 (d c m : List Int) (dr cr : List Rel) (sy : List Sm) : SState := { fr := [(4, .ptr 0 0)], hp := [(0, some (.cells [.int .i64 (.full (codeN (firstE (wd9 c m) c.length))), .bool (.sym (firstE (wd9 c m) c.length).isPlaced), .int .i64 (.full (firstE (wd9 c m) c.length).pos)]))], next := 1, sz := 115 }
def Lcode9 (d c m : List Int) (dr cr : List Rel) (sy : List Sm) : LSum := ⟨Hcode9 d c m dr cr sy 0, fun k => .ite (!(firstE (wd9 c m) c.length).isErr) (k (.exit 0) (Xcode9 d c m dr cr sy)) (k .ret (Ycode9 d c m dr cr sy)), c.length ≤ 10000 ∧ m.length = c.length⟩
theorem bcode9 (rest : List (Nat × SVal)) (d c m : List Int) (dr cr : List Rel) (sy : List Sm) (i : Nat) : (Tr.sat (rnd2 (env (G7 ++ (G9 ++ rest)) [(83, kSecond), (16, krOf), (21, krTwo), (111, krBack), (40, kPlaced), (77, kNone)]) (fun i => firstE (wd9 c m) i = .fine) (c.length) (Hcode9 d c m dr cr sy) 0 (!(firstE (wd9 c m) c.length).isErr) (Xcode9 d c m dr cr sy) (Ycode9 d c m dr cr sy) i) (run (env (G7 ++ (G9 ++ rest)) [(83, kSecond), (16, krOf), (21, krTwo), (111, krBack), (40, kPlaced), (77, kNone)]) [] (loopN (bodyOf Tryd.f94) 0) (Hcode9 d c m dr cr sy i) .leaf)) = (
  (decide ((↑i : Int) < (↑(List.length c) : Int)) = true → ((0 : Int) ≤ (↑i : Int) ∧ (↑i : Int) < (↑(List.length m) : Int)) ∧ ((0 : Int) ≤ (↑i : Int) ∧ (↑i : Int) < (↑(List.length m) : Int) → (decide (List.getD m (Int.toNat (↑i : Int)) (RT.dflt RT.u8) = (0 : Int)) = true → (decide ((0 : Int) < (↑i : Int)) = true → (0 : Int) ≤ (↑i : Int) - (1 : Int) ∧ (↑i : Int) - (1 : Int) < (↑(List.length m) : Int)) ∧ ((decide ((0 : Int) < (↑i : Int)) = true → (0 : Int) ≤ (↑i : Int) - (1 : Int) ∧ (↑i : Int) - (1 : Int) < (↑(List.length m) : Int)) → ((decide ((0 : Int) < (↑i : Int)) && decide (List.getD m (Int.toNat ((↑i : Int) - (1 : Int))) (RT.dflt RT.u8) = (1 : Int))) = true → (0 : Int) ≤ (↑i : Int) - (1 : Int) ∧ (↑i : Int) - (1 : Int) < (↑(List.length c) : Int)) ∧ (((decide ((0 : Int) < (↑i : Int)) && decide (List.getD m (Int.toNat ((↑i : Int) - (1 : Int))) (RT.dflt RT.u8) = (1 : Int))) = true → (0 : Int) ≤ (↑i : Int) - (1 : Int) ∧ (↑i : Int) - (1 : Int) < (↑(List.length c) : Int)) → ((!(decide ((0 : Int) < (↑i : Int)) && decide (List.getD m (Int.toNat ((↑i : Int) - (1 : Int))) (RT.dflt RT.u8) = (1 : Int)) && isaTwo (List.getD c (Int.toNat ((↑i : Int) - (1 : Int))) (RT.dflt RT.u32) / (16777216 : Int)))) = true → (!FErr.isErr (firstE (wd9 c m) (List.length c))) = false ∧ (109 : Int) = codeN (firstE (wd9 c m) (List.length c)) ∧ true = FErr.isPlaced (firstE (wd9 c m) (List.length c)) ∧ (if (109 : Int) = (0 : Int) then (0 : Int) else (↑i : Int)) = FErr.pos (firstE (wd9 c m) (List.length c))) ∧ ((!(decide ((0 : Int) < (↑i : Int)) && decide (List.getD m (Int.toNat ((↑i : Int) - (1 : Int))) (RT.dflt RT.u8) = (1 : Int)) && isaTwo (List.getD c (Int.toNat ((↑i : Int) - (1 : Int))) (RT.dflt RT.u32) / (16777216 : Int)))) = false → i < List.length c ∧ firstE (wd9 c m) (i + (1 : Nat)) = FErr.fine ∧ false = false ∧ (↑i : Int) + (1 : Int) = (↑(i + (1 : Nat)) : Int) ∧ ((0 : Int) ≤ (↑(i + (1 : Nat)) : Int) ∧ (↑(i + (1 : Nat)) : Int) ≤ (1000000 : Int)) ∧ d = d ∧ c = c ∧ m = m ∧ dr = dr ∧ cr = cr ∧ sy = sy ∧ (0 : Int) = (0 : Int) ∧ false = false ∧ (0 : Int) = (0 : Int))))) ∧ (decide (List.getD m (Int.toNat (↑i : Int)) (RT.dflt RT.u8) = (0 : Int)) = false → (decide (List.getD m (Int.toNat (↑i : Int)) (RT.dflt RT.u8) = (1 : Int)) = true → ((0 : Int) ≤ (↑i : Int) ∧ (↑i : Int) < (↑(List.length c) : Int)) ∧ ((0 : Int) ≤ (↑i : Int) ∧ (↑i : Int) < (↑(List.length c) : Int) → ((0 : Int) ≤ (↑i : Int) ∧ (↑i : Int) < (↑(List.length c) : Int) ∧ List.length c ≤ (1000000 : Nat)) ∧ ((0 : Int) ≤ (↑i : Int) ∧ (↑i : Int) < (↑(List.length c) : Int) ∧ List.length c ≤ (1000000 : Nat) → ((0 : Int) ≤ (↑i : Int) ∧ (↑i : Int) < (↑(List.length c) : Int) ∧ List.length c ≤ (1000000 : Nat)) ∧ ((0 : Int) ≤ (↑i : Int) ∧ (↑i : Int) < (↑(List.length c) : Int) ∧ List.length c ≤ (1000000 : Nat) → ((!ofOk (List.getD c (Int.toNat (↑i : Int)) (RT.dflt RT.u32)) || decide ((ofF (List.getD c (Int.toNat (↑i : Int)) (RT.dflt RT.u32)) (nextW c (↑i : Int))).op = (96 : Int))) = true → (!FErr.isErr (firstE (wd9 c m) (List.length c))) = false ∧ (105 : Int) = codeN (firstE (wd9 c m) (List.length c)) ∧ true = FErr.isPlaced (firstE (wd9 c m) (List.length c)) ∧ (if (105 : Int) = (0 : Int) then (0 : Int) else (↑i : Int)) = FErr.pos (firstE (wd9 c m) (List.length c))) ∧ ((!ofOk (List.getD c (Int.toNat (↑i : Int)) (RT.dflt RT.u32)) || decide ((ofF (List.getD c (Int.toNat (↑i : Int)) (RT.dflt RT.u32)) (nextW c (↑i : Int))).op = (96 : Int))) = false → ((isaTwo (ofF (List.getD c (Int.toNat (↑i : Int)) (RT.dflt RT.u32)) (nextW c (↑i : Int))).op && !decide ((↑(List.length c) : Int) ≤ (↑i : Int) + (1 : Int))) = true → (0 : Int) ≤ (↑i : Int) + (1 : Int) ∧ (↑i : Int) + (1 : Int) < (↑(List.length m) : Int)) ∧ (((isaTwo (ofF (List.getD c (Int.toNat (↑i : Int)) (RT.dflt RT.u32)) (nextW c (↑i : Int))).op && !decide ((↑(List.length c) : Int) ≤ (↑i : Int) + (1 : Int))) = true → (0 : Int) ≤ (↑i : Int) + (1 : Int) ∧ (↑i : Int) + (1 : Int) < (↑(List.length m) : Int)) → ((isaTwo (ofF (List.getD c (Int.toNat (↑i : Int)) (RT.dflt RT.u32)) (nextW c (↑i : Int))).op && (decide ((↑(List.length c) : Int) ≤ (↑i : Int) + (1 : Int)) || !decide (List.getD m (Int.toNat ((↑i : Int) + (1 : Int))) (RT.dflt RT.u8) = (0 : Int)))) = true → (!FErr.isErr (firstE (wd9 c m) (List.length c))) = false ∧ (109 : Int) = codeN (firstE (wd9 c m) (List.length c)) ∧ true = FErr.isPlaced (firstE (wd9 c m) (List.length c)) ∧ (if (109 : Int) = (0 : Int) then (0 : Int) else (↑i : Int)) = FErr.pos (firstE (wd9 c m) (List.length c))) ∧ ((isaTwo (ofF (List.getD c (Int.toNat (↑i : Int)) (RT.dflt RT.u32)) (nextW c (↑i : Int))).op && (decide ((↑(List.length c) : Int) ≤ (↑i : Int) + (1 : Int)) || !decide (List.getD m (Int.toNat ((↑i : Int) + (1 : Int))) (RT.dflt RT.u8) = (0 : Int)))) = false → i < List.length c ∧ firstE (wd9 c m) (i + (1 : Nat)) = FErr.fine ∧ false = false ∧ (↑i : Int) + (1 : Int) = (↑(i + (1 : Nat)) : Int) ∧ ((0 : Int) ≤ (↑(i + (1 : Nat)) : Int) ∧ (↑(i + (1 : Nat)) : Int) ≤ (1000000 : Int)) ∧ d = d ∧ c = c ∧ m = m ∧ dr = dr ∧ cr = cr ∧ sy = sy ∧ (0 : Int) = (0 : Int) ∧ false = false ∧ (0 : Int) = (0 : Int)))))))) ∧ (decide (List.getD m (Int.toNat (↑i : Int)) (RT.dflt RT.u8) = (1 : Int)) = false → (decide (List.getD m (Int.toNat (↑i : Int)) (RT.dflt RT.u8) = (2 : Int)) = true → i < List.length c ∧ firstE (wd9 c m) (i + (1 : Nat)) = FErr.fine ∧ false = false ∧ (↑i : Int) + (1 : Int) = (↑(i + (1 : Nat)) : Int) ∧ ((0 : Int) ≤ (↑(i + (1 : Nat)) : Int) ∧ (↑(i + (1 : Nat)) : Int) ≤ (1000000 : Int)) ∧ d = d ∧ c = c ∧ m = m ∧ dr = dr ∧ cr = cr ∧ sy = sy ∧ (0 : Int) = (0 : Int) ∧ false = false ∧ (0 : Int) = (0 : Int)) ∧ (decide (List.getD m (Int.toNat (↑i : Int)) (RT.dflt RT.u8) = (2 : Int)) = false → (!FErr.isErr (firstE (wd9 c m) (List.length c))) = false ∧ (109 : Int) = codeN (firstE (wd9 c m) (List.length c)) ∧ true = FErr.isPlaced (firstE (wd9 c m) (List.length c)) ∧ (if (109 : Int) = (0 : Int) then (0 : Int) else (↑i : Int)) = FErr.pos (firstE (wd9 c m) (List.length c))))))) ∧ (decide ((↑i : Int) < (↑(List.length c) : Int)) = false → Nat.beq (0 : Nat) (0 : Nat) = true ∧ (!FErr.isErr (firstE (wd9 c m) (List.length c))) = true ∧ (0 : Int) = (0 : Int) ∧ false = false ∧ (0 : Int) = (0 : Int))) := by kernel_rfl
set_option maxHeartbeats 4000000 in
theorem lcode9 (d c m : List Int) (dr cr : List Rel) (sy : List Sm) {W : World} {R own0 : Nat → Prop} {ρ0 : Nat → Option Value} (hown : HownOk (env (G7 ++ (G9 ++ rest)) [(83, kSecond), (16, krOf), (21, krTwo), (111, krBack), (40, kPlaced), (77, kNone)]) own0 ρ0) : LOk Tryd.prog (env (G7 ++ (G9 ++ rest)) [(83, kSecond), (16, krOf), (21, krTwo), (111, krBack), (40, kPlaced), (77, kNone)]) (ctx ea has) (G7 ++ (G9 ++ rest)) W R own0 ρ0 (loopN (bodyOf Tryd.f94) 0) (Lcode9 d c m dr cr sy) := by
  refine loop2_ok (env_ok (con := [(83, kSecond), (16, krOf), (21, krTwo), (111, krBack), (40, kPlaced), (77, kNone)]) ⟨cSecond, crOf, crTwo, crBack, cPlaced, cNone, trivial⟩) hown (ls := fun i => []) (fun i => noSums (by kernel_rfl)) (fun hm i hi hj => (bcode9 rest d c m dr cr sy i).mpr ?_) 0 (fun hm => by first | exact Nat.zero_le _ | omega) (fun hm => rfl)
  have d1 : RT.u8.dflt = (0 : Int) := rfl
  have d2 : RT.u32.dflt = (0 : Int) := rfl
  have t1 : ((i : Int) + 1).toNat = i + 1 := by omega
  have t2 : ((i : Int) - 1).toNat = i - 1 := by omega
  obtain ⟨z1, z2⟩ := hm
  have ha : (decide (0 < (i : Int)) && decide (m.getD (i - 1) 0 = 1) && isaTwo (c.getD (i - 1) 0 / 16777216)) = ahead9 c m i := by
    unfold ahead9; rw [show decide (0 < (i : Int)) = decide (0 < i) by simp]
  have hn : (!ofOk (c.getD i 0) || decide ((ofF (c.getD i 0) (nextW c i)).op = 96)) = no9 c i := rfl
  have ht : (isaTwo (ofF (c.getD i 0) (nextW c i)).op && (decide ((c.length : Int) ≤ (i : Int) + 1) || !decide (m.getD (i + 1) 0 = 0))) = two9 c m i := by
    unfold two9
    rw [show decide ((c.length : Int) ≤ (i : Int) + 1) = decide (c.length ≤ i + 1) by rw [decide_eq_decide]; omega]; rfl
  have hW : wd9 c m i = badE (bad9 c m i) := rfl
  rw [bad9] at hW
  rw [d1, d2, t1, t2, Int.toNat_natCast, ha, hn, ht]
  refine ⟨fun h => ?_, fun h => ?_⟩
  · have h := of_decide_eq_true h
    have hlt : i < c.length := by omega
    refine ⟨by omega, fun _ => ⟨fun h0 => ?_, fun h0 => ⟨fun h1 => ?_, fun h1 => ⟨fun h2 => ?_, fun h2 => ?_⟩⟩⟩⟩
    · rw [if_pos (of_decide_eq_true h0)] at hW
      refine ⟨fun h => by have := of_decide_eq_true h; omega, fun _ => ⟨fun h => by rw [Bool.and_eq_true] at h; have := of_decide_eq_true h.1; omega, fun _ => ⟨fun g => ?_, fun g => ?_⟩⟩⟩
      · rw [if_neg (by simpa using g)] at hW
        exact bad_at hj hW hlt
      · rw [if_pos (by simpa using g)] at hW
        refine ⟨hlt, good_at hj hW, ?_⟩
        simp; omega
    · rw [if_neg (of_decide_eq_false h0), if_pos (of_decide_eq_true h1)] at hW
      refine ⟨by omega, fun _ => ⟨by omega, fun _ => ⟨by omega, fun _ => ⟨fun g => ?_, fun g => ⟨fun h => ?_, fun _ => ⟨fun g2 => ?_, fun g2 => ?_⟩⟩⟩⟩⟩⟩
      · rw [if_pos g] at hW
        exact bad_at hj hW hlt
      · rw [Bool.and_eq_true, Bool.not_eq_true'] at h
        have := of_decide_eq_false h.2; omega
      · rw [if_neg (by rw [g]; simp), if_pos g2] at hW
        exact bad_at hj hW hlt
      · rw [if_neg (by rw [g]; simp), if_neg (by rw [g2]; simp)] at hW
        refine ⟨hlt, good_at hj hW, ?_⟩
        simp; omega
    · rw [if_neg (of_decide_eq_false h0), if_neg (of_decide_eq_false h1), if_pos (of_decide_eq_true h2)] at hW
      refine ⟨hlt, good_at hj hW, ?_⟩
      simp; omega
    · rw [if_neg (of_decide_eq_false h0), if_neg (of_decide_eq_false h1), if_neg (of_decide_eq_false h2)] at hW
      exact bad_at hj hW hlt
  · have h := of_decide_eq_false h
    have e : i = c.length := by omega
    subst e
    rw [hj]
    simp [FErr.isErr]
def kcode9 : List SVal → Nat → Acc ORes := fun a n => match a with | [.agg [.ro .u32 d, .ro .u32 c, .ro .u8 m, .ro .rel dr, .ro .rel cr, .ro .sym sy], .bool (.lit false)] => .ret ({ v := rF (firstE (wd9 c m) c.length), vc := some (c.length ≤ 10000 ∧ m.length = c.length) }) | _ => .fail "code9"
theorem argcode9 (d c m : List Int) (dr cr : List Rel) (sy : List Sm) : (all (subL tAtN none' [] deep [.agg [.ro .u32 d, .ro .u32 c, .ro .u8 m, .ro .rel dr, .ro .rel cr, .ro .sym sy], .bool (.lit false)] [.agg [.ro .u32 d, .ro .u32 c, .ro .u8 m, .ro .rel dr, .ro .rel cr, .ro .sym sy], .bool (.lit false)])) = (
  d = d ∧ c = c ∧ m = m ∧ dr = dr ∧ cr = cr ∧ sy = sy ∧ false = false) := by kernel_rfl
theorem runcode9 (rest : List (Nat × SVal)) (d : List Int) (c : List Int) (m : List Int) (dr : List Rel) (cr : List Rel) (sy : List Sm) : (Tr.sat (plainQ (rF (firstE (wd9 c m) c.length))) (run (env (G7 ++ (G9 ++ rest)) [(83, kSecond), (16, krOf), (21, krTwo), (111, krBack), (40, kPlaced), (77, kNone)]) [(2, Lcode9 d c m dr cr sy)] (bodyOf Tryd.f94) (start [.agg [.ro .u32 d, .ro .u32 c, .ro .u8 m, .ro .rel dr, .ro .rel cr, .ro .sym sy], .bool (.lit false)] 115) (ends (env (G7 ++ (G9 ++ rest)) [(83, kSecond), (16, krOf), (21, krTwo), (111, krBack), (40, kPlaced), (77, kNone)]) Tryd.f94.results.toList))) = (
  ((List.length c ≤ (10000 : Nat) ∧ List.length m = List.length c) ∧ false = false ∧ (0 : Int) = (↑(0 : Nat) : Int) ∧ d = d ∧ c = c ∧ m = m ∧ dr = dr ∧ cr = cr ∧ sy = sy ∧ (0 : Int) = (0 : Int) ∧ false = false ∧ (0 : Int) = (0 : Int)) ∧ ((List.length c ≤ (10000 : Nat) ∧ List.length m = List.length c) ∧ false = false ∧ (0 : Int) = (↑(0 : Nat) : Int) ∧ d = d ∧ c = c ∧ m = m ∧ dr = dr ∧ cr = cr ∧ sy = sy ∧ (0 : Int) = (0 : Int) ∧ false = false ∧ (0 : Int) = (0 : Int) → ((!FErr.isErr (firstE (wd9 c m) (List.length c))) = true → (0 : Int) = codeN (firstE (wd9 c m) (List.length c)) ∧ false = FErr.isPlaced (firstE (wd9 c m) (List.length c)) ∧ (0 : Int) = FErr.pos (firstE (wd9 c m) (List.length c))) ∧ ((!FErr.isErr (firstE (wd9 c m) (List.length c))) = false → codeN (firstE (wd9 c m) (List.length c)) = codeN (firstE (wd9 c m) (List.length c)) ∧ FErr.isPlaced (firstE (wd9 c m) (List.length c)) = FErr.isPlaced (firstE (wd9 c m) (List.length c)) ∧ FErr.pos (firstE (wd9 c m) (List.length c)) = FErr.pos (firstE (wd9 c m) (List.length c))))) := by kernel_rfl
set_option maxHeartbeats 4000000 in
theorem ccode9 : Con ea has (G7 ++ (G9 ++ rest)) 94 kcode9 := by
  refine plain_mkB Tryd.func94 115 (con := [(83, kSecond), (16, krOf), (21, krTwo), (111, krBack), (40, kPlaced), (77, kNone)]) ⟨cSecond, crOf, crTwo, crBack, cPlaced, cNone, trivial⟩ (fun hA hr hv => ?_) (by kernel_rfl) (by kernel_rfl) Tryd.ntmps94
  unfold kcode9 at hr; split at hr
  · rename_i d c m dr cr sy
    have := ret_ok hr; subst this
    replace hv := hv _ rfl
    refine ⟨_, [(2, Lcode9 d c m dr cr sy)], rfl, rfl, .of (argcode9 d c m dr cr sy) (by simp), rfl, (fun W R ρ0 own0 hown => hl1 (by kernel_rfl) (by kernel_rfl) (lcode9 d c m dr cr sy hown)), .of (runcode9 rest d c m dr cr sy) ?_⟩
    clear hr
    refine ⟨⟨hv, rfl, rfl, rfl, rfl, rfl, rfl, rfl, rfl, rfl, rfl, rfl⟩, fun _ => ⟨fun h => ?_, fun h => ⟨rfl, rfl, rfl⟩⟩⟩
    have h : (firstE (wd9 c m) c.length).isErr = false := by simpa using h
    rw [fine_of h]
    exact ⟨rfl, rfl, rfl⟩
  · cases hr
end
end Go.Proofs.YtceebkojjmmjmaaDoor

