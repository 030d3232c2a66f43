/- Contracts that the proofs use. -/
import Derived.Test.YtceebkojjmmjmaaDoorQFnObj
set_option linter.unusedVariables false
set_option linter.unusedSimpArgs false
namespace Go.Proofs.YtceebkojjmmjmaaDoor
open Go.RowKit Go.Sy Go.Fac
section
variable {ea : Ear} {has : Int → Prop} {rest : List (Nat × SVal)}
def twoB (c m : List Int) (i : Int) : Bool := insB c m i && isaTwo (insI c m i).op
def wordE (c m : List Int) (i : Int) : FErr :=
  if m.getD i.toNat 0 = 1 then
    if (!insB c m i || decide (isaClass (insI c m i).op = 4)) = true then .bare 105
    else if (isaTwo (insI c m i).op && (decide ((c.length : Int) ≤ i + 1) || !decide (m.getD (i + 1).toNat 0 = 0))) = true then .bare 109 else .fine
  else if m.getD i.toNat 0 = 0 then (if (decide (i = 0) || !twoB c m (i - 1)) = true then .bare 109 else .fine)
  else if m.getD i.toNat 0 = 2 then .fine else .bare 109
def ktwo : List SVal → Nat → Acc ORes := fun a n => match a with | [.agg [.ro .u32 d, .ro .u32 c, .ro .u8 m, .ro .rel dr, .ro .rel cr, .ro .sym sy], .int .i64 i] => .ret ({ v := .bool (.sym (twoB c m i.val)) }) | _ => .fail "two"
theorem argtwo (d c m : List Int) (dr cr : List Rel) (sy : List Sm) (i : SI) : (all (subL tAtN none' [] deep [.agg [.ro .u32 d, .ro .u32 c, .ro .u8 m, .ro .rel dr, .ro .rel cr, .ro .sym sy], .int .i64 i] [.agg [.ro .u32 d, .ro .u32 c, .ro .u8 m, .ro .rel dr, .ro .rel cr, .ro .sym sy], .int .i64 (.full i.val)])) = (
  d = d ∧ c = c ∧ m = m ∧ dr = dr ∧ cr = cr ∧ sy = sy ∧ SI.val i = SI.val i) := by kernel_rfl
theorem runtwo (rest : List (Nat × SVal)) (d : List Int) (c : List Int) (m : List Int) (dr : List Rel) (cr : List Rel) (sy : List Sm) (i : Int) : (Tr.sat (plainQ (.bool (.sym (twoB c m i)))) (run (env (G7 ++ rest) [(82, kInstr), (17, kTables), (20, kTwo)]) [] (bodyOf Tryd.f106) (start [.agg [.ro .u32 d, .ro .u32 c, .ro .u8 m, .ro .rel dr, .ro .rel cr, .ro .sym sy], .int .i64 (.full i)] 20) (ends (env (G7 ++ rest) [(82, kInstr), (17, kTables), (20, kTwo)]) Tryd.f106.results.toList))) = (
  (insB c m i && isaTwo (insI c m i).op) = twoB c m i) := by kernel_rfl
set_option maxHeartbeats 4000000 in
theorem ctwo : Con ea has (G7 ++ rest) 106 ktwo := by
  refine plain_mkB Tryd.func106 20 (con := [(82, kInstr), (17, kTables), (20, kTwo)]) ⟨cInstr, cTables, cTwo, trivial⟩ (fun hA hr hv => ?_) (by kernel_rfl) (by kernel_rfl) Tryd.ntmps106
  unfold ktwo at hr; split at hr
  · rename_i d c m dr cr sy i
    have := ret_ok hr; subst this
    refine ⟨_, [], rfl, rfl, .of (argtwo d c m dr cr sy i) (by simp), rfl, (fun W R ρ0 own0 hown => noSums (by kernel_rfl)), .of (runtwo rest d c m dr cr sy i.val) ?_⟩
    clear hr
    rfl
  · cases hr
def kword : List SVal → Nat → Acc ORes := fun a n => match a with | [.agg [.ro .u32 d, .ro .u32 c, .ro .u8 m, .ro .rel dr, .ro .rel cr, .ro .sym sy], .int .i64 i, .nilFunc] => .ret ({ v := .err (wordE c m i.val), vc := some (0 ≤ i.val ∧ i.val < (m.length : Int) ∧ m.length = c.length ∧ m.length ≤ 1000000) }) | _ => .fail "word"
theorem argword (d c m : List Int) (dr cr : List Rel) (sy : List Sm) (i : SI) : (all (subL tAtN none' [] deep [.agg [.ro .u32 d, .ro .u32 c, .ro .u8 m, .ro .rel dr, .ro .rel cr, .ro .sym sy], .int .i64 i, .nilFunc] [.agg [.ro .u32 d, .ro .u32 c, .ro .u8 m, .ro .rel dr, .ro .rel cr, .ro .sym sy], .int .i64 (.full i.val), .nilFunc])) = (
  d = d ∧ c = c ∧ m = m ∧ dr = dr ∧ cr = cr ∧ sy = sy ∧ SI.val i = SI.val i) := by kernel_rfl
theorem runword (rest : List (Nat × SVal)) (d : List Int) (c : List Int) (m : List Int) (dr : List Rel) (cr : List Rel) (sy : List Sm) (i : Int) : (Tr.sat (plainQ (.err (wordE c m i))) (run (env (G7 ++ rest) [(82, kInstr), (17, kTables), (18, kClass), (20, kTwo), (106, ktwo)]) [] (bodyOf Tryd.f89) (start [.agg [.ro .u32 d, .ro .u32 c, .ro .u8 m, .ro .rel dr, .ro .rel cr, .ro .sym sy], .int .i64 (.full i), .nilFunc] 96) (ends (env (G7 ++ rest) [(82, kInstr), (17, kTables), (18, kClass), (20, kTwo), (106, ktwo)]) Tryd.f89.results.toList))) = (
  ((0 : Int) ≤ i ∧ i < (↑(List.length m) : Int)) ∧ ((0 : Int) ≤ i ∧ i < (↑(List.length m) : Int) → (decide (List.getD m (Int.toNat i) (RT.dflt RT.u8) = (1 : Int)) = true → ((!insB c m i || decide (isaClass (insI c m i).op = (4 : Int))) = true → FErr.bare (105 : Int) = wordE c m i) ∧ ((!insB c m i || decide (isaClass (insI c m i).op = (4 : Int))) = false → ((isaTwo (insI c m i).op && !decide ((↑(List.length c) : Int) ≤ IntKind.wrap IntKind.i64 (i + (1 : Int)))) = true → (0 : Int) ≤ IntKind.wrap IntKind.i64 (i + (1 : Int)) ∧ IntKind.wrap IntKind.i64 (i + (1 : Int)) < (↑(List.length m) : Int)) ∧ (((isaTwo (insI c m i).op && !decide ((↑(List.length c) : Int) ≤ IntKind.wrap IntKind.i64 (i + (1 : Int)))) = true → (0 : Int) ≤ IntKind.wrap IntKind.i64 (i + (1 : Int)) ∧ IntKind.wrap IntKind.i64 (i + (1 : Int)) < (↑(List.length m) : Int)) → ((isaTwo (insI c m i).op && (decide ((↑(List.length c) : Int) ≤ IntKind.wrap IntKind.i64 (i + (1 : Int))) || !decide (List.getD m (Int.toNat (IntKind.wrap IntKind.i64 (i + (1 : Int)))) (RT.dflt RT.u8) = (0 : Int)))) = true → FErr.bare (109 : Int) = wordE c m i) ∧ ((isaTwo (insI c m i).op && (decide ((↑(List.length c) : Int) ≤ IntKind.wrap IntKind.i64 (i + (1 : Int))) || !decide (List.getD m (Int.toNat (IntKind.wrap IntKind.i64 (i + (1 : Int)))) (RT.dflt RT.u8) = (0 : Int)))) = false → FErr.fine = wordE c m i)))) ∧ (decide (List.getD m (Int.toNat i) (RT.dflt RT.u8) = (1 : Int)) = false → (decide (List.getD m (Int.toNat i) (RT.dflt RT.u8) = (0 : Int)) = true → ((decide (i = (0 : Int)) || !twoB c m (IntKind.wrap IntKind.i64 (i - (1 : Int)))) = true → FErr.bare (109 : Int) = wordE c m i) ∧ ((decide (i = (0 : Int)) || !twoB c m (IntKind.wrap IntKind.i64 (i - (1 : Int)))) = false → FErr.fine = wordE c m i)) ∧ (decide (List.getD m (Int.toNat i) (RT.dflt RT.u8) = (0 : Int)) = false → (decide (List.getD m (Int.toNat i) (RT.dflt RT.u8) = (2 : Int)) = true → FErr.fine = wordE c m i) ∧ (decide (List.getD m (Int.toNat i) (RT.dflt RT.u8) = (2 : Int)) = false → FErr.bare (109 : Int) = wordE c m i))))) := by kernel_rfl
set_option maxHeartbeats 4000000 in
theorem cword : Con ea has (G7 ++ rest) 89 kword := by
  refine plain_mkB Tryd.func89 96 (con := [(82, kInstr), (17, kTables), (18, kClass), (20, kTwo), (106, ktwo)]) ⟨cInstr, cTables, cClass, cTwo, ctwo, trivial⟩ (fun hA hr hv => ?_) (by kernel_rfl) (by kernel_rfl) Tryd.ntmps89
  unfold kword at hr; split at hr
  · rename_i d c m dr cr sy i
    have := ret_ok hr; subst this
    replace hv := hv _ rfl
    refine ⟨_, [], rfl, rfl, .of (argword d c m dr cr sy i) (by simp), rfl, (fun W R ρ0 own0 hown => noSums (by kernel_rfl)), .of (runword rest d c m dr cr sy i.val) ?_⟩
    clear hr
    clear hA
    generalize i.val = i at *
    obtain ⟨v1, v2, v3, v4⟩ := hv
    have d1 : RT.u8.dflt = (0 : Int) := rfl
    have w2 : IntKind.i64.wrap (i - 1) = i - 1 := by rw [IntKind.wrap_i64]; omega
    simp only [d1, w2, wrapS v1 (show i ≤ 9223372036854775806 by omega), decide_eq_true_eq, decide_eq_false_iff_not]
    refine ⟨⟨v1, v2⟩, fun _ => ⟨fun h1 => ⟨fun h2 => by rw [wordE, if_pos h1, if_pos h2], fun h2 => ⟨fun h3 => ?_, fun _ => ⟨fun h3 => ?_, fun h3 => ?_⟩⟩⟩, fun h1 => ⟨fun h2 => ⟨fun h3 => ?_, fun h3 => ?_⟩, fun h2 => ⟨fun h3 => ?_, fun h3 => ?_⟩⟩⟩⟩
    · simp only [Bool.and_eq_true, Bool.not_eq_true', decide_eq_false_iff_not] at h3; omega
    · rw [wordE, if_pos h1, if_neg (by rw [h2]; simp), if_pos h3]
    · rw [wordE, if_pos h1, if_neg (by rw [h2]; simp), if_neg (by rw [h3]; simp)]
    · rw [wordE, if_neg h1, if_pos h2, if_pos h3]
    · rw [wordE, if_neg h1, if_pos h2, if_neg (by rw [h3]; simp)]
    · rw [wordE, if_neg h1, if_neg h2, if_pos h3]
    · rw [wordE, if_neg h1, if_neg h2, if_neg h3]
  · cases hr
def symFine (d c m : List Int) (a v : Int) (g : Bool) : Bool :=
  if a = 1 then decide (v = 0) || (decide (0 < v) && decide (v < d.length))
  else if a = 2 then decide (0 ≤ v) && decide (v < c.length) && decide (m.getD v.toNat 0 = 1)
  else if a = 3 then decide (v = 0) && g else false
def symOk (nm : ByteArray) : Bool := !(decide (nm = ByteArray.empty) || decide (32 < (nm.size : Int)))
def symE (d c m : List Int) (nm : ByteArray) (a v : Int) (g : Bool) (mp : List (ByteArray × Int)) : FErr :=
  if symOk nm = false then .bare 103 else if 1 < mapGet mp nm + 1 then .bare 106 else if symFine d c m a v g = true then .fine else .bare 103
def symMp (nm : ByteArray) (mp : List (ByteArray × Int)) : List (ByteArray × Int) := if symOk nm = false then mp else mapPut mp nm (mapGet mp nm + 1)
theorem get_put {α : Type} [DecidableEq α] (mp : List (α × Int)) (k : α) (x : Int) : mapGet (mapPut mp k x) k = x := by
  induction mp with
  | nil => simp [mapPut, mapGet]
  | cons p mp ih =>
    obtain ⟨a, b⟩ := p
    simp only [mapPut]
    split
    · rename_i h; simp [mapGet, h]
    · rename_i h; simp [mapGet, h, ih]
theorem get_put_ne {α : Type} [DecidableEq α] (mp : List (α × Int)) (k k' : α) (x : Int) (h : k ≠ k') : mapGet (mapPut mp k x) k' = mapGet mp k' := by
  induction mp with
  | nil => simp [mapPut, mapGet, h]
  | cons p mp ih =>
    obtain ⟨a, b⟩ := p
    simp only [mapPut]
    split
    · rename_i he; subst he; simp [mapGet, h]
    · rename_i he; simp only [mapGet, ih]
theorem fine_if {α : Type} (b : Bool) (y : α) : ((!b) = true → FErr.bare 103 = (if b = true then FErr.fine else .bare 103) ∧ y = y) ∧ ((!b) = false → FErr.fine = (if b = true then FErr.fine else .bare 103) ∧ y = y) := by cases b <;> simp
def ksymbol : List SVal → Nat → Acc ORes := fun a n => match a with
  | [.agg [.ro .u32 d, .ro .u32 c, .ro .u8 m, .ro .rel dr, .ro .rel cr, .ro .sym sy], .agg [.str nm, .int .i64 a, .int .i64 v, .bool g], .map q] => .look q fun cc => match cc with
    | some (.strMap mp) => .ret ({ v := .err (symE d c m nm a.val v.val g.val mp), ws := [(q, some (.strMap (symMp nm mp)))], vc := some (mapGet mp nm ≤ 1000000 ∧ 0 ≤ mapGet mp nm ∧ m.length = c.length) })
    | _ => .fail "symbol"
  | _ => .fail "symbol"
theorem argsymbol (d c m : List Int) (dr cr : List Rel) (sy : List Sm) (nm : ByteArray) (a v : SI) (g : SB) : (all (subL tAtN none' [] deep [.agg [.ro .u32 d, .ro .u32 c, .ro .u8 m, .ro .rel dr, .ro .rel cr, .ro .sym sy], .agg [.str nm, .int .i64 a, .int .i64 v, .bool g]] [.agg [.ro .u32 d, .ro .u32 c, .ro .u8 m, .ro .rel dr, .ro .rel cr, .ro .sym sy], .agg [.str nm, .int .i64 (.full a.val), .int .i64 (.full v.val), .bool (.sym g.val)]])) = (
  d = d ∧ c = c ∧ m = m ∧ dr = dr ∧ cr = cr ∧ sy = sy ∧ nm = nm ∧ SI.val a = SI.val a ∧ SI.val v = SI.val v ∧ SB.val g = SB.val g) := by kernel_rfl
theorem runsymbol (rest : List (Nat × SVal)) (d c m : List Int) (dr cr : List Rel) (sy : List Sm) (nm : ByteArray) (a v : SI) (g : SB) (mp : List (ByteArray × Int)) : (Tr.sat (mapQ (G7 ++ rest) [] (.err (symE d c m nm a.val v.val g.val mp)) (.strMap (symMp nm mp))) (run (envO (G7 ++ rest) []) [] (bodyOf Tryd.f90) (startM [.agg [.ro .u32 d, .ro .u32 c, .ro .u8 m, .ro .rel dr, .ro .rel cr, .ro .sym sy], .agg [.str nm, .int .i64 (.full a.val), .int .i64 (.full v.val), .bool (.sym g.val)]] (.strMap mp) 83) (ends (envO (G7 ++ rest) []) Tryd.f90.results.toList))) = (
  ((decide (nm = ByteArray.mk (List.toArray (@List.nil UInt8))) || decide ((32 : Int) < (↑(ByteArray.size nm) : Int))) = true → FErr.bare (103 : Int) = symE d c m nm (SI.val a) (SI.val v) (SB.val g) mp ∧ mp = symMp nm mp) ∧ ((decide (nm = ByteArray.mk (List.toArray (@List.nil UInt8))) || decide ((32 : Int) < (↑(ByteArray.size nm) : Int))) = false → (decide ((1 : Int) < mapGet (mapPut mp nm (IntKind.wrap IntKind.i64 (mapGet mp nm + (1 : Int)))) nm) = true → FErr.bare (106 : Int) = symE d c m nm (SI.val a) (SI.val v) (SB.val g) mp ∧ mapPut mp nm (IntKind.wrap IntKind.i64 (mapGet mp nm + (1 : Int))) = symMp nm mp) ∧ (decide ((1 : Int) < mapGet (mapPut mp nm (IntKind.wrap IntKind.i64 (mapGet mp nm + (1 : Int)))) nm) = false → (decide (SI.val a = (1 : Int)) = true → ((!(decide (SI.val v = (0 : Int)) || decide ((0 : Int) < SI.val v) && decide (SI.val v < (↑(List.length d) : Int)))) = true → FErr.bare (103 : Int) = symE d c m nm (SI.val a) (SI.val v) (SB.val g) mp ∧ mapPut mp nm (IntKind.wrap IntKind.i64 (mapGet mp nm + (1 : Int))) = symMp nm mp) ∧ ((!(decide (SI.val v = (0 : Int)) || decide ((0 : Int) < SI.val v) && decide (SI.val v < (↑(List.length d) : Int)))) = false → FErr.fine = symE d c m nm (SI.val a) (SI.val v) (SB.val g) mp ∧ mapPut mp nm (IntKind.wrap IntKind.i64 (mapGet mp nm + (1 : Int))) = symMp nm mp)) ∧ (decide (SI.val a = (1 : Int)) = false → (decide (SI.val a = (2 : Int)) = true → ((decide ((0 : Int) ≤ SI.val v) && decide (SI.val v < (↑(List.length c) : Int))) = true → (0 : Int) ≤ SI.val v ∧ SI.val v < (↑(List.length m) : Int)) ∧ (((decide ((0 : Int) ≤ SI.val v) && decide (SI.val v < (↑(List.length c) : Int))) = true → (0 : Int) ≤ SI.val v ∧ SI.val v < (↑(List.length m) : Int)) → ((!(decide ((0 : Int) ≤ SI.val v) && decide (SI.val v < (↑(List.length c) : Int)) && decide (List.getD m (Int.toNat (SI.val v)) (RT.dflt RT.u8) = (1 : Int)))) = true → FErr.bare (103 : Int) = symE d c m nm (SI.val a) (SI.val v) (SB.val g) mp ∧ mapPut mp nm (IntKind.wrap IntKind.i64 (mapGet mp nm + (1 : Int))) = symMp nm mp) ∧ ((!(decide ((0 : Int) ≤ SI.val v) && decide (SI.val v < (↑(List.length c) : Int)) && decide (List.getD m (Int.toNat (SI.val v)) (RT.dflt RT.u8) = (1 : Int)))) = false → FErr.fine = symE d c m nm (SI.val a) (SI.val v) (SB.val g) mp ∧ mapPut mp nm (IntKind.wrap IntKind.i64 (mapGet mp nm + (1 : Int))) = symMp nm mp))) ∧ (decide (SI.val a = (2 : Int)) = false → (decide (SI.val a = (3 : Int)) = true → ((!(decide (SI.val v = (0 : Int)) && SB.val g)) = true → FErr.bare (103 : Int) = symE d c m nm (SI.val a) (SI.val v) (SB.val g) mp ∧ mapPut mp nm (IntKind.wrap IntKind.i64 (mapGet mp nm + (1 : Int))) = symMp nm mp) ∧ ((!(decide (SI.val v = (0 : Int)) && SB.val g)) = false → FErr.fine = symE d c m nm (SI.val a) (SI.val v) (SB.val g) mp ∧ mapPut mp nm (IntKind.wrap IntKind.i64 (mapGet mp nm + (1 : Int))) = symMp nm mp)) ∧ (decide (SI.val a = (3 : Int)) = false → FErr.bare (103 : Int) = symE d c m nm (SI.val a) (SI.val v) (SB.val g) mp ∧ mapPut mp nm (IntKind.wrap IntKind.i64 (mapGet mp nm + (1 : Int))) = symMp nm mp)))))) := by kernel_rfl
set_option maxHeartbeats 4000000 in
theorem csymbol : Con ea has (G7 ++ rest) 90 ksymbol := by
  refine map_mk Tryd.func90 83 (con := []) trivial (fun hA hr hv => ?_) (by kernel_rfl) (by kernel_rfl) Tryd.ntmps90
  unfold ksymbol at hr; split at hr
  · rename_i d c m dr cr sy nm a v g q
    simp only [Acc.run] at hr
    split at hr
    · rename_i mp hq
      have := ret_ok hr; subst this
      replace hv := hv _ rfl
      refine ⟨[.agg [.ro .u32 d, .ro .u32 c, .ro .u8 m, .ro .rel dr, .ro .rel cr, .ro .sym sy], .agg [.str nm, .int .i64 a, .int .i64 v, .bool g]], q, .strMap mp, .strMap (symMp nm mp), _, [], rfl, hq, rfl, ⟨rfl, rfl, rfl⟩, (argsymbol d c m dr cr sy nm a v g).mpr (by simp), rfl, (fun W R ρ0 own0 hown => noSums (by kernel_rfl)), (runsymbol rest d c m dr cr sy nm a v g mp).mpr ?_⟩
      clear hr
      clear hA
      generalize a.val = a
      generalize v.val = v
      generalize g.val = g
      obtain ⟨v1, v2, v3⟩ := hv
      have d1 : RT.u8.dflt = (0 : Int) := rfl
      simp only [wrapS v2 (show mapGet mp nm ≤ 9223372036854775806 by omega), get_put, d1]
      have so : (decide (nm = ByteArray.mk #[]) || decide ((32 : Int) < nm.size)) = !symOk nm := by unfold symOk; rw [Bool.not_not]; rfl
      rw [so]
      refine ⟨fun h => ?_, fun h => ?_⟩
      · have h : symOk nm = false := by simpa using h
        rw [symE, symMp, if_pos h, if_pos h]; exact ⟨rfl, rfl⟩
      · have h : ¬ symOk nm = false := by simpa using h
        have hm : symMp nm mp = mapPut mp nm (mapGet mp nm + 1) := by rw [symMp, if_neg h]
        rw [hm]
        refine ⟨fun h2 => ⟨by rw [symE, if_neg h, if_pos (of_decide_eq_true h2)], rfl⟩, fun h2 => ?_⟩
        have he : symE d c m nm a v g mp = if symFine d c m a v g = true then .fine else .bare 103 := by rw [symE, if_neg h, if_neg (of_decide_eq_false h2)]
        rw [he]
        refine ⟨fun h3 => ?_, fun h3 => ⟨fun h4 => ⟨fun h5 => ?_, fun _ => ?_⟩, fun h4 => ⟨fun h5 => ?_, fun h5 => ?_⟩⟩⟩
        · have h3 := of_decide_eq_true h3
          rw [symFine, if_pos h3]; exact fine_if _ _
        · simp only [Bool.and_eq_true, decide_eq_true_eq] at h5; omega
        · have h3 := of_decide_eq_false h3
          have h4 := of_decide_eq_true h4
          rw [symFine, if_neg h3, if_pos h4]; exact fine_if _ _
        · have h3 := of_decide_eq_false h3
          have h4 := of_decide_eq_false h4
          rw [symFine, if_neg h3, if_neg h4, if_pos (of_decide_eq_true h5)]; exact fine_if _ _
        · have h3 := of_decide_eq_false h3
          have h4 := of_decide_eq_false h4
          rw [symFine, if_neg h3, if_neg h4, if_neg (of_decide_eq_false h5)]; exact ⟨rfl, rfl⟩
    · cases hr
  · cases hr
def shortM (op : Int) : Bool := decide (op = 16) || decide (op = 17) || decide (op = 18)
def farM (op : Int) : Bool := decide (op = 19) || decide (op = 20) || decide (op = 21) || decide (op = 22)
def kshort : List SVal → Nat → Acc ORes := fun a n => match a with | [.int .i64 op] => .ret ({ v := .bool (.sym (shortM op.val)) }) | _ => .fail "short"
theorem argshort (op : SI) : (all (subL tAtN none' [] deep [.int .i64 op] [.int .i64 (.full op.val)])) = (
  SI.val op = SI.val op) := by kernel_rfl
theorem runshort (rest : List (Nat × SVal)) (op : Int) : (Tr.sat (plainQ (.bool (.sym (shortM op)))) (run (env (G7 ++ rest) []) [] (bodyOf Tryd.f109) (start [.int .i64 (.full op)] 13) (ends (env (G7 ++ rest) []) Tryd.f109.results.toList))) = (
  (decide (op = (16 : Int)) || decide (op = (17 : Int)) || decide (op = (18 : Int))) = shortM op) := by kernel_rfl
set_option maxHeartbeats 4000000 in
theorem cshort : Con ea has (G7 ++ rest) 109 kshort := by
  refine plain_mkB Tryd.func109 13 (con := []) trivial (fun hA hr hv => ?_) (by kernel_rfl) (by kernel_rfl) Tryd.ntmps109
  unfold kshort at hr; split at hr
  · rename_i op
    have := ret_ok hr; subst this
    refine ⟨_, [], rfl, rfl, .of (argshort op) (by simp), rfl, (fun W R ρ0 own0 hown => noSums (by kernel_rfl)), .of (runshort rest op.val) ?_⟩
    clear hr
    rfl
  · cases hr
def kfar : List SVal → Nat → Acc ORes := fun a n => match a with | [.int .i64 op] => .ret ({ v := .bool (.sym (farM op.val)) }) | _ => .fail "far"
theorem argfar (op : SI) : (all (subL tAtN none' [] deep [.int .i64 op] [.int .i64 (.full op.val)])) = (
  SI.val op = SI.val op) := by kernel_rfl
theorem runfar (rest : List (Nat × SVal)) (op : Int) : (Tr.sat (plainQ (.bool (.sym (farM op)))) (run (env (G7 ++ rest) []) [] (bodyOf Tryd.f110) (start [.int .i64 (.full op)] 17) (ends (env (G7 ++ rest) []) Tryd.f110.results.toList))) = (
  (decide (op = (19 : Int)) || decide (op = (20 : Int)) || decide (op = (21 : Int)) || decide (op = (22 : Int))) = farM op) := by kernel_rfl
set_option maxHeartbeats 4000000 in
theorem cfar : Con ea has (G7 ++ rest) 110 kfar := by
  refine plain_mkB Tryd.func110 17 (con := []) trivial (fun hA hr hv => ?_) (by kernel_rfl) (by kernel_rfl) Tryd.ntmps110
  unfold kfar at hr; split at hr
  · rename_i op
    have := ret_ok hr; subst this
    refine ⟨_, [], rfl, rfl, .of (argfar op) (by simp), rfl, (fun W R ρ0 own0 hown => noSums (by kernel_rfl)), .of (runfar rest op.val) ?_⟩
    clear hr
    rfl
  · cases hr
def relocB (n : Nat) (a k s x last words kind : Int) : Bool :=
  decide (a < 0) || decide (words ≤ a) || decide (a ≤ last) || (decide (k < 1) || decide (kind < k)) || (decide (s < 0) || decide ((n : Int) ≤ s)) || (decide (x < -65536) || decide (65536 < x))
def relocE (n : Nat) (a k s x last words kind : Int) : FErr := if relocB n a k s x last words kind = true then .bare 103 else .fine
def kreloc : List SVal → Nat → Acc ORes := fun a n => match a with | [.agg [.ro .u32 d, .ro .u32 c, .ro .u8 m, .ro .rel dr, .ro .rel cr, .ro .sym sy], .agg [.int .i64 a, .int .i64 k, .int .i64 s, .int .i64 x], .int .i64 last, .int .i64 words, .int .i64 kind] => .ret ({ v := .err (relocE sy.length a.val k.val s.val x.val last.val words.val kind.val) }) | _ => .fail "reloc"
theorem argreloc (d c m : List Int) (dr cr : List Rel) (sy : List Sm) (a k s x last words kind : SI) : (all (subL tAtN none' [] deep [.agg [.ro .u32 d, .ro .u32 c, .ro .u8 m, .ro .rel dr, .ro .rel cr, .ro .sym sy], .agg [.int .i64 a, .int .i64 k, .int .i64 s, .int .i64 x], .int .i64 last, .int .i64 words, .int .i64 kind] [.agg [.ro .u32 d, .ro .u32 c, .ro .u8 m, .ro .rel dr, .ro .rel cr, .ro .sym sy], .agg [.int .i64 (.full a.val), .int .i64 (.full k.val), .int .i64 (.full s.val), .int .i64 (.full x.val)], .int .i64 (.full last.val), .int .i64 (.full words.val), .int .i64 (.full kind.val)])) = (
  d = d ∧ c = c ∧ m = m ∧ dr = dr ∧ cr = cr ∧ sy = sy ∧ SI.val a = SI.val a ∧ SI.val k = SI.val k ∧ SI.val s = SI.val s ∧ SI.val x = SI.val x ∧ SI.val last = SI.val last ∧ SI.val words = SI.val words ∧ SI.val kind = SI.val kind) := by kernel_rfl
theorem runreloc (rest : List (Nat × SVal)) (d : List Int) (c : List Int) (m : List Int) (dr : List Rel) (cr : List Rel) (sy : List Sm) (a : Int) (k : Int) (s : Int) (x : Int) (last : Int) (words : Int) (kind : Int) : (Tr.sat (plainQ (.err (relocE sy.length a k s x last words kind))) (run (env (G7 ++ rest) []) [] (bodyOf Tryd.f107) (start [.agg [.ro .u32 d, .ro .u32 c, .ro .u8 m, .ro .rel dr, .ro .rel cr, .ro .sym sy], .agg [.int .i64 (.full a), .int .i64 (.full k), .int .i64 (.full s), .int .i64 (.full x)], .int .i64 (.full last), .int .i64 (.full words), .int .i64 (.full kind)] 56) (ends (env (G7 ++ rest) []) Tryd.f107.results.toList))) = (
  ((decide (a < (0 : Int)) || decide (words ≤ a) || decide (a ≤ last)) = true → FErr.bare (103 : Int) = relocE (List.length sy) a k s x last words kind) ∧ ((decide (a < (0 : Int)) || decide (words ≤ a) || decide (a ≤ last)) = false → ((decide (k < (1 : Int)) || decide (kind < k)) = true → FErr.bare (103 : Int) = relocE (List.length sy) a k s x last words kind) ∧ ((decide (k < (1 : Int)) || decide (kind < k)) = false → ((decide (s < (0 : Int)) || decide ((↑(List.length sy) : Int) ≤ s)) = true → FErr.bare (103 : Int) = relocE (List.length sy) a k s x last words kind) ∧ ((decide (s < (0 : Int)) || decide ((↑(List.length sy) : Int) ≤ s)) = false → ((decide (x < (-65536 : Int)) || decide ((65536 : Int) < x)) = true → FErr.bare (103 : Int) = relocE (List.length sy) a k s x last words kind) ∧ ((decide (x < (-65536 : Int)) || decide ((65536 : Int) < x)) = false → FErr.fine = relocE (List.length sy) a k s x last words kind))))) := by kernel_rfl
set_option maxHeartbeats 4000000 in
theorem creloc : Con ea has (G7 ++ rest) 107 kreloc := by
  refine plain_mkB Tryd.func107 56 (con := []) trivial (fun hA hr hv => ?_) (by kernel_rfl) (by kernel_rfl) Tryd.ntmps107
  unfold kreloc at hr; split at hr
  · rename_i d c m dr cr sy a k s x last words kind
    have := ret_ok hr; subst this
    refine ⟨_, [], rfl, rfl, .of (argreloc d c m dr cr sy a k s x last words kind) (by simp), rfl, (fun W R ρ0 own0 hown => noSums (by kernel_rfl)), .of (runreloc rest d c m dr cr sy a.val k.val s.val x.val last.val words.val kind.val) ?_⟩
    clear hr
    generalize a.val = a
    generalize k.val = k
    generalize s.val = s
    generalize x.val = x
    generalize last.val = last
    generalize words.val = words
    generalize kind.val = kind
    unfold relocE relocB
    refine ⟨fun h => by rw [h]; rfl, fun h => ⟨fun h2 => by rw [h, h2]; rfl, fun h2 => ⟨fun h3 => by rw [h, h2, h3]; rfl, fun h3 => ⟨fun h4 => by rw [h, h2, h3, h4]; rfl, fun h4 => by rw [h, h2, h3, h4]; rfl⟩⟩⟩⟩
  · cases hr
def shapeB (c m : List Int) (sy : List Sm) (a k s x : Int) : Bool :=
  let data : Bool := decide ((sy.getD s.toNat RT.sym.dflt).in_ = 1)
  if k = 2 then insB c m a && shortM (insI c m a).op && !data && decide (x = 0)
  else if (!decide (x = 0) && !data) = true then false
  else if m.getD a.toNat 0 = 2 then true
  else insB c m (a - 1) && decide (m.getD a.toNat 0 = 0) && (decide ((insI c m (a - 1)).op = 14) || decide ((insI c m (a - 1)).op = 15) || (farM (insI c m (a - 1)).op && !data))
def kshape : List SVal → Nat → Acc ORes := fun a n => match a with | [.agg [.ro .u32 d, .ro .u32 c, .ro .u8 m, .ro .rel dr, .ro .rel cr, .ro .sym sy], .agg [.int .i64 a, .int .i64 k, .int .i64 s, .int .i64 x]] => .ret ({ v := .bool (.sym (shapeB c m sy a.val k.val s.val x.val)), vc := some (0 ≤ a.val ∧ a.val < (m.length : Int) ∧ 0 ≤ s.val ∧ s.val < (sy.length : Int)) }) | _ => .fail "shape"
theorem argshape (d c m : List Int) (dr cr : List Rel) (sy : List Sm) (a k s x : SI) : (all (subL tAtN none' [] deep [.agg [.ro .u32 d, .ro .u32 c, .ro .u8 m, .ro .rel dr, .ro .rel cr, .ro .sym sy], .agg [.int .i64 a, .int .i64 k, .int .i64 s, .int .i64 x]] [.agg [.ro .u32 d, .ro .u32 c, .ro .u8 m, .ro .rel dr, .ro .rel cr, .ro .sym sy], .agg [.int .i64 (.full a.val), .int .i64 (.full k.val), .int .i64 (.full s.val), .int .i64 (.full x.val)]])) = (
  d = d ∧ c = c ∧ m = m ∧ dr = dr ∧ cr = cr ∧ sy = sy ∧ SI.val a = SI.val a ∧ SI.val k = SI.val k ∧ SI.val s = SI.val s ∧ SI.val x = SI.val x) := by kernel_rfl
theorem runshape (rest : List (Nat × SVal)) (d : List Int) (c : List Int) (m : List Int) (dr : List Rel) (cr : List Rel) (sy : List Sm) (a : Int) (k : Int) (s : Int) (x : Int) : (Tr.sat (plainQ (.bool (.sym (shapeB c m sy a k s x)))) (run (env (G7 ++ rest) [(82, kInstr), (109, kshort), (110, kfar)]) [] (bodyOf Tryd.f108) (start [.agg [.ro .u32 d, .ro .u32 c, .ro .u8 m, .ro .rel dr, .ro .rel cr, .ro .sym sy], .agg [.int .i64 (.full a), .int .i64 (.full k), .int .i64 (.full s), .int .i64 (.full x)]] 92) (ends (env (G7 ++ rest) [(82, kInstr), (109, kshort), (110, kfar)]) Tryd.f108.results.toList))) = (
  ((0 : Int) ≤ s ∧ s < (↑(List.length sy) : Int)) ∧ ((0 : Int) ≤ s ∧ s < (↑(List.length sy) : Int) → (decide (k = (2 : Int)) = true → (insB c m a && shortM (insI c m a).op && !decide ((List.getD sy (Int.toNat s) (RT.dflt RT.sym)).in_ = (1 : Int)) && decide (x = (0 : Int))) = shapeB c m sy a k s x) ∧ (decide (k = (2 : Int)) = false → ((!decide (x = (0 : Int)) && !decide ((List.getD sy (Int.toNat s) (RT.dflt RT.sym)).in_ = (1 : Int))) = true → false = shapeB c m sy a k s x) ∧ ((!decide (x = (0 : Int)) && !decide ((List.getD sy (Int.toNat s) (RT.dflt RT.sym)).in_ = (1 : Int))) = false → ((0 : Int) ≤ a ∧ a < (↑(List.length m) : Int)) ∧ ((0 : Int) ≤ a ∧ a < (↑(List.length m) : Int) → (decide (List.getD m (Int.toNat a) (RT.dflt RT.u8) = (2 : Int)) = true → true = shapeB c m sy a k s x) ∧ (decide (List.getD m (Int.toNat a) (RT.dflt RT.u8) = (2 : Int)) = false → (insB c m (IntKind.wrap IntKind.i64 (a - (1 : Int))) = true → (0 : Int) ≤ a ∧ a < (↑(List.length m) : Int)) ∧ ((insB c m (IntKind.wrap IntKind.i64 (a - (1 : Int))) = true → (0 : Int) ≤ a ∧ a < (↑(List.length m) : Int)) → (insB c m (IntKind.wrap IntKind.i64 (a - (1 : Int))) && decide (List.getD m (Int.toNat a) (RT.dflt RT.u8) = (0 : Int)) && (decide ((insI c m (IntKind.wrap IntKind.i64 (a - (1 : Int)))).op = (14 : Int)) || decide ((insI c m (IntKind.wrap IntKind.i64 (a - (1 : Int)))).op = (15 : Int)) || farM (insI c m (IntKind.wrap IntKind.i64 (a - (1 : Int)))).op && !decide ((List.getD sy (Int.toNat s) (RT.dflt RT.sym)).in_ = (1 : Int)))) = shapeB c m sy a k s x))))))) := by kernel_rfl
set_option maxHeartbeats 4000000 in
theorem cshape : Con ea has (G7 ++ rest) 108 kshape := by
  refine plain_mkB Tryd.func108 92 (con := [(82, kInstr), (109, kshort), (110, kfar)]) ⟨cInstr, cshort, cfar, trivial⟩ (fun hA hr hv => ?_) (by kernel_rfl) (by kernel_rfl) Tryd.ntmps108
  unfold kshape at hr; split at hr
  · rename_i d c m dr cr sy a k s x
    have := ret_ok hr; subst this
    replace hv := hv _ rfl
    refine ⟨_, [], rfl, rfl, .of (argshape d c m dr cr sy a k s x) (by simp), rfl, (fun W R ρ0 own0 hown => noSums (by kernel_rfl)), .of (runshape rest d c m dr cr sy a.val k.val s.val x.val) ?_⟩
    clear hr
    have hl := (ob_len hA).2.2.1
    clear hA
    generalize a.val = a at *
    generalize k.val = k at *
    generalize s.val = s at *
    generalize x.val = x at *
    obtain ⟨v1, v2, v3, v4⟩ := hv
    have hml := hl
    have d1 : RT.u8.dflt = (0 : Int) := rfl
    have w2 : IntKind.i64.wrap (a - 1) = a - 1 := by rw [IntKind.wrap_i64]; omega
    simp only [d1, w2]
    unfold shapeB
    refine ⟨⟨v3, v4⟩, fun _ => ⟨fun h => by rw [if_pos (of_decide_eq_true h)], fun h => ?_⟩⟩
    rw [if_neg (of_decide_eq_false h)]
    refine ⟨fun h2 => by rw [if_pos h2], fun h2 => ⟨⟨v1, v2⟩, fun _ => ?_⟩⟩
    rw [if_neg (by rw [h2]; simp)]
    refine ⟨fun h3 => by rw [if_pos (of_decide_eq_true h3)], fun h3 => ⟨fun _ => ⟨v1, v2⟩, fun _ => ?_⟩⟩
    rw [if_neg (of_decide_eq_false h3)]
  · cases hr
def placeE (e : FErr) (i : Nat) : FErr := match e with
  | .bare n => .placed n i
  | _ => .fine
def firstE (f : Nat → FErr) : Nat → FErr
  | 0 => .fine
  | n + 1 => if (firstE f n).isErr = true then firstE f n else if (f n).isErr = true then placeE (f n) n else .fine
theorem fine_of {e : FErr} (h : e.isErr = false) : e = .fine := by cases e <;> simp [FErr.isErr] at h ⊢
theorem firstE_fine {f : Nat → FErr} {i : Nat} (h : firstE f i = .fine) (hf : (f i).isErr = false) : firstE f (i + 1) = .fine := by
  rw [firstE, h, if_neg (by simp [FErr.isErr]), if_neg (by rw [hf]; simp)]
theorem firstE_stay {f : Nat → FErr} {i n : Nat} (h : (firstE f i).isErr = true) (hn : i ≤ n) : firstE f n = firstE f i := by
  induction n with
  | zero => have : i = 0 := by omega
            rw [this]
  | succ n ih =>
    by_cases e : i = n + 1
    · rw [e]
    · have := ih (by omega)
      rw [firstE, this, if_pos h]
theorem firstE_at {f : Nat → FErr} {i n : Nat} (h : firstE f i = .fine) (hf : (f i).isErr = true) (hp : (f i).isPlaced = false) (hn : i < n) : firstE f n = placeE (f i) i ∧ (firstE f n).isErr = true := by
  have e : firstE f (i + 1) = placeE (f i) i := by rw [firstE, h, if_neg (by simp [FErr.isErr]), if_pos hf]
  have e2 : (placeE (f i) i).isErr = true := by cases hfi : f i <;> rw [hfi] at hf hp <;> simp_all [placeE, FErr.isErr, FErr.isPlaced]
  have := firstE_stay (n := n) (by rw [e]; exact e2) hn
  rw [this, e]; exact ⟨rfl, e2⟩
theorem relocE_np {n : Nat} {a k s x last words kind : Int} : (relocE n a k s x last words kind).isPlaced = false := by unfold relocE; split <;> rfl
theorem relocE_ok {n : Nat} {a k s x last words kind : Int} (h : (relocE n a k s x last words kind).isErr = false) : 0 ≤ a ∧ a < words ∧ last < a ∧ 1 ≤ k ∧ k ≤ kind ∧ 0 ≤ s ∧ s < n ∧ -65536 ≤ x ∧ x ≤ 65536 := by
  unfold relocE at h
  split at h
  · cases h
  · rename_i hb
    simp only [relocB, Bool.or_eq_true, decide_eq_true_eq] at hb
    omega
theorem hl3 {c b1 b2 b3 : Code} {ls : List (Nat × LSum)} {L1 L2 L3 : LSum} {Z : Code → LSum → Prop} (hc : loopsOf c = [b1, b2, b3]) (f1 : find (headId b1) ls = some L1) (z1 : Z b1 L1) (f2 : find (headId b2) ls = some L2) (z2 : Z b2 L2) (f3 : find (headId b3) ls = some L3) (z3 : Z b3 L3) :
    ∀ b ∈ loopsOf c, ∀ L, find (headId b) ls = some L → Z b L := hlN hc fun b hb => by
  simp only [List.mem_cons, List.not_mem_nil, or_false] at hb
  rcases hb with rfl | rfl | rfl
  · exact ⟨L1, f1, z1⟩
  · exact ⟨L2, f2, z2⟩
  · exact ⟨L3, f3, z3⟩
theorem hl2 {c b1 b2 : Code} {ls : List (Nat × LSum)} {L1 L2 : LSum} {Z : Code → LSum → Prop} (hc : loopsOf c = [b1, b2]) (f1 : find (headId b1) ls = some L1) (z1 : Z b1 L1) (f2 : find (headId b2) ls = some L2) (z2 : Z b2 L2) :
    ∀ b ∈ loopsOf c, ∀ L, find (headId b) ls = some L → Z b L := hlN hc fun b hb => by
  simp only [List.mem_cons, List.not_mem_nil, or_false] at hb
  rcases hb with rfl | rfl
  · exact ⟨L1, f1, z1⟩
  · exact ⟨L2, f2, z2⟩
theorem end_if {b : Bool} {p q : Prop} (hp : b = true → p) (hq : b = false → q) : (b = true → p) ∧ (b = false → q) := ⟨hp, hq⟩
def lastR (l : List Rel) : Nat → Int
  | 0 => -1
  | i + 1 => (l.getD i RT.rel.dflt).at_
def drE (d : List Int) (dr : List Rel) (sy : List Sm) (i : Nat) : FErr :=
  let r := dr.getD i RT.rel.dflt
  let e := relocE sy.length r.at_ r.kind r.sym r.add (lastR dr i) d.length 1
  if (!e.isErr && !decide (r.add = 0) && !decide ((sy.getD r.sym.toNat RT.sym.dflt).in_ = 1)) = true then .bare 102 else e
def HDRels (d c m : List Int) (dr cr : List Rel) (sy : List Sm) (i : Nat) : SState := { fr := [(1, .ptr 0 0), (3, .int .i64 (.full (lastR dr i))), (15, .ro .rel dr), (16, .int .i64 (.full dr.length)), (17, .int .i64 (.sym i 0 1000000))], hp := [(0, some (.cells [.ro .u32 d, .ro .u32 c, .ro .u8 m, .ro .rel dr, .ro .rel cr, .ro .sym sy]))], next := 1, sz := 144 }
def XDRels (d c m : List Int) (dr cr : List Rel) (sy : List Sm) : SState := { fr := [(1, .ptr 0 0)], hp := [(0, some (.cells [.ro .u32 d, .ro .u32 c, .ro .u8 m, .ro .rel dr, .ro .rel cr, .ro .sym sy]))], next := 1, sz := 144 }
def YDRels (d c m : List Int) (dr cr : List Rel) (sy : List Sm) : SState := { fr := [(2, .err (firstE (drE d dr sy) dr.length))], hp := [], next := 0, sz := 144 }
def LDRels (d c m : List Int) (dr cr : List Rel) (sy : List Sm) : LSum := ⟨HDRels d c m dr cr sy 0, fun k => .ite (!(firstE (drE d dr sy) dr.length).isErr) (k (.exit 0) (XDRels d c m dr cr sy)) (k .ret (YDRels d c m dr cr sy)), dr.length ≤ 1000000⟩
theorem bDRels (rest : List (Nat × SVal)) (d c m : List Int) (dr cr : List Rel) (sy : List Sm) (i : Nat) : (Tr.sat (rnd2 (env (G7 ++ rest) [(107, kreloc), (108, kshape), (82, kInstr), (109, kshort), (110, kfar)]) (fun i => firstE (drE d dr sy) i = .fine) (dr.length) (HDRels d c m dr cr sy) 0 (!(firstE (drE d dr sy) dr.length).isErr) (XDRels d c m dr cr sy) (YDRels d c m dr cr sy) i) (run (env (G7 ++ rest) [(107, kreloc), (108, kshape), (82, kInstr), (109, kshort), (110, kfar)]) [] (loopN (bodyOf Tryd.f91) 0) (HDRels d c m dr cr sy i) .leaf)) = (
  (decide ((↑i : Int) < (↑(List.length dr) : Int)) = true → ((0 : Int) ≤ (↑i : Int) ∧ (↑i : Int) < (↑(List.length dr) : Int)) ∧ ((0 : Int) ≤ (↑i : Int) ∧ (↑i : Int) < (↑(List.length dr) : Int) → ((!FErr.isErr (relocE (List.length sy) (List.getD dr (Int.toNat (↑i : Int)) (RT.dflt RT.rel)).at_ (List.getD dr (Int.toNat (↑i : Int)) (RT.dflt RT.rel)).kind (List.getD dr (Int.toNat (↑i : Int)) (RT.dflt RT.rel)).sym (List.getD dr (Int.toNat (↑i : Int)) (RT.dflt RT.rel)).add (lastR dr i) (↑(List.length d) : Int) (1 : Int)) && !decide ((List.getD dr (Int.toNat (↑i : Int)) (RT.dflt RT.rel)).add = (0 : Int))) = true → (0 : Int) ≤ (List.getD dr (Int.toNat (↑i : Int)) (RT.dflt RT.rel)).sym ∧ (List.getD dr (Int.toNat (↑i : Int)) (RT.dflt RT.rel)).sym < (↑(List.length sy) : Int)) ∧ (((!FErr.isErr (relocE (List.length sy) (List.getD dr (Int.toNat (↑i : Int)) (RT.dflt RT.rel)).at_ (List.getD dr (Int.toNat (↑i : Int)) (RT.dflt RT.rel)).kind (List.getD dr (Int.toNat (↑i : Int)) (RT.dflt RT.rel)).sym (List.getD dr (Int.toNat (↑i : Int)) (RT.dflt RT.rel)).add (lastR dr i) (↑(List.length d) : Int) (1 : Int)) && !decide ((List.getD dr (Int.toNat (↑i : Int)) (RT.dflt RT.rel)).add = (0 : Int))) = true → (0 : Int) ≤ (List.getD dr (Int.toNat (↑i : Int)) (RT.dflt RT.rel)).sym ∧ (List.getD dr (Int.toNat (↑i : Int)) (RT.dflt RT.rel)).sym < (↑(List.length sy) : Int)) → ((!FErr.isErr (relocE (List.length sy) (List.getD dr (Int.toNat (↑i : Int)) (RT.dflt RT.rel)).at_ (List.getD dr (Int.toNat (↑i : Int)) (RT.dflt RT.rel)).kind (List.getD dr (Int.toNat (↑i : Int)) (RT.dflt RT.rel)).sym (List.getD dr (Int.toNat (↑i : Int)) (RT.dflt RT.rel)).add (lastR dr i) (↑(List.length d) : Int) (1 : Int)) && !decide ((List.getD dr (Int.toNat (↑i : Int)) (RT.dflt RT.rel)).add = (0 : Int)) && !decide ((List.getD sy (Int.toNat (List.getD dr (Int.toNat (↑i : Int)) (RT.dflt RT.rel)).sym) (RT.dflt RT.sym)).in_ = (1 : Int))) = true → (true = true → (!FErr.isErr (firstE (drE d dr sy) (List.length dr))) = false ∧ firstE (drE d dr sy) (List.length dr) = FErr.placed (102 : Int) (↑i : Int) ∧ FErr.isErr (FErr.bare (102 : Int)) = true ∧ FErr.isPlaced (FErr.bare (102 : Int)) = false) ∧ (true = false → i < List.length dr ∧ firstE (drE d dr sy) (i + (1 : Nat)) = FErr.fine ∧ (List.getD dr (Int.toNat (↑i : Int)) (RT.dflt RT.rel)).at_ = lastR dr (i + (1 : Nat)) ∧ dr = dr ∧ (↑(List.length dr) : Int) = (↑(List.length dr) : Int) ∧ (↑i : Int) + (1 : Int) = (↑(i + (1 : Nat)) : Int) ∧ ((0 : Int) ≤ (↑(i + (1 : Nat)) : Int) ∧ (↑(i + (1 : Nat)) : Int) ≤ (1000000 : Int)) ∧ d = d ∧ c = c ∧ m = m ∧ dr = dr ∧ cr = cr ∧ sy = sy)) ∧ ((!FErr.isErr (relocE (List.length sy) (List.getD dr (Int.toNat (↑i : Int)) (RT.dflt RT.rel)).at_ (List.getD dr (Int.toNat (↑i : Int)) (RT.dflt RT.rel)).kind (List.getD dr (Int.toNat (↑i : Int)) (RT.dflt RT.rel)).sym (List.getD dr (Int.toNat (↑i : Int)) (RT.dflt RT.rel)).add (lastR dr i) (↑(List.length d) : Int) (1 : Int)) && !decide ((List.getD dr (Int.toNat (↑i : Int)) (RT.dflt RT.rel)).add = (0 : Int)) && !decide ((List.getD sy (Int.toNat (List.getD dr (Int.toNat (↑i : Int)) (RT.dflt RT.rel)).sym) (RT.dflt RT.sym)).in_ = (1 : Int))) = false → ((!!FErr.isErr (relocE (List.length sy) (List.getD dr (Int.toNat (↑i : Int)) (RT.dflt RT.rel)).at_ (List.getD dr (Int.toNat (↑i : Int)) (RT.dflt RT.rel)).kind (List.getD dr (Int.toNat (↑i : Int)) (RT.dflt RT.rel)).sym (List.getD dr (Int.toNat (↑i : Int)) (RT.dflt RT.rel)).add (lastR dr i) (↑(List.length d) : Int) (1 : Int))) = true → (!FErr.isErr (firstE (drE d dr sy) (List.length dr))) = false ∧ (firstE (drE d dr sy) (List.length dr) = match relocE (List.length sy) (List.getD dr (Int.toNat (↑i : Int)) (RT.dflt RT.rel)).at_ (List.getD dr (Int.toNat (↑i : Int)) (RT.dflt RT.rel)).kind (List.getD dr (Int.toNat (↑i : Int)) (RT.dflt RT.rel)).sym (List.getD dr (Int.toNat (↑i : Int)) (RT.dflt RT.rel)).add (lastR dr i) (↑(List.length d) : Int) (1 : Int) with | FErr.bare n => FErr.placed n (↑i : Int) | x => FErr.fine) ∧ FErr.isErr (relocE (List.length sy) (List.getD dr (Int.toNat (↑i : Int)) (RT.dflt RT.rel)).at_ (List.getD dr (Int.toNat (↑i : Int)) (RT.dflt RT.rel)).kind (List.getD dr (Int.toNat (↑i : Int)) (RT.dflt RT.rel)).sym (List.getD dr (Int.toNat (↑i : Int)) (RT.dflt RT.rel)).add (lastR dr i) (↑(List.length d) : Int) (1 : Int)) = true ∧ FErr.isPlaced (relocE (List.length sy) (List.getD dr (Int.toNat (↑i : Int)) (RT.dflt RT.rel)).at_ (List.getD dr (Int.toNat (↑i : Int)) (RT.dflt RT.rel)).kind (List.getD dr (Int.toNat (↑i : Int)) (RT.dflt RT.rel)).sym (List.getD dr (Int.toNat (↑i : Int)) (RT.dflt RT.rel)).add (lastR dr i) (↑(List.length d) : Int) (1 : Int)) = false) ∧ ((!!FErr.isErr (relocE (List.length sy) (List.getD dr (Int.toNat (↑i : Int)) (RT.dflt RT.rel)).at_ (List.getD dr (Int.toNat (↑i : Int)) (RT.dflt RT.rel)).kind (List.getD dr (Int.toNat (↑i : Int)) (RT.dflt RT.rel)).sym (List.getD dr (Int.toNat (↑i : Int)) (RT.dflt RT.rel)).add (lastR dr i) (↑(List.length d) : Int) (1 : Int))) = false → i < List.length dr ∧ firstE (drE d dr sy) (i + (1 : Nat)) = FErr.fine ∧ (List.getD dr (Int.toNat (↑i : Int)) (RT.dflt RT.rel)).at_ = lastR dr (i + (1 : Nat)) ∧ dr = dr ∧ (↑(List.length dr) : Int) = (↑(List.length dr) : Int) ∧ (↑i : Int) + (1 : Int) = (↑(i + (1 : Nat)) : Int) ∧ ((0 : Int) ≤ (↑(i + (1 : Nat)) : Int) ∧ (↑(i + (1 : Nat)) : Int) ≤ (1000000 : Int)) ∧ d = d ∧ c = c ∧ m = m ∧ dr = dr ∧ cr = cr ∧ sy = sy))))) ∧ (decide ((↑i : Int) < (↑(List.length dr) : Int)) = false → Nat.beq (0 : Nat) (0 : Nat) = true ∧ (!FErr.isErr (firstE (drE d dr sy) (List.length dr))) = true ∧ d = d ∧ c = c ∧ m = m ∧ dr = dr ∧ cr = cr ∧ sy = sy)) := by kernel_rfl
set_option maxHeartbeats 4000000 in
theorem lDRels (d c m : List Int) (dr cr : List Rel) (sy : List Sm) {W : World} {R own0 : Nat → Prop} {ρ0 : Nat → Option Value} (hown : HownOk (env (G7 ++ rest) [(107, kreloc), (108, kshape), (82, kInstr), (109, kshort), (110, kfar)]) own0 ρ0) : LOk Tryd.prog (env (G7 ++ rest) [(107, kreloc), (108, kshape), (82, kInstr), (109, kshort), (110, kfar)]) (ctx ea has) (G7 ++ rest) W R own0 ρ0 (loopN (bodyOf Tryd.f91) 0) (LDRels d c m dr cr sy) := by
  refine loop2_ok (env_ok (con := [(107, kreloc), (108, kshape), (82, kInstr), (109, kshort), (110, kfar)]) ⟨creloc, cshape, cInstr, cshort, cfar, trivial⟩) hown (ls := fun i => []) (fun i => noSums (by kernel_rfl)) (fun hm i hi hj => (bDRels rest d c m dr cr sy i).mpr ?_) 0 (fun hm => by first | exact Nat.zero_le _ | omega) (fun hm => rfl)
  have hnp := @relocE_np sy.length (dr.getD i RT.rel.dflt).at_ (dr.getD i RT.rel.dflt).kind (dr.getD i RT.rel.dflt).sym (dr.getD i RT.rel.dflt).add (lastR dr i) d.length 1
  have hok := @relocE_ok sy.length (dr.getD i RT.rel.dflt).at_ (dr.getD i RT.rel.dflt).kind (dr.getD i RT.rel.dflt).sym (dr.getD i RT.rel.dflt).add (lastR dr i) d.length 1
  have hE := drE.eq_1 d dr sy i
  simp only [Int.toNat_natCast]
  generalize relocE sy.length (dr.getD i RT.rel.dflt).at_ (dr.getD i RT.rel.dflt).kind (dr.getD i RT.rel.dflt).sym (dr.getD i RT.rel.dflt).add (lastR dr i) d.length 1 = e at *
  refine ⟨fun h => ?_, fun h => ?_⟩
  · have h := of_decide_eq_true h
    have hlt : i < dr.length := by omega
    refine ⟨by omega, fun _ => ⟨fun h2 => ?_, fun _ => ⟨fun h2 => ⟨fun _ => ?_, fun h => by cases h⟩, fun h2 => ⟨fun h3 => ?_, fun h3 => ?_⟩⟩⟩⟩
    · simp only [Bool.and_eq_true, Bool.not_eq_true'] at h2
      have := hok h2.1; omega
    · rw [if_pos h2] at hE
      obtain ⟨g1, g2⟩ := firstE_at hj (by rw [hE]; rfl) (by rw [hE]; rfl) hlt
      rw [hE] at g1
      exact ⟨by rw [g2]; rfl, g1, rfl, rfl⟩
    · rw [if_neg (by rw [h2]; simp)] at hE
      have h3 : e.isErr = true := by simpa using h3
      obtain ⟨g1, g2⟩ := firstE_at hj (by rw [hE]; exact h3) (by rw [hE]; exact hnp) hlt
      rw [hE] at g1
      exact ⟨by rw [g2]; rfl, g1, h3, hnp⟩
    · rw [if_neg (by rw [h2]; simp)] at hE
      have h3 : e.isErr = false := by simpa using h3
      refine ⟨hlt, firstE_fine hj (by rw [hE]; exact h3), ?_⟩
      simp [lastR]; omega
  · have h := of_decide_eq_false h
    have : i = dr.length := by omega
    rw [← this, hj]
    simp [FErr.isErr]
def crE (c m : List Int) (cr : List Rel) (sy : List Sm) (i : Nat) : FErr :=
  let r := cr.getD i RT.rel.dflt
  let e := relocE sy.length r.at_ r.kind r.sym r.add (lastR cr i) c.length 2
  if (!e.isErr && !shapeB c m sy r.at_ r.kind r.sym r.add) = true then .bare 102 else e
def atM (cr : List Rel) : Nat → List (Int × Int)
  | 0 => []
  | i + 1 => mapPut (atM cr i) (cr.getD i RT.rel.dflt).at_ (cr.getD i RT.rel.dflt).kind
def HCRels (d c m : List Int) (dr cr : List Rel) (sy : List Sm) (i : Nat) : SState := { fr := [(1, .ptr 0 0), (3, .int .i64 (.full (lastR cr i))), (7, .map 1), (59, .ro .rel cr), (60, .int .i64 (.full cr.length)), (61, .int .i64 (.sym i 0 1000000))], hp := [(0, some (.cells [.ro .u32 d, .ro .u32 c, .ro .u8 m, .ro .rel dr, .ro .rel cr, .ro .sym sy])), (1, some (.intMap (atM cr i)))], next := 2, sz := 144 }
def XCRels (d c m : List Int) (dr cr : List Rel) (sy : List Sm) : SState := { fr := [(1, .ptr 0 0), (7, .map 1)], hp := [(0, some (.cells [.ro .u32 d, .ro .u32 c, .ro .u8 m, .ro .rel dr, .ro .rel cr, .ro .sym sy])), (1, some (.intMap (atM cr cr.length)))], next := 2, sz := 144 }
def YCRels (d c m : List Int) (dr cr : List Rel) (sy : List Sm) : SState := { fr := [(2, .err (firstE (crE c m cr sy) cr.length))], hp := [], next := 0, sz := 144 }
def LCRels (d c m : List Int) (dr cr : List Rel) (sy : List Sm) : LSum := ⟨HCRels d c m dr cr sy 0, fun k => .ite (!(firstE (crE c m cr sy) cr.length).isErr) (k (.exit 2) (XCRels d c m dr cr sy)) (k .ret (YCRels d c m dr cr sy)), cr.length ≤ 1000000 ∧ m.length = c.length⟩
theorem bCRels (rest : List (Nat × SVal)) (d c m : List Int) (dr cr : List Rel) (sy : List Sm) (i : Nat) : (Tr.sat (rnd2 (env (G7 ++ rest) [(107, kreloc), (108, kshape), (82, kInstr), (109, kshort), (110, kfar)]) (fun i => firstE (crE c m cr sy) i = .fine) (cr.length) (HCRels d c m dr cr sy) 2 (!(firstE (crE c m cr sy) cr.length).isErr) (XCRels d c m dr cr sy) (YCRels d c m dr cr sy) i) (run (env (G7 ++ rest) [(107, kreloc), (108, kshape), (82, kInstr), (109, kshort), (110, kfar)]) [] (loopN (bodyOf Tryd.f91) 1) (HCRels d c m dr cr sy i) .leaf)) = (
  (decide ((↑i : Int) < (↑(List.length cr) : Int)) = true → ((0 : Int) ≤ (↑i : Int) ∧ (↑i : Int) < (↑(List.length cr) : Int)) ∧ ((0 : Int) ≤ (↑i : Int) ∧ (↑i : Int) < (↑(List.length cr) : Int) → ((!FErr.isErr (relocE (List.length sy) (List.getD cr (Int.toNat (↑i : Int)) (RT.dflt RT.rel)).at_ (List.getD cr (Int.toNat (↑i : Int)) (RT.dflt RT.rel)).kind (List.getD cr (Int.toNat (↑i : Int)) (RT.dflt RT.rel)).sym (List.getD cr (Int.toNat (↑i : Int)) (RT.dflt RT.rel)).add (lastR cr i) (↑(List.length c) : Int) (2 : Int))) = true → (0 : Int) ≤ (List.getD cr (Int.toNat (↑i : Int)) (RT.dflt RT.rel)).at_ ∧ (List.getD cr (Int.toNat (↑i : Int)) (RT.dflt RT.rel)).at_ < (↑(List.length m) : Int) ∧ (0 : Int) ≤ (List.getD cr (Int.toNat (↑i : Int)) (RT.dflt RT.rel)).sym ∧ (List.getD cr (Int.toNat (↑i : Int)) (RT.dflt RT.rel)).sym < (↑(List.length sy) : Int)) ∧ (((!FErr.isErr (relocE (List.length sy) (List.getD cr (Int.toNat (↑i : Int)) (RT.dflt RT.rel)).at_ (List.getD cr (Int.toNat (↑i : Int)) (RT.dflt RT.rel)).kind (List.getD cr (Int.toNat (↑i : Int)) (RT.dflt RT.rel)).sym (List.getD cr (Int.toNat (↑i : Int)) (RT.dflt RT.rel)).add (lastR cr i) (↑(List.length c) : Int) (2 : Int))) = true → (0 : Int) ≤ (List.getD cr (Int.toNat (↑i : Int)) (RT.dflt RT.rel)).at_ ∧ (List.getD cr (Int.toNat (↑i : Int)) (RT.dflt RT.rel)).at_ < (↑(List.length m) : Int) ∧ (0 : Int) ≤ (List.getD cr (Int.toNat (↑i : Int)) (RT.dflt RT.rel)).sym ∧ (List.getD cr (Int.toNat (↑i : Int)) (RT.dflt RT.rel)).sym < (↑(List.length sy) : Int)) → ((!FErr.isErr (relocE (List.length sy) (List.getD cr (Int.toNat (↑i : Int)) (RT.dflt RT.rel)).at_ (List.getD cr (Int.toNat (↑i : Int)) (RT.dflt RT.rel)).kind (List.getD cr (Int.toNat (↑i : Int)) (RT.dflt RT.rel)).sym (List.getD cr (Int.toNat (↑i : Int)) (RT.dflt RT.rel)).add (lastR cr i) (↑(List.length c) : Int) (2 : Int)) && !shapeB c m sy (List.getD cr (Int.toNat (↑i : Int)) (RT.dflt RT.rel)).at_ (List.getD cr (Int.toNat (↑i : Int)) (RT.dflt RT.rel)).kind (List.getD cr (Int.toNat (↑i : Int)) (RT.dflt RT.rel)).sym (List.getD cr (Int.toNat (↑i : Int)) (RT.dflt RT.rel)).add) = true → (true = true → (!FErr.isErr (firstE (crE c m cr sy) (List.length cr))) = false ∧ firstE (crE c m cr sy) (List.length cr) = FErr.placed (102 : Int) (↑i : Int) ∧ FErr.isErr (FErr.bare (102 : Int)) = true ∧ FErr.isPlaced (FErr.bare (102 : Int)) = false) ∧ (true = false → i < List.length cr ∧ firstE (crE c m cr sy) (i + (1 : Nat)) = FErr.fine ∧ (List.getD cr (Int.toNat (↑i : Int)) (RT.dflt RT.rel)).at_ = lastR cr (i + (1 : Nat)) ∧ cr = cr ∧ (↑(List.length cr) : Int) = (↑(List.length cr) : Int) ∧ (↑i : Int) + (1 : Int) = (↑(i + (1 : Nat)) : Int) ∧ ((0 : Int) ≤ (↑(i + (1 : Nat)) : Int) ∧ (↑(i + (1 : Nat)) : Int) ≤ (1000000 : Int)) ∧ d = d ∧ c = c ∧ m = m ∧ dr = dr ∧ cr = cr ∧ sy = sy ∧ mapPut (atM cr i) (List.getD cr (Int.toNat (↑i : Int)) (RT.dflt RT.rel)).at_ (List.getD cr (Int.toNat (↑i : Int)) (RT.dflt RT.rel)).kind = atM cr (i + (1 : Nat)))) ∧ ((!FErr.isErr (relocE (List.length sy) (List.getD cr (Int.toNat (↑i : Int)) (RT.dflt RT.rel)).at_ (List.getD cr (Int.toNat (↑i : Int)) (RT.dflt RT.rel)).kind (List.getD cr (Int.toNat (↑i : Int)) (RT.dflt RT.rel)).sym (List.getD cr (Int.toNat (↑i : Int)) (RT.dflt RT.rel)).add (lastR cr i) (↑(List.length c) : Int) (2 : Int)) && !shapeB c m sy (List.getD cr (Int.toNat (↑i : Int)) (RT.dflt RT.rel)).at_ (List.getD cr (Int.toNat (↑i : Int)) (RT.dflt RT.rel)).kind (List.getD cr (Int.toNat (↑i : Int)) (RT.dflt RT.rel)).sym (List.getD cr (Int.toNat (↑i : Int)) (RT.dflt RT.rel)).add) = false → ((!!FErr.isErr (relocE (List.length sy) (List.getD cr (Int.toNat (↑i : Int)) (RT.dflt RT.rel)).at_ (List.getD cr (Int.toNat (↑i : Int)) (RT.dflt RT.rel)).kind (List.getD cr (Int.toNat (↑i : Int)) (RT.dflt RT.rel)).sym (List.getD cr (Int.toNat (↑i : Int)) (RT.dflt RT.rel)).add (lastR cr i) (↑(List.length c) : Int) (2 : Int))) = true → (!FErr.isErr (firstE (crE c m cr sy) (List.length cr))) = false ∧ (firstE (crE c m cr sy) (List.length cr) = match relocE (List.length sy) (List.getD cr (Int.toNat (↑i : Int)) (RT.dflt RT.rel)).at_ (List.getD cr (Int.toNat (↑i : Int)) (RT.dflt RT.rel)).kind (List.getD cr (Int.toNat (↑i : Int)) (RT.dflt RT.rel)).sym (List.getD cr (Int.toNat (↑i : Int)) (RT.dflt RT.rel)).add (lastR cr i) (↑(List.length c) : Int) (2 : Int) with | FErr.bare n => FErr.placed n (↑i : Int) | x => FErr.fine) ∧ FErr.isErr (relocE (List.length sy) (List.getD cr (Int.toNat (↑i : Int)) (RT.dflt RT.rel)).at_ (List.getD cr (Int.toNat (↑i : Int)) (RT.dflt RT.rel)).kind (List.getD cr (Int.toNat (↑i : Int)) (RT.dflt RT.rel)).sym (List.getD cr (Int.toNat (↑i : Int)) (RT.dflt RT.rel)).add (lastR cr i) (↑(List.length c) : Int) (2 : Int)) = true ∧ FErr.isPlaced (relocE (List.length sy) (List.getD cr (Int.toNat (↑i : Int)) (RT.dflt RT.rel)).at_ (List.getD cr (Int.toNat (↑i : Int)) (RT.dflt RT.rel)).kind (List.getD cr (Int.toNat (↑i : Int)) (RT.dflt RT.rel)).sym (List.getD cr (Int.toNat (↑i : Int)) (RT.dflt RT.rel)).add (lastR cr i) (↑(List.length c) : Int) (2 : Int)) = false) ∧ ((!!FErr.isErr (relocE (List.length sy) (List.getD cr (Int.toNat (↑i : Int)) (RT.dflt RT.rel)).at_ (List.getD cr (Int.toNat (↑i : Int)) (RT.dflt RT.rel)).kind (List.getD cr (Int.toNat (↑i : Int)) (RT.dflt RT.rel)).sym (List.getD cr (Int.toNat (↑i : Int)) (RT.dflt RT.rel)).add (lastR cr i) (↑(List.length c) : Int) (2 : Int))) = false → i < List.length cr ∧ firstE (crE c m cr sy) (i + (1 : Nat)) = FErr.fine ∧ (List.getD cr (Int.toNat (↑i : Int)) (RT.dflt RT.rel)).at_ = lastR cr (i + (1 : Nat)) ∧ cr = cr ∧ (↑(List.length cr) : Int) = (↑(List.length cr) : Int) ∧ (↑i : Int) + (1 : Int) = (↑(i + (1 : Nat)) : Int) ∧ ((0 : Int) ≤ (↑(i + (1 : Nat)) : Int) ∧ (↑(i + (1 : Nat)) : Int) ≤ (1000000 : Int)) ∧ d = d ∧ c = c ∧ m = m ∧ dr = dr ∧ cr = cr ∧ sy = sy ∧ mapPut (atM cr i) (List.getD cr (Int.toNat (↑i : Int)) (RT.dflt RT.rel)).at_ (List.getD cr (Int.toNat (↑i : Int)) (RT.dflt RT.rel)).kind = atM cr (i + (1 : Nat))))))) ∧ (decide ((↑i : Int) < (↑(List.length cr) : Int)) = false → Nat.beq (2 : Nat) (2 : Nat) = true ∧ (!FErr.isErr (firstE (crE c m cr sy) (List.length cr))) = true ∧ d = d ∧ c = c ∧ m = m ∧ dr = dr ∧ cr = cr ∧ sy = sy ∧ atM cr i = atM cr (List.length cr))) := by kernel_rfl
set_option maxHeartbeats 4000000 in
theorem lCRels (d c m : List Int) (dr cr : List Rel) (sy : List Sm) {W : World} {R own0 : Nat → Prop} {ρ0 : Nat → Option Value} (hown : HownOk (env (G7 ++ rest) [(107, kreloc), (108, kshape), (82, kInstr), (109, kshort), (110, kfar)]) own0 ρ0) : LOk Tryd.prog (env (G7 ++ rest) [(107, kreloc), (108, kshape), (82, kInstr), (109, kshort), (110, kfar)]) (ctx ea has) (G7 ++ rest) W R own0 ρ0 (loopN (bodyOf Tryd.f91) 1) (LCRels d c m dr cr sy) := by
  refine loop2_ok (env_ok (con := [(107, kreloc), (108, kshape), (82, kInstr), (109, kshort), (110, kfar)]) ⟨creloc, cshape, cInstr, cshort, cfar, trivial⟩) hown (ls := fun i => []) (fun i => noSums (by kernel_rfl)) (fun hm i hi hj => (bCRels rest d c m dr cr sy i).mpr ?_) 0 (fun hm => by first | exact Nat.zero_le _ | omega) (fun hm => rfl)
  have hnp := @relocE_np sy.length (cr.getD i RT.rel.dflt).at_ (cr.getD i RT.rel.dflt).kind (cr.getD i RT.rel.dflt).sym (cr.getD i RT.rel.dflt).add (lastR cr i) c.length 2
  have hok := @relocE_ok sy.length (cr.getD i RT.rel.dflt).at_ (cr.getD i RT.rel.dflt).kind (cr.getD i RT.rel.dflt).sym (cr.getD i RT.rel.dflt).add (lastR cr i) c.length 2
  have hE := crE.eq_1 c m cr sy i
  simp only [Int.toNat_natCast]
  generalize relocE sy.length (cr.getD i RT.rel.dflt).at_ (cr.getD i RT.rel.dflt).kind (cr.getD i RT.rel.dflt).sym (cr.getD i RT.rel.dflt).add (lastR cr i) c.length 2 = e at *
  obtain ⟨hm, hmc⟩ := hm
  refine ⟨fun h => ?_, fun h => ?_⟩
  · have h := of_decide_eq_true h
    have hlt : i < cr.length := by omega
    refine ⟨by omega, fun _ => ⟨fun h2 => ?_, fun _ => ⟨fun h2 => ⟨fun _ => ?_, fun h => by cases h⟩, fun h2 => ⟨fun h3 => ?_, fun h3 => ?_⟩⟩⟩⟩
    · have h2 : e.isErr = false := by simpa using h2
      have := hok h2; omega
    · rw [if_pos h2] at hE
      obtain ⟨g1, g2⟩ := firstE_at hj (by rw [hE]; rfl) (by rw [hE]; rfl) hlt
      rw [hE] at g1
      exact ⟨by rw [g2]; rfl, g1, rfl, rfl⟩
    · rw [if_neg (by rw [h2]; simp)] at hE
      have h3 : e.isErr = true := by simpa using h3
      obtain ⟨g1, g2⟩ := firstE_at hj (by rw [hE]; exact h3) (by rw [hE]; exact hnp) hlt
      rw [hE] at g1
      exact ⟨by rw [g2]; rfl, g1, h3, hnp⟩
    · rw [if_neg (by rw [h2]; simp)] at hE
      have h3 : e.isErr = false := by simpa using h3
      refine ⟨hlt, firstE_fine hj (by rw [hE]; exact h3), ?_⟩
      simp [lastR, atM]; omega
  · have h := of_decide_eq_false h
    have : i = cr.length := by omega
    rw [← this, hj]
    simp [FErr.isErr]
def needE (c m : List Int) (cr : List Rel) (i : Nat) : FErr :=
  if (insB c m i && ((shortM (insI c m i).op && !decide (mapGet (atM cr cr.length) (i : Int) = 2)) || ((farM (insI c m i).op || decide ((insI c m i).op = 15)) && !decide (mapGet (atM cr cr.length) ((i : Int) + 1) = 1)))) = true then .bare 107 else .fine
def HNeeds (d c m : List Int) (dr cr : List Rel) (sy : List Sm) (i : Nat) : SState := { fr := [(1, .ptr 0 0), (7, .map 1), (99, .int .i64 (.full c.length)), (100, .int .i64 (.sym i 0 1000000))], hp := [(0, some (.cells [.ro .u32 d, .ro .u32 c, .ro .u8 m, .ro .rel dr, .ro .rel cr, .ro .sym sy])), (1, some (.intMap (atM cr cr.length)))], next := 2, sz := 144 }
def XNeeds (d c m : List Int) (dr cr : List Rel) (sy : List Sm) : SState := { fr := [(1, .ptr 0 0)], hp := [], next := 1, sz := 144 }
def YNeeds (d c m : List Int) (dr cr : List Rel) (sy : List Sm) : SState := { fr := [(2, .err (firstE (needE c m cr) c.length))], hp := [], next := 0, sz := 144 }
def LNeeds (d c m : List Int) (dr cr : List Rel) (sy : List Sm) : LSum := ⟨HNeeds d c m dr cr sy 0, fun k => .ite (!(firstE (needE c m cr) c.length).isErr) (k (.exit 4) (XNeeds d c m dr cr sy)) (k .ret (YNeeds d c m dr cr sy)), c.length ≤ 1000000⟩
theorem bNeeds (rest : List (Nat × SVal)) (d c m : List Int) (dr cr : List Rel) (sy : List Sm) (i : Nat) : (Tr.sat (rnd2 (env (G7 ++ rest) [(107, kreloc), (108, kshape), (82, kInstr), (109, kshort), (110, kfar)]) (fun i => firstE (needE c m cr) i = .fine) (c.length) (HNeeds d c m dr cr sy) 4 (!(firstE (needE c m cr) c.length).isErr) (XNeeds d c m dr cr sy) (YNeeds d c m dr cr sy) i) (run (env (G7 ++ rest) [(107, kreloc), (108, kshape), (82, kInstr), (109, kshort), (110, kfar)]) [] (loopN (bodyOf Tryd.f91) 2) (HNeeds d c m dr cr sy i) .leaf)) = (
  (decide ((↑i : Int) < (↑(List.length c) : Int)) = true → ((insB c m (↑i : Int) && (shortM (insI c m (↑i : Int)).op && !decide (mapGet (atM cr (List.length cr)) (↑i : Int) = (2 : Int)) || (farM (insI c m (↑i : Int)).op || decide ((insI c m (↑i : Int)).op = (15 : Int))) && !decide (mapGet (atM cr (List.length cr)) ((↑i : Int) + (1 : Int)) = (1 : Int)))) = true → (!FErr.isErr (firstE (needE c m cr) (List.length c))) = false ∧ firstE (needE c m cr) (List.length c) = FErr.placed (107 : Int) (↑i : Int) ∧ FErr.isErr (FErr.bare (107 : Int)) = true ∧ FErr.isPlaced (FErr.bare (107 : Int)) = false) ∧ ((insB c m (↑i : Int) && (shortM (insI c m (↑i : Int)).op && !decide (mapGet (atM cr (List.length cr)) (↑i : Int) = (2 : Int)) || (farM (insI c m (↑i : Int)).op || decide ((insI c m (↑i : Int)).op = (15 : Int))) && !decide (mapGet (atM cr (List.length cr)) ((↑i : Int) + (1 : Int)) = (1 : Int)))) = false → i < List.length c ∧ firstE (needE c m cr) (i + (1 : Nat)) = FErr.fine ∧ (↑(List.length c) : Int) = (↑(List.length c) : Int) ∧ (↑i : Int) + (1 : Int) = (↑(i + (1 : Nat)) : Int) ∧ ((0 : Int) ≤ (↑(i + (1 : Nat)) : Int) ∧ (↑(i + (1 : Nat)) : Int) ≤ (1000000 : Int)) ∧ d = d ∧ c = c ∧ m = m ∧ dr = dr ∧ cr = cr ∧ sy = sy ∧ atM cr (List.length cr) = atM cr (List.length cr))) ∧ (decide ((↑i : Int) < (↑(List.length c) : Int)) = false → Nat.beq (4 : Nat) (4 : Nat) = true ∧ (!FErr.isErr (firstE (needE c m cr) (List.length c))) = true ∧ True)) := by kernel_rfl
set_option maxHeartbeats 4000000 in
theorem lNeeds (d c m : List Int) (dr cr : List Rel) (sy : List Sm) {W : World} {R own0 : Nat → Prop} {ρ0 : Nat → Option Value} (hown : HownOk (env (G7 ++ rest) [(107, kreloc), (108, kshape), (82, kInstr), (109, kshort), (110, kfar)]) own0 ρ0) : LOk Tryd.prog (env (G7 ++ rest) [(107, kreloc), (108, kshape), (82, kInstr), (109, kshort), (110, kfar)]) (ctx ea has) (G7 ++ rest) W R own0 ρ0 (loopN (bodyOf Tryd.f91) 2) (LNeeds d c m dr cr sy) := by
  refine loop2_ok (env_ok (con := [(107, kreloc), (108, kshape), (82, kInstr), (109, kshort), (110, kfar)]) ⟨creloc, cshape, cInstr, cshort, cfar, trivial⟩) hown (ls := fun i => []) (fun i => noSums (by kernel_rfl)) (fun hm i hi hj => (bNeeds rest d c m dr cr sy i).mpr ?_) 0 (fun hm => by first | exact Nat.zero_le _ | omega) (fun hm => rfl)
  have hE := needE.eq_1 c m cr i
  refine ⟨fun h => ?_, fun h => ?_⟩
  · have h := of_decide_eq_true h
    have hlt : i < c.length := by omega
    refine ⟨fun h2 => ?_, fun h2 => ?_⟩
    · rw [if_pos h2] at hE
      obtain ⟨g1, g2⟩ := firstE_at hj (by rw [hE]; rfl) (by rw [hE]; rfl) hlt
      rw [hE] at g1
      exact ⟨by rw [g2]; rfl, g1, rfl, rfl⟩
    · rw [if_neg (by rw [h2]; simp)] at hE
      refine ⟨hlt, firstE_fine hj (by rw [hE]; rfl), ?_⟩
      simp; omega
  · have h := of_decide_eq_false h
    have : i = c.length := by omega
    rw [← this, hj]
    simp [FErr.isErr]
def relocsE (d c m : List Int) (dr cr : List Rel) (sy : List Sm) : FErr :=
  if (firstE (drE d dr sy) dr.length).isErr = true then firstE (drE d dr sy) dr.length
  else if (firstE (crE c m cr sy) cr.length).isErr = true then firstE (crE c m cr sy) cr.length
  else firstE (needE c m cr) c.length
def krelocs : List SVal → Nat → Acc ORes := fun a n => match a with | [.agg [.ro .u32 d, .ro .u32 c, .ro .u8 m, .ro .rel dr, .ro .rel cr, .ro .sym sy]] => .ret ({ v := .err (relocsE d c m dr cr sy), vc := some (dr.length ≤ 1000000 ∧ cr.length ≤ 1000000 ∧ c.length ≤ 1000000 ∧ m.length = c.length) }) | _ => .fail "relocs"
theorem argrelocs (d c m : List Int) (dr cr : List Rel) (sy : List Sm) : (all (subL tAtN none' [] deep [.agg [.ro .u32 d, .ro .u32 c, .ro .u8 m, .ro .rel dr, .ro .rel cr, .ro .sym sy]] [.agg [.ro .u32 d, .ro .u32 c, .ro .u8 m, .ro .rel dr, .ro .rel cr, .ro .sym sy]])) = (
  d = d ∧ c = c ∧ m = m ∧ dr = dr ∧ cr = cr ∧ sy = sy) := by kernel_rfl
theorem runrelocs (rest : List (Nat × SVal)) (d : List Int) (c : List Int) (m : List Int) (dr : List Rel) (cr : List Rel) (sy : List Sm) : (Tr.sat (plainQ (.err (relocsE d c m dr cr sy))) (run (env (G7 ++ rest) [(107, kreloc), (108, kshape), (82, kInstr), (109, kshort), (110, kfar)]) [(3, LDRels d c m dr cr sy), (15, LCRels d c m dr cr sy), (26, LNeeds d c m dr cr sy)] (bodyOf Tryd.f91) (start [.agg [.ro .u32 d, .ro .u32 c, .ro .u8 m, .ro .rel dr, .ro .rel cr, .ro .sym sy]] 144) (ends (env (G7 ++ rest) [(107, kreloc), (108, kshape), (82, kInstr), (109, kshort), (110, kfar)]) Tryd.f91.results.toList))) = (
  (List.length dr ≤ (1000000 : Nat) ∧ (-1 : Int) = lastR dr (0 : Nat) ∧ dr = dr ∧ (↑(List.length dr) : Int) = (↑(List.length dr) : Int) ∧ (0 : Int) = (↑(0 : Nat) : Int) ∧ d = d ∧ c = c ∧ m = m ∧ dr = dr ∧ cr = cr ∧ sy = sy) ∧ (List.length dr ≤ (1000000 : Nat) ∧ (-1 : Int) = lastR dr (0 : Nat) ∧ dr = dr ∧ (↑(List.length dr) : Int) = (↑(List.length dr) : Int) ∧ (0 : Int) = (↑(0 : Nat) : Int) ∧ d = d ∧ c = c ∧ m = m ∧ dr = dr ∧ cr = cr ∧ sy = sy → ((!FErr.isErr (firstE (drE d dr sy) (List.length dr))) = true → ((List.length cr ≤ (1000000 : Nat) ∧ List.length m = List.length c) ∧ (-1 : Int) = lastR cr (0 : Nat) ∧ cr = cr ∧ (↑(List.length cr) : Int) = (↑(List.length cr) : Int) ∧ (0 : Int) = (↑(0 : Nat) : Int) ∧ d = d ∧ c = c ∧ m = m ∧ dr = dr ∧ cr = cr ∧ sy = sy ∧ @List.nil (Int × Int) = atM cr (0 : Nat)) ∧ ((List.length cr ≤ (1000000 : Nat) ∧ List.length m = List.length c) ∧ (-1 : Int) = lastR cr (0 : Nat) ∧ cr = cr ∧ (↑(List.length cr) : Int) = (↑(List.length cr) : Int) ∧ (0 : Int) = (↑(0 : Nat) : Int) ∧ d = d ∧ c = c ∧ m = m ∧ dr = dr ∧ cr = cr ∧ sy = sy ∧ @List.nil (Int × Int) = atM cr (0 : Nat) → ((!FErr.isErr (firstE (crE c m cr sy) (List.length cr))) = true → (List.length c ≤ (1000000 : Nat) ∧ (↑(List.length c) : Int) = (↑(List.length c) : Int) ∧ (0 : Int) = (↑(0 : Nat) : Int) ∧ d = d ∧ c = c ∧ m = m ∧ dr = dr ∧ cr = cr ∧ sy = sy ∧ atM cr (List.length cr) = atM cr (List.length cr)) ∧ (List.length c ≤ (1000000 : Nat) ∧ (↑(List.length c) : Int) = (↑(List.length c) : Int) ∧ (0 : Int) = (↑(0 : Nat) : Int) ∧ d = d ∧ c = c ∧ m = m ∧ dr = dr ∧ cr = cr ∧ sy = sy ∧ atM cr (List.length cr) = atM cr (List.length cr) → ((!FErr.isErr (firstE (needE c m cr) (List.length c))) = true → FErr.fine = relocsE d c m dr cr sy) ∧ ((!FErr.isErr (firstE (needE c m cr) (List.length c))) = false → firstE (needE c m cr) (List.length c) = relocsE d c m dr cr sy))) ∧ ((!FErr.isErr (firstE (crE c m cr sy) (List.length cr))) = false → firstE (crE c m cr sy) (List.length cr) = relocsE d c m dr cr sy))) ∧ ((!FErr.isErr (firstE (drE d dr sy) (List.length dr))) = false → firstE (drE d dr sy) (List.length dr) = relocsE d c m dr cr sy))) := by kernel_rfl
set_option maxHeartbeats 4000000 in
theorem crelocs : Con ea has (G7 ++ rest) 91 krelocs := by
  refine plain_mkB Tryd.func91 144 (con := [(107, kreloc), (108, kshape), (82, kInstr), (109, kshort), (110, kfar)]) ⟨creloc, cshape, cInstr, cshort, cfar, trivial⟩ (fun hA hr hv => ?_) (by kernel_rfl) (by kernel_rfl) Tryd.ntmps91
  unfold krelocs at hr; split at hr
  · rename_i d c m dr cr sy
    have := ret_ok hr; subst this
    replace hv := hv _ rfl
    refine ⟨_, [(3, LDRels d c m dr cr sy), (15, LCRels d c m dr cr sy), (26, LNeeds d c m dr cr sy)], rfl, rfl, .of (argrelocs d c m dr cr sy) (by simp), rfl, (fun W R ρ0 own0 hown => hl3 (by kernel_rfl) (by kernel_rfl) (lDRels d c m dr cr sy hown) (by kernel_rfl) (lCRels d c m dr cr sy hown) (by kernel_rfl) (lNeeds d c m dr cr sy hown)), .of (runrelocs rest d c m dr cr sy) ?_⟩
    clear hr
    clear hA
    refine ⟨by simp [lastR, hv], fun _ => ⟨fun h => ⟨by simp [lastR, atM, hv], fun _ => ⟨fun h2 => ⟨by simp [hv], fun _ => ⟨fun h3 => ?_, fun h3 => ?_⟩⟩, fun h2 => ?_⟩⟩, fun h => ?_⟩⟩
    · rw [relocsE, if_neg (by simpa using h), if_neg (by simpa using h2)]; exact (fine_of (by simpa using h3)).symm
    · rw [relocsE, if_neg (by simpa using h), if_neg (by simpa using h2)]
    · rw [relocsE, if_neg (by simpa using h), if_pos (by simpa using h2)]
    · rw [relocsE, if_pos (by simpa using h)]
  · cases hr
def wdE (c m : List Int) (i : Nat) : FErr := wordE c m i
theorem wordE_np (c m : List Int) (i : Int) : (wordE c m i).isPlaced = false := by
  unfold wordE; repeat (first | rfl | split)
def HWords (d c m : List Int) (dr cr : List Rel) (sy : List Sm) (i : Nat) : SState := { fr := [(1, .nilFunc), (2, .ptr 0 0), (52, .int .i64 (.full c.length)), (53, .int .i64 (.sym i 0 1000000))], hp := [(0, some (.cells [.ro .u32 d, .ro .u32 c, .ro .u8 m, .ro .rel dr, .ro .rel cr, .ro .sym sy]))], next := 1, sz := 91 }
def XWords (d c m : List Int) (dr cr : List Rel) (sy : List Sm) : SState := { fr := [(2, .ptr 0 0)], hp := [(0, some (.cells [.ro .u32 d, .ro .u32 c, .ro .u8 m, .ro .rel dr, .ro .rel cr, .ro .sym sy]))], next := 1, sz := 91 }
def YWords (d c m : List Int) (dr cr : List Rel) (sy : List Sm) : SState := { fr := [(4, .err (firstE (wdE c m) c.length))], hp := [], next := 0, sz := 91 }
def LWords (d c m : List Int) (dr cr : List Rel) (sy : List Sm) : LSum := ⟨HWords d c m dr cr sy 0, fun k => .ite (!(firstE (wdE c m) c.length).isErr) (k (.exit 1) (XWords d c m dr cr sy)) (k .ret (YWords d c m dr cr sy)), c.length ≤ 1000000 ∧ m.length = c.length⟩
theorem bWords (rest : List (Nat × SVal)) (d c m : List Int) (dr cr : List Rel) (sy : List Sm) (i : Nat) : (Tr.sat (rnd2 (env (G7 ++ rest) [(89, kword), (90, ksymbol), (91, krelocs)]) (fun i => firstE (wdE c m) i = .fine) (c.length) (HWords d c m dr cr sy) 1 (!(firstE (wdE c m) c.length).isErr) (XWords d c m dr cr sy) (YWords d c m dr cr sy) i) (run (env (G7 ++ rest) [(89, kword), (90, ksymbol), (91, krelocs)]) [] (loopN (bodyOf Tryd.f71) 0) (HWords d c m dr cr sy i) .leaf)) = (
  (decide ((↑i : Int) < (↑(List.length c) : Int)) = true → ((0 : Int) ≤ (↑i : Int) ∧ (↑i : Int) < (↑(List.length m) : Int) ∧ List.length m = List.length c ∧ List.length m ≤ (1000000 : Nat)) ∧ ((0 : Int) ≤ (↑i : Int) ∧ (↑i : Int) < (↑(List.length m) : Int) ∧ List.length m = List.length c ∧ List.length m ≤ (1000000 : Nat) → ((!!FErr.isErr (wordE c m (↑i : Int))) = true → (!FErr.isErr (firstE (wdE c m) (List.length c))) = false ∧ (firstE (wdE c m) (List.length c) = match wordE c m (↑i : Int) with | FErr.bare n => FErr.placed n (↑i : Int) | x => FErr.fine) ∧ FErr.isErr (wordE c m (↑i : Int)) = true ∧ FErr.isPlaced (wordE c m (↑i : Int)) = false) ∧ ((!!FErr.isErr (wordE c m (↑i : Int))) = false → i < List.length c ∧ firstE (wdE c m) (i + (1 : Nat)) = FErr.fine ∧ (↑(List.length c) : Int) = (↑(List.length c) : Int) ∧ (↑i : Int) + (1 : Int) = (↑(i + (1 : Nat)) : Int) ∧ ((0 : Int) ≤ (↑(i + (1 : Nat)) : Int) ∧ (↑(i + (1 : Nat)) : Int) ≤ (1000000 : Int)) ∧ d = d ∧ c = c ∧ m = m ∧ dr = dr ∧ cr = cr ∧ sy = sy))) ∧ (decide ((↑i : Int) < (↑(List.length c) : Int)) = false → Nat.beq (1 : Nat) (1 : Nat) = true ∧ (!FErr.isErr (firstE (wdE c m) (List.length c))) = true ∧ d = d ∧ c = c ∧ m = m ∧ dr = dr ∧ cr = cr ∧ sy = sy)) := by kernel_rfl
set_option maxHeartbeats 4000000 in
theorem lWords (d c m : List Int) (dr cr : List Rel) (sy : List Sm) {W : World} {R own0 : Nat → Prop} {ρ0 : Nat → Option Value} (hown : HownOk (env (G7 ++ rest) [(89, kword), (90, ksymbol), (91, krelocs)]) own0 ρ0) : LOk Tryd.prog (env (G7 ++ rest) [(89, kword), (90, ksymbol), (91, krelocs)]) (ctx ea has) (G7 ++ rest) W R own0 ρ0 (loopN (bodyOf Tryd.f71) 0) (LWords d c m dr cr sy) := by
  refine loop2_ok (env_ok (con := [(89, kword), (90, ksymbol), (91, krelocs)]) ⟨cword, csymbol, crelocs, trivial⟩) hown (ls := fun i => []) (fun i => noSums (by kernel_rfl)) (fun hm i hi hj => (bWords rest d c m dr cr sy i).mpr ?_) 0 (fun hm => by first | exact Nat.zero_le _ | omega) (fun hm => rfl)
  have hE2 : wdE c m i = wordE c m i := rfl
  have hnp := wordE_np c m i
  generalize wordE c m i = e at *
  obtain ⟨hm, hmc⟩ := hm
  refine ⟨fun h => ?_, fun h => ?_⟩
  · have h := of_decide_eq_true h
    have hlt : i < c.length := by omega
    refine ⟨by omega, fun _ => ⟨fun h3 => ?_, fun h3 => ?_⟩⟩
    · have h3 : e.isErr = true := by simpa using h3
      obtain ⟨g1, g2⟩ := firstE_at hj (by rw [hE2]; exact h3) (by rw [hE2]; exact hnp) hlt
      rw [hE2] at g1
      exact ⟨by rw [g2]; rfl, g1, h3, hnp⟩
    · have h3 : e.isErr = false := by simpa using h3
      refine ⟨hlt, firstE_fine hj (by rw [hE2]; exact h3), ?_⟩
      simp; omega
  · have h := of_decide_eq_false h
    have : i = c.length := by omega
    rw [← this, hj]
    simp [FErr.isErr]
def mpS (sy : List Sm) : Nat → List (ByteArray × Int)
  | 0 => []
  | i + 1 => symMp (sy.getD i RT.sym.dflt).name (mpS sy i)
def syE (d c m : List Int) (sy : List Sm) (i : Nat) : FErr := symE d c m (sy.getD i RT.sym.dflt).name (sy.getD i RT.sym.dflt).in_ (sy.getD i RT.sym.dflt).value (sy.getD i RT.sym.dflt).global (mpS sy i)
theorem symE_np (d c m : List Int) (nm : ByteArray) (a v : Int) (g : Bool) (mp : List (ByteArray × Int)) : (symE d c m nm a v g mp).isPlaced = false := by
  unfold symE; repeat (first | rfl | split)
theorem mpS_le (sy : List Sm) (k : ByteArray) : ∀ n, 0 ≤ mapGet (mpS sy n) k ∧ mapGet (mpS sy n) k ≤ n
  | 0 => ⟨Int.le_refl _, Int.le_refl _⟩
  | n + 1 => by
    have h := mpS_le sy k n
    have h2 := mpS_le sy (sy.getD n RT.sym.dflt).name n
    unfold mpS symMp
    split
    · omega
    · by_cases e : (sy.getD n RT.sym.dflt).name = k
      · rw [e, get_put]; rw [e] at h2; omega
      · rw [get_put_ne _ _ _ _ e]; omega
def HSyms (d c m : List Int) (dr cr : List Rel) (sy : List Sm) (i : Nat) : SState := { fr := [(2, .ptr 0 0), (7, .map 1), (70, .ro .sym sy), (71, .int .i64 (.full sy.length)), (72, .int .i64 (.sym i 0 1000000))], hp := [(0, some (.cells [.ro .u32 d, .ro .u32 c, .ro .u8 m, .ro .rel dr, .ro .rel cr, .ro .sym sy])), (1, some (.strMap (mpS sy i)))], next := 2, sz := 91 }
def XSyms (d c m : List Int) (dr cr : List Rel) (sy : List Sm) : SState := { fr := [(2, .ptr 0 0)], hp := [(0, some (.cells [.ro .u32 d, .ro .u32 c, .ro .u8 m, .ro .rel dr, .ro .rel cr, .ro .sym sy]))], next := 1, sz := 91 }
def YSyms (d c m : List Int) (dr cr : List Rel) (sy : List Sm) : SState := { fr := [(4, .err (firstE (syE d c m sy) sy.length))], hp := [], next := 0, sz := 91 }
def LSyms (d c m : List Int) (dr cr : List Rel) (sy : List Sm) : LSum := ⟨HSyms d c m dr cr sy 0, fun k => .ite (!(firstE (syE d c m sy) sy.length).isErr) (k (.exit 3) (XSyms d c m dr cr sy)) (k .ret (YSyms d c m dr cr sy)), sy.length ≤ 1000000 ∧ m.length = c.length⟩
theorem bSyms (rest : List (Nat × SVal)) (d c m : List Int) (dr cr : List Rel) (sy : List Sm) (i : Nat) : (Tr.sat (rnd2 (env (G7 ++ rest) [(89, kword), (90, ksymbol), (91, krelocs)]) (fun i => firstE (syE d c m sy) i = .fine) (sy.length) (HSyms d c m dr cr sy) 3 (!(firstE (syE d c m sy) sy.length).isErr) (XSyms d c m dr cr sy) (YSyms d c m dr cr sy) i) (run (env (G7 ++ rest) [(89, kword), (90, ksymbol), (91, krelocs)]) [] (loopN (bodyOf Tryd.f71) 1) (HSyms d c m dr cr sy i) .leaf)) = (
  (decide ((↑i : Int) < (↑(List.length sy) : Int)) = true → ((0 : Int) ≤ (↑i : Int) ∧ (↑i : Int) < (↑(List.length sy) : Int)) ∧ ((0 : Int) ≤ (↑i : Int) ∧ (↑i : Int) < (↑(List.length sy) : Int) → (mapGet (mpS sy i) (List.getD sy (Int.toNat (↑i : Int)) (RT.dflt RT.sym)).name ≤ (1000000 : Int) ∧ (0 : Int) ≤ mapGet (mpS sy i) (List.getD sy (Int.toNat (↑i : Int)) (RT.dflt RT.sym)).name ∧ List.length m = List.length c) ∧ (mapGet (mpS sy i) (List.getD sy (Int.toNat (↑i : Int)) (RT.dflt RT.sym)).name ≤ (1000000 : Int) ∧ (0 : Int) ≤ mapGet (mpS sy i) (List.getD sy (Int.toNat (↑i : Int)) (RT.dflt RT.sym)).name ∧ List.length m = List.length c → ((!!FErr.isErr (symE d c m (List.getD sy (Int.toNat (↑i : Int)) (RT.dflt RT.sym)).name (List.getD sy (Int.toNat (↑i : Int)) (RT.dflt RT.sym)).in_ (List.getD sy (Int.toNat (↑i : Int)) (RT.dflt RT.sym)).value (List.getD sy (Int.toNat (↑i : Int)) (RT.dflt RT.sym)).global (mpS sy i))) = true → (!FErr.isErr (firstE (syE d c m sy) (List.length sy))) = false ∧ (firstE (syE d c m sy) (List.length sy) = match symE d c m (List.getD sy (Int.toNat (↑i : Int)) (RT.dflt RT.sym)).name (List.getD sy (Int.toNat (↑i : Int)) (RT.dflt RT.sym)).in_ (List.getD sy (Int.toNat (↑i : Int)) (RT.dflt RT.sym)).value (List.getD sy (Int.toNat (↑i : Int)) (RT.dflt RT.sym)).global (mpS sy i) with | FErr.bare n => FErr.placed n (↑i : Int) | x => FErr.fine) ∧ FErr.isErr (symE d c m (List.getD sy (Int.toNat (↑i : Int)) (RT.dflt RT.sym)).name (List.getD sy (Int.toNat (↑i : Int)) (RT.dflt RT.sym)).in_ (List.getD sy (Int.toNat (↑i : Int)) (RT.dflt RT.sym)).value (List.getD sy (Int.toNat (↑i : Int)) (RT.dflt RT.sym)).global (mpS sy i)) = true ∧ FErr.isPlaced (symE d c m (List.getD sy (Int.toNat (↑i : Int)) (RT.dflt RT.sym)).name (List.getD sy (Int.toNat (↑i : Int)) (RT.dflt RT.sym)).in_ (List.getD sy (Int.toNat (↑i : Int)) (RT.dflt RT.sym)).value (List.getD sy (Int.toNat (↑i : Int)) (RT.dflt RT.sym)).global (mpS sy i)) = false) ∧ ((!!FErr.isErr (symE d c m (List.getD sy (Int.toNat (↑i : Int)) (RT.dflt RT.sym)).name (List.getD sy (Int.toNat (↑i : Int)) (RT.dflt RT.sym)).in_ (List.getD sy (Int.toNat (↑i : Int)) (RT.dflt RT.sym)).value (List.getD sy (Int.toNat (↑i : Int)) (RT.dflt RT.sym)).global (mpS sy i))) = false → i < List.length sy ∧ firstE (syE d c m sy) (i + (1 : Nat)) = FErr.fine ∧ sy = sy ∧ (↑(List.length sy) : Int) = (↑(List.length sy) : Int) ∧ (↑i : Int) + (1 : Int) = (↑(i + (1 : Nat)) : Int) ∧ ((0 : Int) ≤ (↑(i + (1 : Nat)) : Int) ∧ (↑(i + (1 : Nat)) : Int) ≤ (1000000 : Int)) ∧ d = d ∧ c = c ∧ m = m ∧ dr = dr ∧ cr = cr ∧ sy = sy ∧ symMp (List.getD sy (Int.toNat (↑i : Int)) (RT.dflt RT.sym)).name (mpS sy i) = mpS sy (i + (1 : Nat)))))) ∧ (decide ((↑i : Int) < (↑(List.length sy) : Int)) = false → Nat.beq (3 : Nat) (3 : Nat) = true ∧ (!FErr.isErr (firstE (syE d c m sy) (List.length sy))) = true ∧ d = d ∧ c = c ∧ m = m ∧ dr = dr ∧ cr = cr ∧ sy = sy)) := by kernel_rfl
set_option maxHeartbeats 4000000 in
theorem lSyms (d c m : List Int) (dr cr : List Rel) (sy : List Sm) {W : World} {R own0 : Nat → Prop} {ρ0 : Nat → Option Value} (hown : HownOk (env (G7 ++ rest) [(89, kword), (90, ksymbol), (91, krelocs)]) own0 ρ0) : LOk Tryd.prog (env (G7 ++ rest) [(89, kword), (90, ksymbol), (91, krelocs)]) (ctx ea has) (G7 ++ rest) W R own0 ρ0 (loopN (bodyOf Tryd.f71) 1) (LSyms d c m dr cr sy) := by
  refine loop2_ok (env_ok (con := [(89, kword), (90, ksymbol), (91, krelocs)]) ⟨cword, csymbol, crelocs, trivial⟩) hown (ls := fun i => []) (fun i => noSums (by kernel_rfl)) (fun hm i hi hj => (bSyms rest d c m dr cr sy i).mpr ?_) 0 (fun hm => by first | exact Nat.zero_le _ | omega) (fun hm => rfl)
  have hE2 : syE d c m sy i = _ := syE.eq_1 d c m sy i
  have hnp := symE_np d c m (sy.getD i RT.sym.dflt).name (sy.getD i RT.sym.dflt).in_ (sy.getD i RT.sym.dflt).value (sy.getD i RT.sym.dflt).global (mpS sy i)
  have hle := mpS_le sy (sy.getD i RT.sym.dflt).name i
  simp only [Int.toNat_natCast]
  generalize symE d c m (sy.getD i RT.sym.dflt).name (sy.getD i RT.sym.dflt).in_ (sy.getD i RT.sym.dflt).value (sy.getD i RT.sym.dflt).global (mpS sy i) = e at *
  obtain ⟨hm, hmc⟩ := hm
  refine ⟨fun h => ?_, fun h => ?_⟩
  · have h := of_decide_eq_true h
    have hlt : i < sy.length := by omega
    refine ⟨by omega, fun _ => ⟨by omega, fun _ => ⟨fun h3 => ?_, fun h3 => ?_⟩⟩⟩
    · have h3 : e.isErr = true := by simpa using h3
      obtain ⟨g1, g2⟩ := firstE_at hj (by rw [hE2]; exact h3) (by rw [hE2]; exact hnp) hlt
      rw [hE2] at g1
      exact ⟨by rw [g2]; rfl, g1, h3, hnp⟩
    · have h3 : e.isErr = false := by simpa using h3
      refine ⟨hlt, firstE_fine hj (by rw [hE2]; exact h3), ?_⟩
      simp [mpS]; omega
  · have h := of_decide_eq_false h
    have : i = sy.length := by omega
    rw [← this, hj]
    simp [FErr.isErr]
def manyB (d c : List Int) (dr cr : List Rel) (sy : List Sm) : Bool :=
  decide ((2048 : Int) < d.length) || decide ((2048 : Int) < c.length) || decide ((1024 : Int) < dr.length) || decide ((1024 : Int) < cr.length) || decide ((256 : Int) < sy.length)
def validE (d c m : List Int) (dr cr : List Rel) (sy : List Sm) : FErr :=
  if manyB d c dr cr sy = true then .bare 104 else if (!decide ((m.length : Int) = c.length)) = true then .bare 109
  else if (firstE (wdE c m) c.length).isErr = true then firstE (wdE c m) c.length
  else if (firstE (syE d c m sy) sy.length).isErr = true then firstE (syE d c m sy) sy.length
  else relocsE d c m dr cr sy
def kValidBut : List SVal → Nat → Acc ORes := fun a n => match a with | [.agg [.ro .u32 d, .ro .u32 c, .ro .u8 m, .ro .rel dr, .ro .rel cr, .ro .sym sy], .nilFunc] => .ret ({ v := .err (validE d c m dr cr sy) }) | _ => .fail "ValidBut"
theorem argValidBut (d c m : List Int) (dr cr : List Rel) (sy : List Sm) : (all (subL tAtN none' [] deep [.agg [.ro .u32 d, .ro .u32 c, .ro .u8 m, .ro .rel dr, .ro .rel cr, .ro .sym sy], .nilFunc] [.agg [.ro .u32 d, .ro .u32 c, .ro .u8 m, .ro .rel dr, .ro .rel cr, .ro .sym sy], .nilFunc])) = (
  d = d ∧ c = c ∧ m = m ∧ dr = dr ∧ cr = cr ∧ sy = sy) := by kernel_rfl
theorem runValidBut (rest : List (Nat × SVal)) (d : List Int) (c : List Int) (m : List Int) (dr : List Rel) (cr : List Rel) (sy : List Sm) : (Tr.sat (plainQ (.err (validE d c m dr cr sy))) (run (env (G7 ++ rest) [(89, kword), (90, ksymbol), (91, krelocs)]) [(6, LWords d c m dr cr sy), (14, LSyms d c m dr cr sy)] (bodyOf Tryd.f71) (start [.agg [.ro .u32 d, .ro .u32 c, .ro .u8 m, .ro .rel dr, .ro .rel cr, .ro .sym sy], .nilFunc] 91) (ends (env (G7 ++ rest) [(89, kword), (90, ksymbol), (91, krelocs)]) Tryd.f71.results.toList))) = (
  ((decide ((2048 : Int) < (↑(List.length d) : Int)) || decide ((2048 : Int) < (↑(List.length c) : Int)) || decide ((1024 : Int) < (↑(List.length dr) : Int)) || decide ((1024 : Int) < (↑(List.length cr) : Int)) || decide ((256 : Int) < (↑(List.length sy) : Int))) = true → FErr.bare (104 : Int) = validE d c m dr cr sy) ∧ ((decide ((2048 : Int) < (↑(List.length d) : Int)) || decide ((2048 : Int) < (↑(List.length c) : Int)) || decide ((1024 : Int) < (↑(List.length dr) : Int)) || decide ((1024 : Int) < (↑(List.length cr) : Int)) || decide ((256 : Int) < (↑(List.length sy) : Int))) = false → ((!decide ((↑(List.length m) : Int) = (↑(List.length c) : Int))) = true → FErr.bare (109 : Int) = validE d c m dr cr sy) ∧ ((!decide ((↑(List.length m) : Int) = (↑(List.length c) : Int))) = false → ((List.length c ≤ (1000000 : Nat) ∧ List.length m = List.length c) ∧ (↑(List.length c) : Int) = (↑(List.length c) : Int) ∧ (0 : Int) = (↑(0 : Nat) : Int) ∧ d = d ∧ c = c ∧ m = m ∧ dr = dr ∧ cr = cr ∧ sy = sy) ∧ ((List.length c ≤ (1000000 : Nat) ∧ List.length m = List.length c) ∧ (↑(List.length c) : Int) = (↑(List.length c) : Int) ∧ (0 : Int) = (↑(0 : Nat) : Int) ∧ d = d ∧ c = c ∧ m = m ∧ dr = dr ∧ cr = cr ∧ sy = sy → ((!FErr.isErr (firstE (wdE c m) (List.length c))) = true → ((List.length sy ≤ (1000000 : Nat) ∧ List.length m = List.length c) ∧ sy = sy ∧ (↑(List.length sy) : Int) = (↑(List.length sy) : Int) ∧ (0 : Int) = (↑(0 : Nat) : Int) ∧ d = d ∧ c = c ∧ m = m ∧ dr = dr ∧ cr = cr ∧ sy = sy ∧ @List.nil (ByteArray × Int) = mpS sy (0 : Nat)) ∧ ((List.length sy ≤ (1000000 : Nat) ∧ List.length m = List.length c) ∧ sy = sy ∧ (↑(List.length sy) : Int) = (↑(List.length sy) : Int) ∧ (0 : Int) = (↑(0 : Nat) : Int) ∧ d = d ∧ c = c ∧ m = m ∧ dr = dr ∧ cr = cr ∧ sy = sy ∧ @List.nil (ByteArray × Int) = mpS sy (0 : Nat) → ((!FErr.isErr (firstE (syE d c m sy) (List.length sy))) = true → (List.length dr ≤ (1000000 : Nat) ∧ List.length cr ≤ (1000000 : Nat) ∧ List.length c ≤ (1000000 : Nat) ∧ List.length m = List.length c) ∧ (List.length dr ≤ (1000000 : Nat) ∧ List.length cr ≤ (1000000 : Nat) ∧ List.length c ≤ (1000000 : Nat) ∧ List.length m = List.length c → relocsE d c m dr cr sy = validE d c m dr cr sy)) ∧ ((!FErr.isErr (firstE (syE d c m sy) (List.length sy))) = false → firstE (syE d c m sy) (List.length sy) = validE d c m dr cr sy))) ∧ ((!FErr.isErr (firstE (wdE c m) (List.length c))) = false → firstE (wdE c m) (List.length c) = validE d c m dr cr sy))))) := by kernel_rfl
set_option maxHeartbeats 4000000 in
theorem cValidBut : Con ea has (G7 ++ rest) 71 kValidBut := by
  refine plain_mkB Tryd.func71 91 (con := [(89, kword), (90, ksymbol), (91, krelocs)]) ⟨cword, csymbol, crelocs, trivial⟩ (fun hA hr hv => ?_) (by kernel_rfl) (by kernel_rfl) Tryd.ntmps71
  unfold kValidBut at hr; split at hr
  · rename_i d c m dr cr sy
    have := ret_ok hr; subst this
    refine ⟨_, [(6, LWords d c m dr cr sy), (14, LSyms d c m dr cr sy)], rfl, rfl, .of (argValidBut d c m dr cr sy) (by simp), rfl, (fun W R ρ0 own0 hown => hl2 (by kernel_rfl) (by kernel_rfl) (lWords d c m dr cr sy hown) (by kernel_rfl) (lSyms d c m dr cr sy hown)), .of (runValidBut rest d c m dr cr sy) ?_⟩
    clear hr
    refine ⟨fun h => ?_, fun h => ⟨fun h2 => ?_, fun h2 => ?_⟩⟩
    · rw [validE, if_pos (show manyB d c dr cr sy = true from h)]
    · rw [validE, if_neg (show ¬ manyB d c dr cr sy = true by rw [show manyB d c dr cr sy = false from h]; simp), if_pos h2]
    · have hv : validE d c m dr cr sy = _ := validE.eq_1 d c m dr cr sy
      rw [if_neg (show ¬ manyB d c dr cr sy = true by rw [show manyB d c dr cr sy = false from h]; simp), if_neg (by rw [h2]; simp)] at hv
      have hmc : m.length = c.length := by simp at h2; omega
      simp only [Bool.or_eq_false_iff, decide_eq_false_iff_not] at h
      refine ⟨by simp [hmc]; omega, fun _ => ⟨fun h3 => ⟨by simp [mpS, hmc]; omega, fun _ => ⟨fun h4 => ⟨by omega, fun _ => ?_⟩, fun h4 => ?_⟩⟩, fun h3 => ?_⟩⟩
      · rw [if_neg (by simpa using h3), if_neg (by simpa using h4)] at hv; exact hv.symm
      · rw [if_neg (by simpa using h3), if_pos (by simpa using h4)] at hv; exact hv.symm
      · rw [if_pos (by simpa using h3)] at hv; exact hv.symm
  · cases hr
def kValid : List SVal → Nat → Acc ORes := fun a n => match a with | [.agg [.ro .u32 d, .ro .u32 c, .ro .u8 m, .ro .rel dr, .ro .rel cr, .ro .sym sy]] => .ret ({ v := .err (validE d c m dr cr sy) }) | _ => .fail "Valid"
theorem argValid (d c m : List Int) (dr cr : List Rel) (sy : List Sm) : (all (subL tAtN none' [] deep [.agg [.ro .u32 d, .ro .u32 c, .ro .u8 m, .ro .rel dr, .ro .rel cr, .ro .sym sy]] [.agg [.ro .u32 d, .ro .u32 c, .ro .u8 m, .ro .rel dr, .ro .rel cr, .ro .sym sy]])) = (
  d = d ∧ c = c ∧ m = m ∧ dr = dr ∧ cr = cr ∧ sy = sy) := by kernel_rfl
theorem runValid (rest : List (Nat × SVal)) (d : List Int) (c : List Int) (m : List Int) (dr : List Rel) (cr : List Rel) (sy : List Sm) : (Tr.sat (plainQ (.err (validE d c m dr cr sy))) (run (env (G7 ++ rest) [(71, kValidBut)]) [] (bodyOf Tryd.f31) (start [.agg [.ro .u32 d, .ro .u32 c, .ro .u8 m, .ro .rel dr, .ro .rel cr, .ro .sym sy]] 5) (ends (env (G7 ++ rest) [(71, kValidBut)]) Tryd.f31.results.toList))) = (
  validE d c m dr cr sy = validE d c m dr cr sy) := by kernel_rfl
set_option maxHeartbeats 4000000 in
theorem cValid : Con ea has (G7 ++ rest) 31 kValid := by
  refine plain_mkB Tryd.func31 5 (con := [(71, kValidBut)]) ⟨cValidBut, trivial⟩ (fun hA hr hv => ?_) (by kernel_rfl) (by kernel_rfl) Tryd.ntmps31
  unfold kValid at hr; split at hr
  · rename_i d c m dr cr sy
    have := ret_ok hr; subst this
    refine ⟨_, [], rfl, rfl, .of (argValid d c m dr cr sy) (by simp), rfl, (fun W R ρ0 own0 hown => noSums (by kernel_rfl)), .of (runValid rest d c m dr cr sy) ?_⟩
    clear hr
    rfl
  · cases hr
end
end Go.Proofs.YtceebkojjmmjmaaDoor

