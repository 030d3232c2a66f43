/- Part 16 of the proof of ObjWrong: words and contracts that the last text uses. -/
import Derived.Test.YtbdfibaljoedpaaDoorQ15ObjWrong
set_option linter.unusedVariables false
set_option linter.unusedSimpArgs false
namespace Go.Proofs.YtbdfibaljoedpaaDoor
open Go.RowKit Go.Sy Go.Fac
section
variable {ea : Int → Addr} {has : Int → Prop} {rest : List (Nat × SVal)}
def twoB (c m : List Int) (i : Int) : Bool := insB c m i && isaTwo (insI c m i).op
def wordE (c m : List Int) (i : Int) : FErr :=
  if m.getD i.toNat 0 = 1 then
    if (!insB c m i || decide (isaClass (insI c m i).op = 4)) = true then .bare 105
    else if (isaTwo (insI c m i).op && (decide ((c.length : Int) ≤ i + 1) || !decide (m.getD (i + 1).toNat 0 = 0))) = true then .bare 109 else .fine
  else if m.getD i.toNat 0 = 0 then (if (decide (i = 0) || !twoB c m (i - 1)) = true then .bare 109 else .fine)
  else if m.getD i.toNat 0 = 2 then .fine else .bare 109
def ktwo : List SVal → Nat → Acc ORes := fun a n => match a with | [.agg [.ro .u32 d, .ro .u32 c, .ro .u8 m, .ro .rel dr, .ro .rel cr, .ro .sym sy], .int .i64 i] => .ret ({ v := .bool (.sym (twoB c m i.val)) }) | _ => .fail "two"
theorem argtwo (d c m : List Int) (dr cr : List Rel) (sy : List Sm) (i : SI) : (all (subL 134 none' [] deep [.agg [.ro .u32 d, .ro .u32 c, .ro .u8 m, .ro .rel dr, .ro .rel cr, .ro .sym sy], .int .i64 i] [.agg [.ro .u32 d, .ro .u32 c, .ro .u8 m, .ro .rel dr, .ro .rel cr, .ro .sym sy], .int .i64 (.full i.val)])) = (
  d = d ∧ c = c ∧ m = m ∧ dr = dr ∧ cr = cr ∧ sy = sy ∧ SI.val i = SI.val i) := by kernel_rfl
theorem runtwo (rest : List (Nat × SVal)) (d c m : List Int) (dr cr : List Rel) (sy : List Sm) (i : SI) : (Tr.sat (plainQ (.bool (.sym (twoB c m i.val)))) (run (env (G7 ++ rest) [(58, kInstr), (59, kTables), (105, kTwo)]) [] (bodyOf Tryd.f119) (start [.agg [.ro .u32 d, .ro .u32 c, .ro .u8 m, .ro .rel dr, .ro .rel cr, .ro .sym sy], .int .i64 (.full i.val)] 20) (ends (env (G7 ++ rest) [(58, kInstr), (59, kTables), (105, kTwo)]) Tryd.f119.results.toList))) = (
  (insB c m (SI.val i) && isaTwo (insI c m (SI.val i)).op) = twoB c m (SI.val i)) := by kernel_rfl
set_option maxHeartbeats 4000000 in
theorem ctwo : Con ea has (G7 ++ rest) 119 ktwo := by
  refine plain_mk Tryd.func119 20 (con := [(58, kInstr), (59, kTables), (105, kTwo)]) ⟨cInstr, cTables, cTwo, trivial⟩ (fun hA hr hv => ?_) (by kernel_rfl) (by kernel_rfl) Tryd.ntmps119
  unfold ktwo at hr; split at hr
  · rename_i d c m dr cr sy i
    have := ret_ok hr; subst this
    refine ⟨_, [], rfl, rfl, (argtwo d c m dr cr sy i).mpr (by simp), rfl, (fun W R ρ0 own0 hown => noLoops (by kernel_rfl)), (runtwo rest d c m dr cr sy i).mpr ?_⟩
    clear hr
    rfl
  · cases hr
def kword : List SVal → Nat → Acc ORes := fun a n => match a with | [.agg [.ro .u32 d, .ro .u32 c, .ro .u8 m, .ro .rel dr, .ro .rel cr, .ro .sym sy], .int .i64 i, .nilFunc] => .ret ({ v := .err (wordE c m i.val), vc := some (0 ≤ i.val ∧ i.val < (m.length : Int) ∧ m.length = c.length ∧ m.length ≤ 1000000) }) | _ => .fail "word"
theorem argword (d c m : List Int) (dr cr : List Rel) (sy : List Sm) (i : SI) : (all (subL 134 none' [] deep [.agg [.ro .u32 d, .ro .u32 c, .ro .u8 m, .ro .rel dr, .ro .rel cr, .ro .sym sy], .int .i64 i, .nilFunc] [.agg [.ro .u32 d, .ro .u32 c, .ro .u8 m, .ro .rel dr, .ro .rel cr, .ro .sym sy], .int .i64 (.full i.val), .nilFunc])) = (
  d = d ∧ c = c ∧ m = m ∧ dr = dr ∧ cr = cr ∧ sy = sy ∧ SI.val i = SI.val i) := by kernel_rfl
theorem runword (rest : List (Nat × SVal)) (d c m : List Int) (dr cr : List Rel) (sy : List Sm) (i : SI) : (Tr.sat (plainQ (.err (wordE c m i.val))) (run (env (G7 ++ rest) [(58, kInstr), (59, kTables), (60, kClass), (105, kTwo), (119, ktwo)]) [] (bodyOf Tryd.f100) (start [.agg [.ro .u32 d, .ro .u32 c, .ro .u8 m, .ro .rel dr, .ro .rel cr, .ro .sym sy], .int .i64 (.full i.val), .nilFunc] 96) (ends (env (G7 ++ rest) [(58, kInstr), (59, kTables), (60, kClass), (105, kTwo), (119, ktwo)]) Tryd.f100.results.toList))) = (
  ((0 : Int) ≤ SI.val i ∧ SI.val i < (↑(List.length m) : Int)) ∧ ((0 : Int) ≤ SI.val i ∧ SI.val i < (↑(List.length m) : Int) → (decide (List.getD m (Int.toNat (SI.val i)) (RT.dflt RT.u8) = (1 : Int)) = true → ((!insB c m (SI.val i) || decide (isaClass (insI c m (SI.val i)).op = (4 : Int))) = true → FErr.bare (105 : Int) = wordE c m (SI.val i)) ∧ ((!insB c m (SI.val i) || decide (isaClass (insI c m (SI.val i)).op = (4 : Int))) = false → ((isaTwo (insI c m (SI.val i)).op && !decide ((↑(List.length c) : Int) ≤ IntKind.wrap IntKind.i64 (SI.val i + (1 : Int)))) = true → (0 : Int) ≤ IntKind.wrap IntKind.i64 (SI.val i + (1 : Int)) ∧ IntKind.wrap IntKind.i64 (SI.val i + (1 : Int)) < (↑(List.length m) : Int)) ∧ (((isaTwo (insI c m (SI.val i)).op && !decide ((↑(List.length c) : Int) ≤ IntKind.wrap IntKind.i64 (SI.val i + (1 : Int)))) = true → (0 : Int) ≤ IntKind.wrap IntKind.i64 (SI.val i + (1 : Int)) ∧ IntKind.wrap IntKind.i64 (SI.val i + (1 : Int)) < (↑(List.length m) : Int)) → ((isaTwo (insI c m (SI.val i)).op && (decide ((↑(List.length c) : Int) ≤ IntKind.wrap IntKind.i64 (SI.val i + (1 : Int))) || !decide (List.getD m (Int.toNat (IntKind.wrap IntKind.i64 (SI.val i + (1 : Int)))) (RT.dflt RT.u8) = (0 : Int)))) = true → FErr.bare (109 : Int) = wordE c m (SI.val i)) ∧ ((isaTwo (insI c m (SI.val i)).op && (decide ((↑(List.length c) : Int) ≤ IntKind.wrap IntKind.i64 (SI.val i + (1 : Int))) || !decide (List.getD m (Int.toNat (IntKind.wrap IntKind.i64 (SI.val i + (1 : Int)))) (RT.dflt RT.u8) = (0 : Int)))) = false → FErr.fine = wordE c m (SI.val i))))) ∧ (decide (List.getD m (Int.toNat (SI.val i)) (RT.dflt RT.u8) = (1 : Int)) = false → (decide (List.getD m (Int.toNat (SI.val i)) (RT.dflt RT.u8) = (0 : Int)) = true → ((decide (SI.val i = (0 : Int)) || !twoB c m (IntKind.wrap IntKind.i64 (SI.val i - (1 : Int)))) = true → FErr.bare (109 : Int) = wordE c m (SI.val i)) ∧ ((decide (SI.val i = (0 : Int)) || !twoB c m (IntKind.wrap IntKind.i64 (SI.val i - (1 : Int)))) = false → FErr.fine = wordE c m (SI.val i))) ∧ (decide (List.getD m (Int.toNat (SI.val i)) (RT.dflt RT.u8) = (0 : Int)) = false → (decide (List.getD m (Int.toNat (SI.val i)) (RT.dflt RT.u8) = (2 : Int)) = true → FErr.fine = wordE c m (SI.val i)) ∧ (decide (List.getD m (Int.toNat (SI.val i)) (RT.dflt RT.u8) = (2 : Int)) = false → FErr.bare (109 : Int) = wordE c m (SI.val i)))))) := by kernel_rfl
set_option maxHeartbeats 4000000 in
theorem cword : Con ea has (G7 ++ rest) 100 kword := by
  refine plain_mk Tryd.func100 96 (con := [(58, kInstr), (59, kTables), (60, kClass), (105, kTwo), (119, ktwo)]) ⟨cInstr, cTables, cClass, cTwo, ctwo, trivial⟩ (fun hA hr hv => ?_) (by kernel_rfl) (by kernel_rfl) Tryd.ntmps100
  unfold kword at hr; split at hr
  · rename_i d c m dr cr sy i
    have := ret_ok hr; subst this
    replace hv := hv _ rfl
    refine ⟨_, [], rfl, rfl, (argword d c m dr cr sy i).mpr (by simp), rfl, (fun W R ρ0 own0 hown => noLoops (by kernel_rfl)), (runword rest d c m dr cr sy i).mpr ?_⟩
    clear hr
    clear hA
    generalize i.val = i at *
    obtain ⟨v1, v2, v3, v4⟩ := hv
    have d1 : RT.u8.dflt = (0 : Int) := rfl
    have w2 : IntKind.i64.wrap (i - 1) = i - 1 := by rw [IntKind.wrap_i64]; omega
    simp only [d1, w2, wrapS v1 (show i ≤ 9223372036854775806 by omega), decide_eq_true_eq, decide_eq_false_iff_not]
    refine ⟨⟨v1, v2⟩, fun _ => ⟨fun h1 => ⟨fun h2 => by rw [wordE, if_pos h1, if_pos h2], fun h2 => ⟨fun h3 => ?_, fun _ => ⟨fun h3 => ?_, fun h3 => ?_⟩⟩⟩, fun h1 => ⟨fun h2 => ⟨fun h3 => ?_, fun h3 => ?_⟩, fun h2 => ⟨fun h3 => ?_, fun h3 => ?_⟩⟩⟩⟩
    · simp only [Bool.and_eq_true, Bool.not_eq_true', decide_eq_false_iff_not] at h3; omega
    · rw [wordE, if_pos h1, if_neg (by rw [h2]; simp), if_pos h3]
    · rw [wordE, if_pos h1, if_neg (by rw [h2]; simp), if_neg (by rw [h3]; simp)]
    · rw [wordE, if_neg h1, if_pos h2, if_pos h3]
    · rw [wordE, if_neg h1, if_pos h2, if_neg (by rw [h3]; simp)]
    · rw [wordE, if_neg h1, if_neg h2, if_pos h3]
    · rw [wordE, if_neg h1, if_neg h2, if_neg h3]
  · cases hr
def symFine (d c m : List Int) (a v : Int) (g : Bool) : Bool :=
  if a = 1 then decide (v = 0) || (decide (0 < v) && decide (v < d.length))
  else if a = 2 then decide (0 ≤ v) && decide (v < c.length) && decide (m.getD v.toNat 0 = 1)
  else if a = 3 then decide (v = 0) && g else false
def symOk (nm : ByteArray) : Bool := !(decide (nm = ByteArray.empty) || decide (32 < (nm.size : Int)))
def symE (d c m : List Int) (nm : ByteArray) (a v : Int) (g : Bool) (mp : List (ByteArray × Int)) : FErr :=
  if symOk nm = false then .bare 103 else if 1 < mapGet mp nm + 1 then .bare 106 else if symFine d c m a v g = true then .fine else .bare 103
def symMp (nm : ByteArray) (mp : List (ByteArray × Int)) : List (ByteArray × Int) := if symOk nm = false then mp else mapPut mp nm (mapGet mp nm + 1)
theorem get_put {α : Type} [DecidableEq α] (mp : List (α × Int)) (k : α) (x : Int) : mapGet (mapPut mp k x) k = x := by
  induction mp with
  | nil => simp [mapPut, mapGet]
  | cons p mp ih =>
    obtain ⟨a, b⟩ := p
    simp only [mapPut]
    split
    · rename_i h; simp [mapGet, h]
    · rename_i h; simp [mapGet, h, ih]
theorem get_put_ne {α : Type} [DecidableEq α] (mp : List (α × Int)) (k k' : α) (x : Int) (h : k ≠ k') : mapGet (mapPut mp k x) k' = mapGet mp k' := by
  induction mp with
  | nil => simp [mapPut, mapGet, h]
  | cons p mp ih =>
    obtain ⟨a, b⟩ := p
    simp only [mapPut]
    split
    · rename_i he; subst he; simp [mapGet, h]
    · rename_i he; simp only [mapGet, ih]
theorem fine_if {α : Type} (b : Bool) (y : α) : ((!b) = true → FErr.bare 103 = (if b = true then FErr.fine else .bare 103) ∧ y = y) ∧ ((!b) = false → FErr.fine = (if b = true then FErr.fine else .bare 103) ∧ y = y) := by cases b <;> simp
def ksymbol : List SVal → Nat → Acc ORes := fun a n => match a with
  | [.agg [.ro .u32 d, .ro .u32 c, .ro .u8 m, .ro .rel dr, .ro .rel cr, .ro .sym sy], .agg [.str nm, .int .i64 a, .int .i64 v, .bool g], .map q] => .look q fun cc => match cc with
    | some (.strMap mp) => .ret ({ v := .err (symE d c m nm a.val v.val g.val mp), ws := [(q, some (.strMap (symMp nm mp)))], vc := some (mapGet mp nm ≤ 1000000 ∧ 0 ≤ mapGet mp nm ∧ m.length = c.length) })
    | _ => .fail "symbol"
  | _ => .fail "symbol"
theorem argsymbol (d c m : List Int) (dr cr : List Rel) (sy : List Sm) (nm : ByteArray) (a v : SI) (g : SB) : (all (subL 134 none' [] deep [.agg [.ro .u32 d, .ro .u32 c, .ro .u8 m, .ro .rel dr, .ro .rel cr, .ro .sym sy], .agg [.str nm, .int .i64 a, .int .i64 v, .bool g]] [.agg [.ro .u32 d, .ro .u32 c, .ro .u8 m, .ro .rel dr, .ro .rel cr, .ro .sym sy], .agg [.str nm, .int .i64 (.full a.val), .int .i64 (.full v.val), .bool (.sym g.val)]])) = (
  d = d ∧ c = c ∧ m = m ∧ dr = dr ∧ cr = cr ∧ sy = sy ∧ nm = nm ∧ SI.val a = SI.val a ∧ SI.val v = SI.val v ∧ SB.val g = SB.val g) := by kernel_rfl
theorem runsymbol (rest : List (Nat × SVal)) (d c m : List Int) (dr cr : List Rel) (sy : List Sm) (nm : ByteArray) (a v : SI) (g : SB) (mp : List (ByteArray × Int)) : (Tr.sat (mapQ (G7 ++ rest) [] (.err (symE d c m nm a.val v.val g.val mp)) (.strMap (symMp nm mp))) (run (envO (G7 ++ rest) []) [] (bodyOf Tryd.f101) (startM [.agg [.ro .u32 d, .ro .u32 c, .ro .u8 m, .ro .rel dr, .ro .rel cr, .ro .sym sy], .agg [.str nm, .int .i64 (.full a.val), .int .i64 (.full v.val), .bool (.sym g.val)]] (.strMap mp) 83) (ends (envO (G7 ++ rest) []) Tryd.f101.results.toList))) = (
  ((decide (nm = ByteArray.mk #[]) || decide ((32 : Int) < (↑(ByteArray.size nm) : Int))) = true → FErr.bare (103 : Int) = symE d c m nm (SI.val a) (SI.val v) (SB.val g) mp ∧ mp = symMp nm mp) ∧ ((decide (nm = ByteArray.mk #[]) || decide ((32 : Int) < (↑(ByteArray.size nm) : Int))) = false → (decide ((1 : Int) < mapGet (mapPut mp nm (IntKind.wrap IntKind.i64 (mapGet mp nm + (1 : Int)))) nm) = true → FErr.bare (106 : Int) = symE d c m nm (SI.val a) (SI.val v) (SB.val g) mp ∧ mapPut mp nm (IntKind.wrap IntKind.i64 (mapGet mp nm + (1 : Int))) = symMp nm mp) ∧ (decide ((1 : Int) < mapGet (mapPut mp nm (IntKind.wrap IntKind.i64 (mapGet mp nm + (1 : Int)))) nm) = false → (decide (SI.val a = (1 : Int)) = true → ((!(decide (SI.val v = (0 : Int)) || decide ((0 : Int) < SI.val v) && decide (SI.val v < (↑(List.length d) : Int)))) = true → FErr.bare (103 : Int) = symE d c m nm (SI.val a) (SI.val v) (SB.val g) mp ∧ mapPut mp nm (IntKind.wrap IntKind.i64 (mapGet mp nm + (1 : Int))) = symMp nm mp) ∧ ((!(decide (SI.val v = (0 : Int)) || decide ((0 : Int) < SI.val v) && decide (SI.val v < (↑(List.length d) : Int)))) = false → FErr.fine = symE d c m nm (SI.val a) (SI.val v) (SB.val g) mp ∧ mapPut mp nm (IntKind.wrap IntKind.i64 (mapGet mp nm + (1 : Int))) = symMp nm mp)) ∧ (decide (SI.val a = (1 : Int)) = false → (decide (SI.val a = (2 : Int)) = true → ((decide ((0 : Int) ≤ SI.val v) && decide (SI.val v < (↑(List.length c) : Int))) = true → (0 : Int) ≤ SI.val v ∧ SI.val v < (↑(List.length m) : Int)) ∧ (((decide ((0 : Int) ≤ SI.val v) && decide (SI.val v < (↑(List.length c) : Int))) = true → (0 : Int) ≤ SI.val v ∧ SI.val v < (↑(List.length m) : Int)) → ((!(decide ((0 : Int) ≤ SI.val v) && decide (SI.val v < (↑(List.length c) : Int)) && decide (List.getD m (Int.toNat (SI.val v)) (RT.dflt RT.u8) = (1 : Int)))) = true → FErr.bare (103 : Int) = symE d c m nm (SI.val a) (SI.val v) (SB.val g) mp ∧ mapPut mp nm (IntKind.wrap IntKind.i64 (mapGet mp nm + (1 : Int))) = symMp nm mp) ∧ ((!(decide ((0 : Int) ≤ SI.val v) && decide (SI.val v < (↑(List.length c) : Int)) && decide (List.getD m (Int.toNat (SI.val v)) (RT.dflt RT.u8) = (1 : Int)))) = false → FErr.fine = symE d c m nm (SI.val a) (SI.val v) (SB.val g) mp ∧ mapPut mp nm (IntKind.wrap IntKind.i64 (mapGet mp nm + (1 : Int))) = symMp nm mp))) ∧ (decide (SI.val a = (2 : Int)) = false → (decide (SI.val a = (3 : Int)) = true → ((!(decide (SI.val v = (0 : Int)) && SB.val g)) = true → FErr.bare (103 : Int) = symE d c m nm (SI.val a) (SI.val v) (SB.val g) mp ∧ mapPut mp nm (IntKind.wrap IntKind.i64 (mapGet mp nm + (1 : Int))) = symMp nm mp) ∧ ((!(decide (SI.val v = (0 : Int)) && SB.val g)) = false → FErr.fine = symE d c m nm (SI.val a) (SI.val v) (SB.val g) mp ∧ mapPut mp nm (IntKind.wrap IntKind.i64 (mapGet mp nm + (1 : Int))) = symMp nm mp)) ∧ (decide (SI.val a = (3 : Int)) = false → FErr.bare (103 : Int) = symE d c m nm (SI.val a) (SI.val v) (SB.val g) mp ∧ mapPut mp nm (IntKind.wrap IntKind.i64 (mapGet mp nm + (1 : Int))) = symMp nm mp)))))) := by kernel_rfl
set_option maxHeartbeats 4000000 in
theorem csymbol : Con ea has (G7 ++ rest) 101 ksymbol := by
  refine map_mk Tryd.func101 83 (con := []) trivial (fun hA hr hv => ?_) (by kernel_rfl) (by kernel_rfl) Tryd.ntmps101
  unfold ksymbol at hr; split at hr
  · rename_i d c m dr cr sy nm a v g q
    simp only [Acc.run] at hr
    split at hr
    · rename_i mp hq
      have := ret_ok hr; subst this
      replace hv := hv _ rfl
      refine ⟨[.agg [.ro .u32 d, .ro .u32 c, .ro .u8 m, .ro .rel dr, .ro .rel cr, .ro .sym sy], .agg [.str nm, .int .i64 a, .int .i64 v, .bool g]], q, .strMap mp, .strMap (symMp nm mp), _, [], rfl, hq, rfl, ⟨rfl, rfl, rfl⟩, (argsymbol d c m dr cr sy nm a v g).mpr (by simp), rfl, (fun W R ρ0 own0 hown => noLoops (by kernel_rfl)), (runsymbol rest d c m dr cr sy nm a v g mp).mpr ?_⟩
      clear hr
      clear hA
      generalize a.val = a
      generalize v.val = v
      generalize g.val = g
      obtain ⟨v1, v2, v3⟩ := hv
      have d1 : RT.u8.dflt = (0 : Int) := rfl
      simp only [wrapS v2 (show mapGet mp nm ≤ 9223372036854775806 by omega), get_put, d1]
      have so : (decide (nm = ByteArray.mk #[]) || decide ((32 : Int) < nm.size)) = !symOk nm := by unfold symOk; rw [Bool.not_not]; rfl
      rw [so]
      refine ⟨fun h => ?_, fun h => ?_⟩
      · have h : symOk nm = false := by simpa using h
        rw [symE, symMp, if_pos h, if_pos h]; exact ⟨rfl, rfl⟩
      · have h : ¬ symOk nm = false := by simpa using h
        have hm : symMp nm mp = mapPut mp nm (mapGet mp nm + 1) := by rw [symMp, if_neg h]
        rw [hm]
        refine ⟨fun h2 => ⟨by rw [symE, if_neg h, if_pos (of_decide_eq_true h2)], rfl⟩, fun h2 => ?_⟩
        have he : symE d c m nm a v g mp = if symFine d c m a v g = true then .fine else .bare 103 := by rw [symE, if_neg h, if_neg (of_decide_eq_false h2)]
        rw [he]
        refine ⟨fun h3 => ?_, fun h3 => ⟨fun h4 => ⟨fun h5 => ?_, fun _ => ?_⟩, fun h4 => ⟨fun h5 => ?_, fun h5 => ?_⟩⟩⟩
        · have h3 := of_decide_eq_true h3
          rw [symFine, if_pos h3]; exact fine_if _ _
        · simp only [Bool.and_eq_true, decide_eq_true_eq] at h5; omega
        · have h3 := of_decide_eq_false h3
          have h4 := of_decide_eq_true h4
          rw [symFine, if_neg h3, if_pos h4]; exact fine_if _ _
        · have h3 := of_decide_eq_false h3
          have h4 := of_decide_eq_false h4
          rw [symFine, if_neg h3, if_neg h4, if_pos (of_decide_eq_true h5)]; exact fine_if _ _
        · have h3 := of_decide_eq_false h3
          have h4 := of_decide_eq_false h4
          rw [symFine, if_neg h3, if_neg h4, if_neg (of_decide_eq_false h5)]; exact ⟨rfl, rfl⟩
    · cases hr
  · cases hr
def shortM (op : Int) : Bool := decide (op = 16) || decide (op = 17) || decide (op = 18)
def farM (op : Int) : Bool := decide (op = 19) || decide (op = 20) || decide (op = 21) || decide (op = 22)
def kshort : List SVal → Nat → Acc ORes := fun a n => match a with | [.int .i64 op] => .ret ({ v := .bool (.sym (shortM op.val)) }) | _ => .fail "short"
theorem argshort (op : SI) : (all (subL 134 none' [] deep [.int .i64 op] [.int .i64 (.full op.val)])) = (
  SI.val op = SI.val op) := by kernel_rfl
theorem runshort (rest : List (Nat × SVal)) (op : SI) : (Tr.sat (plainQ (.bool (.sym (shortM op.val)))) (run (env (G7 ++ rest) []) [] (bodyOf Tryd.f122) (start [.int .i64 (.full op.val)] 13) (ends (env (G7 ++ rest) []) Tryd.f122.results.toList))) = (
  (decide (SI.val op = (16 : Int)) || decide (SI.val op = (17 : Int)) || decide (SI.val op = (18 : Int))) = shortM (SI.val op)) := by kernel_rfl
set_option maxHeartbeats 4000000 in
theorem cshort : Con ea has (G7 ++ rest) 122 kshort := by
  refine plain_mk Tryd.func122 13 (con := []) trivial (fun hA hr hv => ?_) (by kernel_rfl) (by kernel_rfl) Tryd.ntmps122
  unfold kshort at hr; split at hr
  · rename_i op
    have := ret_ok hr; subst this
    refine ⟨_, [], rfl, rfl, (argshort op).mpr (by simp), rfl, (fun W R ρ0 own0 hown => noLoops (by kernel_rfl)), (runshort rest op).mpr ?_⟩
    clear hr
    rfl
  · cases hr
def kfar : List SVal → Nat → Acc ORes := fun a n => match a with | [.int .i64 op] => .ret ({ v := .bool (.sym (farM op.val)) }) | _ => .fail "far"
theorem argfar (op : SI) : (all (subL 134 none' [] deep [.int .i64 op] [.int .i64 (.full op.val)])) = (
  SI.val op = SI.val op) := by kernel_rfl
theorem runfar (rest : List (Nat × SVal)) (op : SI) : (Tr.sat (plainQ (.bool (.sym (farM op.val)))) (run (env (G7 ++ rest) []) [] (bodyOf Tryd.f123) (start [.int .i64 (.full op.val)] 17) (ends (env (G7 ++ rest) []) Tryd.f123.results.toList))) = (
  (decide (SI.val op = (19 : Int)) || decide (SI.val op = (20 : Int)) || decide (SI.val op = (21 : Int)) || decide (SI.val op = (22 : Int))) = farM (SI.val op)) := by kernel_rfl
set_option maxHeartbeats 4000000 in
theorem cfar : Con ea has (G7 ++ rest) 123 kfar := by
  refine plain_mk Tryd.func123 17 (con := []) trivial (fun hA hr hv => ?_) (by kernel_rfl) (by kernel_rfl) Tryd.ntmps123
  unfold kfar at hr; split at hr
  · rename_i op
    have := ret_ok hr; subst this
    refine ⟨_, [], rfl, rfl, (argfar op).mpr (by simp), rfl, (fun W R ρ0 own0 hown => noLoops (by kernel_rfl)), (runfar rest op).mpr ?_⟩
    clear hr
    rfl
  · cases hr
def relocB (n : Nat) (a k s x last words kind : Int) : Bool :=
  decide (a < 0) || decide (words ≤ a) || decide (a ≤ last) || (decide (k < 1) || decide (kind < k)) || (decide (s < 0) || decide ((n : Int) ≤ s)) || (decide (x < -65536) || decide (65536 < x))
def relocE (n : Nat) (a k s x last words kind : Int) : FErr := if relocB n a k s x last words kind = true then .bare 103 else .fine
def kreloc : List SVal → Nat → Acc ORes := fun a n => match a with | [.agg [.ro .u32 d, .ro .u32 c, .ro .u8 m, .ro .rel dr, .ro .rel cr, .ro .sym sy], .agg [.int .i64 a, .int .i64 k, .int .i64 s, .int .i64 x], .int .i64 last, .int .i64 words, .int .i64 kind] => .ret ({ v := .err (relocE sy.length a.val k.val s.val x.val last.val words.val kind.val) }) | _ => .fail "reloc"
theorem argreloc (d c m : List Int) (dr cr : List Rel) (sy : List Sm) (a k s x last words kind : SI) : (all (subL 134 none' [] deep [.agg [.ro .u32 d, .ro .u32 c, .ro .u8 m, .ro .rel dr, .ro .rel cr, .ro .sym sy], .agg [.int .i64 a, .int .i64 k, .int .i64 s, .int .i64 x], .int .i64 last, .int .i64 words, .int .i64 kind] [.agg [.ro .u32 d, .ro .u32 c, .ro .u8 m, .ro .rel dr, .ro .rel cr, .ro .sym sy], .agg [.int .i64 (.full a.val), .int .i64 (.full k.val), .int .i64 (.full s.val), .int .i64 (.full x.val)], .int .i64 (.full last.val), .int .i64 (.full words.val), .int .i64 (.full kind.val)])) = (
  d = d ∧ c = c ∧ m = m ∧ dr = dr ∧ cr = cr ∧ sy = sy ∧ SI.val a = SI.val a ∧ SI.val k = SI.val k ∧ SI.val s = SI.val s ∧ SI.val x = SI.val x ∧ SI.val last = SI.val last ∧ SI.val words = SI.val words ∧ SI.val kind = SI.val kind) := by kernel_rfl
theorem runreloc (rest : List (Nat × SVal)) (d c m : List Int) (dr cr : List Rel) (sy : List Sm) (a k s x last words kind : SI) : (Tr.sat (plainQ (.err (relocE sy.length a.val k.val s.val x.val last.val words.val kind.val))) (run (env (G7 ++ rest) []) [] (bodyOf Tryd.f120) (start [.agg [.ro .u32 d, .ro .u32 c, .ro .u8 m, .ro .rel dr, .ro .rel cr, .ro .sym sy], .agg [.int .i64 (.full a.val), .int .i64 (.full k.val), .int .i64 (.full s.val), .int .i64 (.full x.val)], .int .i64 (.full last.val), .int .i64 (.full words.val), .int .i64 (.full kind.val)] 56) (ends (env (G7 ++ rest) []) Tryd.f120.results.toList))) = (
  ((decide (SI.val a < (0 : Int)) || decide (SI.val words ≤ SI.val a) || decide (SI.val a ≤ SI.val last)) = true → FErr.bare (103 : Int) = relocE (List.length sy) (SI.val a) (SI.val k) (SI.val s) (SI.val x) (SI.val last) (SI.val words) (SI.val kind)) ∧ ((decide (SI.val a < (0 : Int)) || decide (SI.val words ≤ SI.val a) || decide (SI.val a ≤ SI.val last)) = false → ((decide (SI.val k < (1 : Int)) || decide (SI.val kind < SI.val k)) = true → FErr.bare (103 : Int) = relocE (List.length sy) (SI.val a) (SI.val k) (SI.val s) (SI.val x) (SI.val last) (SI.val words) (SI.val kind)) ∧ ((decide (SI.val k < (1 : Int)) || decide (SI.val kind < SI.val k)) = false → ((decide (SI.val s < (0 : Int)) || decide ((↑(List.length sy) : Int) ≤ SI.val s)) = true → FErr.bare (103 : Int) = relocE (List.length sy) (SI.val a) (SI.val k) (SI.val s) (SI.val x) (SI.val last) (SI.val words) (SI.val kind)) ∧ ((decide (SI.val s < (0 : Int)) || decide ((↑(List.length sy) : Int) ≤ SI.val s)) = false → ((decide (SI.val x < (-65536 : Int)) || decide ((65536 : Int) < SI.val x)) = true → FErr.bare (103 : Int) = relocE (List.length sy) (SI.val a) (SI.val k) (SI.val s) (SI.val x) (SI.val last) (SI.val words) (SI.val kind)) ∧ ((decide (SI.val x < (-65536 : Int)) || decide ((65536 : Int) < SI.val x)) = false → FErr.fine = relocE (List.length sy) (SI.val a) (SI.val k) (SI.val s) (SI.val x) (SI.val last) (SI.val words) (SI.val kind)))))) := by kernel_rfl
set_option maxHeartbeats 4000000 in
theorem creloc : Con ea has (G7 ++ rest) 120 kreloc := by
  refine plain_mk Tryd.func120 56 (con := []) trivial (fun hA hr hv => ?_) (by kernel_rfl) (by kernel_rfl) Tryd.ntmps120
  unfold kreloc at hr; split at hr
  · rename_i d c m dr cr sy a k s x last words kind
    have := ret_ok hr; subst this
    refine ⟨_, [], rfl, rfl, (argreloc d c m dr cr sy a k s x last words kind).mpr (by simp), rfl, (fun W R ρ0 own0 hown => noLoops (by kernel_rfl)), (runreloc rest d c m dr cr sy a k s x last words kind).mpr ?_⟩
    clear hr
    generalize a.val = a
    generalize k.val = k
    generalize s.val = s
    generalize x.val = x
    generalize last.val = last
    generalize words.val = words
    generalize kind.val = kind
    unfold relocE relocB
    refine ⟨fun h => by rw [h]; rfl, fun h => ⟨fun h2 => by rw [h, h2]; rfl, fun h2 => ⟨fun h3 => by rw [h, h2, h3]; rfl, fun h3 => ⟨fun h4 => by rw [h, h2, h3, h4]; rfl, fun h4 => by rw [h, h2, h3, h4]; rfl⟩⟩⟩⟩
  · cases hr
def shapeB (c m : List Int) (sy : List Sm) (a k s x : Int) : Bool :=
  let data : Bool := decide ((sy.getD s.toNat RT.sym.dflt).in_ = 1)
  if k = 2 then insB c m a && shortM (insI c m a).op && !data && decide (x = 0)
  else if (!decide (x = 0) && !data) = true then false
  else if m.getD a.toNat 0 = 2 then true
  else insB c m (a - 1) && decide (m.getD a.toNat 0 = 0) && (decide ((insI c m (a - 1)).op = 14) || decide ((insI c m (a - 1)).op = 15) || (farM (insI c m (a - 1)).op && !data))
def kshape : List SVal → Nat → Acc ORes := fun a n => match a with | [.agg [.ro .u32 d, .ro .u32 c, .ro .u8 m, .ro .rel dr, .ro .rel cr, .ro .sym sy], .agg [.int .i64 a, .int .i64 k, .int .i64 s, .int .i64 x]] => .ret ({ v := .bool (.sym (shapeB c m sy a.val k.val s.val x.val)), vc := some (0 ≤ a.val ∧ a.val < (m.length : Int) ∧ 0 ≤ s.val ∧ s.val < (sy.length : Int)) }) | _ => .fail "shape"
theorem argshape (d c m : List Int) (dr cr : List Rel) (sy : List Sm) (a k s x : SI) : (all (subL 134 none' [] deep [.agg [.ro .u32 d, .ro .u32 c, .ro .u8 m, .ro .rel dr, .ro .rel cr, .ro .sym sy], .agg [.int .i64 a, .int .i64 k, .int .i64 s, .int .i64 x]] [.agg [.ro .u32 d, .ro .u32 c, .ro .u8 m, .ro .rel dr, .ro .rel cr, .ro .sym sy], .agg [.int .i64 (.full a.val), .int .i64 (.full k.val), .int .i64 (.full s.val), .int .i64 (.full x.val)]])) = (
  d = d ∧ c = c ∧ m = m ∧ dr = dr ∧ cr = cr ∧ sy = sy ∧ SI.val a = SI.val a ∧ SI.val k = SI.val k ∧ SI.val s = SI.val s ∧ SI.val x = SI.val x) := by kernel_rfl
theorem runshape (rest : List (Nat × SVal)) (d c m : List Int) (dr cr : List Rel) (sy : List Sm) (a k s x : SI) : (Tr.sat (plainQ (.bool (.sym (shapeB c m sy a.val k.val s.val x.val)))) (run (env (G7 ++ rest) [(58, kInstr), (122, kshort), (123, kfar)]) [] (bodyOf Tryd.f121) (start [.agg [.ro .u32 d, .ro .u32 c, .ro .u8 m, .ro .rel dr, .ro .rel cr, .ro .sym sy], .agg [.int .i64 (.full a.val), .int .i64 (.full k.val), .int .i64 (.full s.val), .int .i64 (.full x.val)]] 92) (ends (env (G7 ++ rest) [(58, kInstr), (122, kshort), (123, kfar)]) Tryd.f121.results.toList))) = (
  ((0 : Int) ≤ SI.val s ∧ SI.val s < (↑(List.length sy) : Int)) ∧ ((0 : Int) ≤ SI.val s ∧ SI.val s < (↑(List.length sy) : Int) → (decide (SI.val k = (2 : Int)) = true → (insB c m (SI.val a) && shortM (insI c m (SI.val a)).op && !decide ((List.getD sy (Int.toNat (SI.val s)) (RT.dflt RT.sym)).in_ = (1 : Int)) && decide (SI.val x = (0 : Int))) = shapeB c m sy (SI.val a) (SI.val k) (SI.val s) (SI.val x)) ∧ (decide (SI.val k = (2 : Int)) = false → ((!decide (SI.val x = (0 : Int)) && !decide ((List.getD sy (Int.toNat (SI.val s)) (RT.dflt RT.sym)).in_ = (1 : Int))) = true → false = shapeB c m sy (SI.val a) (SI.val k) (SI.val s) (SI.val x)) ∧ ((!decide (SI.val x = (0 : Int)) && !decide ((List.getD sy (Int.toNat (SI.val s)) (RT.dflt RT.sym)).in_ = (1 : Int))) = false → ((0 : Int) ≤ SI.val a ∧ SI.val a < (↑(List.length m) : Int)) ∧ ((0 : Int) ≤ SI.val a ∧ SI.val a < (↑(List.length m) : Int) → (decide (List.getD m (Int.toNat (SI.val a)) (RT.dflt RT.u8) = (2 : Int)) = true → true = shapeB c m sy (SI.val a) (SI.val k) (SI.val s) (SI.val x)) ∧ (decide (List.getD m (Int.toNat (SI.val a)) (RT.dflt RT.u8) = (2 : Int)) = false → (insB c m (IntKind.wrap IntKind.i64 (SI.val a - (1 : Int))) = true → (0 : Int) ≤ SI.val a ∧ SI.val a < (↑(List.length m) : Int)) ∧ ((insB c m (IntKind.wrap IntKind.i64 (SI.val a - (1 : Int))) = true → (0 : Int) ≤ SI.val a ∧ SI.val a < (↑(List.length m) : Int)) → (insB c m (IntKind.wrap IntKind.i64 (SI.val a - (1 : Int))) && decide (List.getD m (Int.toNat (SI.val a)) (RT.dflt RT.u8) = (0 : Int)) && (decide ((insI c m (IntKind.wrap IntKind.i64 (SI.val a - (1 : Int)))).op = (14 : Int)) || decide ((insI c m (IntKind.wrap IntKind.i64 (SI.val a - (1 : Int)))).op = (15 : Int)) || farM (insI c m (IntKind.wrap IntKind.i64 (SI.val a - (1 : Int)))).op && !decide ((List.getD sy (Int.toNat (SI.val s)) (RT.dflt RT.sym)).in_ = (1 : Int)))) = shapeB c m sy (SI.val a) (SI.val k) (SI.val s) (SI.val x)))))))) := by kernel_rfl
set_option maxHeartbeats 4000000 in
theorem cshape : Con ea has (G7 ++ rest) 121 kshape := by
  refine plain_mk Tryd.func121 92 (con := [(58, kInstr), (122, kshort), (123, kfar)]) ⟨cInstr, cshort, cfar, trivial⟩ (fun hA hr hv => ?_) (by kernel_rfl) (by kernel_rfl) Tryd.ntmps121
  unfold kshape at hr; split at hr
  · rename_i d c m dr cr sy a k s x
    have := ret_ok hr; subst this
    replace hv := hv _ rfl
    refine ⟨_, [], rfl, rfl, (argshape d c m dr cr sy a k s x).mpr (by simp), rfl, (fun W R ρ0 own0 hown => noLoops (by kernel_rfl)), (runshape rest d c m dr cr sy a k s x).mpr ?_⟩
    clear hr
    have hl := (ob_len hA).2.2.1
    clear hA
    generalize a.val = a at *
    generalize k.val = k at *
    generalize s.val = s at *
    generalize x.val = x at *
    obtain ⟨v1, v2, v3, v4⟩ := hv
    have hml := hl
    have d1 : RT.u8.dflt = (0 : Int) := rfl
    have w2 : IntKind.i64.wrap (a - 1) = a - 1 := by rw [IntKind.wrap_i64]; omega
    simp only [d1, w2]
    unfold shapeB
    refine ⟨⟨v3, v4⟩, fun _ => ⟨fun h => by rw [if_pos (of_decide_eq_true h)], fun h => ?_⟩⟩
    rw [if_neg (of_decide_eq_false h)]
    refine ⟨fun h2 => by rw [if_pos h2], fun h2 => ⟨⟨v1, v2⟩, fun _ => ?_⟩⟩
    rw [if_neg (by rw [h2]; simp)]
    refine ⟨fun h3 => by rw [if_pos (of_decide_eq_true h3)], fun h3 => ⟨fun _ => ⟨v1, v2⟩, fun _ => ?_⟩⟩
    rw [if_neg (of_decide_eq_false h3)]
  · cases hr
def placeE (e : FErr) (i : Nat) : FErr := match e with
  | .bare n => .placed n i
  | _ => .fine
def firstE (f : Nat → FErr) : Nat → FErr
  | 0 => .fine
  | n + 1 => if (firstE f n).isErr = true then firstE f n else if (f n).isErr = true then placeE (f n) n else .fine
theorem fine_of {e : FErr} (h : e.isErr = false) : e = .fine := by cases e <;> simp [FErr.isErr] at h ⊢
theorem firstE_fine {f : Nat → FErr} {i : Nat} (h : firstE f i = .fine) (hf : (f i).isErr = false) : firstE f (i + 1) = .fine := by
  rw [firstE, h, if_neg (by simp [FErr.isErr]), if_neg (by rw [hf]; simp)]
theorem firstE_stay {f : Nat → FErr} {i n : Nat} (h : (firstE f i).isErr = true) (hn : i ≤ n) : firstE f n = firstE f i := by
  induction n with
  | zero => have : i = 0 := by omega
            rw [this]
  | succ n ih =>
    by_cases e : i = n + 1
    · rw [e]
    · have := ih (by omega)
      rw [firstE, this, if_pos h]
theorem firstE_at {f : Nat → FErr} {i n : Nat} (h : firstE f i = .fine) (hf : (f i).isErr = true) (hp : (f i).isPlaced = false) (hn : i < n) : firstE f n = placeE (f i) i ∧ (firstE f n).isErr = true := by
  have e : firstE f (i + 1) = placeE (f i) i := by rw [firstE, h, if_neg (by simp [FErr.isErr]), if_pos hf]
  have e2 : (placeE (f i) i).isErr = true := by cases hfi : f i <;> rw [hfi] at hf hp <;> simp_all [placeE, FErr.isErr, FErr.isPlaced]
  have := firstE_stay (n := n) (by rw [e]; exact e2) hn
  rw [this, e]; exact ⟨rfl, e2⟩
theorem relocE_np {n : Nat} {a k s x last words kind : Int} : (relocE n a k s x last words kind).isPlaced = false := by unfold relocE; split <;> rfl
theorem relocE_ok {n : Nat} {a k s x last words kind : Int} (h : (relocE n a k s x last words kind).isErr = false) : 0 ≤ a ∧ a < words ∧ last < a ∧ 1 ≤ k ∧ k ≤ kind ∧ 0 ≤ s ∧ s < n ∧ -65536 ≤ x ∧ x ≤ 65536 := by
  unfold relocE at h
  split at h
  · cases h
  · rename_i hb
    simp only [relocB, Bool.or_eq_true, decide_eq_true_eq] at hb
    omega
theorem hl3 {c b1 b2 b3 : Code} {ls : List (Nat × LSum)} {L1 L2 L3 : LSum} {Z : Code → LSum → Prop} (hc : loopsOf c = [b1, b2, b3]) (f1 : find (headId b1) ls = some L1) (z1 : Z b1 L1) (f2 : find (headId b2) ls = some L2) (z2 : Z b2 L2) (f3 : find (headId b3) ls = some L3) (z3 : Z b3 L3) :
    ∀ b ∈ loopsOf c, ∀ L, find (headId b) ls = some L → Z b L := hlN hc fun b hb => by
  simp only [List.mem_cons, List.not_mem_nil, or_false] at hb
  rcases hb with rfl | rfl | rfl
  · exact ⟨L1, f1, z1⟩
  · exact ⟨L2, f2, z2⟩
  · exact ⟨L3, f3, z3⟩
theorem hl2 {c b1 b2 : Code} {ls : List (Nat × LSum)} {L1 L2 : LSum} {Z : Code → LSum → Prop} (hc : loopsOf c = [b1, b2]) (f1 : find (headId b1) ls = some L1) (z1 : Z b1 L1) (f2 : find (headId b2) ls = some L2) (z2 : Z b2 L2) :
    ∀ b ∈ loopsOf c, ∀ L, find (headId b) ls = some L → Z b L := hlN hc fun b hb => by
  simp only [List.mem_cons, List.not_mem_nil, or_false] at hb
  rcases hb with rfl | rfl
  · exact ⟨L1, f1, z1⟩
  · exact ⟨L2, f2, z2⟩
theorem end_if {b : Bool} {p q : Prop} (hp : b = true → p) (hq : b = false → q) : (b = true → p) ∧ (b = false → q) := ⟨hp, hq⟩
def lastR (l : List Rel) : Nat → Int
  | 0 => -1
  | i + 1 => (l.getD i RT.rel.dflt).at_
def drE (d : List Int) (dr : List Rel) (sy : List Sm) (i : Nat) : FErr :=
  let r := dr.getD i RT.rel.dflt
  let e := relocE sy.length r.at_ r.kind r.sym r.add (lastR dr i) d.length 1
  if (!e.isErr && !decide (r.add = 0) && !decide ((sy.getD r.sym.toNat RT.sym.dflt).in_ = 1)) = true then .bare 102 else e
def HDRels (d c m : List Int) (dr cr : List Rel) (sy : List Sm) (i : Nat) : SState := { fr := [(1, .ptr 0 0), (3, .int .i64 (.full (lastR dr i))), (15, .ro .rel dr), (16, .int .i64 (.full dr.length)), (17, .int .i64 (.sym i 0 1000000))], hp := [(0, some (.cells [.ro .u32 d, .ro .u32 c, .ro .u8 m, .ro .rel dr, .ro .rel cr, .ro .sym sy]))], next := 1, sz := 144 }
def XDRels (d c m : List Int) (dr cr : List Rel) (sy : List Sm) : SState := { fr := [(1, .ptr 0 0)], hp := [(0, some (.cells [.ro .u32 d, .ro .u32 c, .ro .u8 m, .ro .rel dr, .ro .rel cr, .ro .sym sy]))], next := 1, sz := 144 }
def YDRels (d c m : List Int) (dr cr : List Rel) (sy : List Sm) : SState := { fr := [(2, .err (firstE (drE d dr sy) dr.length))], hp := [], next := 0, sz := 144 }
def LDRels (d c m : List Int) (dr cr : List Rel) (sy : List Sm) : LSum := ⟨HDRels d c m dr cr sy 0, fun k => .ite (!(firstE (drE d dr sy) dr.length).isErr) (k (.exit 0) (XDRels d c m dr cr sy)) (k .ret (YDRels d c m dr cr sy)), dr.length ≤ 1000000⟩
theorem bDRels (rest : List (Nat × SVal)) (d c m : List Int) (dr cr : List Rel) (sy : List Sm) (i : Nat) : (Tr.sat (rnd2 (env (G7 ++ rest) [(120, kreloc), (121, kshape), (58, kInstr), (122, kshort), (123, kfar)]) (fun i => firstE (drE d dr sy) i = .fine) (dr.length) (HDRels d c m dr cr sy) 0 (!(firstE (drE d dr sy) dr.length).isErr) (XDRels d c m dr cr sy) (YDRels d c m dr cr sy) i) (run (env (G7 ++ rest) [(120, kreloc), (121, kshape), (58, kInstr), (122, kshort), (123, kfar)]) [] (loopN (bodyOf Tryd.f102) 0) (HDRels d c m dr cr sy i) .leaf)) = (
  (decide ((↑i : Int) < (↑(List.length dr) : Int)) = true → ((0 : Int) ≤ (↑i : Int) ∧ (↑i : Int) < (↑(List.length dr) : Int)) ∧ ((0 : Int) ≤ (↑i : Int) ∧ (↑i : Int) < (↑(List.length dr) : Int) → ((!FErr.isErr (relocE (List.length sy) (List.getD dr (Int.toNat (↑i : Int)) (RT.dflt RT.rel)).at_ (List.getD dr (Int.toNat (↑i : Int)) (RT.dflt RT.rel)).kind (List.getD dr (Int.toNat (↑i : Int)) (RT.dflt RT.rel)).sym (List.getD dr (Int.toNat (↑i : Int)) (RT.dflt RT.rel)).add (lastR dr i) (↑(List.length d) : Int) (1 : Int)) && !decide ((List.getD dr (Int.toNat (↑i : Int)) (RT.dflt RT.rel)).add = (0 : Int))) = true → (0 : Int) ≤ (List.getD dr (Int.toNat (↑i : Int)) (RT.dflt RT.rel)).sym ∧ (List.getD dr (Int.toNat (↑i : Int)) (RT.dflt RT.rel)).sym < (↑(List.length sy) : Int)) ∧ (((!FErr.isErr (relocE (List.length sy) (List.getD dr (Int.toNat (↑i : Int)) (RT.dflt RT.rel)).at_ (List.getD dr (Int.toNat (↑i : Int)) (RT.dflt RT.rel)).kind (List.getD dr (Int.toNat (↑i : Int)) (RT.dflt RT.rel)).sym (List.getD dr (Int.toNat (↑i : Int)) (RT.dflt RT.rel)).add (lastR dr i) (↑(List.length d) : Int) (1 : Int)) && !decide ((List.getD dr (Int.toNat (↑i : Int)) (RT.dflt RT.rel)).add = (0 : Int))) = true → (0 : Int) ≤ (List.getD dr (Int.toNat (↑i : Int)) (RT.dflt RT.rel)).sym ∧ (List.getD dr (Int.toNat (↑i : Int)) (RT.dflt RT.rel)).sym < (↑(List.length sy) : Int)) → ((!FErr.isErr (relocE (List.length sy) (List.getD dr (Int.toNat (↑i : Int)) (RT.dflt RT.rel)).at_ (List.getD dr (Int.toNat (↑i : Int)) (RT.dflt RT.rel)).kind (List.getD dr (Int.toNat (↑i : Int)) (RT.dflt RT.rel)).sym (List.getD dr (Int.toNat (↑i : Int)) (RT.dflt RT.rel)).add (lastR dr i) (↑(List.length d) : Int) (1 : Int)) && !decide ((List.getD dr (Int.toNat (↑i : Int)) (RT.dflt RT.rel)).add = (0 : Int)) && !decide ((List.getD sy (Int.toNat (List.getD dr (Int.toNat (↑i : Int)) (RT.dflt RT.rel)).sym) (RT.dflt RT.sym)).in_ = (1 : Int))) = true → (true = true → (!FErr.isErr (firstE (drE d dr sy) (List.length dr))) = false ∧ firstE (drE d dr sy) (List.length dr) = FErr.placed (102 : Int) (↑i : Int) ∧ FErr.isErr (FErr.bare (102 : Int)) = true ∧ FErr.isPlaced (FErr.bare (102 : Int)) = false) ∧ (true = false → i < List.length dr ∧ firstE (drE d dr sy) (i + (1 : Nat)) = FErr.fine ∧ (List.getD dr (Int.toNat (↑i : Int)) (RT.dflt RT.rel)).at_ = lastR dr (i + (1 : Nat)) ∧ dr = dr ∧ (↑(List.length dr) : Int) = (↑(List.length dr) : Int) ∧ (↑i : Int) + (1 : Int) = (↑(i + (1 : Nat)) : Int) ∧ ((0 : Int) ≤ (↑(i + (1 : Nat)) : Int) ∧ (↑(i + (1 : Nat)) : Int) ≤ (1000000 : Int)) ∧ d = d ∧ c = c ∧ m = m ∧ dr = dr ∧ cr = cr ∧ sy = sy)) ∧ ((!FErr.isErr (relocE (List.length sy) (List.getD dr (Int.toNat (↑i : Int)) (RT.dflt RT.rel)).at_ (List.getD dr (Int.toNat (↑i : Int)) (RT.dflt RT.rel)).kind (List.getD dr (Int.toNat (↑i : Int)) (RT.dflt RT.rel)).sym (List.getD dr (Int.toNat (↑i : Int)) (RT.dflt RT.rel)).add (lastR dr i) (↑(List.length d) : Int) (1 : Int)) && !decide ((List.getD dr (Int.toNat (↑i : Int)) (RT.dflt RT.rel)).add = (0 : Int)) && !decide ((List.getD sy (Int.toNat (List.getD dr (Int.toNat (↑i : Int)) (RT.dflt RT.rel)).sym) (RT.dflt RT.sym)).in_ = (1 : Int))) = false → ((!!FErr.isErr (relocE (List.length sy) (List.getD dr (Int.toNat (↑i : Int)) (RT.dflt RT.rel)).at_ (List.getD dr (Int.toNat (↑i : Int)) (RT.dflt RT.rel)).kind (List.getD dr (Int.toNat (↑i : Int)) (RT.dflt RT.rel)).sym (List.getD dr (Int.toNat (↑i : Int)) (RT.dflt RT.rel)).add (lastR dr i) (↑(List.length d) : Int) (1 : Int))) = true → (!FErr.isErr (firstE (drE d dr sy) (List.length dr))) = false ∧ (firstE (drE d dr sy) (List.length dr) = match relocE (List.length sy) (List.getD dr (Int.toNat (↑i : Int)) (RT.dflt RT.rel)).at_ (List.getD dr (Int.toNat (↑i : Int)) (RT.dflt RT.rel)).kind (List.getD dr (Int.toNat (↑i : Int)) (RT.dflt RT.rel)).sym (List.getD dr (Int.toNat (↑i : Int)) (RT.dflt RT.rel)).add (lastR dr i) (↑(List.length d) : Int) (1 : Int) with | FErr.bare n => FErr.placed n (↑i : Int) | x => FErr.fine) ∧ FErr.isErr (relocE (List.length sy) (List.getD dr (Int.toNat (↑i : Int)) (RT.dflt RT.rel)).at_ (List.getD dr (Int.toNat (↑i : Int)) (RT.dflt RT.rel)).kind (List.getD dr (Int.toNat (↑i : Int)) (RT.dflt RT.rel)).sym (List.getD dr (Int.toNat (↑i : Int)) (RT.dflt RT.rel)).add (lastR dr i) (↑(List.length d) : Int) (1 : Int)) = true ∧ FErr.isPlaced (relocE (List.length sy) (List.getD dr (Int.toNat (↑i : Int)) (RT.dflt RT.rel)).at_ (List.getD dr (Int.toNat (↑i : Int)) (RT.dflt RT.rel)).kind (List.getD dr (Int.toNat (↑i : Int)) (RT.dflt RT.rel)).sym (List.getD dr (Int.toNat (↑i : Int)) (RT.dflt RT.rel)).add (lastR dr i) (↑(List.length d) : Int) (1 : Int)) = false) ∧ ((!!FErr.isErr (relocE (List.length sy) (List.getD dr (Int.toNat (↑i : Int)) (RT.dflt RT.rel)).at_ (List.getD dr (Int.toNat (↑i : Int)) (RT.dflt RT.rel)).kind (List.getD dr (Int.toNat (↑i : Int)) (RT.dflt RT.rel)).sym (List.getD dr (Int.toNat (↑i : Int)) (RT.dflt RT.rel)).add (lastR dr i) (↑(List.length d) : Int) (1 : Int))) = false → i < List.length dr ∧ firstE (drE d dr sy) (i + (1 : Nat)) = FErr.fine ∧ (List.getD dr (Int.toNat (↑i : Int)) (RT.dflt RT.rel)).at_ = lastR dr (i + (1 : Nat)) ∧ dr = dr ∧ (↑(List.length dr) : Int) = (↑(List.length dr) : Int) ∧ (↑i : Int) + (1 : Int) = (↑(i + (1 : Nat)) : Int) ∧ ((0 : Int) ≤ (↑(i + (1 : Nat)) : Int) ∧ (↑(i + (1 : Nat)) : Int) ≤ (1000000 : Int)) ∧ d = d ∧ c = c ∧ m = m ∧ dr = dr ∧ cr = cr ∧ sy = sy))))) ∧ (decide ((↑i : Int) < (↑(List.length dr) : Int)) = false → Nat.beq (0 : Nat) (0 : Nat) = true ∧ (!FErr.isErr (firstE (drE d dr sy) (List.length dr))) = true ∧ d = d ∧ c = c ∧ m = m ∧ dr = dr ∧ cr = cr ∧ sy = sy)) := by kernel_rfl
set_option maxHeartbeats 4000000 in
theorem lDRels (d c m : List Int) (dr cr : List Rel) (sy : List Sm) {W : World} {R own0 : Nat → Prop} {ρ0 : Nat → Option Value} (hown : HownOk (env (G7 ++ rest) [(120, kreloc), (121, kshape), (58, kInstr), (122, kshort), (123, kfar)]) own0 ρ0) : LOk Tryd.prog (env (G7 ++ rest) [(120, kreloc), (121, kshape), (58, kInstr), (122, kshort), (123, kfar)]) (ctx ea has) (G7 ++ rest) W R own0 ρ0 (loopN (bodyOf Tryd.f102) 0) (LDRels d c m dr cr sy) := by
  refine loop2_ok (env_ok (con := [(120, kreloc), (121, kshape), (58, kInstr), (122, kshort), (123, kfar)]) ⟨creloc, cshape, cInstr, cshort, cfar, trivial⟩) hown (ls := fun i => []) (fun i => noLoops (by kernel_rfl)) (fun hm i hi hj => (bDRels rest d c m dr cr sy i).mpr ?_) 0 (fun hm => by first | exact Nat.zero_le _ | omega) (fun hm => rfl)
  have hnp := @relocE_np sy.length (dr.getD i RT.rel.dflt).at_ (dr.getD i RT.rel.dflt).kind (dr.getD i RT.rel.dflt).sym (dr.getD i RT.rel.dflt).add (lastR dr i) d.length 1
  have hok := @relocE_ok sy.length (dr.getD i RT.rel.dflt).at_ (dr.getD i RT.rel.dflt).kind (dr.getD i RT.rel.dflt).sym (dr.getD i RT.rel.dflt).add (lastR dr i) d.length 1
  have hE := drE.eq_1 d dr sy i
  simp only [Int.toNat_natCast]
  generalize relocE sy.length (dr.getD i RT.rel.dflt).at_ (dr.getD i RT.rel.dflt).kind (dr.getD i RT.rel.dflt).sym (dr.getD i RT.rel.dflt).add (lastR dr i) d.length 1 = e at *
  refine ⟨fun h => ?_, fun h => ?_⟩
  · have h := of_decide_eq_true h
    have hlt : i < dr.length := by omega
    refine ⟨by omega, fun _ => ⟨fun h2 => ?_, fun _ => ⟨fun h2 => ⟨fun _ => ?_, fun h => by cases h⟩, fun h2 => ⟨fun h3 => ?_, fun h3 => ?_⟩⟩⟩⟩
    · simp only [Bool.and_eq_true, Bool.not_eq_true'] at h2
      have := hok h2.1; omega
    · rw [if_pos h2] at hE
      obtain ⟨g1, g2⟩ := firstE_at hj (by rw [hE]; rfl) (by rw [hE]; rfl) hlt
      rw [hE] at g1
      exact ⟨by rw [g2]; rfl, g1, rfl, rfl⟩
    · rw [if_neg (by rw [h2]; simp)] at hE
      have h3 : e.isErr = true := by simpa using h3
      obtain ⟨g1, g2⟩ := firstE_at hj (by rw [hE]; exact h3) (by rw [hE]; exact hnp) hlt
      rw [hE] at g1
      exact ⟨by rw [g2]; rfl, g1, h3, hnp⟩
    · rw [if_neg (by rw [h2]; simp)] at hE
      have h3 : e.isErr = false := by simpa using h3
      refine ⟨hlt, firstE_fine hj (by rw [hE]; exact h3), ?_⟩
      simp [lastR]; omega
  · have h := of_decide_eq_false h
    have : i = dr.length := by omega
    rw [← this, hj]
    simp [FErr.isErr]
def crE (c m : List Int) (cr : List Rel) (sy : List Sm) (i : Nat) : FErr :=
  let r := cr.getD i RT.rel.dflt
  let e := relocE sy.length r.at_ r.kind r.sym r.add (lastR cr i) c.length 2
  if (!e.isErr && !shapeB c m sy r.at_ r.kind r.sym r.add) = true then .bare 102 else e
def atM (cr : List Rel) : Nat → List (Int × Int)
  | 0 => []
  | i + 1 => mapPut (atM cr i) (cr.getD i RT.rel.dflt).at_ (cr.getD i RT.rel.dflt).kind
def HCRels (d c m : List Int) (dr cr : List Rel) (sy : List Sm) (i : Nat) : SState := { fr := [(1, .ptr 0 0), (3, .int .i64 (.full (lastR cr i))), (7, .map 1), (59, .ro .rel cr), (60, .int .i64 (.full cr.length)), (61, .int .i64 (.sym i 0 1000000))], hp := [(0, some (.cells [.ro .u32 d, .ro .u32 c, .ro .u8 m, .ro .rel dr, .ro .rel cr, .ro .sym sy])), (1, some (.intMap (atM cr i)))], next := 2, sz := 144 }
def XCRels (d c m : List Int) (dr cr : List Rel) (sy : List Sm) : SState := { fr := [(1, .ptr 0 0), (7, .map 1)], hp := [(0, some (.cells [.ro .u32 d, .ro .u32 c, .ro .u8 m, .ro .rel dr, .ro .rel cr, .ro .sym sy])), (1, some (.intMap (atM cr cr.length)))], next := 2, sz := 144 }
def YCRels (d c m : List Int) (dr cr : List Rel) (sy : List Sm) : SState := { fr := [(2, .err (firstE (crE c m cr sy) cr.length))], hp := [], next := 0, sz := 144 }
def LCRels (d c m : List Int) (dr cr : List Rel) (sy : List Sm) : LSum := ⟨HCRels d c m dr cr sy 0, fun k => .ite (!(firstE (crE c m cr sy) cr.length).isErr) (k (.exit 2) (XCRels d c m dr cr sy)) (k .ret (YCRels d c m dr cr sy)), cr.length ≤ 1000000 ∧ m.length = c.length⟩
theorem bCRels (rest : List (Nat × SVal)) (d c m : List Int) (dr cr : List Rel) (sy : List Sm) (i : Nat) : (Tr.sat (rnd2 (env (G7 ++ rest) [(120, kreloc), (121, kshape), (58, kInstr), (122, kshort), (123, kfar)]) (fun i => firstE (crE c m cr sy) i = .fine) (cr.length) (HCRels d c m dr cr sy) 2 (!(firstE (crE c m cr sy) cr.length).isErr) (XCRels d c m dr cr sy) (YCRels d c m dr cr sy) i) (run (env (G7 ++ rest) [(120, kreloc), (121, kshape), (58, kInstr), (122, kshort), (123, kfar)]) [] (loopN (bodyOf Tryd.f102) 1) (HCRels d c m dr cr sy i) .leaf)) = (
  (decide ((↑i : Int) < (↑(List.length cr) : Int)) = true → ((0 : Int) ≤ (↑i : Int) ∧ (↑i : Int) < (↑(List.length cr) : Int)) ∧ ((0 : Int) ≤ (↑i : Int) ∧ (↑i : Int) < (↑(List.length cr) : Int) → ((!FErr.isErr (relocE (List.length sy) (List.getD cr (Int.toNat (↑i : Int)) (RT.dflt RT.rel)).at_ (List.getD cr (Int.toNat (↑i : Int)) (RT.dflt RT.rel)).kind (List.getD cr (Int.toNat (↑i : Int)) (RT.dflt RT.rel)).sym (List.getD cr (Int.toNat (↑i : Int)) (RT.dflt RT.rel)).add (lastR cr i) (↑(List.length c) : Int) (2 : Int))) = true → (0 : Int) ≤ (List.getD cr (Int.toNat (↑i : Int)) (RT.dflt RT.rel)).at_ ∧ (List.getD cr (Int.toNat (↑i : Int)) (RT.dflt RT.rel)).at_ < (↑(List.length m) : Int) ∧ (0 : Int) ≤ (List.getD cr (Int.toNat (↑i : Int)) (RT.dflt RT.rel)).sym ∧ (List.getD cr (Int.toNat (↑i : Int)) (RT.dflt RT.rel)).sym < (↑(List.length sy) : Int)) ∧ (((!FErr.isErr (relocE (List.length sy) (List.getD cr (Int.toNat (↑i : Int)) (RT.dflt RT.rel)).at_ (List.getD cr (Int.toNat (↑i : Int)) (RT.dflt RT.rel)).kind (List.getD cr (Int.toNat (↑i : Int)) (RT.dflt RT.rel)).sym (List.getD cr (Int.toNat (↑i : Int)) (RT.dflt RT.rel)).add (lastR cr i) (↑(List.length c) : Int) (2 : Int))) = true → (0 : Int) ≤ (List.getD cr (Int.toNat (↑i : Int)) (RT.dflt RT.rel)).at_ ∧ (List.getD cr (Int.toNat (↑i : Int)) (RT.dflt RT.rel)).at_ < (↑(List.length m) : Int) ∧ (0 : Int) ≤ (List.getD cr (Int.toNat (↑i : Int)) (RT.dflt RT.rel)).sym ∧ (List.getD cr (Int.toNat (↑i : Int)) (RT.dflt RT.rel)).sym < (↑(List.length sy) : Int)) → ((!FErr.isErr (relocE (List.length sy) (List.getD cr (Int.toNat (↑i : Int)) (RT.dflt RT.rel)).at_ (List.getD cr (Int.toNat (↑i : Int)) (RT.dflt RT.rel)).kind (List.getD cr (Int.toNat (↑i : Int)) (RT.dflt RT.rel)).sym (List.getD cr (Int.toNat (↑i : Int)) (RT.dflt RT.rel)).add (lastR cr i) (↑(List.length c) : Int) (2 : Int)) && !shapeB c m sy (List.getD cr (Int.toNat (↑i : Int)) (RT.dflt RT.rel)).at_ (List.getD cr (Int.toNat (↑i : Int)) (RT.dflt RT.rel)).kind (List.getD cr (Int.toNat (↑i : Int)) (RT.dflt RT.rel)).sym (List.getD cr (Int.toNat (↑i : Int)) (RT.dflt RT.rel)).add) = true → (true = true → (!FErr.isErr (firstE (crE c m cr sy) (List.length cr))) = false ∧ firstE (crE c m cr sy) (List.length cr) = FErr.placed (102 : Int) (↑i : Int) ∧ FErr.isErr (FErr.bare (102 : Int)) = true ∧ FErr.isPlaced (FErr.bare (102 : Int)) = false) ∧ (true = false → i < List.length cr ∧ firstE (crE c m cr sy) (i + (1 : Nat)) = FErr.fine ∧ (List.getD cr (Int.toNat (↑i : Int)) (RT.dflt RT.rel)).at_ = lastR cr (i + (1 : Nat)) ∧ cr = cr ∧ (↑(List.length cr) : Int) = (↑(List.length cr) : Int) ∧ (↑i : Int) + (1 : Int) = (↑(i + (1 : Nat)) : Int) ∧ ((0 : Int) ≤ (↑(i + (1 : Nat)) : Int) ∧ (↑(i + (1 : Nat)) : Int) ≤ (1000000 : Int)) ∧ d = d ∧ c = c ∧ m = m ∧ dr = dr ∧ cr = cr ∧ sy = sy ∧ mapPut (atM cr i) (List.getD cr (Int.toNat (↑i : Int)) (RT.dflt RT.rel)).at_ (List.getD cr (Int.toNat (↑i : Int)) (RT.dflt RT.rel)).kind = atM cr (i + (1 : Nat)))) ∧ ((!FErr.isErr (relocE (List.length sy) (List.getD cr (Int.toNat (↑i : Int)) (RT.dflt RT.rel)).at_ (List.getD cr (Int.toNat (↑i : Int)) (RT.dflt RT.rel)).kind (List.getD cr (Int.toNat (↑i : Int)) (RT.dflt RT.rel)).sym (List.getD cr (Int.toNat (↑i : Int)) (RT.dflt RT.rel)).add (lastR cr i) (↑(List.length c) : Int) (2 : Int)) && !shapeB c m sy (List.getD cr (Int.toNat (↑i : Int)) (RT.dflt RT.rel)).at_ (List.getD cr (Int.toNat (↑i : Int)) (RT.dflt RT.rel)).kind (List.getD cr (Int.toNat (↑i : Int)) (RT.dflt RT.rel)).sym (List.getD cr (Int.toNat (↑i : Int)) (RT.dflt RT.rel)).add) = false → ((!!FErr.isErr (relocE (List.length sy) (List.getD cr (Int.toNat (↑i : Int)) (RT.dflt RT.rel)).at_ (List.getD cr (Int.toNat (↑i : Int)) (RT.dflt RT.rel)).kind (List.getD cr (Int.toNat (↑i : Int)) (RT.dflt RT.rel)).sym (List.getD cr (Int.toNat (↑i : Int)) (RT.dflt RT.rel)).add (lastR cr i) (↑(List.length c) : Int) (2 : Int))) = true → (!FErr.isErr (firstE (crE c m cr sy) (List.length cr))) = false ∧ (firstE (crE c m cr sy) (List.length cr) = match relocE (List.length sy) (List.getD cr (Int.toNat (↑i : Int)) (RT.dflt RT.rel)).at_ (List.getD cr (Int.toNat (↑i : Int)) (RT.dflt RT.rel)).kind (List.getD cr (Int.toNat (↑i : Int)) (RT.dflt RT.rel)).sym (List.getD cr (Int.toNat (↑i : Int)) (RT.dflt RT.rel)).add (lastR cr i) (↑(List.length c) : Int) (2 : Int) with | FErr.bare n => FErr.placed n (↑i : Int) | x => FErr.fine) ∧ FErr.isErr (relocE (List.length sy) (List.getD cr (Int.toNat (↑i : Int)) (RT.dflt RT.rel)).at_ (List.getD cr (Int.toNat (↑i : Int)) (RT.dflt RT.rel)).kind (List.getD cr (Int.toNat (↑i : Int)) (RT.dflt RT.rel)).sym (List.getD cr (Int.toNat (↑i : Int)) (RT.dflt RT.rel)).add (lastR cr i) (↑(List.length c) : Int) (2 : Int)) = true ∧ FErr.isPlaced (relocE (List.length sy) (List.getD cr (Int.toNat (↑i : Int)) (RT.dflt RT.rel)).at_ (List.getD cr (Int.toNat (↑i : Int)) (RT.dflt RT.rel)).kind (List.getD cr (Int.toNat (↑i : Int)) (RT.dflt RT.rel)).sym (List.getD cr (Int.toNat (↑i : Int)) (RT.dflt RT.rel)).add (lastR cr i) (↑(List.length c) : Int) (2 : Int)) = false) ∧ ((!!FErr.isErr (relocE (List.length sy) (List.getD cr (Int.toNat (↑i : Int)) (RT.dflt RT.rel)).at_ (List.getD cr (Int.toNat (↑i : Int)) (RT.dflt RT.rel)).kind (List.getD cr (Int.toNat (↑i : Int)) (RT.dflt RT.rel)).sym (List.getD cr (Int.toNat (↑i : Int)) (RT.dflt RT.rel)).add (lastR cr i) (↑(List.length c) : Int) (2 : Int))) = false → i < List.length cr ∧ firstE (crE c m cr sy) (i + (1 : Nat)) = FErr.fine ∧ (List.getD cr (Int.toNat (↑i : Int)) (RT.dflt RT.rel)).at_ = lastR cr (i + (1 : Nat)) ∧ cr = cr ∧ (↑(List.length cr) : Int) = (↑(List.length cr) : Int) ∧ (↑i : Int) + (1 : Int) = (↑(i + (1 : Nat)) : Int) ∧ ((0 : Int) ≤ (↑(i + (1 : Nat)) : Int) ∧ (↑(i + (1 : Nat)) : Int) ≤ (1000000 : Int)) ∧ d = d ∧ c = c ∧ m = m ∧ dr = dr ∧ cr = cr ∧ sy = sy ∧ mapPut (atM cr i) (List.getD cr (Int.toNat (↑i : Int)) (RT.dflt RT.rel)).at_ (List.getD cr (Int.toNat (↑i : Int)) (RT.dflt RT.rel)).kind = atM cr (i + (1 : Nat))))))) ∧ (decide ((↑i : Int) < (↑(List.length cr) : Int)) = false → Nat.beq (2 : Nat) (2 : Nat) = true ∧ (!FErr.isErr (firstE (crE c m cr sy) (List.length cr))) = true ∧ d = d ∧ c = c ∧ m = m ∧ dr = dr ∧ cr = cr ∧ sy = sy ∧ atM cr i = atM cr (List.length cr))) := by kernel_rfl
set_option maxHeartbeats 4000000 in
theorem lCRels (d c m : List Int) (dr cr : List Rel) (sy : List Sm) {W : World} {R own0 : Nat → Prop} {ρ0 : Nat → Option Value} (hown : HownOk (env (G7 ++ rest) [(120, kreloc), (121, kshape), (58, kInstr), (122, kshort), (123, kfar)]) own0 ρ0) : LOk Tryd.prog (env (G7 ++ rest) [(120, kreloc), (121, kshape), (58, kInstr), (122, kshort), (123, kfar)]) (ctx ea has) (G7 ++ rest) W R own0 ρ0 (loopN (bodyOf Tryd.f102) 1) (LCRels d c m dr cr sy) := by
  refine loop2_ok (env_ok (con := [(120, kreloc), (121, kshape), (58, kInstr), (122, kshort), (123, kfar)]) ⟨creloc, cshape, cInstr, cshort, cfar, trivial⟩) hown (ls := fun i => []) (fun i => noLoops (by kernel_rfl)) (fun hm i hi hj => (bCRels rest d c m dr cr sy i).mpr ?_) 0 (fun hm => by first | exact Nat.zero_le _ | omega) (fun hm => rfl)
  have hnp := @relocE_np sy.length (cr.getD i RT.rel.dflt).at_ (cr.getD i RT.rel.dflt).kind (cr.getD i RT.rel.dflt).sym (cr.getD i RT.rel.dflt).add (lastR cr i) c.length 2
  have hok := @relocE_ok sy.length (cr.getD i RT.rel.dflt).at_ (cr.getD i RT.rel.dflt).kind (cr.getD i RT.rel.dflt).sym (cr.getD i RT.rel.dflt).add (lastR cr i) c.length 2
  have hE := crE.eq_1 c m cr sy i
  simp only [Int.toNat_natCast]
  generalize relocE sy.length (cr.getD i RT.rel.dflt).at_ (cr.getD i RT.rel.dflt).kind (cr.getD i RT.rel.dflt).sym (cr.getD i RT.rel.dflt).add (lastR cr i) c.length 2 = e at *
  obtain ⟨hm, hmc⟩ := hm
  refine ⟨fun h => ?_, fun h => ?_⟩
  · have h := of_decide_eq_true h
    have hlt : i < cr.length := by omega
    refine ⟨by omega, fun _ => ⟨fun h2 => ?_, fun _ => ⟨fun h2 => ⟨fun _ => ?_, fun h => by cases h⟩, fun h2 => ⟨fun h3 => ?_, fun h3 => ?_⟩⟩⟩⟩
    · have h2 : e.isErr = false := by simpa using h2
      have := hok h2; omega
    · rw [if_pos h2] at hE
      obtain ⟨g1, g2⟩ := firstE_at hj (by rw [hE]; rfl) (by rw [hE]; rfl) hlt
      rw [hE] at g1
      exact ⟨by rw [g2]; rfl, g1, rfl, rfl⟩
    · rw [if_neg (by rw [h2]; simp)] at hE
      have h3 : e.isErr = true := by simpa using h3
      obtain ⟨g1, g2⟩ := firstE_at hj (by rw [hE]; exact h3) (by rw [hE]; exact hnp) hlt
      rw [hE] at g1
      exact ⟨by rw [g2]; rfl, g1, h3, hnp⟩
    · rw [if_neg (by rw [h2]; simp)] at hE
      have h3 : e.isErr = false := by simpa using h3
      refine ⟨hlt, firstE_fine hj (by rw [hE]; exact h3), ?_⟩
      simp [lastR, atM]; omega
  · have h := of_decide_eq_false h
    have : i = cr.length := by omega
    rw [← this, hj]
    simp [FErr.isErr]
def needE (c m : List Int) (cr : List Rel) (i : Nat) : FErr :=
  if (insB c m i && ((shortM (insI c m i).op && !decide (mapGet (atM cr cr.length) (i : Int) = 2)) || ((farM (insI c m i).op || decide ((insI c m i).op = 15)) && !decide (mapGet (atM cr cr.length) ((i : Int) + 1) = 1)))) = true then .bare 107 else .fine
def HNeeds (d c m : List Int) (dr cr : List Rel) (sy : List Sm) (i : Nat) : SState := { fr := [(1, .ptr 0 0), (7, .map 1), (99, .int .i64 (.full c.length)), (100, .int .i64 (.sym i 0 1000000))], hp := [(0, some (.cells [.ro .u32 d, .ro .u32 c, .ro .u8 m, .ro .rel dr, .ro .rel cr, .ro .sym sy])), (1, some (.intMap (atM cr cr.length)))], next := 2, sz := 144 }
def XNeeds (d c m : List Int) (dr cr : List Rel) (sy : List Sm) : SState := { fr := [(1, .ptr 0 0)], hp := [], next := 1, sz := 144 }
def YNeeds (d c m : List Int) (dr cr : List Rel) (sy : List Sm) : SState := { fr := [(2, .err (firstE (needE c m cr) c.length))], hp := [], next := 0, sz := 144 }
def LNeeds (d c m : List Int) (dr cr : List Rel) (sy : List Sm) : LSum := ⟨HNeeds d c m dr cr sy 0, fun k => .ite (!(firstE (needE c m cr) c.length).isErr) (k (.exit 4) (XNeeds d c m dr cr sy)) (k .ret (YNeeds d c m dr cr sy)), c.length ≤ 1000000⟩
theorem bNeeds (rest : List (Nat × SVal)) (d c m : List Int) (dr cr : List Rel) (sy : List Sm) (i : Nat) : (Tr.sat (rnd2 (env (G7 ++ rest) [(120, kreloc), (121, kshape), (58, kInstr), (122, kshort), (123, kfar)]) (fun i => firstE (needE c m cr) i = .fine) (c.length) (HNeeds d c m dr cr sy) 4 (!(firstE (needE c m cr) c.length).isErr) (XNeeds d c m dr cr sy) (YNeeds d c m dr cr sy) i) (run (env (G7 ++ rest) [(120, kreloc), (121, kshape), (58, kInstr), (122, kshort), (123, kfar)]) [] (loopN (bodyOf Tryd.f102) 2) (HNeeds d c m dr cr sy i) .leaf)) = (
  (decide ((↑i : Int) < (↑(List.length c) : Int)) = true → ((insB c m (↑i : Int) && (shortM (insI c m (↑i : Int)).op && !decide (mapGet (atM cr (List.length cr)) (↑i : Int) = (2 : Int)) || (farM (insI c m (↑i : Int)).op || decide ((insI c m (↑i : Int)).op = (15 : Int))) && !decide (mapGet (atM cr (List.length cr)) ((↑i : Int) + (1 : Int)) = (1 : Int)))) = true → (!FErr.isErr (firstE (needE c m cr) (List.length c))) = false ∧ firstE (needE c m cr) (List.length c) = FErr.placed (107 : Int) (↑i : Int) ∧ FErr.isErr (FErr.bare (107 : Int)) = true ∧ FErr.isPlaced (FErr.bare (107 : Int)) = false) ∧ ((insB c m (↑i : Int) && (shortM (insI c m (↑i : Int)).op && !decide (mapGet (atM cr (List.length cr)) (↑i : Int) = (2 : Int)) || (farM (insI c m (↑i : Int)).op || decide ((insI c m (↑i : Int)).op = (15 : Int))) && !decide (mapGet (atM cr (List.length cr)) ((↑i : Int) + (1 : Int)) = (1 : Int)))) = false → i < List.length c ∧ firstE (needE c m cr) (i + (1 : Nat)) = FErr.fine ∧ (↑(List.length c) : Int) = (↑(List.length c) : Int) ∧ (↑i : Int) + (1 : Int) = (↑(i + (1 : Nat)) : Int) ∧ ((0 : Int) ≤ (↑(i + (1 : Nat)) : Int) ∧ (↑(i + (1 : Nat)) : Int) ≤ (1000000 : Int)) ∧ d = d ∧ c = c ∧ m = m ∧ dr = dr ∧ cr = cr ∧ sy = sy ∧ atM cr (List.length cr) = atM cr (List.length cr))) ∧ (decide ((↑i : Int) < (↑(List.length c) : Int)) = false → Nat.beq (4 : Nat) (4 : Nat) = true ∧ (!FErr.isErr (firstE (needE c m cr) (List.length c))) = true ∧ True)) := by kernel_rfl
set_option maxHeartbeats 4000000 in
theorem lNeeds (d c m : List Int) (dr cr : List Rel) (sy : List Sm) {W : World} {R own0 : Nat → Prop} {ρ0 : Nat → Option Value} (hown : HownOk (env (G7 ++ rest) [(120, kreloc), (121, kshape), (58, kInstr), (122, kshort), (123, kfar)]) own0 ρ0) : LOk Tryd.prog (env (G7 ++ rest) [(120, kreloc), (121, kshape), (58, kInstr), (122, kshort), (123, kfar)]) (ctx ea has) (G7 ++ rest) W R own0 ρ0 (loopN (bodyOf Tryd.f102) 2) (LNeeds d c m dr cr sy) := by
  refine loop2_ok (env_ok (con := [(120, kreloc), (121, kshape), (58, kInstr), (122, kshort), (123, kfar)]) ⟨creloc, cshape, cInstr, cshort, cfar, trivial⟩) hown (ls := fun i => []) (fun i => noLoops (by kernel_rfl)) (fun hm i hi hj => (bNeeds rest d c m dr cr sy i).mpr ?_) 0 (fun hm => by first | exact Nat.zero_le _ | omega) (fun hm => rfl)
  have hE := needE.eq_1 c m cr i
  refine ⟨fun h => ?_, fun h => ?_⟩
  · have h := of_decide_eq_true h
    have hlt : i < c.length := by omega
    refine ⟨fun h2 => ?_, fun h2 => ?_⟩
    · rw [if_pos h2] at hE
      obtain ⟨g1, g2⟩ := firstE_at hj (by rw [hE]; rfl) (by rw [hE]; rfl) hlt
      rw [hE] at g1
      exact ⟨by rw [g2]; rfl, g1, rfl, rfl⟩
    · rw [if_neg (by rw [h2]; simp)] at hE
      refine ⟨hlt, firstE_fine hj (by rw [hE]; rfl), ?_⟩
      simp; omega
  · have h := of_decide_eq_false h
    have : i = c.length := by omega
    rw [← this, hj]
    simp [FErr.isErr]
def relocsE (d c m : List Int) (dr cr : List Rel) (sy : List Sm) : FErr :=
  if (firstE (drE d dr sy) dr.length).isErr = true then firstE (drE d dr sy) dr.length
  else if (firstE (crE c m cr sy) cr.length).isErr = true then firstE (crE c m cr sy) cr.length
  else firstE (needE c m cr) c.length
def krelocs : List SVal → Nat → Acc ORes := fun a n => match a with | [.agg [.ro .u32 d, .ro .u32 c, .ro .u8 m, .ro .rel dr, .ro .rel cr, .ro .sym sy]] => .ret ({ v := .err (relocsE d c m dr cr sy), vc := some (dr.length ≤ 1000000 ∧ cr.length ≤ 1000000 ∧ c.length ≤ 1000000 ∧ m.length = c.length) }) | _ => .fail "relocs"
theorem argrelocs (d c m : List Int) (dr cr : List Rel) (sy : List Sm) : (all (subL 134 none' [] deep [.agg [.ro .u32 d, .ro .u32 c, .ro .u8 m, .ro .rel dr, .ro .rel cr, .ro .sym sy]] [.agg [.ro .u32 d, .ro .u32 c, .ro .u8 m, .ro .rel dr, .ro .rel cr, .ro .sym sy]])) = (
  d = d ∧ c = c ∧ m = m ∧ dr = dr ∧ cr = cr ∧ sy = sy) := by kernel_rfl
theorem runrelocs (rest : List (Nat × SVal)) (d c m : List Int) (dr cr : List Rel) (sy : List Sm) : (Tr.sat (plainQ (.err (relocsE d c m dr cr sy))) (run (env (G7 ++ rest) [(120, kreloc), (121, kshape), (58, kInstr), (122, kshort), (123, kfar)]) [(3, LDRels d c m dr cr sy), (15, LCRels d c m dr cr sy), (26, LNeeds d c m dr cr sy)] (bodyOf Tryd.f102) (start [.agg [.ro .u32 d, .ro .u32 c, .ro .u8 m, .ro .rel dr, .ro .rel cr, .ro .sym sy]] 144) (ends (env (G7 ++ rest) [(120, kreloc), (121, kshape), (58, kInstr), (122, kshort), (123, kfar)]) Tryd.f102.results.toList))) = (
  (List.length dr ≤ (1000000 : Nat) ∧ (-1 : Int) = lastR dr (0 : Nat) ∧ dr = dr ∧ (↑(List.length dr) : Int) = (↑(List.length dr) : Int) ∧ (0 : Int) = (↑(0 : Nat) : Int) ∧ d = d ∧ c = c ∧ m = m ∧ dr = dr ∧ cr = cr ∧ sy = sy) ∧ (List.length dr ≤ (1000000 : Nat) ∧ (-1 : Int) = lastR dr (0 : Nat) ∧ dr = dr ∧ (↑(List.length dr) : Int) = (↑(List.length dr) : Int) ∧ (0 : Int) = (↑(0 : Nat) : Int) ∧ d = d ∧ c = c ∧ m = m ∧ dr = dr ∧ cr = cr ∧ sy = sy → ((!FErr.isErr (firstE (drE d dr sy) (List.length dr))) = true → ((List.length cr ≤ (1000000 : Nat) ∧ List.length m = List.length c) ∧ (-1 : Int) = lastR cr (0 : Nat) ∧ cr = cr ∧ (↑(List.length cr) : Int) = (↑(List.length cr) : Int) ∧ (0 : Int) = (↑(0 : Nat) : Int) ∧ d = d ∧ c = c ∧ m = m ∧ dr = dr ∧ cr = cr ∧ sy = sy ∧ [] = atM cr (0 : Nat)) ∧ ((List.length cr ≤ (1000000 : Nat) ∧ List.length m = List.length c) ∧ (-1 : Int) = lastR cr (0 : Nat) ∧ cr = cr ∧ (↑(List.length cr) : Int) = (↑(List.length cr) : Int) ∧ (0 : Int) = (↑(0 : Nat) : Int) ∧ d = d ∧ c = c ∧ m = m ∧ dr = dr ∧ cr = cr ∧ sy = sy ∧ [] = atM cr (0 : Nat) → ((!FErr.isErr (firstE (crE c m cr sy) (List.length cr))) = true → (List.length c ≤ (1000000 : Nat) ∧ (↑(List.length c) : Int) = (↑(List.length c) : Int) ∧ (0 : Int) = (↑(0 : Nat) : Int) ∧ d = d ∧ c = c ∧ m = m ∧ dr = dr ∧ cr = cr ∧ sy = sy ∧ atM cr (List.length cr) = atM cr (List.length cr)) ∧ (List.length c ≤ (1000000 : Nat) ∧ (↑(List.length c) : Int) = (↑(List.length c) : Int) ∧ (0 : Int) = (↑(0 : Nat) : Int) ∧ d = d ∧ c = c ∧ m = m ∧ dr = dr ∧ cr = cr ∧ sy = sy ∧ atM cr (List.length cr) = atM cr (List.length cr) → ((!FErr.isErr (firstE (needE c m cr) (List.length c))) = true → FErr.fine = relocsE d c m dr cr sy) ∧ ((!FErr.isErr (firstE (needE c m cr) (List.length c))) = false → firstE (needE c m cr) (List.length c) = relocsE d c m dr cr sy))) ∧ ((!FErr.isErr (firstE (crE c m cr sy) (List.length cr))) = false → firstE (crE c m cr sy) (List.length cr) = relocsE d c m dr cr sy))) ∧ ((!FErr.isErr (firstE (drE d dr sy) (List.length dr))) = false → firstE (drE d dr sy) (List.length dr) = relocsE d c m dr cr sy))) := by kernel_rfl
set_option maxHeartbeats 4000000 in
theorem crelocs : Con ea has (G7 ++ rest) 102 krelocs := by
  refine plain_mk Tryd.func102 144 (con := [(120, kreloc), (121, kshape), (58, kInstr), (122, kshort), (123, kfar)]) ⟨creloc, cshape, cInstr, cshort, cfar, trivial⟩ (fun hA hr hv => ?_) (by kernel_rfl) (by kernel_rfl) Tryd.ntmps102
  unfold krelocs at hr; split at hr
  · rename_i d c m dr cr sy
    have := ret_ok hr; subst this
    replace hv := hv _ rfl
    refine ⟨_, [(3, LDRels d c m dr cr sy), (15, LCRels d c m dr cr sy), (26, LNeeds d c m dr cr sy)], rfl, rfl, (argrelocs d c m dr cr sy).mpr (by simp), rfl, (fun W R ρ0 own0 hown => hl3 (by kernel_rfl) (by kernel_rfl) (lDRels d c m dr cr sy hown) (by kernel_rfl) (lCRels d c m dr cr sy hown) (by kernel_rfl) (lNeeds d c m dr cr sy hown)), (runrelocs rest d c m dr cr sy).mpr ?_⟩
    clear hr
    clear hA
    refine ⟨by simp [lastR, hv], fun _ => ⟨fun h => ⟨by simp [lastR, atM, hv], fun _ => ⟨fun h2 => ⟨by simp [hv], fun _ => ⟨fun h3 => ?_, fun h3 => ?_⟩⟩, fun h2 => ?_⟩⟩, fun h => ?_⟩⟩
    · rw [relocsE, if_neg (by simpa using h), if_neg (by simpa using h2)]; exact (fine_of (by simpa using h3)).symm
    · rw [relocsE, if_neg (by simpa using h), if_neg (by simpa using h2)]
    · rw [relocsE, if_neg (by simpa using h), if_pos (by simpa using h2)]
    · rw [relocsE, if_pos (by simpa using h)]
  · cases hr
def wdE (c m : List Int) (i : Nat) : FErr := wordE c m i
theorem wordE_np (c m : List Int) (i : Int) : (wordE c m i).isPlaced = false := by
  unfold wordE; repeat (first | rfl | split)
def HWords (d c m : List Int) (dr cr : List Rel) (sy : List Sm) (i : Nat) : SState := { fr := [(1, .nilFunc), (2, .ptr 0 0), (52, .int .i64 (.full c.length)), (53, .int .i64 (.sym i 0 1000000))], hp := [(0, some (.cells [.ro .u32 d, .ro .u32 c, .ro .u8 m, .ro .rel dr, .ro .rel cr, .ro .sym sy]))], next := 1, sz := 91 }
def XWords (d c m : List Int) (dr cr : List Rel) (sy : List Sm) : SState := { fr := [(2, .ptr 0 0)], hp := [(0, some (.cells [.ro .u32 d, .ro .u32 c, .ro .u8 m, .ro .rel dr, .ro .rel cr, .ro .sym sy]))], next := 1, sz := 91 }
def YWords (d c m : List Int) (dr cr : List Rel) (sy : List Sm) : SState := { fr := [(4, .err (firstE (wdE c m) c.length))], hp := [], next := 0, sz := 91 }
def LWords (d c m : List Int) (dr cr : List Rel) (sy : List Sm) : LSum := ⟨HWords d c m dr cr sy 0, fun k => .ite (!(firstE (wdE c m) c.length).isErr) (k (.exit 1) (XWords d c m dr cr sy)) (k .ret (YWords d c m dr cr sy)), c.length ≤ 1000000 ∧ m.length = c.length⟩
theorem bWords (rest : List (Nat × SVal)) (d c m : List Int) (dr cr : List Rel) (sy : List Sm) (i : Nat) : (Tr.sat (rnd2 (env (G7 ++ rest) [(100, kword), (101, ksymbol), (102, krelocs)]) (fun i => firstE (wdE c m) i = .fine) (c.length) (HWords d c m dr cr sy) 1 (!(firstE (wdE c m) c.length).isErr) (XWords d c m dr cr sy) (YWords d c m dr cr sy) i) (run (env (G7 ++ rest) [(100, kword), (101, ksymbol), (102, krelocs)]) [] (loopN (bodyOf Tryd.f67) 0) (HWords d c m dr cr sy i) .leaf)) = (
  (decide ((↑i : Int) < (↑(List.length c) : Int)) = true → ((0 : Int) ≤ (↑i : Int) ∧ (↑i : Int) < (↑(List.length m) : Int) ∧ List.length m = List.length c ∧ List.length m ≤ (1000000 : Nat)) ∧ ((0 : Int) ≤ (↑i : Int) ∧ (↑i : Int) < (↑(List.length m) : Int) ∧ List.length m = List.length c ∧ List.length m ≤ (1000000 : Nat) → ((!!FErr.isErr (wordE c m (↑i : Int))) = true → (!FErr.isErr (firstE (wdE c m) (List.length c))) = false ∧ (firstE (wdE c m) (List.length c) = match wordE c m (↑i : Int) with | FErr.bare n => FErr.placed n (↑i : Int) | x => FErr.fine) ∧ FErr.isErr (wordE c m (↑i : Int)) = true ∧ FErr.isPlaced (wordE c m (↑i : Int)) = false) ∧ ((!!FErr.isErr (wordE c m (↑i : Int))) = false → i < List.length c ∧ firstE (wdE c m) (i + (1 : Nat)) = FErr.fine ∧ (↑(List.length c) : Int) = (↑(List.length c) : Int) ∧ (↑i : Int) + (1 : Int) = (↑(i + (1 : Nat)) : Int) ∧ ((0 : Int) ≤ (↑(i + (1 : Nat)) : Int) ∧ (↑(i + (1 : Nat)) : Int) ≤ (1000000 : Int)) ∧ d = d ∧ c = c ∧ m = m ∧ dr = dr ∧ cr = cr ∧ sy = sy))) ∧ (decide ((↑i : Int) < (↑(List.length c) : Int)) = false → Nat.beq (1 : Nat) (1 : Nat) = true ∧ (!FErr.isErr (firstE (wdE c m) (List.length c))) = true ∧ d = d ∧ c = c ∧ m = m ∧ dr = dr ∧ cr = cr ∧ sy = sy)) := by kernel_rfl
set_option maxHeartbeats 4000000 in
theorem lWords (d c m : List Int) (dr cr : List Rel) (sy : List Sm) {W : World} {R own0 : Nat → Prop} {ρ0 : Nat → Option Value} (hown : HownOk (env (G7 ++ rest) [(100, kword), (101, ksymbol), (102, krelocs)]) own0 ρ0) : LOk Tryd.prog (env (G7 ++ rest) [(100, kword), (101, ksymbol), (102, krelocs)]) (ctx ea has) (G7 ++ rest) W R own0 ρ0 (loopN (bodyOf Tryd.f67) 0) (LWords d c m dr cr sy) := by
  refine loop2_ok (env_ok (con := [(100, kword), (101, ksymbol), (102, krelocs)]) ⟨cword, csymbol, crelocs, trivial⟩) hown (ls := fun i => []) (fun i => noLoops (by kernel_rfl)) (fun hm i hi hj => (bWords rest d c m dr cr sy i).mpr ?_) 0 (fun hm => by first | exact Nat.zero_le _ | omega) (fun hm => rfl)
  have hE2 : wdE c m i = wordE c m i := rfl
  have hnp := wordE_np c m i
  generalize wordE c m i = e at *
  obtain ⟨hm, hmc⟩ := hm
  refine ⟨fun h => ?_, fun h => ?_⟩
  · have h := of_decide_eq_true h
    have hlt : i < c.length := by omega
    refine ⟨by omega, fun _ => ⟨fun h3 => ?_, fun h3 => ?_⟩⟩
    · have h3 : e.isErr = true := by simpa using h3
      obtain ⟨g1, g2⟩ := firstE_at hj (by rw [hE2]; exact h3) (by rw [hE2]; exact hnp) hlt
      rw [hE2] at g1
      exact ⟨by rw [g2]; rfl, g1, h3, hnp⟩
    · have h3 : e.isErr = false := by simpa using h3
      refine ⟨hlt, firstE_fine hj (by rw [hE2]; exact h3), ?_⟩
      simp; omega
  · have h := of_decide_eq_false h
    have : i = c.length := by omega
    rw [← this, hj]
    simp [FErr.isErr]
def mpS (sy : List Sm) : Nat → List (ByteArray × Int)
  | 0 => []
  | i + 1 => symMp (sy.getD i RT.sym.dflt).name (mpS sy i)
def syE (d c m : List Int) (sy : List Sm) (i : Nat) : FErr := symE d c m (sy.getD i RT.sym.dflt).name (sy.getD i RT.sym.dflt).in_ (sy.getD i RT.sym.dflt).value (sy.getD i RT.sym.dflt).global (mpS sy i)
theorem symE_np (d c m : List Int) (nm : ByteArray) (a v : Int) (g : Bool) (mp : List (ByteArray × Int)) : (symE d c m nm a v g mp).isPlaced = false := by
  unfold symE; repeat (first | rfl | split)
theorem mpS_le (sy : List Sm) (k : ByteArray) : ∀ n, 0 ≤ mapGet (mpS sy n) k ∧ mapGet (mpS sy n) k ≤ n
  | 0 => ⟨Int.le_refl _, Int.le_refl _⟩
  | n + 1 => by
    have h := mpS_le sy k n
    have h2 := mpS_le sy (sy.getD n RT.sym.dflt).name n
    unfold mpS symMp
    split
    · omega
    · by_cases e : (sy.getD n RT.sym.dflt).name = k
      · rw [e, get_put]; rw [e] at h2; omega
      · rw [get_put_ne _ _ _ _ e]; omega
def HSyms (d c m : List Int) (dr cr : List Rel) (sy : List Sm) (i : Nat) : SState := { fr := [(2, .ptr 0 0), (7, .map 1), (70, .ro .sym sy), (71, .int .i64 (.full sy.length)), (72, .int .i64 (.sym i 0 1000000))], hp := [(0, some (.cells [.ro .u32 d, .ro .u32 c, .ro .u8 m, .ro .rel dr, .ro .rel cr, .ro .sym sy])), (1, some (.strMap (mpS sy i)))], next := 2, sz := 91 }
def XSyms (d c m : List Int) (dr cr : List Rel) (sy : List Sm) : SState := { fr := [(2, .ptr 0 0)], hp := [(0, some (.cells [.ro .u32 d, .ro .u32 c, .ro .u8 m, .ro .rel dr, .ro .rel cr, .ro .sym sy]))], next := 1, sz := 91 }
def YSyms (d c m : List Int) (dr cr : List Rel) (sy : List Sm) : SState := { fr := [(4, .err (firstE (syE d c m sy) sy.length))], hp := [], next := 0, sz := 91 }
def LSyms (d c m : List Int) (dr cr : List Rel) (sy : List Sm) : LSum := ⟨HSyms d c m dr cr sy 0, fun k => .ite (!(firstE (syE d c m sy) sy.length).isErr) (k (.exit 3) (XSyms d c m dr cr sy)) (k .ret (YSyms d c m dr cr sy)), sy.length ≤ 1000000 ∧ m.length = c.length⟩
theorem bSyms (rest : List (Nat × SVal)) (d c m : List Int) (dr cr : List Rel) (sy : List Sm) (i : Nat) : (Tr.sat (rnd2 (env (G7 ++ rest) [(100, kword), (101, ksymbol), (102, krelocs)]) (fun i => firstE (syE d c m sy) i = .fine) (sy.length) (HSyms d c m dr cr sy) 3 (!(firstE (syE d c m sy) sy.length).isErr) (XSyms d c m dr cr sy) (YSyms d c m dr cr sy) i) (run (env (G7 ++ rest) [(100, kword), (101, ksymbol), (102, krelocs)]) [] (loopN (bodyOf Tryd.f67) 1) (HSyms d c m dr cr sy i) .leaf)) = (
  (decide ((↑i : Int) < (↑(List.length sy) : Int)) = true → ((0 : Int) ≤ (↑i : Int) ∧ (↑i : Int) < (↑(List.length sy) : Int)) ∧ ((0 : Int) ≤ (↑i : Int) ∧ (↑i : Int) < (↑(List.length sy) : Int) → (mapGet (mpS sy i) (List.getD sy (Int.toNat (↑i : Int)) (RT.dflt RT.sym)).name ≤ (1000000 : Int) ∧ (0 : Int) ≤ mapGet (mpS sy i) (List.getD sy (Int.toNat (↑i : Int)) (RT.dflt RT.sym)).name ∧ List.length m = List.length c) ∧ (mapGet (mpS sy i) (List.getD sy (Int.toNat (↑i : Int)) (RT.dflt RT.sym)).name ≤ (1000000 : Int) ∧ (0 : Int) ≤ mapGet (mpS sy i) (List.getD sy (Int.toNat (↑i : Int)) (RT.dflt RT.sym)).name ∧ List.length m = List.length c → ((!!FErr.isErr (symE d c m (List.getD sy (Int.toNat (↑i : Int)) (RT.dflt RT.sym)).name (List.getD sy (Int.toNat (↑i : Int)) (RT.dflt RT.sym)).in_ (List.getD sy (Int.toNat (↑i : Int)) (RT.dflt RT.sym)).value (List.getD sy (Int.toNat (↑i : Int)) (RT.dflt RT.sym)).global (mpS sy i))) = true → (!FErr.isErr (firstE (syE d c m sy) (List.length sy))) = false ∧ (firstE (syE d c m sy) (List.length sy) = match symE d c m (List.getD sy (Int.toNat (↑i : Int)) (RT.dflt RT.sym)).name (List.getD sy (Int.toNat (↑i : Int)) (RT.dflt RT.sym)).in_ (List.getD sy (Int.toNat (↑i : Int)) (RT.dflt RT.sym)).value (List.getD sy (Int.toNat (↑i : Int)) (RT.dflt RT.sym)).global (mpS sy i) with | FErr.bare n => FErr.placed n (↑i : Int) | x => FErr.fine) ∧ FErr.isErr (symE d c m (List.getD sy (Int.toNat (↑i : Int)) (RT.dflt RT.sym)).name (List.getD sy (Int.toNat (↑i : Int)) (RT.dflt RT.sym)).in_ (List.getD sy (Int.toNat (↑i : Int)) (RT.dflt RT.sym)).value (List.getD sy (Int.toNat (↑i : Int)) (RT.dflt RT.sym)).global (mpS sy i)) = true ∧ FErr.isPlaced (symE d c m (List.getD sy (Int.toNat (↑i : Int)) (RT.dflt RT.sym)).name (List.getD sy (Int.toNat (↑i : Int)) (RT.dflt RT.sym)).in_ (List.getD sy (Int.toNat (↑i : Int)) (RT.dflt RT.sym)).value (List.getD sy (Int.toNat (↑i : Int)) (RT.dflt RT.sym)).global (mpS sy i)) = false) ∧ ((!!FErr.isErr (symE d c m (List.getD sy (Int.toNat (↑i : Int)) (RT.dflt RT.sym)).name (List.getD sy (Int.toNat (↑i : Int)) (RT.dflt RT.sym)).in_ (List.getD sy (Int.toNat (↑i : Int)) (RT.dflt RT.sym)).value (List.getD sy (Int.toNat (↑i : Int)) (RT.dflt RT.sym)).global (mpS sy i))) = false → i < List.length sy ∧ firstE (syE d c m sy) (i + (1 : Nat)) = FErr.fine ∧ sy = sy ∧ (↑(List.length sy) : Int) = (↑(List.length sy) : Int) ∧ (↑i : Int) + (1 : Int) = (↑(i + (1 : Nat)) : Int) ∧ ((0 : Int) ≤ (↑(i + (1 : Nat)) : Int) ∧ (↑(i + (1 : Nat)) : Int) ≤ (1000000 : Int)) ∧ d = d ∧ c = c ∧ m = m ∧ dr = dr ∧ cr = cr ∧ sy = sy ∧ symMp (List.getD sy (Int.toNat (↑i : Int)) (RT.dflt RT.sym)).name (mpS sy i) = mpS sy (i + (1 : Nat)))))) ∧ (decide ((↑i : Int) < (↑(List.length sy) : Int)) = false → Nat.beq (3 : Nat) (3 : Nat) = true ∧ (!FErr.isErr (firstE (syE d c m sy) (List.length sy))) = true ∧ d = d ∧ c = c ∧ m = m ∧ dr = dr ∧ cr = cr ∧ sy = sy)) := by kernel_rfl
set_option maxHeartbeats 4000000 in
theorem lSyms (d c m : List Int) (dr cr : List Rel) (sy : List Sm) {W : World} {R own0 : Nat → Prop} {ρ0 : Nat → Option Value} (hown : HownOk (env (G7 ++ rest) [(100, kword), (101, ksymbol), (102, krelocs)]) own0 ρ0) : LOk Tryd.prog (env (G7 ++ rest) [(100, kword), (101, ksymbol), (102, krelocs)]) (ctx ea has) (G7 ++ rest) W R own0 ρ0 (loopN (bodyOf Tryd.f67) 1) (LSyms d c m dr cr sy) := by
  refine loop2_ok (env_ok (con := [(100, kword), (101, ksymbol), (102, krelocs)]) ⟨cword, csymbol, crelocs, trivial⟩) hown (ls := fun i => []) (fun i => noLoops (by kernel_rfl)) (fun hm i hi hj => (bSyms rest d c m dr cr sy i).mpr ?_) 0 (fun hm => by first | exact Nat.zero_le _ | omega) (fun hm => rfl)
  have hE2 : syE d c m sy i = _ := syE.eq_1 d c m sy i
  have hnp := symE_np d c m (sy.getD i RT.sym.dflt).name (sy.getD i RT.sym.dflt).in_ (sy.getD i RT.sym.dflt).value (sy.getD i RT.sym.dflt).global (mpS sy i)
  have hle := mpS_le sy (sy.getD i RT.sym.dflt).name i
  simp only [Int.toNat_natCast]
  generalize symE d c m (sy.getD i RT.sym.dflt).name (sy.getD i RT.sym.dflt).in_ (sy.getD i RT.sym.dflt).value (sy.getD i RT.sym.dflt).global (mpS sy i) = e at *
  obtain ⟨hm, hmc⟩ := hm
  refine ⟨fun h => ?_, fun h => ?_⟩
  · have h := of_decide_eq_true h
    have hlt : i < sy.length := by omega
    refine ⟨by omega, fun _ => ⟨by omega, fun _ => ⟨fun h3 => ?_, fun h3 => ?_⟩⟩⟩
    · have h3 : e.isErr = true := by simpa using h3
      obtain ⟨g1, g2⟩ := firstE_at hj (by rw [hE2]; exact h3) (by rw [hE2]; exact hnp) hlt
      rw [hE2] at g1
      exact ⟨by rw [g2]; rfl, g1, h3, hnp⟩
    · have h3 : e.isErr = false := by simpa using h3
      refine ⟨hlt, firstE_fine hj (by rw [hE2]; exact h3), ?_⟩
      simp [mpS]; omega
  · have h := of_decide_eq_false h
    have : i = sy.length := by omega
    rw [← this, hj]
    simp [FErr.isErr]
def manyB (d c : List Int) (dr cr : List Rel) (sy : List Sm) : Bool :=
  decide ((2048 : Int) < d.length) || decide ((2048 : Int) < c.length) || decide ((1024 : Int) < dr.length) || decide ((1024 : Int) < cr.length) || decide ((256 : Int) < sy.length)
def validE (d c m : List Int) (dr cr : List Rel) (sy : List Sm) : FErr :=
  if manyB d c dr cr sy = true then .bare 104 else if (!decide ((m.length : Int) = c.length)) = true then .bare 109
  else if (firstE (wdE c m) c.length).isErr = true then firstE (wdE c m) c.length
  else if (firstE (syE d c m sy) sy.length).isErr = true then firstE (syE d c m sy) sy.length
  else relocsE d c m dr cr sy
def kValidBut : List SVal → Nat → Acc ORes := fun a n => match a with | [.agg [.ro .u32 d, .ro .u32 c, .ro .u8 m, .ro .rel dr, .ro .rel cr, .ro .sym sy], .nilFunc] => .ret ({ v := .err (validE d c m dr cr sy) }) | _ => .fail "ValidBut"
theorem argValidBut (d c m : List Int) (dr cr : List Rel) (sy : List Sm) : (all (subL 134 none' [] deep [.agg [.ro .u32 d, .ro .u32 c, .ro .u8 m, .ro .rel dr, .ro .rel cr, .ro .sym sy], .nilFunc] [.agg [.ro .u32 d, .ro .u32 c, .ro .u8 m, .ro .rel dr, .ro .rel cr, .ro .sym sy], .nilFunc])) = (
  d = d ∧ c = c ∧ m = m ∧ dr = dr ∧ cr = cr ∧ sy = sy) := by kernel_rfl
theorem runValidBut (rest : List (Nat × SVal)) (d c m : List Int) (dr cr : List Rel) (sy : List Sm) : (Tr.sat (plainQ (.err (validE d c m dr cr sy))) (run (env (G7 ++ rest) [(100, kword), (101, ksymbol), (102, krelocs)]) [(6, LWords d c m dr cr sy), (14, LSyms d c m dr cr sy)] (bodyOf Tryd.f67) (start [.agg [.ro .u32 d, .ro .u32 c, .ro .u8 m, .ro .rel dr, .ro .rel cr, .ro .sym sy], .nilFunc] 91) (ends (env (G7 ++ rest) [(100, kword), (101, ksymbol), (102, krelocs)]) Tryd.f67.results.toList))) = (
  ((decide ((2048 : Int) < (↑(List.length d) : Int)) || decide ((2048 : Int) < (↑(List.length c) : Int)) || decide ((1024 : Int) < (↑(List.length dr) : Int)) || decide ((1024 : Int) < (↑(List.length cr) : Int)) || decide ((256 : Int) < (↑(List.length sy) : Int))) = true → FErr.bare (104 : Int) = validE d c m dr cr sy) ∧ ((decide ((2048 : Int) < (↑(List.length d) : Int)) || decide ((2048 : Int) < (↑(List.length c) : Int)) || decide ((1024 : Int) < (↑(List.length dr) : Int)) || decide ((1024 : Int) < (↑(List.length cr) : Int)) || decide ((256 : Int) < (↑(List.length sy) : Int))) = false → ((!decide ((↑(List.length m) : Int) = (↑(List.length c) : Int))) = true → FErr.bare (109 : Int) = validE d c m dr cr sy) ∧ ((!decide ((↑(List.length m) : Int) = (↑(List.length c) : Int))) = false → ((List.length c ≤ (1000000 : Nat) ∧ List.length m = List.length c) ∧ (↑(List.length c) : Int) = (↑(List.length c) : Int) ∧ (0 : Int) = (↑(0 : Nat) : Int) ∧ d = d ∧ c = c ∧ m = m ∧ dr = dr ∧ cr = cr ∧ sy = sy) ∧ ((List.length c ≤ (1000000 : Nat) ∧ List.length m = List.length c) ∧ (↑(List.length c) : Int) = (↑(List.length c) : Int) ∧ (0 : Int) = (↑(0 : Nat) : Int) ∧ d = d ∧ c = c ∧ m = m ∧ dr = dr ∧ cr = cr ∧ sy = sy → ((!FErr.isErr (firstE (wdE c m) (List.length c))) = true → ((List.length sy ≤ (1000000 : Nat) ∧ List.length m = List.length c) ∧ sy = sy ∧ (↑(List.length sy) : Int) = (↑(List.length sy) : Int) ∧ (0 : Int) = (↑(0 : Nat) : Int) ∧ d = d ∧ c = c ∧ m = m ∧ dr = dr ∧ cr = cr ∧ sy = sy ∧ [] = mpS sy (0 : Nat)) ∧ ((List.length sy ≤ (1000000 : Nat) ∧ List.length m = List.length c) ∧ sy = sy ∧ (↑(List.length sy) : Int) = (↑(List.length sy) : Int) ∧ (0 : Int) = (↑(0 : Nat) : Int) ∧ d = d ∧ c = c ∧ m = m ∧ dr = dr ∧ cr = cr ∧ sy = sy ∧ [] = mpS sy (0 : Nat) → ((!FErr.isErr (firstE (syE d c m sy) (List.length sy))) = true → (List.length dr ≤ (1000000 : Nat) ∧ List.length cr ≤ (1000000 : Nat) ∧ List.length c ≤ (1000000 : Nat) ∧ List.length m = List.length c) ∧ (List.length dr ≤ (1000000 : Nat) ∧ List.length cr ≤ (1000000 : Nat) ∧ List.length c ≤ (1000000 : Nat) ∧ List.length m = List.length c → relocsE d c m dr cr sy = validE d c m dr cr sy)) ∧ ((!FErr.isErr (firstE (syE d c m sy) (List.length sy))) = false → firstE (syE d c m sy) (List.length sy) = validE d c m dr cr sy))) ∧ ((!FErr.isErr (firstE (wdE c m) (List.length c))) = false → firstE (wdE c m) (List.length c) = validE d c m dr cr sy))))) := by kernel_rfl
set_option maxHeartbeats 4000000 in
theorem cValidBut : Con ea has (G7 ++ rest) 67 kValidBut := by
  refine plain_mk Tryd.func67 91 (con := [(100, kword), (101, ksymbol), (102, krelocs)]) ⟨cword, csymbol, crelocs, trivial⟩ (fun hA hr hv => ?_) (by kernel_rfl) (by kernel_rfl) Tryd.ntmps67
  unfold kValidBut at hr; split at hr
  · rename_i d c m dr cr sy
    have := ret_ok hr; subst this
    refine ⟨_, [(6, LWords d c m dr cr sy), (14, LSyms d c m dr cr sy)], rfl, rfl, (argValidBut d c m dr cr sy).mpr (by simp), rfl, (fun W R ρ0 own0 hown => hl2 (by kernel_rfl) (by kernel_rfl) (lWords d c m dr cr sy hown) (by kernel_rfl) (lSyms d c m dr cr sy hown)), (runValidBut rest d c m dr cr sy).mpr ?_⟩
    clear hr
    refine ⟨fun h => ?_, fun h => ⟨fun h2 => ?_, fun h2 => ?_⟩⟩
    · rw [validE, if_pos (show manyB d c dr cr sy = true from h)]
    · rw [validE, if_neg (show ¬ manyB d c dr cr sy = true by rw [show manyB d c dr cr sy = false from h]; simp), if_pos h2]
    · have hv : validE d c m dr cr sy = _ := validE.eq_1 d c m dr cr sy
      rw [if_neg (show ¬ manyB d c dr cr sy = true by rw [show manyB d c dr cr sy = false from h]; simp), if_neg (by rw [h2]; simp)] at hv
      have hmc : m.length = c.length := by simp at h2; omega
      simp only [Bool.or_eq_false_iff, decide_eq_false_iff_not] at h
      refine ⟨by simp [hmc]; omega, fun _ => ⟨fun h3 => ⟨by simp [mpS, hmc]; omega, fun _ => ⟨fun h4 => ⟨by omega, fun _ => ?_⟩, fun h4 => ?_⟩⟩, fun h3 => ?_⟩⟩
      · rw [if_neg (by simpa using h3), if_neg (by simpa using h4)] at hv; exact hv.symm
      · rw [if_neg (by simpa using h3), if_pos (by simpa using h4)] at hv; exact hv.symm
      · rw [if_pos (by simpa using h3)] at hv; exact hv.symm
  · cases hr
def kValid : List SVal → Nat → Acc ORes := fun a n => match a with | [.agg [.ro .u32 d, .ro .u32 c, .ro .u8 m, .ro .rel dr, .ro .rel cr, .ro .sym sy]] => .ret ({ v := .err (validE d c m dr cr sy) }) | _ => .fail "Valid"
theorem argValid (d c m : List Int) (dr cr : List Rel) (sy : List Sm) : (all (subL 134 none' [] deep [.agg [.ro .u32 d, .ro .u32 c, .ro .u8 m, .ro .rel dr, .ro .rel cr, .ro .sym sy]] [.agg [.ro .u32 d, .ro .u32 c, .ro .u8 m, .ro .rel dr, .ro .rel cr, .ro .sym sy]])) = (
  d = d ∧ c = c ∧ m = m ∧ dr = dr ∧ cr = cr ∧ sy = sy) := by kernel_rfl
theorem runValid (rest : List (Nat × SVal)) (d c m : List Int) (dr cr : List Rel) (sy : List Sm) : (Tr.sat (plainQ (.err (validE d c m dr cr sy))) (run (env (G7 ++ rest) [(67, kValidBut)]) [] (bodyOf Tryd.f28) (start [.agg [.ro .u32 d, .ro .u32 c, .ro .u8 m, .ro .rel dr, .ro .rel cr, .ro .sym sy]] 5) (ends (env (G7 ++ rest) [(67, kValidBut)]) Tryd.f28.results.toList))) = (
  validE d c m dr cr sy = validE d c m dr cr sy) := by kernel_rfl
set_option maxHeartbeats 4000000 in
theorem cValid : Con ea has (G7 ++ rest) 28 kValid := by
  refine plain_mk Tryd.func28 5 (con := [(67, kValidBut)]) ⟨cValidBut, trivial⟩ (fun hA hr hv => ?_) (by kernel_rfl) (by kernel_rfl) Tryd.ntmps28
  unfold kValid at hr; split at hr
  · rename_i d c m dr cr sy
    have := ret_ok hr; subst this
    refine ⟨_, [], rfl, rfl, (argValid d c m dr cr sy).mpr (by simp), rfl, (fun W R ρ0 own0 hown => noLoops (by kernel_rfl)), (runValid rest d c m dr cr sy).mpr ?_⟩
    clear hr
    rfl
  · cases hr
end
end Go.Proofs.YtbdfibaljoedpaaDoor

set_option linter.unusedVariables false
set_option linter.unusedSimpArgs false
namespace Go.Proofs.YtbdfibaljoedpaaDoor
open Go.RowKit Go.Sy Go.Fac
section
variable {ea : Int → Addr} {has : Int → Prop} {gl : List (Nat × SVal)}
def nilR (t : RT) : List t.ty := []
def kAt : List SVal → Nat → Acc ORes := fun a n => match a with | [.str nm] => .ret ({ v := .agg (RT.line.enc ⟨⟨0, 0, 0, 0, 0⟩, nm, ByteArray.empty, false⟩) }) | _ => .fail "At"
theorem argAt (nm : ByteArray) : (all (subL 134 none' [] deep [.str nm] [.str nm])) = (
  nm = nm) := by kernel_rfl
theorem runAt (gl : List (Nat × SVal)) (nm : ByteArray) : (Tr.sat (plainQ (.agg (RT.line.enc ⟨⟨0, 0, 0, 0, 0⟩, nm, ByteArray.empty, false⟩))) (run (env gl []) [] (bodyOf Tryd.f23) (start [.str nm] 5) (ends (env gl []) Tryd.f23.results.toList))) = (
  (0 : Int) = (Ln.mk (In5.mk (0 : Int) (0 : Int) (0 : Int) (0 : Int) (0 : Int)) nm ByteArray.empty false).i.op ∧ (0 : Int) = (Ln.mk (In5.mk (0 : Int) (0 : Int) (0 : Int) (0 : Int) (0 : Int)) nm ByteArray.empty false).i.a ∧ (0 : Int) = (Ln.mk (In5.mk (0 : Int) (0 : Int) (0 : Int) (0 : Int) (0 : Int)) nm ByteArray.empty false).i.b ∧ (0 : Int) = (Ln.mk (In5.mk (0 : Int) (0 : Int) (0 : Int) (0 : Int) (0 : Int)) nm ByteArray.empty false).i.c ∧ (0 : Int) = (Ln.mk (In5.mk (0 : Int) (0 : Int) (0 : Int) (0 : Int) (0 : Int)) nm ByteArray.empty false).i.imm ∧ nm = (Ln.mk (In5.mk (0 : Int) (0 : Int) (0 : Int) (0 : Int) (0 : Int)) nm ByteArray.empty false).name ∧ ByteArray.empty = (Ln.mk (In5.mk (0 : Int) (0 : Int) (0 : Int) (0 : Int) (0 : Int)) nm ByteArray.empty false).sym ∧ false = (Ln.mk (In5.mk (0 : Int) (0 : Int) (0 : Int) (0 : Int) (0 : Int)) nm ByteArray.empty false).table) := by kernel_rfl
set_option maxHeartbeats 4000000 in
theorem cAt : Con ea has gl 23 kAt := by
  refine plain_mk Tryd.func23 5 (con := []) trivial (fun hA hr hv => ?_) (by kernel_rfl) (by kernel_rfl) Tryd.ntmps23
  unfold kAt at hr; split at hr
  · rename_i nm
    have := ret_ok hr; subst this
    refine ⟨_, [], rfl, rfl, (argAt nm).mpr (by simp), rfl, (fun W R ρ0 own0 hown => noLoops (by kernel_rfl)), (runAt gl nm).mpr ?_⟩
    clear hr
    exact ⟨rfl, rfl, rfl, rfl, rfl, rfl, rfl, rfl⟩
  · cases hr
def kLi : List SVal → Nat → Acc ORes := fun a n => match a with | [.int .i64 a, .int .u32 n'] => .ret ({ v := .agg (RT.line.enc ⟨⟨14, a.val, 0, 0, n'.val⟩, ByteArray.empty, ByteArray.empty, false⟩) }) | _ => .fail "Li"
theorem argLi (a n' : SI) : (all (subL 134 none' [] deep [.int .i64 a, .int .u32 n'] [.int .i64 (.full a.val), .int .u32 (.full n'.val)])) = (
  SI.val a = SI.val a ∧ SI.val n' = SI.val n') := by kernel_rfl
theorem runLi (gl : List (Nat × SVal)) (a n' : SI) : (Tr.sat (plainQ (.agg (RT.line.enc ⟨⟨14, a.val, 0, 0, n'.val⟩, ByteArray.empty, ByteArray.empty, false⟩))) (run (env gl []) [] (bodyOf Tryd.f55) (start [.int .i64 (.full a.val), .int .u32 (.full n'.val)] 9) (ends (env gl []) Tryd.f55.results.toList))) = (
  (14 : Int) = (Ln.mk (In5.mk (14 : Int) (SI.val a) (0 : Int) (0 : Int) (SI.val n')) ByteArray.empty ByteArray.empty false).i.op ∧ SI.val a = (Ln.mk (In5.mk (14 : Int) (SI.val a) (0 : Int) (0 : Int) (SI.val n')) ByteArray.empty ByteArray.empty false).i.a ∧ (0 : Int) = (Ln.mk (In5.mk (14 : Int) (SI.val a) (0 : Int) (0 : Int) (SI.val n')) ByteArray.empty ByteArray.empty false).i.b ∧ (0 : Int) = (Ln.mk (In5.mk (14 : Int) (SI.val a) (0 : Int) (0 : Int) (SI.val n')) ByteArray.empty ByteArray.empty false).i.c ∧ SI.val n' = (Ln.mk (In5.mk (14 : Int) (SI.val a) (0 : Int) (0 : Int) (SI.val n')) ByteArray.empty ByteArray.empty false).i.imm ∧ ByteArray.empty = (Ln.mk (In5.mk (14 : Int) (SI.val a) (0 : Int) (0 : Int) (SI.val n')) ByteArray.empty ByteArray.empty false).name ∧ ByteArray.empty = (Ln.mk (In5.mk (14 : Int) (SI.val a) (0 : Int) (0 : Int) (SI.val n')) ByteArray.empty ByteArray.empty false).sym ∧ false = (Ln.mk (In5.mk (14 : Int) (SI.val a) (0 : Int) (0 : Int) (SI.val n')) ByteArray.empty ByteArray.empty false).table) := by kernel_rfl
set_option maxHeartbeats 4000000 in
theorem cLi : Con ea has gl 55 kLi := by
  refine plain_mk Tryd.func55 9 (con := []) trivial (fun hA hr hv => ?_) (by kernel_rfl) (by kernel_rfl) Tryd.ntmps55
  unfold kLi at hr; split at hr
  · rename_i a n'
    have := ret_ok hr; subst this
    refine ⟨_, [], rfl, rfl, (argLi a n').mpr (by simp), rfl, (fun W R ρ0 own0 hown => noLoops (by kernel_rfl)), (runLi gl a n').mpr ?_⟩
    clear hr
    exact ⟨rfl, rfl, rfl, rfl, rfl, rfl, rfl, rfl⟩
  · cases hr
def opL (op : Int) (l : List Int) : Ln := ⟨⟨op, l.getD 0 0, l.getD 1 0, l.getD 2 0, 0⟩, ByteArray.empty, ByteArray.empty, false⟩
def rOp (op : SI) (l : List Int) (n : Nat) : ORes := { v := .agg (RT.line.enc (opL op.val l)) }
def kOp : List SVal → Nat → Acc ORes := fun a n => match a with
  | [.int .i64 op, .ro .i64 l] => .ret (rOp op l n)
  | [.int .i64 op, .nilslice] => .ret (rOp op (nilR .i64) n)
  | [.int .i64 op, .own q] => .look q fun cc => match cc with
    | some (.recs .i64 l) => .ret ({ rOp op l n with ws := [(q, none)] })
    | _ => .fail "Op"
  | _ => .fail "Op"
theorem argOp (op : SI) (l : List Int) : (all (subL 134 none' [] deep [.int .i64 op] [.int .i64 (.full op.val)])) = (
  SI.val op = SI.val op) := by kernel_rfl
theorem runOp (gl : List (Nat × SVal)) (op : SI) (l : List Int) : (Tr.sat (plainQ (.agg (RT.line.enc (opL op.val l)))) (run (env gl []) [] (bodyOf Tryd.f22) (start ([.int .i64 (.full op.val)] ++ [.ro .i64 l]) 34) (ends (env gl []) Tryd.f22.results.toList))) = (
  (decide ((0 : Int) < (↑(List.length l) : Int)) = true → ((0 : Int) ≤ (0 : Int) ∧ (0 : Int) < (↑(List.length l) : Int)) ∧ ((0 : Int) ≤ (0 : Int) ∧ (0 : Int) < (↑(List.length l) : Int) → (decide ((1 : Int) < (↑(List.length l) : Int)) = true → ((0 : Int) ≤ (1 : Int) ∧ (1 : Int) < (↑(List.length l) : Int)) ∧ ((0 : Int) ≤ (1 : Int) ∧ (1 : Int) < (↑(List.length l) : Int) → (decide ((2 : Int) < (↑(List.length l) : Int)) = true → ((0 : Int) ≤ (2 : Int) ∧ (2 : Int) < (↑(List.length l) : Int)) ∧ ((0 : Int) ≤ (2 : Int) ∧ (2 : Int) < (↑(List.length l) : Int) → SI.val op = (opL (SI.val op) l).i.op ∧ List.getD l (Int.toNat (0 : Int)) (RT.dflt RT.i64) = (opL (SI.val op) l).i.a ∧ List.getD l (Int.toNat (1 : Int)) (RT.dflt RT.i64) = (opL (SI.val op) l).i.b ∧ List.getD l (Int.toNat (2 : Int)) (RT.dflt RT.i64) = (opL (SI.val op) l).i.c ∧ (0 : Int) = (opL (SI.val op) l).i.imm ∧ ByteArray.empty = (opL (SI.val op) l).name ∧ ByteArray.empty = (opL (SI.val op) l).sym ∧ false = (opL (SI.val op) l).table)) ∧ (decide ((2 : Int) < (↑(List.length l) : Int)) = false → SI.val op = (opL (SI.val op) l).i.op ∧ List.getD l (Int.toNat (0 : Int)) (RT.dflt RT.i64) = (opL (SI.val op) l).i.a ∧ List.getD l (Int.toNat (1 : Int)) (RT.dflt RT.i64) = (opL (SI.val op) l).i.b ∧ (0 : Int) = (opL (SI.val op) l).i.c ∧ (0 : Int) = (opL (SI.val op) l).i.imm ∧ ByteArray.empty = (opL (SI.val op) l).name ∧ ByteArray.empty = (opL (SI.val op) l).sym ∧ false = (opL (SI.val op) l).table))) ∧ (decide ((1 : Int) < (↑(List.length l) : Int)) = false → (decide ((2 : Int) < (↑(List.length l) : Int)) = true → ((0 : Int) ≤ (2 : Int) ∧ (2 : Int) < (↑(List.length l) : Int)) ∧ ((0 : Int) ≤ (2 : Int) ∧ (2 : Int) < (↑(List.length l) : Int) → SI.val op = (opL (SI.val op) l).i.op ∧ List.getD l (Int.toNat (0 : Int)) (RT.dflt RT.i64) = (opL (SI.val op) l).i.a ∧ (0 : Int) = (opL (SI.val op) l).i.b ∧ List.getD l (Int.toNat (2 : Int)) (RT.dflt RT.i64) = (opL (SI.val op) l).i.c ∧ (0 : Int) = (opL (SI.val op) l).i.imm ∧ ByteArray.empty = (opL (SI.val op) l).name ∧ ByteArray.empty = (opL (SI.val op) l).sym ∧ false = (opL (SI.val op) l).table)) ∧ (decide ((2 : Int) < (↑(List.length l) : Int)) = false → SI.val op = (opL (SI.val op) l).i.op ∧ List.getD l (Int.toNat (0 : Int)) (RT.dflt RT.i64) = (opL (SI.val op) l).i.a ∧ (0 : Int) = (opL (SI.val op) l).i.b ∧ (0 : Int) = (opL (SI.val op) l).i.c ∧ (0 : Int) = (opL (SI.val op) l).i.imm ∧ ByteArray.empty = (opL (SI.val op) l).name ∧ ByteArray.empty = (opL (SI.val op) l).sym ∧ false = (opL (SI.val op) l).table)))) ∧ (decide ((0 : Int) < (↑(List.length l) : Int)) = false → (decide ((1 : Int) < (↑(List.length l) : Int)) = true → ((0 : Int) ≤ (1 : Int) ∧ (1 : Int) < (↑(List.length l) : Int)) ∧ ((0 : Int) ≤ (1 : Int) ∧ (1 : Int) < (↑(List.length l) : Int) → (decide ((2 : Int) < (↑(List.length l) : Int)) = true → ((0 : Int) ≤ (2 : Int) ∧ (2 : Int) < (↑(List.length l) : Int)) ∧ ((0 : Int) ≤ (2 : Int) ∧ (2 : Int) < (↑(List.length l) : Int) → SI.val op = (opL (SI.val op) l).i.op ∧ (0 : Int) = (opL (SI.val op) l).i.a ∧ List.getD l (Int.toNat (1 : Int)) (RT.dflt RT.i64) = (opL (SI.val op) l).i.b ∧ List.getD l (Int.toNat (2 : Int)) (RT.dflt RT.i64) = (opL (SI.val op) l).i.c ∧ (0 : Int) = (opL (SI.val op) l).i.imm ∧ ByteArray.empty = (opL (SI.val op) l).name ∧ ByteArray.empty = (opL (SI.val op) l).sym ∧ false = (opL (SI.val op) l).table)) ∧ (decide ((2 : Int) < (↑(List.length l) : Int)) = false → SI.val op = (opL (SI.val op) l).i.op ∧ (0 : Int) = (opL (SI.val op) l).i.a ∧ List.getD l (Int.toNat (1 : Int)) (RT.dflt RT.i64) = (opL (SI.val op) l).i.b ∧ (0 : Int) = (opL (SI.val op) l).i.c ∧ (0 : Int) = (opL (SI.val op) l).i.imm ∧ ByteArray.empty = (opL (SI.val op) l).name ∧ ByteArray.empty = (opL (SI.val op) l).sym ∧ false = (opL (SI.val op) l).table))) ∧ (decide ((1 : Int) < (↑(List.length l) : Int)) = false → (decide ((2 : Int) < (↑(List.length l) : Int)) = true → ((0 : Int) ≤ (2 : Int) ∧ (2 : Int) < (↑(List.length l) : Int)) ∧ ((0 : Int) ≤ (2 : Int) ∧ (2 : Int) < (↑(List.length l) : Int) → SI.val op = (opL (SI.val op) l).i.op ∧ (0 : Int) = (opL (SI.val op) l).i.a ∧ (0 : Int) = (opL (SI.val op) l).i.b ∧ List.getD l (Int.toNat (2 : Int)) (RT.dflt RT.i64) = (opL (SI.val op) l).i.c ∧ (0 : Int) = (opL (SI.val op) l).i.imm ∧ ByteArray.empty = (opL (SI.val op) l).name ∧ ByteArray.empty = (opL (SI.val op) l).sym ∧ false = (opL (SI.val op) l).table)) ∧ (decide ((2 : Int) < (↑(List.length l) : Int)) = false → SI.val op = (opL (SI.val op) l).i.op ∧ (0 : Int) = (opL (SI.val op) l).i.a ∧ (0 : Int) = (opL (SI.val op) l).i.b ∧ (0 : Int) = (opL (SI.val op) l).i.c ∧ (0 : Int) = (opL (SI.val op) l).i.imm ∧ ByteArray.empty = (opL (SI.val op) l).name ∧ ByteArray.empty = (opL (SI.val op) l).sym ∧ false = (opL (SI.val op) l).table)))) := by kernel_rfl
theorem gOp (op : SI) (l : List Int) (hv : ∀ q, (rOp op l 0).vc = some q → q) : Tr.sat (plainQ (.agg (RT.line.enc (opL op.val l)))) (run (env gl []) [] (bodyOf Tryd.f22) (start ([.int .i64 (.full op.val)] ++ [.ro .i64 l]) 34) (ends (env gl []) Tryd.f22.results.toList)) := by
  skip
  refine (runOp gl op l).mpr ?_
  generalize op.val = op
  have d0 : RT.i64.dflt = (0 : Int) := rfl
  simp only [d0]
  rcases l with _ | ⟨x, _ | ⟨y, _ | ⟨z, l⟩⟩⟩ <;> simp [opL] <;> omega
set_option maxHeartbeats 4000000 in
theorem cOp : Con ea has gl 22 kOp := by
  refine lastP_mk Tryd.func22 34 (con := []) trivial (fun hA hr hv => ?_) (by kernel_rfl) (by kernel_rfl) Tryd.ntmps22
  unfold kOp at hr; split at hr
  · rename_i op l
    have := ret_ok hr; subst this
    refine ⟨[.int .i64 op], .i64, l, _, [], (.inl ⟨rfl, rfl⟩), rfl, (argOp op l).mpr (by simp), rfl, (fun W R ρ0 own0 hown => noLoops (by kernel_rfl)), gOp op l hv⟩
  · rename_i op
    have := ret_ok hr; subst this
    refine ⟨[.int .i64 op], .i64, (nilR .i64), _, [], (.inr (.inl ⟨rfl, rfl, rfl⟩)), rfl, (argOp op (nilR .i64)).mpr (by simp), rfl, (fun W R ρ0 own0 hown => noLoops (by kernel_rfl)), gOp op (nilR .i64) hv⟩
  · rename_i op q
    simp only [Acc.run] at hr
    split at hr
    · rename_i l hq
      have := ret_ok hr; subst this
      refine ⟨[.int .i64 op], .i64, l, _, [], (.inr (.inr ⟨q, rfl, hq, rfl⟩)), rfl, (argOp op l).mpr (by simp), rfl, (fun W R ρ0 own0 hown => noLoops (by kernel_rfl)), gOp op l hv⟩
    · cases hr
  · cases hr
def HWords' (l : List Int) (i : Nat) : SState := { fr := [(0, .ro .u32 l), (3, .own 0), (4, .int .i64 (.sym i 0 1000000))], hp := [(0, some (.recs .u32 (l.take i)))], next := 1, sz := 22 }
def XWords' (l : List Int) : SState := { fr := [(3, .own 0)], hp := [(0, some (.recs .u32 l))], next := 1, sz := 22 }
def LWords' (l : List Int) : LSum := ⟨HWords' l 0, fun k => k (.exit 0) (XWords' l), l.length ≤ 1000000⟩
theorem bWords' (gl : List (Nat × SVal)) (l : List Int) (i : Nat) : (Tr.sat (rnd1 (env gl []) (fun _ => True) (l.length) (HWords' l) 0 (XWords' l) i) (run (env gl []) [] (loopN (bodyOf Tryd.f61) 0) (HWords' l i) .leaf)) = (
  (decide ((↑i : Int) < (↑(List.length l) : Int)) = true → ((0 : Int) ≤ (↑i : Int) ∧ (↑i : Int) < (↑(List.length l) : Int)) ∧ ((0 : Int) ≤ (↑i : Int) ∧ (↑i : Int) < (↑(List.length l) : Int) → List.length (List.take i l) + List.length [List.getD l (Int.toNat (↑i : Int)) (RT.dflt RT.u32)] ≤ (137438953472 : Nat) ∧ (List.length (List.take i l) + List.length [List.getD l (Int.toNat (↑i : Int)) (RT.dflt RT.u32)] ≤ (137438953472 : Nat) → i < List.length l ∧ True ∧ l = l ∧ (↑i : Int) + (1 : Int) = (↑(i + (1 : Nat)) : Int) ∧ ((0 : Int) ≤ (↑(i + (1 : Nat)) : Int) ∧ (↑(i + (1 : Nat)) : Int) ≤ (1000000 : Int)) ∧ List.take i l ++ [List.getD l (Int.toNat (↑i : Int)) (RT.dflt RT.u32)] = List.take (i + (1 : Nat)) l))) ∧ (decide ((↑i : Int) < (↑(List.length l) : Int)) = false → Nat.beq (0 : Nat) (0 : Nat) = true ∧ List.take i l = l)) := by kernel_rfl
set_option maxHeartbeats 4000000 in
theorem lWords' (l : List Int) {W : World} {R own0 : Nat → Prop} {ρ0 : Nat → Option Value} (hown : HownOk (env gl []) own0 ρ0) : LOk Tryd.prog (env gl []) (ctx ea has) gl W R own0 ρ0 (loopN (bodyOf Tryd.f61) 0) (LWords' l) := by
  refine loop1_ok (env_ok (con := []) trivial) hown (ls := fun i => []) (fun i => noLoops (by kernel_rfl)) (fun hm i hi hj => (bWords' gl l i).mpr ?_) 0 (fun hm => by first | exact Nat.zero_le _ | omega) (fun hm => trivial)
  have d0 : RT.u32.dflt = (0 : Int) := rfl
  simp only [d0, Int.toNat_natCast, List.length_singleton, List.length_take]
  refine ⟨fun h => ?_, fun h => ?_⟩
  · have h := of_decide_eq_true h
    have hlt : i < l.length := by omega
    have : l.take i ++ [l.getD i 0] = l.take (i + 1) := by rw [List.take_add_one, List.getElem?_eq_getElem hlt]; simp [hlt]
    refine ⟨by omega, fun _ => ⟨by omega, fun _ => ⟨hlt, trivial, ?_⟩⟩⟩
    simp only [this, true_and, and_true]; omega
  · have h := of_decide_eq_false h
    exact ⟨rfl, List.take_of_length_le (by omega)⟩
def rWords (l : List Int) (n : Nat) : ORes := { v := .ro .u32 l, vc := some (l.length ≤ 1000000) }
def kWords : List SVal → Nat → Acc ORes := fun a n => match a with
  | [.ro .u32 l] => .ret (rWords l n)
  | [.nilslice] => .ret (rWords (nilR .u32) n)
  | [.own q] => .look q fun cc => match cc with
    | some (.recs .u32 l) => .ret ({ rWords l n with ws := [(q, none)] })
    | _ => .fail "Words"
  | _ => .fail "Words"
theorem argWords (l : List Int) : (all (subL 134 none' [] deep [] [])) = (
  True) := by kernel_rfl
theorem runWords (gl : List (Nat × SVal)) (l : List Int) : (Tr.sat (plainQ (.ro .u32 l)) (run (env gl []) [(3, LWords' l)] (bodyOf Tryd.f61) (start ([] ++ [.ro .u32 l]) 22) (ends (env gl []) Tryd.f61.results.toList))) = (
  ((0 : Int) ≤ (0 : Int) ∧ (0 : Int) ≤ (↑(List.length l) : Int) ∧ (↑(List.length l) : Int) ≤ (137438953472 : Int)) ∧ ((0 : Int) ≤ (0 : Int) ∧ (0 : Int) ≤ (↑(List.length l) : Int) ∧ (↑(List.length l) : Int) ≤ (137438953472 : Int) → (List.length l ≤ (1000000 : Nat) ∧ l = l ∧ (0 : Int) = (↑(0 : Nat) : Int) ∧ List.replicate (Int.toNat (0 : Int)) (RT.dflt RT.u32) = List.take (0 : Nat) l) ∧ (List.length l ≤ (1000000 : Nat) ∧ l = l ∧ (0 : Int) = (↑(0 : Nat) : Int) ∧ List.replicate (Int.toNat (0 : Int)) (RT.dflt RT.u32) = List.take (0 : Nat) l → l = l))) := by kernel_rfl
theorem gWords (l : List Int) (hv : ∀ q, (rWords l 0).vc = some q → q) : Tr.sat (plainQ (.ro .u32 l)) (run (env gl []) [(3, LWords' l)] (bodyOf Tryd.f61) (start ([] ++ [.ro .u32 l]) 22) (ends (env gl []) Tryd.f61.results.toList)) := by
  replace hv := hv _ rfl
  refine (runWords gl l).mpr ?_
  refine ⟨by omega, fun _ => ⟨⟨hv, rfl, rfl, rfl⟩, fun _ => rfl⟩⟩
set_option maxHeartbeats 4000000 in
theorem cWords : Con ea has gl 61 kWords := by
  refine lastP_mk Tryd.func61 22 (con := []) trivial (fun hA hr hv => ?_) (by kernel_rfl) (by kernel_rfl) Tryd.ntmps61
  unfold kWords at hr; split at hr
  · rename_i l
    have := ret_ok hr; subst this
    refine ⟨[], .u32, l, _, [(3, LWords' l)], (.inl ⟨rfl, rfl⟩), rfl, (argWords l).mpr (by simp), rfl, (fun W R ρ0 own0 hown => hl1 (by kernel_rfl) (by kernel_rfl) (lWords' l hown)), gWords l hv⟩
  · skip
    have := ret_ok hr; subst this
    refine ⟨[], .u32, (nilR .u32), _, [(3, LWords' (nilR .u32))], (.inr (.inl ⟨rfl, rfl, rfl⟩)), rfl, (argWords (nilR .u32)).mpr (by simp), rfl, (fun W R ρ0 own0 hown => hl1 (by kernel_rfl) (by kernel_rfl) (lWords' (nilR .u32) hown)), gWords (nilR .u32) hv⟩
  · rename_i q
    simp only [Acc.run] at hr
    split at hr
    · rename_i l hq
      have := ret_ok hr; subst this
      refine ⟨[], .u32, l, _, [(3, LWords' l)], (.inr (.inr ⟨q, rfl, hq, rfl⟩)), rfl, (argWords l).mpr (by simp), rfl, (fun W R ρ0 own0 hown => hl1 (by kernel_rfl) (by kernel_rfl) (lWords' l hown)), gWords l hv⟩
    · cases hr
  · cases hr
def krTwo : List SVal → Nat → Acc ORes := fun a n => match a with | [.int .i64 op] => .ret ({ v := .bool (.sym (isaTwo op.val)) }) | _ => .fail "rTwo"
theorem argrTwo (op : SI) : (all (subL 134 none' [] deep [.int .i64 op] [.int .i64 (.full op.val)])) = (
  SI.val op = SI.val op) := by kernel_rfl
theorem runrTwo (gl : List (Nat × SVal)) (op : SI) : (Tr.sat (plainQ (.bool (.sym (isaTwo op.val)))) (run (env gl []) [] (bodyOf Tryd.f64) (start [.int .i64 (.full op.val)] 29) (ends (env gl []) Tryd.f64.results.toList))) = (
  (decide (SI.val op = (14 : Int)) || decide (SI.val op = (15 : Int)) || decide (SI.val op = (19 : Int)) || decide (SI.val op = (20 : Int)) || decide (SI.val op = (21 : Int)) || decide (SI.val op = (22 : Int)) || decide (SI.val op = (96 : Int))) = isaTwo (SI.val op)) := by kernel_rfl
set_option maxHeartbeats 4000000 in
theorem crTwo : Con ea has gl 64 krTwo := by
  refine plain_mk Tryd.func64 29 (con := []) trivial (fun hA hr hv => ?_) (by kernel_rfl) (by kernel_rfl) Tryd.ntmps64
  unfold krTwo at hr; split at hr
  · rename_i op
    have := ret_ok hr; subst this
    refine ⟨_, [], rfl, rfl, (argrTwo op).mpr (by simp), rfl, (fun W R ρ0 own0 hown => noLoops (by kernel_rfl)), (runrTwo gl op).mpr ?_⟩
    clear hr
    rfl
  · cases hr
def regB (n : Int) (h : Bool) : Bool := decide (n = 0) || h && decide (0 < n) && decide (n < 16)
def kreg : List SVal → Nat → Acc ORes := fun a n => match a with | [.int .i64 n', .bool b] => .ret ({ v := .bool (.sym (regB n'.val b.val)) }) | _ => .fail "reg"
theorem argreg (n' : SI) (b : SB) : (all (subL 134 none' [] deep [.int .i64 n', .bool b] [.int .i64 (.full n'.val), .bool (.sym b.val)])) = (
  SI.val n' = SI.val n' ∧ SB.val b = SB.val b) := by kernel_rfl
theorem runreg (gl : List (Nat × SVal)) (n' : SI) (b : SB) : (Tr.sat (plainQ (.bool (.sym (regB n'.val b.val)))) (run (env gl []) [] (bodyOf Tryd.f99) (start [.int .i64 (.full n'.val), .bool (.sym b.val)] 18) (ends (env gl []) Tryd.f99.results.toList))) = (
  (decide (SI.val n' = (0 : Int)) || SB.val b && decide ((0 : Int) < SI.val n') && decide (SI.val n' < (16 : Int))) = regB (SI.val n') (SB.val b)) := by kernel_rfl
set_option maxHeartbeats 4000000 in
theorem creg : Con ea has gl 99 kreg := by
  refine plain_mk Tryd.func99 18 (con := []) trivial (fun hA hr hv => ?_) (by kernel_rfl) (by kernel_rfl) Tryd.ntmps99
  unfold kreg at hr; split at hr
  · rename_i n' b
    have := ret_ok hr; subst this
    refine ⟨_, [], rfl, rfl, (argreg n' b).mpr (by simp), rfl, (fun W R ρ0 own0 hown => noLoops (by kernel_rfl)), (runreg gl n' b).mpr ?_⟩
    clear hr
    rfl
  · cases hr
def kUses : List SVal → Nat → Acc ORes := fun a n => match a with | [.int .i64 op] => .ret ({ v := .tuple [.bool (.sym (uA op.val)), .bool (.sym (uB op.val)), .bool (.sym (uC op.val)), .bool (.sym (uN op.val))] }) | _ => .fail "Uses"
theorem argUses (op : SI) : (all (subL 134 none' [] deep [.int .i64 op] [.int .i64 (.full op.val)])) = (
  SI.val op = SI.val op) := by kernel_rfl
theorem runUses (gl : List (Nat × SVal)) (op : SI) : (Tr.sat (plainQ (.tuple [.bool (.sym (uA op.val)), .bool (.sym (uB op.val)), .bool (.sym (uC op.val)), .bool (.sym (uN op.val))])) (run (env gl []) [] (bodyOf Tryd.f97) (start [.int .i64 (.full op.val)] 40) (ends (env gl []) Tryd.f97.results.toList))) = (
  (decide (SI.val op = (1 : Int)) = true → false = uA (SI.val op) ∧ false = uB (SI.val op) ∧ false = uC (SI.val op) ∧ false = uN (SI.val op)) ∧ (decide (SI.val op = (1 : Int)) = false → (decide (SI.val op = (34 : Int)) = true → false = uA (SI.val op) ∧ false = uB (SI.val op) ∧ false = uC (SI.val op) ∧ false = uN (SI.val op)) ∧ (decide (SI.val op = (34 : Int)) = false → (decide (SI.val op = (42 : Int)) = true → false = uA (SI.val op) ∧ false = uB (SI.val op) ∧ false = uC (SI.val op) ∧ false = uN (SI.val op)) ∧ (decide (SI.val op = (42 : Int)) = false → (decide (SI.val op = (64 : Int)) = true → false = uA (SI.val op) ∧ false = uB (SI.val op) ∧ false = uC (SI.val op) ∧ false = uN (SI.val op)) ∧ (decide (SI.val op = (64 : Int)) = false → (decide (SI.val op = (65 : Int)) = true → false = uA (SI.val op) ∧ false = uB (SI.val op) ∧ false = uC (SI.val op) ∧ false = uN (SI.val op)) ∧ (decide (SI.val op = (65 : Int)) = false → (decide (SI.val op = (19 : Int)) = true → false = uA (SI.val op) ∧ false = uB (SI.val op) ∧ false = uC (SI.val op) ∧ false = uN (SI.val op)) ∧ (decide (SI.val op = (19 : Int)) = false → (decide (SI.val op = (22 : Int)) = true → false = uA (SI.val op) ∧ false = uB (SI.val op) ∧ false = uC (SI.val op) ∧ false = uN (SI.val op)) ∧ (decide (SI.val op = (22 : Int)) = false → (decide (SI.val op = (96 : Int)) = true → false = uA (SI.val op) ∧ false = uB (SI.val op) ∧ false = uC (SI.val op) ∧ false = uN (SI.val op)) ∧ (decide (SI.val op = (96 : Int)) = false → (decide (SI.val op = (2 : Int)) = true → true = uA (SI.val op) ∧ true = uB (SI.val op) ∧ false = uC (SI.val op) ∧ false = uN (SI.val op)) ∧ (decide (SI.val op = (2 : Int)) = false → (decide (SI.val op = (37 : Int)) = true → true = uA (SI.val op) ∧ true = uB (SI.val op) ∧ false = uC (SI.val op) ∧ false = uN (SI.val op)) ∧ (decide (SI.val op = (37 : Int)) = false → (decide (SI.val op = (38 : Int)) = true → true = uA (SI.val op) ∧ true = uB (SI.val op) ∧ false = uC (SI.val op) ∧ false = uN (SI.val op)) ∧ (decide (SI.val op = (38 : Int)) = false → (decide (SI.val op = (41 : Int)) = true → true = uA (SI.val op) ∧ true = uB (SI.val op) ∧ false = uC (SI.val op) ∧ false = uN (SI.val op)) ∧ (decide (SI.val op = (41 : Int)) = false → (decide (SI.val op = (12 : Int)) = true → true = uA (SI.val op) ∧ true = uB (SI.val op) ∧ true = uC (SI.val op) ∧ true = uN (SI.val op)) ∧ (decide (SI.val op = (12 : Int)) = false → (decide (SI.val op = (13 : Int)) = true → true = uA (SI.val op) ∧ true = uB (SI.val op) ∧ true = uC (SI.val op) ∧ true = uN (SI.val op)) ∧ (decide (SI.val op = (13 : Int)) = false → (decide (SI.val op = (16 : Int)) = true → false = uA (SI.val op) ∧ false = uB (SI.val op) ∧ true = uC (SI.val op) ∧ true = uN (SI.val op)) ∧ (decide (SI.val op = (16 : Int)) = false → (decide (SI.val op = (17 : Int)) = true → true = uA (SI.val op) ∧ false = uB (SI.val op) ∧ true = uC (SI.val op) ∧ true = uN (SI.val op)) ∧ (decide (SI.val op = (17 : Int)) = false → (decide (SI.val op = (18 : Int)) = true → true = uA (SI.val op) ∧ false = uB (SI.val op) ∧ true = uC (SI.val op) ∧ true = uN (SI.val op)) ∧ (decide (SI.val op = (18 : Int)) = false → (decide (SI.val op = (3 : Int)) = true → true = uA (SI.val op) ∧ true = uB (SI.val op) ∧ true = uC (SI.val op) ∧ false = uN (SI.val op)) ∧ (decide (SI.val op = (3 : Int)) = false → (decide (SI.val op = (4 : Int)) = true → true = uA (SI.val op) ∧ true = uB (SI.val op) ∧ true = uC (SI.val op) ∧ false = uN (SI.val op)) ∧ (decide (SI.val op = (4 : Int)) = false → (decide (SI.val op = (5 : Int)) = true → true = uA (SI.val op) ∧ true = uB (SI.val op) ∧ true = uC (SI.val op) ∧ false = uN (SI.val op)) ∧ (decide (SI.val op = (5 : Int)) = false → (decide (SI.val op = (6 : Int)) = true → true = uA (SI.val op) ∧ true = uB (SI.val op) ∧ true = uC (SI.val op) ∧ false = uN (SI.val op)) ∧ (decide (SI.val op = (6 : Int)) = false → (decide (SI.val op = (7 : Int)) = true → true = uA (SI.val op) ∧ true = uB (SI.val op) ∧ true = uC (SI.val op) ∧ false = uN (SI.val op)) ∧ (decide (SI.val op = (7 : Int)) = false → (decide (SI.val op = (8 : Int)) = true → true = uA (SI.val op) ∧ true = uB (SI.val op) ∧ true = uC (SI.val op) ∧ false = uN (SI.val op)) ∧ (decide (SI.val op = (8 : Int)) = false → (decide (SI.val op = (9 : Int)) = true → true = uA (SI.val op) ∧ true = uB (SI.val op) ∧ true = uC (SI.val op) ∧ false = uN (SI.val op)) ∧ (decide (SI.val op = (9 : Int)) = false → (decide (SI.val op = (10 : Int)) = true → true = uA (SI.val op) ∧ true = uB (SI.val op) ∧ true = uC (SI.val op) ∧ false = uN (SI.val op)) ∧ (decide (SI.val op = (10 : Int)) = false → (decide (SI.val op = (11 : Int)) = true → true = uA (SI.val op) ∧ true = uB (SI.val op) ∧ true = uC (SI.val op) ∧ false = uN (SI.val op)) ∧ (decide (SI.val op = (11 : Int)) = false → (decide (SI.val op = (24 : Int)) = true → true = uA (SI.val op) ∧ true = uB (SI.val op) ∧ true = uC (SI.val op) ∧ false = uN (SI.val op)) ∧ (decide (SI.val op = (24 : Int)) = false → true = uA (SI.val op) ∧ false = uB (SI.val op) ∧ false = uC (SI.val op) ∧ false = uN (SI.val op))))))))))))))))))))))))))))) := by kernel_rfl
set_option maxHeartbeats 4000000 in
theorem cUses : Con ea has gl 97 kUses := by
  refine plain_mk Tryd.func97 40 (con := []) trivial (fun hA hr hv => ?_) (by kernel_rfl) (by kernel_rfl) Tryd.ntmps97
  unfold kUses at hr; split at hr
  · rename_i op
    have := ret_ok hr; subst this
    refine ⟨_, [], rfl, rfl, (argUses op).mpr (by simp), rfl, (fun W R ρ0 own0 hown => noLoops (by kernel_rfl)), (runUses gl op).mpr ?_⟩
    clear hr
    generalize op.val = op
    simp only [decide_eq_true_eq, decide_eq_false_iff_not]
    repeat (first | (intro h; subst h; decide) | (with_reducible intro _) | (with_reducible refine ⟨?_, fun _ => ?_⟩))
    all_goals (refine ⟨?_, ?_, ?_, ?_⟩ <;> simp [uA, uB, uC, uN, *] <;> omega)
  · cases hr
theorem uN_uC {op : Int} (h : uN op = true) : uC op = true := by
  simp only [uN, uC, Bool.or_eq_true, beq_iff_eq] at h ⊢
  omega
theorem ref_ok (op a b c imm : Int) : (uN op = true → (!decide (isaClass op = 0) && regB a (uA op) && regB b (uB op) && (isaTwo op || decide (imm = 0)) && decide (0 ≤ c) && decide (c ≤ 255)) = wordOk op a b c imm) ∧
    (uN op = false → (!decide (isaClass op = 0) && regB a (uA op) && regB b (uB op) && (isaTwo op || decide (imm = 0)) && regB c (uC op)) = wordOk op a b c imm) := by
  cases hc : (isaClass op == 0) with
  | true =>
    have : isaClass op = 0 := by simpa using hc
    simp [wordOk, this]
  | false =>
    have hne : ¬ isaClass op = 0 := by simpa using hc
    unfold wordOk
    rw [fitsA_ok hc, fitsB_ok hc, fitsC_ok hc, hc]
    refine ⟨fun h => ?_, fun h => ?_⟩
    · have hC := uN_uC h
      rw [Bool.eq_iff_iff]
      unfold okA okB Fac.okC regB
      rw [h, hC]
      cases uA op <;> cases uB op <;> cases isaTwo op <;> simp [hne] <;> omega
    · rw [Bool.eq_iff_iff]
      unfold okA okB Fac.okC regB
      rw [h]
      cases uA op <;> cases uB op <;> cases uC op <;> cases isaTwo op <;> simp [hne] <;> omega
def krWord : List SVal → Nat → Acc ORes := fun a n => match a with | [.agg [.int .i64 op, .int .i64 a, .int .i64 b, .int .i64 c, .int .u32 imm]] => .ret ({ v := .tuple [.int .u32 (.full (wordW op.val a.val b.val c.val imm.val)), .bool (.sym (wordOk op.val a.val b.val c.val imm.val))] }) | _ => .fail "rWord"
theorem argrWord (op a b c imm : SI) : (all (subL 134 none' [] deep [.agg [.int .i64 op, .int .i64 a, .int .i64 b, .int .i64 c, .int .u32 imm]] [.agg [.int .i64 (.full op.val), .int .i64 (.full a.val), .int .i64 (.full b.val), .int .i64 (.full c.val), .int .u32 (.full imm.val)]])) = (
  SI.val op = SI.val op ∧ SI.val a = SI.val a ∧ SI.val b = SI.val b ∧ SI.val c = SI.val c ∧ SI.val imm = SI.val imm) := by kernel_rfl
theorem runrWord (gl : List (Nat × SVal)) (op a b c imm : SI) : (Tr.sat (plainQ (.tuple [.int .u32 (.full (wordW op.val a.val b.val c.val imm.val)), .bool (.sym (wordOk op.val a.val b.val c.val imm.val))])) (run (env gl [(97, kUses), (19, krClass), (99, kreg), (64, krTwo)]) [] (bodyOf Tryd.f63) (start [.agg [.int .i64 (.full op.val), .int .i64 (.full a.val), .int .i64 (.full b.val), .int .i64 (.full c.val), .int .u32 (.full imm.val)]] 82) (ends (env gl [(97, kUses), (19, krClass), (99, kreg), (64, krTwo)]) Tryd.f63.results.toList))) = (
  (uN (SI.val op) = true → ((!(!decide (isaClass (SI.val op) = (0 : Int)) && regB (SI.val a) (uA (SI.val op)) && regB (SI.val b) (uB (SI.val op)) && (isaTwo (SI.val op) || decide (SI.val imm = (0 : Int))) && decide ((0 : Int) ≤ SI.val c) && decide (SI.val c ≤ (255 : Int)))) = true → (0 : Int) = wordW (SI.val op) (SI.val a) (SI.val b) (SI.val c) (SI.val imm) ∧ false = wordOk (SI.val op) (SI.val a) (SI.val b) (SI.val c) (SI.val imm)) ∧ ((!(!decide (isaClass (SI.val op) = (0 : Int)) && regB (SI.val a) (uA (SI.val op)) && regB (SI.val b) (uB (SI.val op)) && (isaTwo (SI.val op) || decide (SI.val imm = (0 : Int))) && decide ((0 : Int) ≤ SI.val c) && decide (SI.val c ≤ (255 : Int)))) = false → bits BinOp.or IntKind.u32 (bits BinOp.or IntKind.u32 (bits BinOp.or IntKind.u32 (IntKind.wrap IntKind.u32 (IntKind.wrap IntKind.u32 (SI.val op) * (16777216 : Int))) (IntKind.wrap IntKind.u32 (IntKind.wrap IntKind.u32 (SI.val a) * (65536 : Int)))) (IntKind.wrap IntKind.u32 (IntKind.wrap IntKind.u32 (SI.val b) * (256 : Int)))) (IntKind.wrap IntKind.u32 (SI.val c)) = wordW (SI.val op) (SI.val a) (SI.val b) (SI.val c) (SI.val imm) ∧ true = wordOk (SI.val op) (SI.val a) (SI.val b) (SI.val c) (SI.val imm))) ∧ (uN (SI.val op) = false → ((!(!decide (isaClass (SI.val op) = (0 : Int)) && regB (SI.val a) (uA (SI.val op)) && regB (SI.val b) (uB (SI.val op)) && (isaTwo (SI.val op) || decide (SI.val imm = (0 : Int))) && regB (SI.val c) (uC (SI.val op)))) = true → (0 : Int) = wordW (SI.val op) (SI.val a) (SI.val b) (SI.val c) (SI.val imm) ∧ false = wordOk (SI.val op) (SI.val a) (SI.val b) (SI.val c) (SI.val imm)) ∧ ((!(!decide (isaClass (SI.val op) = (0 : Int)) && regB (SI.val a) (uA (SI.val op)) && regB (SI.val b) (uB (SI.val op)) && (isaTwo (SI.val op) || decide (SI.val imm = (0 : Int))) && regB (SI.val c) (uC (SI.val op)))) = false → bits BinOp.or IntKind.u32 (bits BinOp.or IntKind.u32 (bits BinOp.or IntKind.u32 (IntKind.wrap IntKind.u32 (IntKind.wrap IntKind.u32 (SI.val op) * (16777216 : Int))) (IntKind.wrap IntKind.u32 (IntKind.wrap IntKind.u32 (SI.val a) * (65536 : Int)))) (IntKind.wrap IntKind.u32 (IntKind.wrap IntKind.u32 (SI.val b) * (256 : Int)))) (IntKind.wrap IntKind.u32 (SI.val c)) = wordW (SI.val op) (SI.val a) (SI.val b) (SI.val c) (SI.val imm) ∧ true = wordOk (SI.val op) (SI.val a) (SI.val b) (SI.val c) (SI.val imm)))) := by kernel_rfl
set_option maxHeartbeats 4000000 in
theorem crWord : Con ea has gl 63 krWord := by
  refine plain_mk Tryd.func63 82 (con := [(97, kUses), (19, krClass), (99, kreg), (64, krTwo)]) ⟨cUses, crClass, creg, crTwo, trivial⟩ (fun hA hr hv => ?_) (by kernel_rfl) (by kernel_rfl) Tryd.ntmps63
  unfold krWord at hr; split at hr
  · rename_i op a b c imm
    have := ret_ok hr; subst this
    refine ⟨_, [], rfl, rfl, (argrWord op a b c imm).mpr (by simp), rfl, (fun W R ρ0 own0 hown => noLoops (by kernel_rfl)), (runrWord gl op a b c imm).mpr ?_⟩
    clear hr
    clear hA hv
    generalize op.val = op
    generalize a.val = a
    generalize b.val = b
    generalize c.val = c
    generalize imm.val = imm
    have h1 := (ref_ok op a b c imm).1
    have h2 := (ref_ok op a b c imm).2
    have fin : ((!wordOk op a b c imm) = true → 0 = wordW op a b c imm ∧ false = wordOk op a b c imm) ∧ ((!wordOk op a b c imm) = false →
        bits BinOp.or IntKind.u32 (bits BinOp.or IntKind.u32 (bits BinOp.or IntKind.u32 (IntKind.u32.wrap (IntKind.u32.wrap op * 16777216)) (IntKind.u32.wrap (IntKind.u32.wrap a * 65536))) (IntKind.u32.wrap (IntKind.u32.wrap b * 256))) (IntKind.u32.wrap c) = wordW op a b c imm ∧ true = wordOk op a b c imm) := by
      refine ⟨fun h => ?_, fun h => ?_⟩
      · have h : wordOk op a b c imm = false := by simpa using h
        rw [wordW, h]; exact ⟨rfl, rfl⟩
      · have h : wordOk op a b c imm = true := by simpa using h
        refine ⟨?_, h.symm⟩
        rw [wordW, if_pos h]
        unfold wordOk at h
        simp only [Bool.and_eq_true, Bool.not_eq_true'] at h
        obtain ⟨⟨⟨⟨g1, g2⟩, g3⟩, g4⟩, _⟩ := h
        have := class_in g1
        simp only [IntKind.wrap_u32]
        exact word_bits (by omega) (fits_in g2) (fits_in g3) (fits_in g4)
    refine ⟨fun h => ?_, fun h => ?_⟩
    · rw [h1 h]; exact fin
    · rw [h2 h]; exact fin
  · cases hr
end
end Go.Proofs.YtbdfibaljoedpaaDoor

set_option linter.unusedVariables false
set_option linter.unusedSimpArgs false
namespace Go.Proofs.YtbdfibaljoedpaaDoor
open Go.RowKit Go.Sy Go.Fac
section
variable {ea : Int → Addr} {has : Int → Prop} {gl : List (Nat × SVal)}
def idxM (p : Nat → Bool) : Nat → Nat
  | 0 => 0
  | k + 1 => if idxM p k < k then idxM p k else if p k = true then k else k + 1
theorem idxM_le (p : Nat → Bool) : ∀ n, idxM p n ≤ n
  | 0 => Nat.le_refl _
  | n + 1 => by
    have := idxM_le p n
    unfold idxM; split
    · omega
    · split <;> omega
theorem idxM_step {p : Nat → Bool} {i : Nat} (h : idxM p i = i) (hp : p i = false) : idxM p (i + 1) = i + 1 := by
  rw [idxM, h, if_neg (by omega), if_neg (by rw [hp]; simp)]
theorem idxM_hit {p : Nat → Bool} {i n : Nat} (h : idxM p i = i) (hp : p i = true) (hn : i < n) : idxM p n = i := by
  induction n with
  | zero => omega
  | succ n ih =>
    by_cases e : i = n
    · subst e; rw [idxM, h, if_neg (by omega), if_pos hp]
    · have := ih (by omega)
      rw [idxM, this, if_pos (by omega)]
def nmP (sy : List Sm) (nm : ByteArray) (i : Nat) : Bool := decide ((sy.getD i RT.sym.dflt).name = nm)
def symI (sy : List Sm) (nm : ByteArray) : Nat := idxM (nmP sy nm) sy.length
def symAdd (sy : List Sm) (nm : ByteArray) : List Sm := if symI sy nm < sy.length then sy else sy ++ [⟨nm, 3, 0, true⟩]
abbrev envS (gl : List (Nat × SVal)) : Env := { env gl [] with old := [0, 1, 2, 3] }
theorem envS_ok : EnvOk Tryd.prog (ctx ea has) gl (envS gl) :=
  let e := env_ok (con := []) (ea := ea) (has := has) (gl := gl) trivial
  ⟨e.tab, e.err, e.glob, e.tAt, e.mixed, e.con, e.cmp⟩
abbrev boxS (dd : List Int) (n : Nat) : Option Cont := some (.cells [.ro .u32 dd, .own 1, .own 2, .nilslice, .own 3, .own n])
def HSym (dd : List Int) (sy : List Sm) (nm : ByteArray) (i : Nat) : SState := { fr := [(0, .ptr 0 0), (1, .str nm), (5, .int .i64 (.sym i 0 1000000))], hp := [(0, boxS dd 4), (4, some (.recs .sym sy))], next := 5, sz := 43 }
def XSym (dd : List Int) (sy : List Sm) (nm : ByteArray) : SState := { fr := [(0, .ptr 0 0), (1, .str nm)], hp := [(0, boxS dd 4), (4, some (.recs .sym sy))], next := 5, sz := 43 }
def YSym (dd : List Int) (sy : List Sm) (nm : ByteArray) : SState := { fr := [(4, .int .i64 (.full (symI sy nm)))], hp := [(0, boxS dd 4), (4, some (.recs .sym sy))], next := 5, sz := 43 }
abbrev cSymB (sy : List Sm) (nm : ByteArray) : Bool := decide (symI sy nm = sy.length)
def LSym (dd : List Int) (sy : List Sm) (nm : ByteArray) : LSum := ⟨HSym dd sy nm 0, fun k => .ite (cSymB sy nm) (k (.exit 0) (XSym dd sy nm)) (k .ret (YSym dd sy nm)), sy.length ≤ 999999⟩
theorem bSym (gl : List (Nat × SVal)) (dd : List Int) (sy : List Sm) (nm : ByteArray) (i : Nat) : (Tr.sat (rnd2 (envS gl) (fun i => idxM (nmP sy nm) i = i) sy.length (HSym dd sy nm) 0 (cSymB sy nm) (XSym dd sy nm) (YSym dd sy nm) i) (run (envS gl) [] (loopN (bodyOf Tryd.f62) 0) (HSym dd sy nm i) .leaf)) = (
  (decide ((↑i : Int) < (↑(List.length sy) : Int)) = true → ((0 : Int) ≤ (↑i : Int) ∧ (↑i : Int) < (↑(List.length sy) : Int)) ∧ ((0 : Int) ≤ (↑i : Int) ∧ (↑i : Int) < (↑(List.length sy) : Int) → (decide ((List.getD sy (Int.toNat (↑i : Int)) (RT.dflt RT.sym)).name = nm) = true → cSymB sy nm = false ∧ (↑i : Int) = (↑(symI sy nm) : Int) ∧ dd = dd ∧ sy = sy) ∧ (decide ((List.getD sy (Int.toNat (↑i : Int)) (RT.dflt RT.sym)).name = nm) = false → i < List.length sy ∧ idxM (nmP sy nm) (i + (1 : Nat)) = i + (1 : Nat) ∧ nm = nm ∧ (↑i : Int) + (1 : Int) = (↑(i + (1 : Nat)) : Int) ∧ ((0 : Int) ≤ (↑(i + (1 : Nat)) : Int) ∧ (↑(i + (1 : Nat)) : Int) ≤ (1000000 : Int)) ∧ dd = dd ∧ sy = sy))) ∧ (decide ((↑i : Int) < (↑(List.length sy) : Int)) = false → Nat.beq (0 : Nat) (0 : Nat) = true ∧ cSymB sy nm = true ∧ nm = nm ∧ dd = dd ∧ sy = sy)) := by kernel_rfl
theorem lSym (dd : List Int) (sy : List Sm) (nm : ByteArray) {W : World} {R own0 : Nat → Prop} {ρ0 : Nat → Option Value} : LOk Tryd.prog (envS gl) (ctx ea has) gl W R own0 ρ0 (loopN (bodyOf Tryd.f62) 0) (LSym dd sy nm) := by
  refine loop2_ok envS_ok trivial (ls := fun _ => []) (fun _ => noLoops (by kernel_rfl)) (fun hm i hi hj => (bSym gl dd sy nm i).mpr ?_) 0 (fun _ => Nat.zero_le _) (fun _ => rfl)
  have hlo : nmP sy nm i = decide ((sy.getD i RT.sym.dflt).name = nm) := rfl
  simp only [Int.toNat_natCast]
  refine ⟨fun h => ?_, fun h => ?_⟩
  · have h := of_decide_eq_true h
    have hlt : i < sy.length := by omega
    refine ⟨by omega, fun _ => ⟨fun h2 => ?_, fun h2 => ?_⟩⟩
    · have e : symI sy nm = i := idxM_hit hj (hlo.trans h2) hlt
      refine ⟨decide_eq_false (by omega), by rw [e], ?_⟩
      simp
    · refine ⟨hlt, idxM_step hj (hlo.trans h2), ?_⟩
      simp; omega
  · have h := of_decide_eq_false h
    have e : i = sy.length := by omega
    subst e
    refine ⟨rfl, decide_eq_true hj, ?_⟩
    simp
theorem runSym (gl : List (Nat × SVal)) (dd : List Int) (sy : List Sm) (nm : ByteArray) : (Tr.sat (fun _ s => fits (envS gl) s { fr := [(0, .int .i64 (.full (symI sy nm)))], hp := [(0, boxS dd 5), (5, some (.recs .sym (symAdd sy nm)))], next := 6, sz := 1 }) (run (envS gl) [(2, LSym dd sy nm)] (bodyOf Tryd.f62) { fr := numb 0 [.ptr 0 0, .str nm], hp := [(0, boxS dd 4), (4, some (.recs .sym sy))], next := 5, sz := 43 } (ends (envS gl) Tryd.f62.results.toList))) = (
  (List.length sy ≤ (999999 : Nat) ∧ nm = nm ∧ (0 : Int) = (↑(0 : Nat) : Int) ∧ dd = dd ∧ sy = sy) ∧ (List.length sy ≤ (999999 : Nat) ∧ nm = nm ∧ (0 : Int) = (↑(0 : Nat) : Int) ∧ dd = dd ∧ sy = sy → (cSymB sy nm = true → List.length sy + List.length [Sm.mk nm (3 : Int) (0 : Int) true] ≤ (137438953472 : Nat) ∧ (List.length sy + List.length [Sm.mk nm (3 : Int) (0 : Int) true] ≤ (137438953472 : Nat) → (↑(List.length (sy ++ [Sm.mk nm (3 : Int) (0 : Int) true])) : Int) - (1 : Int) = (↑(symI sy nm) : Int) ∧ dd = dd ∧ sy ++ [Sm.mk nm (3 : Int) (0 : Int) true] = symAdd sy nm)) ∧ (cSymB sy nm = false → (↑(symI sy nm) : Int) = (↑(symI sy nm) : Int) ∧ dd = dd ∧ sy = symAdd sy nm))) := by kernel_rfl
theorem gSym (dd : List Int) (sy : List Sm) (nm : ByteArray) (hv : sy.length ≤ 999999) : Tr.sat (fun _ s => fits (envS gl) s { fr := [(0, .int .i64 (.full (symI sy nm)))], hp := [(0, boxS dd 5), (5, some (.recs .sym (symAdd sy nm)))], next := 6, sz := 1 }) (run (envS gl) [(2, LSym dd sy nm)] (bodyOf Tryd.f62) { fr := numb 0 [.ptr 0 0, .str nm], hp := [(0, boxS dd 4), (4, some (.recs .sym sy))], next := 5, sz := 43 } (ends (envS gl) Tryd.f62.results.toList)) := by
  refine (runSym gl dd sy nm).mpr ?_
  refine ⟨⟨hv, rfl, rfl, rfl, rfl⟩, fun _ => ⟨fun h => ?_, fun h => ?_⟩⟩
  · have h := of_decide_eq_true h
    have e : symAdd sy nm = sy ++ [⟨nm, 3, 0, true⟩] := by rw [symAdd, if_neg (by omega)]
    refine ⟨by simp; omega, fun _ => ⟨by rw [h]; simp, rfl, e.symm⟩⟩
  · have h := of_decide_eq_false h
    have := idxM_le (nmP sy nm) sy.length
    have e : symAdd sy nm = sy := by rw [symAdd, if_pos (by unfold symI at *; omega)]
    exact ⟨rfl, rfl, e.symm⟩
def rSym (dd : List Int) (sy : List Sm) (nm : ByteArray) (q a1 a2 a3 a4 n : Nat) : ORes := { v := .int .i64 (.full (symI sy nm)), ws := [(a4, none), (n, some (.recs .sym (symAdd sy nm))), (q, some (.cells [.ro .u32 dd, .own a1, .own a2, .nilslice, .own a3, .own n]))], k := 1, vc := some (sy.length ≤ 999999) }
def kSym : List SVal → Nat → Acc ORes := fun a n => match a with
  | [.ptr q 0, .str nm] => .look q fun c => match c with
    | some (.cells [.ro .u32 dd, .own a1, .own a2, .nilslice, .own a3, .own a4]) => .look a4 fun c => match c with
      | some (.recs .sym sy) => .ret (rSym dd sy nm q a1 a2 a3 a4 n)
      | _ => .fail "sym"
    | _ => .fail "sym"
  | _ => .fail "sym"
theorem cSym : Con ea has gl 62 kSym where
  call := enters Tryd.func62 (c := bodyOf Tryd.f62) (by kernel_rfl) (by kernel_rfl)
  does {W R ρ h args vs next r l l'} M hA hr hv hn := by
    unfold kSym at hr
    split at hr
    · rename_i q nm
      simp only [Acc.run] at hr
      split at hr
      · rename_i dd a1 a2 a3 a4 hq
        simp only [Acc.run] at hr
        split at hr
        · rename_i sy ha4
          have := ret_ok hr; subst this
          replace hv := hv _ rfl
          clear hr
          -- what is handed over
          obtain ⟨vq, hvq, b, cs, T, rfl, hb, hd⟩ := M.at_ q _ hq
          obtain ⟨v4, hv4, hh4⟩ := M.at_ a4 _ ha4
          obtain ⟨u0, us, rfl, o0, d0, hd⟩ := hd.inv_one rfl
          obtain ⟨u1, us, rfl, o1, d1, hd⟩ := hd.inv_one rfl
          obtain ⟨u2, us, rfl, o2, d2, hd⟩ := hd.inv_one rfl
          obtain ⟨u3, us, rfl, o3, d3, hd⟩ := hd.inv_one rfl
          obtain ⟨u4, us, rfl, o4, d4, hd⟩ := hd.inv_one rfl
          obtain ⟨u5, us, rfl, o5, d5, hd⟩ := hd.inv_one rfl
          cases hd
          cases d1 with
          | own _ A1 m1 c1 e1 =>
          cases d2 with
          | own _ A2 m2 c2 e2 =>
          cases d4 with
          | own _ A3 m3 c3 e3 =>
          cases d5 with
          | own _ A4 m4 c4 e4 =>
          rw [hv4] at e4; cases e4
          let ρ0 : Nat → Option Value := fun n => if n = 0 then ρ q else if n = 1 then ρ a1 else if n = 2 then ρ a2 else if n = 3 then ρ a3 else if n = 4 then ρ a4 else none
          have only : ∀ n c, lookS [(0, boxS dd 4), (4, some (.recs .sym sy))] n = some c → (n = 0 ∧ c = .cells [.ro .u32 dd, .own 1, .own 2, .nilslice, .own 3, .own 4]) ∨ (n = 4 ∧ c = .recs .sym sy) := fun n c hc => by
            unfold lookS at hc
            simp only [find] at hc
            split at hc
            · rename_i hbq; have := Nat.eq_of_beq_eq_true hbq; subst this; cases hc; exact .inl ⟨rfl, rfl⟩
            · split at hc
              · rename_i hbq; have := Nat.eq_of_beq_eq_true hbq; subst this; cases hc; exact .inr ⟨rfl, rfl⟩
              · cases hc
          have hne : q ≠ a4 := fun e => by subst e; rw [hq] at ha4; cases ha4
          have hroF : ∀ {ρ' : Nat → Option Value} {u}, Den (ctx ea has) W R ρ (.ro .u32 dd) u → Den (ctx ea has) W R ρ' (.ro .u32 dd) u := fun {ρ' u} hd => by
            cases hd with
            | ro _ _ A cap vs h1 h2 h3 h4 h5 => exact .ro _ _ A cap vs h1 h2 (h3.free (fun _ h => h) (flat_plain .u32 dd)) h4 h5
          have S : Enters (ctx ea has) gl W R ρ h (rSym dd sy nm q a1 a2 a3 a4 next) R (fun x => x = b ∨ blk (.slice A4 m4 c4) = some x) ρ0 [(0, boxS dd 4), (4, some (.recs .sym sy))] 5 [.ptr 0 0, .str nm] vs := by
            refine ⟨?_, ⟨M.base, fun n c hc => ?_, fun n n' c c' v v' x k1 k2 k3 k4 k5 k6 => ?_, fun n c v x k1 k2 k3 => ?_⟩, fun n hn => ?_, fun _ h => h, fun _ h => .inl h, fun x hx => ?_, fun x hx => ?_⟩
            · cases hA with
              | cons _ v _ us h1 h2 =>
                cases h2 with
                | cons _ v' _ us' h3 h4 =>
                  cases h4
                  cases h1 with
                  | ptr _ _ b' hv' => exact .cons _ _ _ _ (.ptr 0 0 b' hv') (.cons _ _ _ _ (h3.free (fun _ h => h) rfl) .nil)
            · rcases only n c hc with ⟨rfl, rfl⟩ | ⟨rfl, rfl⟩
              · exact ⟨_, hvq, b, _, T, rfl, hb, .one _ _ _ _ rfl o0 (hroF d0) (.one _ _ _ _ rfl o1 (.own 1 _ _ _ e1) (.one _ _ _ _ rfl o2 (.own 2 _ _ _ e2) (.one _ _ _ _ rfl o3 (by cases d3; exact .nilslice) (.one _ _ _ _ rfl o4 (.own 3 _ _ _ e3) (.one _ _ _ _ rfl o5 (.own 4 _ _ _ hv4) .nil)))))⟩
              · obtain ⟨e, vs, ho, hl⟩ := hh4
                exact ⟨_, hv4, e, vs, ho, hl.free (fun _ h => h) (flat_plain .sym sy)⟩
            · rcases only n c k1 with ⟨rfl, rfl⟩ | ⟨rfl, rfl⟩ <;> rcases only n' c' k2 with ⟨rfl, rfl⟩ | ⟨rfl, rfl⟩
              · rfl
              · exact (hne (M.apart q a4 _ _ _ _ x hq ha4 k3 k4 k5 k6)).elim
              · exact (hne (M.apart q a4 _ _ _ _ x hq ha4 k4 k3 k6 k5)).elim
              · rfl
            · rcases only n c k1 with ⟨rfl, rfl⟩ | ⟨rfl, rfl⟩
              · exact M.off q _ v x hq k2 k3
              · exact M.off a4 _ v x ha4 k2 k3
            · show (if n = 0 then ρ q else if n = 1 then ρ a1 else if n = 2 then ρ a2 else if n = 3 then ρ a3 else if n = 4 then ρ a4 else none) = none
              rw [if_neg (by omega), if_neg (by omega), if_neg (by omega), if_neg (by omega), if_neg (by omega)]
            · obtain ⟨n, c, v, k1, k2, k3⟩ := hx
              rcases only n c k1 with ⟨rfl, rfl⟩ | ⟨rfl, rfl⟩
              · have k2 : ρ q = some v := k2
                rw [hvq] at k2; cases k2; cases k3; exact .inl rfl
              · have k2 : ρ a4 = some v := k2
                rw [hv4] at k2; cases k2; exact .inr k3
            · rcases hx with rfl | hx
              · exact ⟨q, _, _, by simp [keys, rSym], hq, hvq, rfl⟩
              · exact ⟨a4, _, _, by simp [keys, rSym], ha4, hv4, hx⟩
          have hnq : ρ next = none := hn 0 Nat.one_pos
          have hqn : q ≠ next := fun e => by subst e; rw [hvq] at hnq; cases hnq
          refine con_run envS_ok Tryd.func62 (c := bodyOf Tryd.f62) (by kernel_rfl) (ls := [(2, LSym dd sy nm)]) M hn S (by kernel_rfl) (fun W R ρ0 own0 _ => hl1 (by kernel_rfl) (by kernel_rfl) (lSym dd sy nm)) ?_
          refine sat_mono (fun e s hs => ⟨_, _, [(q, 0), (next, 5)], hs, ?_, ?_, ?_, rfl⟩) (gSym dd sy nm hv)
          · intro W R ρ2 ρ3 u M2 ha he _ _ hd
            exact hd.free (fun _ h => h) rfl
          · intro n c hc
            have f0 : find q [(q, 0), (next, 5)] = some 0 := by simp [find, Nat.beq_refl]
            have f1 : find next [(q, 0), (next, 5)] = some 5 := by
              have : q.beq next = false := by cases hb : q.beq next with | false => rfl | true => exact (hqn (Nat.eq_of_beq_eq_true hb)).elim
              simp [find, Nat.beq_refl, this]
            unfold rSym at hc
            simp only [find] at hc
            split at hc
            · cases hc; exact .inl rfl
            · split at hc
              · rename_i hbq
                have := Nat.eq_of_beq_eq_true hbq; subst this
                cases hc
                refine .inr ⟨5, .recs .sym (symAdd sy nm), _, f1, rfl, rfl, fun W R ρ2 ρ3 u M2 ha he _ _ hh => ?_⟩
                obtain ⟨e, vs, ho, hl⟩ := hh
                exact ⟨e, vs, ho, hl.free (fun _ h => h) (flat_plain .sym _)⟩
              · split at hc
                · rename_i hbq
                  have := Nat.eq_of_beq_eq_true hbq; subst this
                  cases hc
                  refine .inr ⟨0, .cells [.ro .u32 dd, .own 1, .own 2, .nilslice, .own 3, .own 5], _, f0, rfl, rfl, fun W R ρ2 ρ3 u M2 ha he hpin hext hh => ?_⟩
                  obtain ⟨b', cs, T, rfl, hb, hd⟩ := hh
                  obtain ⟨w0, us, rfl, p0, q0, hd⟩ := hd.inv_one rfl
                  obtain ⟨w1, us, rfl, p1, q1, hd⟩ := hd.inv_one rfl
                  obtain ⟨w2, us, rfl, p2, q2, hd⟩ := hd.inv_one rfl
                  obtain ⟨w3, us, rfl, p3, q3, hd⟩ := hd.inv_one rfl
                  obtain ⟨w4, us, rfl, p4, q4, hd⟩ := hd.inv_one rfl
                  obtain ⟨w5, us, rfl, p5, q5, hd⟩ := hd.inv_one rfl
                  cases hd
                  have g1 := hpin 1 (by simp) _ (show ρ0 1 = _ from e1)
                  have g2 := hpin 2 (by simp) _ (show ρ0 2 = _ from e2)
                  have g3 := hpin 3 (by simp) _ (show ρ0 3 = _ from e3)
                  refine ⟨b', _, T, rfl, hb, .one _ _ _ _ rfl p0 ?_ (.one _ _ _ _ rfl p1 ?_ (.one _ _ _ _ rfl p2 ?_ (.one _ _ _ _ rfl p3 (by cases q3; exact .nilslice) (.one _ _ _ _ rfl p4 ?_ (.one _ _ _ _ rfl p5 ?_ .nil)))))⟩
                  · cases q0 with
                    | ro _ _ A cap vs h1 h2 h3 h4 h5 => exact .ro _ _ A cap vs h1 h2 (h3.free (fun _ h => h) (flat_plain .u32 dd)) h4 h5
                  · cases q1 with
                    | own _ A m c e => rw [g1] at e; cases e; exact .own _ _ _ _ (hext _ _ e1)
                  · cases q2 with
                    | own _ A m c e => rw [g2] at e; cases e; exact .own _ _ _ _ (hext _ _ e2)
                  · cases q4 with
                    | own _ A m c e => rw [g3] at e; cases e; exact .own _ _ _ _ (hext _ _ e3)
                  · cases q5 with
                    | own _ A m c e => exact .own _ _ _ _ (by rw [he next 5 f1]; exact e)
                · cases hc
          · intro n q' hq'
            simp only [find] at hq'
            split at hq'
            · rename_i hbq
              have := Nat.eq_of_beq_eq_true hbq; subst this
              cases hq'
              exact .inl ⟨by simp, rfl, by rw [hvq]; simp⟩
            · split at hq'
              · rename_i hbq
                have := Nat.eq_of_beq_eq_true hbq; subst this
                cases hq'
                exact .inr ⟨by simp [keys, rSym], Nat.le_refl _, Nat.lt_succ_self _⟩
              · cases hq'
        · cases hr
      · cases hr
    · cases hr
end
end Go.Proofs.YtbdfibaljoedpaaDoor

set_option linter.unusedVariables false
set_option linter.unusedSimpArgs false
namespace Go.Proofs.YtbdfibaljoedpaaDoor
open Go.RowKit Go.Sy Go.Fac
section
variable {ea : Int → Addr} {has : Int → Prop} {gl : List (Nat × SVal)}
structure OS where
  code : List Int
  map : List Int
  cr : List Rel
  sy : List Sm
def oLab (x : Ln) (s : OS) : OS := { s with sy := (symAdd s.sy x.name).set (symI s.sy x.name) ⟨x.name, 2, s.code.length, true⟩ }
def oRel (x : Ln) (at_ kind : Int) (s : OS) : OS := if x.sym = ByteArray.empty then s else { s with cr := s.cr ++ [⟨at_, kind, symI s.sy x.sym, 0⟩], sy := symAdd s.sy x.sym }
def oTab (x : Ln) (s : OS) : OS := let t := oRel x s.code.length 1 s; { t with code := s.code ++ [x.i.imm], map := s.map ++ [2] }
def oIns (x : Ln) (s : OS) : OS :=
  let two := isaTwo x.i.op
  let t := oRel x (if two = true then s.code.length + 1 else s.code.length) (if two = true then 1 else 2) s
  let w := wordW x.i.op x.i.a x.i.b x.i.c x.i.imm
  if two = true then { t with code := s.code ++ [w] ++ [x.i.imm], map := s.map ++ [1] ++ [0] } else { t with code := s.code ++ [w], map := s.map ++ [1] }
def oStep (x : Ln) (s : OS) : OS := if ¬ x.name = ByteArray.empty then oLab x s else if x.table = true then oTab x s else oIns x s
def oSt (ls : List Ln) : Nat → OS
  | 0 => ⟨[], [], [], []⟩
  | i + 1 => oStep (ls.getD i RT.line.dflt) (oSt ls i)
def oAll (ls : List Ln) : OS := oSt ls ls.length
abbrev noW : List Int := nilR .u32
def shortN (l : List Int) : Prop := l.length ≤ 1000000
def shObj : List Shp := [.ro .u32, .ro .line]
def lnAt (ls : List Ln) (i : Nat) : Ln := ls.getD i RT.line.dflt
def hpO (dd : List Int) (s : OS) : List (Nat × Option Cont) := [(0, boxS dd 4), (1, some (.recs .u32 s.code)), (2, some (.recs .u8 s.map)), (3, some (.recs .rel s.cr)), (4, some (.recs .sym s.sy)), (5, some (.cells [.nilslice, .nilslice, .nilslice, .nilslice, .nilslice, .nilslice]))]
def frO (ls : List Ln) (i : Nat) : List (Nat × SVal) := [(1, .ro .line ls), (4, .ptr 5 0), (5, .ptr 0 0), (6, .int .i64 (.sym i 0 1000000))]
def stX (dd : List Int) (ls : List Ln) (i : Nat) (fr : List (Nat × SVal)) (s : OS) : SState := { fr := frO ls i ++ (7, .ptr 6 0) :: fr, hp := hpO dd s ++ [(6, some (.cells (RT.line.enc (lnAt ls i))))], next := 7, sz := 132 }
def wO (x : Ln) : Int := wordW x.i.op x.i.a x.i.b x.i.c x.i.imm
def atO (x : Ln) (s : OS) : Int := if isaTwo x.i.op = true then s.code.length + 1 else s.code.length
def kiO (x : Ln) : Int := if isaTwo x.i.op = true then 1 else 2
def joinsO (dd : List Int) (ls : List Ln) (i : Nat) : List (Nat × LSum) := [
  (2000019, cutL (stX dd ls i [] (oSt ls i))),
  (2000025, cutL (stX dd ls i [] (oRel (lnAt ls i) (oSt ls i).code.length 1 (oSt ls i)))),
  (2000013, cutL (stX dd ls i [(9, .int .u32 (.full (wO (lnAt ls i)))), (11, .int .i64 (.full (atO (lnAt ls i) (oSt ls i)))), (12, .int .i64 (.full (kiO (lnAt ls i))))] (oSt ls i))),
  (2000014, cutL (stX dd ls i [(9, .int .u32 (.full (wO (lnAt ls i))))] (oRel (lnAt ls i) (atO (lnAt ls i) (oSt ls i)) (kiO (lnAt ls i)) (oSt ls i)))),
  (2000004, cutL { fr := frO ls i, hp := hpO dd (oSt ls (i + 1)), next := 6, sz := 132 })]
theorem symAdd_len (sy : List Sm) (nm : ByteArray) : (symAdd sy nm).length ≤ sy.length + 1 := by unfold symAdd; split <;> simp
theorem symI_lt (sy : List Sm) (nm : ByteArray) : symI sy nm < (symAdd sy nm).length := by
  have := idxM_le (nmP sy nm) sy.length
  unfold symAdd
  split
  · assumption
  · unfold symI; simp; omega
theorem oRel_len (x : Ln) (a k : Int) (s : OS) : (oRel x a k s).code = s.code ∧ (oRel x a k s).map = s.map ∧ (oRel x a k s).cr.length ≤ s.cr.length + 1 ∧ (oRel x a k s).sy.length ≤ s.sy.length + 1 := by
  unfold oRel
  split
  · exact ⟨rfl, rfl, by omega, by omega⟩
  · exact ⟨rfl, rfl, by simp, symAdd_len _ _⟩
theorem oSt_len (ls : List Ln) : ∀ i, (oSt ls i).code.length ≤ 2 * i ∧ (oSt ls i).map.length ≤ 2 * i ∧ (oSt ls i).cr.length ≤ i ∧ (oSt ls i).sy.length ≤ i
  | 0 => ⟨Nat.le_refl _, Nat.le_refl _, Nat.le_refl _, Nat.le_refl _⟩
  | i + 1 => by
    have h := oSt_len ls i
    rw [oSt]
    unfold oStep
    split
    · have := symAdd_len (oSt ls i).sy (ls.getD i RT.line.dflt).name
      simp only [oLab, List.length_set]; omega
    · split
      · have := oRel_len (ls.getD i RT.line.dflt) (oSt ls i).code.length 1 (oSt ls i)
        simp only [oTab, List.length_append, List.length_singleton]; omega
      · unfold oIns
        simp only
        generalize (if isaTwo (ls.getD i RT.line.dflt).i.op = true then ((oSt ls i).code.length : Int) + 1 else (oSt ls i).code.length) = A
        generalize (if isaTwo (ls.getD i RT.line.dflt).i.op = true then (1 : Int) else 2) = K
        have h1 := oRel_len (ls.getD i RT.line.dflt) A K (oSt ls i)
        split <;> simp only [List.length_append, List.length_singleton] <;> omega
def HObj (dd : List Int) (ls : List Ln) (i : Nat) : SState := { fr := frO ls i, hp := hpO dd (oSt ls i), next := 6, sz := 132 }
def XObj (dd : List Int) (ls : List Ln) : SState := { fr := [(4, .ptr 5 0), (5, .ptr 0 0)], hp := hpO dd (oAll ls), next := 6, sz := 132 }
def LObj (dd : List Int) (ls : List Ln) : LSum := ⟨HObj dd ls 0, fun k => k (.exit 0) (XObj dd ls), ls.length ≤ 100000⟩
theorem bObj (gl : List (Nat × SVal)) (dd : List Int) (ls : List Ln) (i : Nat) : (Tr.sat (rnd1 (env gl [(61, kWords), (62, kSym), (63, krWord), (64, krTwo)]) (fun _ => True) (ls.length) (HObj dd ls) 0 (XObj dd ls) i) (run (env gl [(61, kWords), (62, kSym), (63, krWord), (64, krTwo)]) (joinsO dd ls i) (loopN (bodyOf Tryd.f24) 0) (HObj dd ls i) .leaf)) = (
  (decide ((↑i : Int) < (↑(List.length ls) : Int)) = true → ((((0 : Int) ≤ (↑i : Int) ∧ (↑i : Int) < (↑(List.length ls) : Int)) ∧ ((0 : Int) ≤ (↑i : Int) ∧ (↑i : Int) < (↑(List.length ls) : Int) → ls = ls ∧ (↑i : Int) = (↑i : Int) ∧ dd = dd ∧ (oSt ls i).code = (oSt ls i).code ∧ (oSt ls i).map = (oSt ls i).map ∧ (oSt ls i).cr = (oSt ls i).cr ∧ (oSt ls i).sy = (oSt ls i).sy ∧ (List.getD ls (Int.toNat (↑i : Int)) (RT.dflt RT.line)).i.op = (lnAt ls i).i.op ∧ (List.getD ls (Int.toNat (↑i : Int)) (RT.dflt RT.line)).i.a = (lnAt ls i).i.a ∧ (List.getD ls (Int.toNat (↑i : Int)) (RT.dflt RT.line)).i.b = (lnAt ls i).i.b ∧ (List.getD ls (Int.toNat (↑i : Int)) (RT.dflt RT.line)).i.c = (lnAt ls i).i.c ∧ (List.getD ls (Int.toNat (↑i : Int)) (RT.dflt RT.line)).i.imm = (lnAt ls i).i.imm ∧ (List.getD ls (Int.toNat (↑i : Int)) (RT.dflt RT.line)).name = (lnAt ls i).name ∧ (List.getD ls (Int.toNat (↑i : Int)) (RT.dflt RT.line)).sym = (lnAt ls i).sym ∧ (List.getD ls (Int.toNat (↑i : Int)) (RT.dflt RT.line)).table = (lnAt ls i).table)) ∧ ((!decide ((lnAt ls i).name = ByteArray.mk #[])) = true → List.length (oSt ls i).sy ≤ (999999 : Nat) ∧ (List.length (oSt ls i).sy ≤ (999999 : Nat) → ((0 : Int) ≤ (↑(symI (oSt ls i).sy (lnAt ls i).name) : Int) ∧ (↑(symI (oSt ls i).sy (lnAt ls i).name) : Int) < (↑(List.length (symAdd (oSt ls i).sy (lnAt ls i).name)) : Int)) ∧ ((0 : Int) ≤ (↑(symI (oSt ls i).sy (lnAt ls i).name) : Int) ∧ (↑(symI (oSt ls i).sy (lnAt ls i).name) : Int) < (↑(List.length (symAdd (oSt ls i).sy (lnAt ls i).name)) : Int) → ls = ls ∧ (↑i : Int) = (↑i : Int) ∧ dd = dd ∧ (oSt ls i).code = (oSt ls (i + (1 : Nat))).code ∧ (oSt ls i).map = (oSt ls (i + (1 : Nat))).map ∧ (oSt ls i).cr = (oSt ls (i + (1 : Nat))).cr ∧ List.set (symAdd (oSt ls i).sy (lnAt ls i).name) (Int.toNat (↑(symI (oSt ls i).sy (lnAt ls i).name) : Int)) (Sm.mk (lnAt ls i).name (2 : Int) (↑(List.length (oSt ls i).code) : Int) true) = (oSt ls (i + (1 : Nat))).sy))) ∧ ((!decide ((lnAt ls i).name = ByteArray.mk #[])) = false → ((lnAt ls i).table = true → (((!decide ((lnAt ls i).sym = ByteArray.mk #[])) = true → List.length (oSt ls i).sy ≤ (999999 : Nat) ∧ (List.length (oSt ls i).sy ≤ (999999 : Nat) → List.length (oSt ls i).cr + List.length [Rel.mk (↑(List.length (oSt ls i).code) : Int) (1 : Int) (↑(symI (oSt ls i).sy (lnAt ls i).sym) : Int) (0 : Int)] ≤ (137438953472 : Nat) ∧ (List.length (oSt ls i).cr + List.length [Rel.mk (↑(List.length (oSt ls i).code) : Int) (1 : Int) (↑(symI (oSt ls i).sy (lnAt ls i).sym) : Int) (0 : Int)] ≤ (137438953472 : Nat) → ((true = true ∧ true = true ∧ true = true ∧ (0 : Nat) = (0 : Nat) ∧ (0 : Nat) = (0 : Nat)) ∧ (true = true → SVal.own (3 : Nat) = SVal.own (3 : Nat) ∧ True)) ∧ ((true = true ∧ true = true ∧ true = true ∧ (0 : Nat) = (0 : Nat) ∧ (0 : Nat) = (0 : Nat)) ∧ (true = true → SVal.own (3 : Nat) = SVal.own (3 : Nat) ∧ True) → ((true = true ∧ true = true ∧ true = true ∧ (0 : Nat) = (0 : Nat) ∧ (0 : Nat) = (0 : Nat)) ∧ (true = true → SVal.own (1 : Nat) = SVal.own (1 : Nat) ∧ True)) ∧ ((true = true ∧ true = true ∧ true = true ∧ (0 : Nat) = (0 : Nat) ∧ (0 : Nat) = (0 : Nat)) ∧ (true = true → SVal.own (1 : Nat) = SVal.own (1 : Nat) ∧ True) → ls = ls ∧ (↑i : Int) = (↑i : Int) ∧ dd = dd ∧ (oSt ls i).code = (oRel (lnAt ls i) (↑(List.length (oSt ls i).code) : Int) (1 : Int) (oSt ls i)).code ∧ (oSt ls i).map = (oRel (lnAt ls i) (↑(List.length (oSt ls i).code) : Int) (1 : Int) (oSt ls i)).map ∧ (oSt ls i).cr ++ [Rel.mk (↑(List.length (oSt ls i).code) : Int) (1 : Int) (↑(symI (oSt ls i).sy (lnAt ls i).sym) : Int) (0 : Int)] = (oRel (lnAt ls i) (↑(List.length (oSt ls i).code) : Int) (1 : Int) (oSt ls i)).cr ∧ symAdd (oSt ls i).sy (lnAt ls i).sym = (oRel (lnAt ls i) (↑(List.length (oSt ls i).code) : Int) (1 : Int) (oSt ls i)).sy ∧ (lnAt ls i).i.op = (lnAt ls i).i.op ∧ (lnAt ls i).i.a = (lnAt ls i).i.a ∧ (lnAt ls i).i.b = (lnAt ls i).i.b ∧ (lnAt ls i).i.c = (lnAt ls i).i.c ∧ (lnAt ls i).i.imm = (lnAt ls i).i.imm ∧ (lnAt ls i).name = (lnAt ls i).name ∧ (lnAt ls i).sym = (lnAt ls i).sym ∧ (lnAt ls i).table = (lnAt ls i).table))))) ∧ ((!decide ((lnAt ls i).sym = ByteArray.mk #[])) = false → ls = ls ∧ (↑i : Int) = (↑i : Int) ∧ dd = dd ∧ (oSt ls i).code = (oRel (lnAt ls i) (↑(List.length (oSt ls i).code) : Int) (1 : Int) (oSt ls i)).code ∧ (oSt ls i).map = (oRel (lnAt ls i) (↑(List.length (oSt ls i).code) : Int) (1 : Int) (oSt ls i)).map ∧ (oSt ls i).cr = (oRel (lnAt ls i) (↑(List.length (oSt ls i).code) : Int) (1 : Int) (oSt ls i)).cr ∧ (oSt ls i).sy = (oRel (lnAt ls i) (↑(List.length (oSt ls i).code) : Int) (1 : Int) (oSt ls i)).sy ∧ (lnAt ls i).i.op = (lnAt ls i).i.op ∧ (lnAt ls i).i.a = (lnAt ls i).i.a ∧ (lnAt ls i).i.b = (lnAt ls i).i.b ∧ (lnAt ls i).i.c = (lnAt ls i).i.c ∧ (lnAt ls i).i.imm = (lnAt ls i).i.imm ∧ (lnAt ls i).name = (lnAt ls i).name ∧ (lnAt ls i).sym = (lnAt ls i).sym ∧ (lnAt ls i).table = (lnAt ls i).table)) ∧ List.length (oRel (lnAt ls i) (↑(List.length (oSt ls i).code) : Int) (1 : Int) (oSt ls i)).code + List.length [(lnAt ls i).i.imm] ≤ (137438953472 : Nat) ∧ (List.length (oRel (lnAt ls i) (↑(List.length (oSt ls i).code) : Int) (1 : Int) (oSt ls i)).code + List.length [(lnAt ls i).i.imm] ≤ (137438953472 : Nat) → List.length (oRel (lnAt ls i) (↑(List.length (oSt ls i).code) : Int) (1 : Int) (oSt ls i)).map + List.length [(2 : Int)] ≤ (137438953472 : Nat) ∧ (List.length (oRel (lnAt ls i) (↑(List.length (oSt ls i).code) : Int) (1 : Int) (oSt ls i)).map + List.length [(2 : Int)] ≤ (137438953472 : Nat) → ls = ls ∧ (↑i : Int) = (↑i : Int) ∧ dd = dd ∧ (oRel (lnAt ls i) (↑(List.length (oSt ls i).code) : Int) (1 : Int) (oSt ls i)).code ++ [(lnAt ls i).i.imm] = (oSt ls (i + (1 : Nat))).code ∧ (oRel (lnAt ls i) (↑(List.length (oSt ls i).code) : Int) (1 : Int) (oSt ls i)).map ++ [(2 : Int)] = (oSt ls (i + (1 : Nat))).map ∧ (oRel (lnAt ls i) (↑(List.length (oSt ls i).code) : Int) (1 : Int) (oSt ls i)).cr = (oSt ls (i + (1 : Nat))).cr ∧ (oRel (lnAt ls i) (↑(List.length (oSt ls i).code) : Int) (1 : Int) (oSt ls i)).sy = (oSt ls (i + (1 : Nat))).sy))) ∧ ((lnAt ls i).table = false → (((!decide ((lnAt ls i).sym = ByteArray.mk #[])) = true → ((isaTwo (lnAt ls i).i.op = true → ls = ls ∧ (↑i : Int) = (↑i : Int) ∧ wordW (lnAt ls i).i.op (lnAt ls i).i.a (lnAt ls i).i.b (lnAt ls i).i.c (lnAt ls i).i.imm = wO (lnAt ls i) ∧ IntKind.wrap IntKind.i64 ((↑(List.length (oSt ls i).code) : Int) + (1 : Int)) = atO (lnAt ls i) (oSt ls i) ∧ (1 : Int) = kiO (lnAt ls i) ∧ dd = dd ∧ (oSt ls i).code = (oSt ls i).code ∧ (oSt ls i).map = (oSt ls i).map ∧ (oSt ls i).cr = (oSt ls i).cr ∧ (oSt ls i).sy = (oSt ls i).sy ∧ (lnAt ls i).i.op = (lnAt ls i).i.op ∧ (lnAt ls i).i.a = (lnAt ls i).i.a ∧ (lnAt ls i).i.b = (lnAt ls i).i.b ∧ (lnAt ls i).i.c = (lnAt ls i).i.c ∧ (lnAt ls i).i.imm = (lnAt ls i).i.imm ∧ (lnAt ls i).name = (lnAt ls i).name ∧ (lnAt ls i).sym = (lnAt ls i).sym ∧ (lnAt ls i).table = (lnAt ls i).table) ∧ (isaTwo (lnAt ls i).i.op = false → ls = ls ∧ (↑i : Int) = (↑i : Int) ∧ wordW (lnAt ls i).i.op (lnAt ls i).i.a (lnAt ls i).i.b (lnAt ls i).i.c (lnAt ls i).i.imm = wO (lnAt ls i) ∧ (↑(List.length (oSt ls i).code) : Int) = atO (lnAt ls i) (oSt ls i) ∧ (2 : Int) = kiO (lnAt ls i) ∧ dd = dd ∧ (oSt ls i).code = (oSt ls i).code ∧ (oSt ls i).map = (oSt ls i).map ∧ (oSt ls i).cr = (oSt ls i).cr ∧ (oSt ls i).sy = (oSt ls i).sy ∧ (lnAt ls i).i.op = (lnAt ls i).i.op ∧ (lnAt ls i).i.a = (lnAt ls i).i.a ∧ (lnAt ls i).i.b = (lnAt ls i).i.b ∧ (lnAt ls i).i.c = (lnAt ls i).i.c ∧ (lnAt ls i).i.imm = (lnAt ls i).i.imm ∧ (lnAt ls i).name = (lnAt ls i).name ∧ (lnAt ls i).sym = (lnAt ls i).sym ∧ (lnAt ls i).table = (lnAt ls i).table)) ∧ List.length (oSt ls i).sy ≤ (999999 : Nat) ∧ (List.length (oSt ls i).sy ≤ (999999 : Nat) → List.length (oSt ls i).cr + List.length [Rel.mk (atO (lnAt ls i) (oSt ls i)) (kiO (lnAt ls i)) (↑(symI (oSt ls i).sy (lnAt ls i).sym) : Int) (0 : Int)] ≤ (137438953472 : Nat) ∧ (List.length (oSt ls i).cr + List.length [Rel.mk (atO (lnAt ls i) (oSt ls i)) (kiO (lnAt ls i)) (↑(symI (oSt ls i).sy (lnAt ls i).sym) : Int) (0 : Int)] ≤ (137438953472 : Nat) → ((true = true ∧ true = true ∧ true = true ∧ (0 : Nat) = (0 : Nat) ∧ (0 : Nat) = (0 : Nat)) ∧ (true = true → SVal.own (3 : Nat) = SVal.own (3 : Nat) ∧ True)) ∧ ((true = true ∧ true = true ∧ true = true ∧ (0 : Nat) = (0 : Nat) ∧ (0 : Nat) = (0 : Nat)) ∧ (true = true → SVal.own (3 : Nat) = SVal.own (3 : Nat) ∧ True) → ls = ls ∧ (↑i : Int) = (↑i : Int) ∧ wO (lnAt ls i) = wO (lnAt ls i) ∧ dd = dd ∧ (oSt ls i).code = (oRel (lnAt ls i) (atO (lnAt ls i) (oSt ls i)) (kiO (lnAt ls i)) (oSt ls i)).code ∧ (oSt ls i).map = (oRel (lnAt ls i) (atO (lnAt ls i) (oSt ls i)) (kiO (lnAt ls i)) (oSt ls i)).map ∧ (oSt ls i).cr ++ [Rel.mk (atO (lnAt ls i) (oSt ls i)) (kiO (lnAt ls i)) (↑(symI (oSt ls i).sy (lnAt ls i).sym) : Int) (0 : Int)] = (oRel (lnAt ls i) (atO (lnAt ls i) (oSt ls i)) (kiO (lnAt ls i)) (oSt ls i)).cr ∧ symAdd (oSt ls i).sy (lnAt ls i).sym = (oRel (lnAt ls i) (atO (lnAt ls i) (oSt ls i)) (kiO (lnAt ls i)) (oSt ls i)).sy ∧ (lnAt ls i).i.op = (lnAt ls i).i.op ∧ (lnAt ls i).i.a = (lnAt ls i).i.a ∧ (lnAt ls i).i.b = (lnAt ls i).i.b ∧ (lnAt ls i).i.c = (lnAt ls i).i.c ∧ (lnAt ls i).i.imm = (lnAt ls i).i.imm ∧ (lnAt ls i).name = (lnAt ls i).name ∧ (lnAt ls i).sym = (lnAt ls i).sym ∧ (lnAt ls i).table = (lnAt ls i).table)))) ∧ ((!decide ((lnAt ls i).sym = ByteArray.mk #[])) = false → ls = ls ∧ (↑i : Int) = (↑i : Int) ∧ wordW (lnAt ls i).i.op (lnAt ls i).i.a (lnAt ls i).i.b (lnAt ls i).i.c (lnAt ls i).i.imm = wO (lnAt ls i) ∧ dd = dd ∧ (oSt ls i).code = (oRel (lnAt ls i) (atO (lnAt ls i) (oSt ls i)) (kiO (lnAt ls i)) (oSt ls i)).code ∧ (oSt ls i).map = (oRel (lnAt ls i) (atO (lnAt ls i) (oSt ls i)) (kiO (lnAt ls i)) (oSt ls i)).map ∧ (oSt ls i).cr = (oRel (lnAt ls i) (atO (lnAt ls i) (oSt ls i)) (kiO (lnAt ls i)) (oSt ls i)).cr ∧ (oSt ls i).sy = (oRel (lnAt ls i) (atO (lnAt ls i) (oSt ls i)) (kiO (lnAt ls i)) (oSt ls i)).sy ∧ (lnAt ls i).i.op = (lnAt ls i).i.op ∧ (lnAt ls i).i.a = (lnAt ls i).i.a ∧ (lnAt ls i).i.b = (lnAt ls i).i.b ∧ (lnAt ls i).i.c = (lnAt ls i).i.c ∧ (lnAt ls i).i.imm = (lnAt ls i).i.imm ∧ (lnAt ls i).name = (lnAt ls i).name ∧ (lnAt ls i).sym = (lnAt ls i).sym ∧ (lnAt ls i).table = (lnAt ls i).table)) ∧ List.length (oRel (lnAt ls i) (atO (lnAt ls i) (oSt ls i)) (kiO (lnAt ls i)) (oSt ls i)).code + List.length [wO (lnAt ls i)] ≤ (137438953472 : Nat) ∧ (List.length (oRel (lnAt ls i) (atO (lnAt ls i) (oSt ls i)) (kiO (lnAt ls i)) (oSt ls i)).code + List.length [wO (lnAt ls i)] ≤ (137438953472 : Nat) → List.length (oRel (lnAt ls i) (atO (lnAt ls i) (oSt ls i)) (kiO (lnAt ls i)) (oSt ls i)).map + List.length [(1 : Int)] ≤ (137438953472 : Nat) ∧ (List.length (oRel (lnAt ls i) (atO (lnAt ls i) (oSt ls i)) (kiO (lnAt ls i)) (oSt ls i)).map + List.length [(1 : Int)] ≤ (137438953472 : Nat) → (isaTwo (lnAt ls i).i.op = true → List.length ((oRel (lnAt ls i) (atO (lnAt ls i) (oSt ls i)) (kiO (lnAt ls i)) (oSt ls i)).code ++ [wO (lnAt ls i)]) + List.length [(lnAt ls i).i.imm] ≤ (137438953472 : Nat) ∧ (List.length ((oRel (lnAt ls i) (atO (lnAt ls i) (oSt ls i)) (kiO (lnAt ls i)) (oSt ls i)).code ++ [wO (lnAt ls i)]) + List.length [(lnAt ls i).i.imm] ≤ (137438953472 : Nat) → List.length ((oRel (lnAt ls i) (atO (lnAt ls i) (oSt ls i)) (kiO (lnAt ls i)) (oSt ls i)).map ++ [(1 : Int)]) + List.length [(0 : Int)] ≤ (137438953472 : Nat) ∧ (List.length ((oRel (lnAt ls i) (atO (lnAt ls i) (oSt ls i)) (kiO (lnAt ls i)) (oSt ls i)).map ++ [(1 : Int)]) + List.length [(0 : Int)] ≤ (137438953472 : Nat) → ls = ls ∧ (↑i : Int) = (↑i : Int) ∧ dd = dd ∧ (oRel (lnAt ls i) (atO (lnAt ls i) (oSt ls i)) (kiO (lnAt ls i)) (oSt ls i)).code ++ [wO (lnAt ls i)] ++ [(lnAt ls i).i.imm] = (oSt ls (i + (1 : Nat))).code ∧ (oRel (lnAt ls i) (atO (lnAt ls i) (oSt ls i)) (kiO (lnAt ls i)) (oSt ls i)).map ++ [(1 : Int)] ++ [(0 : Int)] = (oSt ls (i + (1 : Nat))).map ∧ (oRel (lnAt ls i) (atO (lnAt ls i) (oSt ls i)) (kiO (lnAt ls i)) (oSt ls i)).cr = (oSt ls (i + (1 : Nat))).cr ∧ (oRel (lnAt ls i) (atO (lnAt ls i) (oSt ls i)) (kiO (lnAt ls i)) (oSt ls i)).sy = (oSt ls (i + (1 : Nat))).sy))) ∧ (isaTwo (lnAt ls i).i.op = false → ls = ls ∧ (↑i : Int) = (↑i : Int) ∧ dd = dd ∧ (oRel (lnAt ls i) (atO (lnAt ls i) (oSt ls i)) (kiO (lnAt ls i)) (oSt ls i)).code ++ [wO (lnAt ls i)] = (oSt ls (i + (1 : Nat))).code ∧ (oRel (lnAt ls i) (atO (lnAt ls i) (oSt ls i)) (kiO (lnAt ls i)) (oSt ls i)).map ++ [(1 : Int)] = (oSt ls (i + (1 : Nat))).map ∧ (oRel (lnAt ls i) (atO (lnAt ls i) (oSt ls i)) (kiO (lnAt ls i)) (oSt ls i)).cr = (oSt ls (i + (1 : Nat))).cr ∧ (oRel (lnAt ls i) (atO (lnAt ls i) (oSt ls i)) (kiO (lnAt ls i)) (oSt ls i)).sy = (oSt ls (i + (1 : Nat))).sy)))))) ∧ i < List.length ls ∧ True ∧ ls = ls ∧ (↑i : Int) + (1 : Int) = (↑(i + (1 : Nat)) : Int) ∧ ((0 : Int) ≤ (↑(i + (1 : Nat)) : Int) ∧ (↑(i + (1 : Nat)) : Int) ≤ (1000000 : Int)) ∧ dd = dd ∧ (oSt ls (i + (1 : Nat))).code = (oSt ls (i + (1 : Nat))).code ∧ (oSt ls (i + (1 : Nat))).map = (oSt ls (i + (1 : Nat))).map ∧ (oSt ls (i + (1 : Nat))).cr = (oSt ls (i + (1 : Nat))).cr ∧ (oSt ls (i + (1 : Nat))).sy = (oSt ls (i + (1 : Nat))).sy) ∧ (decide ((↑i : Int) < (↑(List.length ls) : Int)) = false → Nat.beq (0 : Nat) (0 : Nat) = true ∧ dd = dd ∧ (oSt ls i).code = (oAll ls).code ∧ (oSt ls i).map = (oAll ls).map ∧ (oSt ls i).cr = (oAll ls).cr ∧ (oSt ls i).sy = (oAll ls).sy)) := by kernel_rfl
set_option maxHeartbeats 4000000 in
theorem lObj (dd : List Int) (ls : List Ln) {W : World} {R own0 : Nat → Prop} {ρ0 : Nat → Option Value} (hown : HownOk (env gl [(61, kWords), (62, kSym), (63, krWord), (64, krTwo)]) own0 ρ0) : LOk Tryd.prog (env gl [(61, kWords), (62, kSym), (63, krWord), (64, krTwo)]) (ctx ea has) gl W R own0 ρ0 (loopN (bodyOf Tryd.f24) 0) (LObj dd ls) := by
  refine loop1_ok (env_ok (con := [(61, kWords), (62, kSym), (63, krWord), (64, krTwo)]) ⟨cWords, cSym, crWord, crTwo, trivial⟩) hown (ls := fun i => (joinsO dd ls i)) (fun i => noLoops (by kernel_rfl)) (fun hm i hi hj => (bObj gl dd ls i).mpr ?_) 0 (fun hm => by first | exact Nat.zero_le _ | omega) (fun hm => trivial)
  have hL := oSt_len ls i
  have hstep : oSt ls (i + 1) = oStep (lnAt ls i) (oSt ls i) := rfl
  have hx : ls.getD i RT.line.dflt = lnAt ls i := rfl
  have e0 : ByteArray.mk #[] = ByteArray.empty := rfl
  refine ⟨fun h => ?_, fun h => ?_⟩
  · have h := of_decide_eq_true h
    have hlt : i < ls.length := by omega
    have hlt' : (0 : Int) ≤ i ∧ (i : Int) < ls.length := by omega
    simp only [Int.toNat_natCast, hx, hstep, e0]
    generalize oSt ls i = s at *
    generalize lnAt ls i = x at *
    have hs1 := symI_lt s.sy x.name
    have hs2 := symI_lt s.sy x.sym
    have w1 : IntKind.i64.wrap ((s.code.length : Int) + 1) = s.code.length + 1 := by rw [IntKind.wrap_i64]; omega
    obtain ⟨l1, l2, l3, l4⟩ := hL
    by_cases hn : x.name = ByteArray.empty
    · cases ht : x.table <;> by_cases hsy : x.sym = ByteArray.empty <;> cases htw : isaTwo x.i.op <;>
        simp [hn, ht, hsy, htw, oStep, oTab, oIns, oRel, atO, kiO, wO, w1, hlt', hlt] <;> omega
    · simp [hn, oStep, oLab, hlt', hlt] <;> omega
  · have h := of_decide_eq_false h
    have e : i = ls.length := by omega
    subst e
    simp [oAll]
def kObject : List SVal → Nat → Acc ORes := fun a n => match a with | [.ro .u32 dd, .ro .line ls] => .ret (newR n (.agg [.ro .u32 dd, .own 0, .own 1, .nilslice, .own 2, .own 3]) ([(0, .recs .u32 (oAll ls).code), (1, .recs .u8 (oAll ls).map), (2, .recs .rel (oAll ls).cr), (3, .recs .sym (oAll ls).sy)]) 4 (some (ls.length ≤ 100000 ∧ shortN dd))) | _ => .fail "Object"
theorem argObject (dd : List Int) (ls : List Ln) : (all (subL 134 none' [] deep [.ro .u32 dd, .ro .line ls] [.ro .u32 dd, .ro .line ls])) = (
  dd = dd ∧ ls = ls) := by kernel_rfl
theorem runObject (gl : List (Nat × SVal)) (dd : List Int) (ls : List Ln) : (Tr.sat (newQ (env gl [(61, kWords), (62, kSym), (63, krWord), (64, krTwo)]) (.agg [.ro .u32 dd, .own 0, .own 1, .nilslice, .own 2, .own 3]) ([(0, .recs .u32 (oAll ls).code), (1, .recs .u8 (oAll ls).map), (2, .recs .rel (oAll ls).cr), (3, .recs .sym (oAll ls).sy)]) 4) (run (env gl [(61, kWords), (62, kSym), (63, krWord), (64, krTwo)]) [(3, LObj dd ls)] (bodyOf Tryd.f24) (start [.ro .u32 dd, .ro .line ls] 132) (ends (env gl [(61, kWords), (62, kSym), (63, krWord), (64, krTwo)]) Tryd.f24.results.toList))) = (
  List.length dd ≤ (1000000 : Nat) ∧ (List.length dd ≤ (1000000 : Nat) → (List.length ls ≤ (100000 : Nat) ∧ ls = ls ∧ (0 : Int) = (↑(0 : Nat) : Int) ∧ dd = dd ∧ (oSt ls (0 : Nat)).code = [] ∧ (oSt ls (0 : Nat)).map = [] ∧ (oSt ls (0 : Nat)).cr = [] ∧ (oSt ls (0 : Nat)).sy = []) ∧ (List.length ls ≤ (100000 : Nat) ∧ ls = ls ∧ (0 : Int) = (↑(0 : Nat) : Int) ∧ dd = dd ∧ (oSt ls (0 : Nat)).code = [] ∧ (oSt ls (0 : Nat)).map = [] ∧ (oSt ls (0 : Nat)).cr = [] ∧ (oSt ls (0 : Nat)).sy = [] → dd = dd ∧ (oAll ls).code = (oAll ls).code ∧ (oAll ls).map = (oAll ls).map ∧ (oAll ls).cr = (oAll ls).cr ∧ (oAll ls).sy = (oAll ls).sy))) := by kernel_rfl
set_option maxHeartbeats 4000000 in
theorem cObject : Con ea has gl 24 kObject := by
  refine new_mk Tryd.func24 132 (con := [(61, kWords), (62, kSym), (63, krWord), (64, krTwo)]) ⟨cWords, cSym, crWord, crTwo, trivial⟩ (fun hA hr hv => ?_) (by kernel_rfl) (by kernel_rfl) Tryd.ntmps24
  unfold kObject at hr; split at hr
  · rename_i dd ls
    have := ret_ok hr; subst this
    replace hv := hv _ rfl
    refine ⟨_, [(3, LObj dd ls)], _, _, _, ⟨rfl, rfl, rfl⟩, (argObject dd ls).mpr (by simp), rfl, rfl, (fun W R ρ0 own0 hown => hl1 (by kernel_rfl) (by kernel_rfl) (lObj dd ls hown)), (runObject gl dd ls).mpr ?_⟩
    clear hr
    exact ⟨hv.2, fun _ => ⟨⟨hv.1, rfl, rfl, rfl, rfl, rfl, rfl, rfl⟩, fun _ => ⟨rfl, rfl, rfl, rfl, rfl⟩⟩⟩
  · cases hr
abbrev kObjectF := frz shObj kObject
theorem cObjectF : Con ea has gl 24 kObjectF := frz_ok cObject shObj
def saysL (l : List Int) : Nat → List Ln
  | 0 => [⟨⟨0, 0, 0, 0, 0⟩, ⟨#[109, 97, 105, 110]⟩, ByteArray.empty, false⟩]
  | i + 1 => saysL l i ++ [⟨⟨14, 3, 0, 0, l.getD i 0⟩, ByteArray.empty, ByteArray.empty, false⟩, opL 35 [3]]
def saysA (l : List Int) : OS := oAll (saysL l l.length ++ [opL 32 [3]])
theorem saysL_len (l : List Int) : ∀ i, (saysL l i).length = 2 * i + 1
  | 0 => rfl
  | i + 1 => by rw [saysL, List.length_append, saysL_len l i]; simp; omega
def HSays (l : List Int) (i : Nat) : SState := { fr := [(0, .ro .u32 l), (2, .ptr 1 0), (3, .own 0), (4, .int .i64 (.sym i 0 1000000))], hp := [(0, some (.recs .line (saysL l i))), (1, some (.cells [.nilslice, .nilslice, .nilslice, .nilslice, .nilslice, .nilslice]))], next := 2, sz := 29 }
def XSays (l : List Int) : SState := { fr := [(2, .ptr 1 0), (3, .own 0)], hp := [(0, some (.recs .line (saysL l l.length))), (1, some (.cells [.nilslice, .nilslice, .nilslice, .nilslice, .nilslice, .nilslice]))], next := 2, sz := 29 }
def LSays (l : List Int) : LSum := ⟨HSays l 0, fun k => k (.exit 0) (XSays l), l.length ≤ 10000⟩
theorem bSays (gl : List (Nat × SVal)) (l : List Int) (i : Nat) : (Tr.sat (rnd1 (env gl [(23, kAt), (55, kLi), (22, kOp), (24, kObjectF)]) (fun _ => True) (l.length) (HSays l) 0 (XSays l) i) (run (env gl [(23, kAt), (55, kLi), (22, kOp), (24, kObjectF)]) [] (loopN (bodyOf Tryd.f57) 0) (HSays l i) .leaf)) = (
  (decide ((↑i : Int) < (↑(List.length l) : Int)) = true → ((0 : Int) ≤ (↑i : Int) ∧ (↑i : Int) < (↑(List.length l) : Int)) ∧ ((0 : Int) ≤ (↑i : Int) ∧ (↑i : Int) < (↑(List.length l) : Int) → List.length (saysL l i) + List.length [Ln.mk (In5.mk (Ln.mk (In5.mk (14 : Int) (3 : Int) (0 : Int) (0 : Int) (List.getD l (Int.toNat (↑i : Int)) (RT.dflt RT.u32))) ByteArray.empty ByteArray.empty false).i.op (Ln.mk (In5.mk (14 : Int) (3 : Int) (0 : Int) (0 : Int) (List.getD l (Int.toNat (↑i : Int)) (RT.dflt RT.u32))) ByteArray.empty ByteArray.empty false).i.a (Ln.mk (In5.mk (14 : Int) (3 : Int) (0 : Int) (0 : Int) (List.getD l (Int.toNat (↑i : Int)) (RT.dflt RT.u32))) ByteArray.empty ByteArray.empty false).i.b (Ln.mk (In5.mk (14 : Int) (3 : Int) (0 : Int) (0 : Int) (List.getD l (Int.toNat (↑i : Int)) (RT.dflt RT.u32))) ByteArray.empty ByteArray.empty false).i.c (Ln.mk (In5.mk (14 : Int) (3 : Int) (0 : Int) (0 : Int) (List.getD l (Int.toNat (↑i : Int)) (RT.dflt RT.u32))) ByteArray.empty ByteArray.empty false).i.imm) (Ln.mk (In5.mk (14 : Int) (3 : Int) (0 : Int) (0 : Int) (List.getD l (Int.toNat (↑i : Int)) (RT.dflt RT.u32))) ByteArray.empty ByteArray.empty false).name (Ln.mk (In5.mk (14 : Int) (3 : Int) (0 : Int) (0 : Int) (List.getD l (Int.toNat (↑i : Int)) (RT.dflt RT.u32))) ByteArray.empty ByteArray.empty false).sym (Ln.mk (In5.mk (14 : Int) (3 : Int) (0 : Int) (0 : Int) (List.getD l (Int.toNat (↑i : Int)) (RT.dflt RT.u32))) ByteArray.empty ByteArray.empty false).table, Ln.mk (In5.mk (opL (35 : Int) [(3 : Int)]).i.op (opL (35 : Int) [(3 : Int)]).i.a (opL (35 : Int) [(3 : Int)]).i.b (opL (35 : Int) [(3 : Int)]).i.c (opL (35 : Int) [(3 : Int)]).i.imm) (opL (35 : Int) [(3 : Int)]).name (opL (35 : Int) [(3 : Int)]).sym (opL (35 : Int) [(3 : Int)]).table] ≤ (137438953472 : Nat) ∧ (List.length (saysL l i) + List.length [Ln.mk (In5.mk (Ln.mk (In5.mk (14 : Int) (3 : Int) (0 : Int) (0 : Int) (List.getD l (Int.toNat (↑i : Int)) (RT.dflt RT.u32))) ByteArray.empty ByteArray.empty false).i.op (Ln.mk (In5.mk (14 : Int) (3 : Int) (0 : Int) (0 : Int) (List.getD l (Int.toNat (↑i : Int)) (RT.dflt RT.u32))) ByteArray.empty ByteArray.empty false).i.a (Ln.mk (In5.mk (14 : Int) (3 : Int) (0 : Int) (0 : Int) (List.getD l (Int.toNat (↑i : Int)) (RT.dflt RT.u32))) ByteArray.empty ByteArray.empty false).i.b (Ln.mk (In5.mk (14 : Int) (3 : Int) (0 : Int) (0 : Int) (List.getD l (Int.toNat (↑i : Int)) (RT.dflt RT.u32))) ByteArray.empty ByteArray.empty false).i.c (Ln.mk (In5.mk (14 : Int) (3 : Int) (0 : Int) (0 : Int) (List.getD l (Int.toNat (↑i : Int)) (RT.dflt RT.u32))) ByteArray.empty ByteArray.empty false).i.imm) (Ln.mk (In5.mk (14 : Int) (3 : Int) (0 : Int) (0 : Int) (List.getD l (Int.toNat (↑i : Int)) (RT.dflt RT.u32))) ByteArray.empty ByteArray.empty false).name (Ln.mk (In5.mk (14 : Int) (3 : Int) (0 : Int) (0 : Int) (List.getD l (Int.toNat (↑i : Int)) (RT.dflt RT.u32))) ByteArray.empty ByteArray.empty false).sym (Ln.mk (In5.mk (14 : Int) (3 : Int) (0 : Int) (0 : Int) (List.getD l (Int.toNat (↑i : Int)) (RT.dflt RT.u32))) ByteArray.empty ByteArray.empty false).table, Ln.mk (In5.mk (opL (35 : Int) [(3 : Int)]).i.op (opL (35 : Int) [(3 : Int)]).i.a (opL (35 : Int) [(3 : Int)]).i.b (opL (35 : Int) [(3 : Int)]).i.c (opL (35 : Int) [(3 : Int)]).i.imm) (opL (35 : Int) [(3 : Int)]).name (opL (35 : Int) [(3 : Int)]).sym (opL (35 : Int) [(3 : Int)]).table] ≤ (137438953472 : Nat) → i < List.length l ∧ True ∧ l = l ∧ (↑i : Int) + (1 : Int) = (↑(i + (1 : Nat)) : Int) ∧ ((0 : Int) ≤ (↑(i + (1 : Nat)) : Int) ∧ (↑(i + (1 : Nat)) : Int) ≤ (1000000 : Int)) ∧ saysL l i ++ [Ln.mk (In5.mk (Ln.mk (In5.mk (14 : Int) (3 : Int) (0 : Int) (0 : Int) (List.getD l (Int.toNat (↑i : Int)) (RT.dflt RT.u32))) ByteArray.empty ByteArray.empty false).i.op (Ln.mk (In5.mk (14 : Int) (3 : Int) (0 : Int) (0 : Int) (List.getD l (Int.toNat (↑i : Int)) (RT.dflt RT.u32))) ByteArray.empty ByteArray.empty false).i.a (Ln.mk (In5.mk (14 : Int) (3 : Int) (0 : Int) (0 : Int) (List.getD l (Int.toNat (↑i : Int)) (RT.dflt RT.u32))) ByteArray.empty ByteArray.empty false).i.b (Ln.mk (In5.mk (14 : Int) (3 : Int) (0 : Int) (0 : Int) (List.getD l (Int.toNat (↑i : Int)) (RT.dflt RT.u32))) ByteArray.empty ByteArray.empty false).i.c (Ln.mk (In5.mk (14 : Int) (3 : Int) (0 : Int) (0 : Int) (List.getD l (Int.toNat (↑i : Int)) (RT.dflt RT.u32))) ByteArray.empty ByteArray.empty false).i.imm) (Ln.mk (In5.mk (14 : Int) (3 : Int) (0 : Int) (0 : Int) (List.getD l (Int.toNat (↑i : Int)) (RT.dflt RT.u32))) ByteArray.empty ByteArray.empty false).name (Ln.mk (In5.mk (14 : Int) (3 : Int) (0 : Int) (0 : Int) (List.getD l (Int.toNat (↑i : Int)) (RT.dflt RT.u32))) ByteArray.empty ByteArray.empty false).sym (Ln.mk (In5.mk (14 : Int) (3 : Int) (0 : Int) (0 : Int) (List.getD l (Int.toNat (↑i : Int)) (RT.dflt RT.u32))) ByteArray.empty ByteArray.empty false).table, Ln.mk (In5.mk (opL (35 : Int) [(3 : Int)]).i.op (opL (35 : Int) [(3 : Int)]).i.a (opL (35 : Int) [(3 : Int)]).i.b (opL (35 : Int) [(3 : Int)]).i.c (opL (35 : Int) [(3 : Int)]).i.imm) (opL (35 : Int) [(3 : Int)]).name (opL (35 : Int) [(3 : Int)]).sym (opL (35 : Int) [(3 : Int)]).table] = saysL l (i + (1 : Nat))))) ∧ (decide ((↑i : Int) < (↑(List.length l) : Int)) = false → Nat.beq (0 : Nat) (0 : Nat) = true ∧ saysL l i = saysL l (List.length l))) := by kernel_rfl
set_option maxHeartbeats 4000000 in
theorem lSays (l : List Int) {W : World} {R own0 : Nat → Prop} {ρ0 : Nat → Option Value} (hown : HownOk (env gl [(23, kAt), (55, kLi), (22, kOp), (24, kObjectF)]) own0 ρ0) : LOk Tryd.prog (env gl [(23, kAt), (55, kLi), (22, kOp), (24, kObjectF)]) (ctx ea has) gl W R own0 ρ0 (loopN (bodyOf Tryd.f57) 0) (LSays l) := by
  refine loop1_ok (env_ok (con := [(23, kAt), (55, kLi), (22, kOp), (24, kObjectF)]) ⟨cAt, cLi, cOp, cObjectF, trivial⟩) hown (ls := fun i => []) (fun i => noLoops (by kernel_rfl)) (fun hm i hi hj => (bSays gl l i).mpr ?_) 0 (fun hm => by first | exact Nat.zero_le _ | omega) (fun hm => trivial)
  have hl := saysL_len l i
  refine ⟨fun h => ?_, fun h => ?_⟩
  · have h := of_decide_eq_true h
    have hlt : i < l.length := by omega
    refine ⟨by omega, fun _ => ⟨by rw [hl]; simp only [List.length_cons, List.length_nil]; omega, fun _ => ⟨hlt, trivial, rfl, by omega, by omega, rfl⟩⟩⟩
  · have h := of_decide_eq_false h
    have e : i = l.length := by omega
    subst e
    exact ⟨rfl, rfl⟩
def rSays (l : List Int) (n : Nat) : ORes := { v := obV noW (saysA l).code (saysA l).map (nilR .rel) (saysA l).cr (saysA l).sy, vc := some (l.length ≤ 10000) }
def kSays : List SVal → Nat → Acc ORes := fun a n => match a with
  | [.ro .u32 l] => .ret (rSays l n)
  | [.nilslice] => .ret (rSays (nilR .u32) n)
  | [.own q] => .look q fun cc => match cc with
    | some (.recs .u32 l) => .ret ({ rSays l n with ws := [(q, none)] })
    | _ => .fail "Says"
  | _ => .fail "Says"
theorem argSays (l : List Int) : (all (subL 134 none' [] deep [] [])) = (
  True) := by kernel_rfl
theorem runSays (gl : List (Nat × SVal)) (l : List Int) : (Tr.sat (plainQ (obV noW (saysA l).code (saysA l).map (nilR .rel) (saysA l).cr (saysA l).sy)) (run (env gl [(23, kAt), (55, kLi), (22, kOp), (24, kObjectF)]) [(3, LSays l)] (bodyOf Tryd.f57) (start ([] ++ [.ro .u32 l]) 29) (ends (env gl [(23, kAt), (55, kLi), (22, kOp), (24, kObjectF)]) Tryd.f57.results.toList))) = (
  (List.length l ≤ (10000 : Nat) ∧ l = l ∧ (0 : Int) = (↑(0 : Nat) : Int) ∧ [Ln.mk (In5.mk (Ln.mk (In5.mk (0 : Int) (0 : Int) (0 : Int) (0 : Int) (0 : Int)) (ByteArray.mk #[(109 : UInt8), (97 : UInt8), (105 : UInt8), (110 : UInt8)]) ByteArray.empty false).i.op (Ln.mk (In5.mk (0 : Int) (0 : Int) (0 : Int) (0 : Int) (0 : Int)) (ByteArray.mk #[(109 : UInt8), (97 : UInt8), (105 : UInt8), (110 : UInt8)]) ByteArray.empty false).i.a (Ln.mk (In5.mk (0 : Int) (0 : Int) (0 : Int) (0 : Int) (0 : Int)) (ByteArray.mk #[(109 : UInt8), (97 : UInt8), (105 : UInt8), (110 : UInt8)]) ByteArray.empty false).i.b (Ln.mk (In5.mk (0 : Int) (0 : Int) (0 : Int) (0 : Int) (0 : Int)) (ByteArray.mk #[(109 : UInt8), (97 : UInt8), (105 : UInt8), (110 : UInt8)]) ByteArray.empty false).i.c (Ln.mk (In5.mk (0 : Int) (0 : Int) (0 : Int) (0 : Int) (0 : Int)) (ByteArray.mk #[(109 : UInt8), (97 : UInt8), (105 : UInt8), (110 : UInt8)]) ByteArray.empty false).i.imm) (Ln.mk (In5.mk (0 : Int) (0 : Int) (0 : Int) (0 : Int) (0 : Int)) (ByteArray.mk #[(109 : UInt8), (97 : UInt8), (105 : UInt8), (110 : UInt8)]) ByteArray.empty false).name (Ln.mk (In5.mk (0 : Int) (0 : Int) (0 : Int) (0 : Int) (0 : Int)) (ByteArray.mk #[(109 : UInt8), (97 : UInt8), (105 : UInt8), (110 : UInt8)]) ByteArray.empty false).sym (Ln.mk (In5.mk (0 : Int) (0 : Int) (0 : Int) (0 : Int) (0 : Int)) (ByteArray.mk #[(109 : UInt8), (97 : UInt8), (105 : UInt8), (110 : UInt8)]) ByteArray.empty false).table] = saysL l (0 : Nat)) ∧ (List.length l ≤ (10000 : Nat) ∧ l = l ∧ (0 : Int) = (↑(0 : Nat) : Int) ∧ [Ln.mk (In5.mk (Ln.mk (In5.mk (0 : Int) (0 : Int) (0 : Int) (0 : Int) (0 : Int)) (ByteArray.mk #[(109 : UInt8), (97 : UInt8), (105 : UInt8), (110 : UInt8)]) ByteArray.empty false).i.op (Ln.mk (In5.mk (0 : Int) (0 : Int) (0 : Int) (0 : Int) (0 : Int)) (ByteArray.mk #[(109 : UInt8), (97 : UInt8), (105 : UInt8), (110 : UInt8)]) ByteArray.empty false).i.a (Ln.mk (In5.mk (0 : Int) (0 : Int) (0 : Int) (0 : Int) (0 : Int)) (ByteArray.mk #[(109 : UInt8), (97 : UInt8), (105 : UInt8), (110 : UInt8)]) ByteArray.empty false).i.b (Ln.mk (In5.mk (0 : Int) (0 : Int) (0 : Int) (0 : Int) (0 : Int)) (ByteArray.mk #[(109 : UInt8), (97 : UInt8), (105 : UInt8), (110 : UInt8)]) ByteArray.empty false).i.c (Ln.mk (In5.mk (0 : Int) (0 : Int) (0 : Int) (0 : Int) (0 : Int)) (ByteArray.mk #[(109 : UInt8), (97 : UInt8), (105 : UInt8), (110 : UInt8)]) ByteArray.empty false).i.imm) (Ln.mk (In5.mk (0 : Int) (0 : Int) (0 : Int) (0 : Int) (0 : Int)) (ByteArray.mk #[(109 : UInt8), (97 : UInt8), (105 : UInt8), (110 : UInt8)]) ByteArray.empty false).name (Ln.mk (In5.mk (0 : Int) (0 : Int) (0 : Int) (0 : Int) (0 : Int)) (ByteArray.mk #[(109 : UInt8), (97 : UInt8), (105 : UInt8), (110 : UInt8)]) ByteArray.empty false).sym (Ln.mk (In5.mk (0 : Int) (0 : Int) (0 : Int) (0 : Int) (0 : Int)) (ByteArray.mk #[(109 : UInt8), (97 : UInt8), (105 : UInt8), (110 : UInt8)]) ByteArray.empty false).table] = saysL l (0 : Nat) → List.length (saysL l (List.length l)) + List.length [Ln.mk (In5.mk (opL (32 : Int) [(3 : Int)]).i.op (opL (32 : Int) [(3 : Int)]).i.a (opL (32 : Int) [(3 : Int)]).i.b (opL (32 : Int) [(3 : Int)]).i.c (opL (32 : Int) [(3 : Int)]).i.imm) (opL (32 : Int) [(3 : Int)]).name (opL (32 : Int) [(3 : Int)]).sym (opL (32 : Int) [(3 : Int)]).table] ≤ (137438953472 : Nat) ∧ (List.length (saysL l (List.length l)) + List.length [Ln.mk (In5.mk (opL (32 : Int) [(3 : Int)]).i.op (opL (32 : Int) [(3 : Int)]).i.a (opL (32 : Int) [(3 : Int)]).i.b (opL (32 : Int) [(3 : Int)]).i.c (opL (32 : Int) [(3 : Int)]).i.imm) (opL (32 : Int) [(3 : Int)]).name (opL (32 : Int) [(3 : Int)]).sym (opL (32 : Int) [(3 : Int)]).table] ≤ (137438953472 : Nat) → (List.length (saysL l (List.length l) ++ [Ln.mk (In5.mk (opL (32 : Int) [(3 : Int)]).i.op (opL (32 : Int) [(3 : Int)]).i.a (opL (32 : Int) [(3 : Int)]).i.b (opL (32 : Int) [(3 : Int)]).i.c (opL (32 : Int) [(3 : Int)]).i.imm) (opL (32 : Int) [(3 : Int)]).name (opL (32 : Int) [(3 : Int)]).sym (opL (32 : Int) [(3 : Int)]).table]) ≤ (100000 : Nat) ∧ shortN []) ∧ (List.length (saysL l (List.length l) ++ [Ln.mk (In5.mk (opL (32 : Int) [(3 : Int)]).i.op (opL (32 : Int) [(3 : Int)]).i.a (opL (32 : Int) [(3 : Int)]).i.b (opL (32 : Int) [(3 : Int)]).i.c (opL (32 : Int) [(3 : Int)]).i.imm) (opL (32 : Int) [(3 : Int)]).name (opL (32 : Int) [(3 : Int)]).sym (opL (32 : Int) [(3 : Int)]).table]) ≤ (100000 : Nat) ∧ shortN [] → [] = noW ∧ (oAll (saysL l (List.length l) ++ [Ln.mk (In5.mk (opL (32 : Int) [(3 : Int)]).i.op (opL (32 : Int) [(3 : Int)]).i.a (opL (32 : Int) [(3 : Int)]).i.b (opL (32 : Int) [(3 : Int)]).i.c (opL (32 : Int) [(3 : Int)]).i.imm) (opL (32 : Int) [(3 : Int)]).name (opL (32 : Int) [(3 : Int)]).sym (opL (32 : Int) [(3 : Int)]).table])).code = (saysA l).code ∧ (oAll (saysL l (List.length l) ++ [Ln.mk (In5.mk (opL (32 : Int) [(3 : Int)]).i.op (opL (32 : Int) [(3 : Int)]).i.a (opL (32 : Int) [(3 : Int)]).i.b (opL (32 : Int) [(3 : Int)]).i.c (opL (32 : Int) [(3 : Int)]).i.imm) (opL (32 : Int) [(3 : Int)]).name (opL (32 : Int) [(3 : Int)]).sym (opL (32 : Int) [(3 : Int)]).table])).map = (saysA l).map ∧ nilR RT.rel = [] ∧ (oAll (saysL l (List.length l) ++ [Ln.mk (In5.mk (opL (32 : Int) [(3 : Int)]).i.op (opL (32 : Int) [(3 : Int)]).i.a (opL (32 : Int) [(3 : Int)]).i.b (opL (32 : Int) [(3 : Int)]).i.c (opL (32 : Int) [(3 : Int)]).i.imm) (opL (32 : Int) [(3 : Int)]).name (opL (32 : Int) [(3 : Int)]).sym (opL (32 : Int) [(3 : Int)]).table])).cr = (saysA l).cr ∧ (oAll (saysL l (List.length l) ++ [Ln.mk (In5.mk (opL (32 : Int) [(3 : Int)]).i.op (opL (32 : Int) [(3 : Int)]).i.a (opL (32 : Int) [(3 : Int)]).i.b (opL (32 : Int) [(3 : Int)]).i.c (opL (32 : Int) [(3 : Int)]).i.imm) (opL (32 : Int) [(3 : Int)]).name (opL (32 : Int) [(3 : Int)]).sym (opL (32 : Int) [(3 : Int)]).table])).sy = (saysA l).sy)))) := by kernel_rfl
theorem gSays (l : List Int) (hv : ∀ q, (rSays l 0).vc = some q → q) : Tr.sat (plainQ (obV noW (saysA l).code (saysA l).map (nilR .rel) (saysA l).cr (saysA l).sy)) (run (env gl [(23, kAt), (55, kLi), (22, kOp), (24, kObjectF)]) [(3, LSays l)] (bodyOf Tryd.f57) (start ([] ++ [.ro .u32 l]) 29) (ends (env gl [(23, kAt), (55, kLi), (22, kOp), (24, kObjectF)]) Tryd.f57.results.toList)) := by
  replace hv := hv _ rfl
  refine (runSays gl l).mpr ?_
  have hl := saysL_len l l.length
  refine ⟨⟨hv, rfl, rfl, rfl⟩, fun _ => ⟨by rw [hl]; simp only [List.length_cons, List.length_nil]; omega, fun _ => ⟨⟨by rw [List.length_append, hl]; simp only [List.length_cons, List.length_nil]; omega, Nat.zero_le _⟩, fun _ => ⟨rfl, rfl, rfl, rfl, rfl, rfl⟩⟩⟩⟩
set_option maxHeartbeats 4000000 in
theorem cSays : Con ea has gl 57 kSays := by
  refine lastP_mk Tryd.func57 29 (con := [(23, kAt), (55, kLi), (22, kOp), (24, kObjectF)]) ⟨cAt, cLi, cOp, cObjectF, trivial⟩ (fun hA hr hv => ?_) (by kernel_rfl) (by kernel_rfl) Tryd.ntmps57
  unfold kSays at hr; split at hr
  · rename_i l
    have := ret_ok hr; subst this
    refine ⟨[], .u32, l, _, [(3, LSays l)], (.inl ⟨rfl, rfl⟩), rfl, (argSays l).mpr (by simp), rfl, (fun W R ρ0 own0 hown => hl1 (by kernel_rfl) (by kernel_rfl) (lSays l hown)), gSays l hv⟩
  · skip
    have := ret_ok hr; subst this
    refine ⟨[], .u32, (nilR .u32), _, [(3, LSays (nilR .u32))], (.inr (.inl ⟨rfl, rfl, rfl⟩)), rfl, (argSays (nilR .u32)).mpr (by simp), rfl, (fun W R ρ0 own0 hown => hl1 (by kernel_rfl) (by kernel_rfl) (lSays (nilR .u32) hown)), gSays (nilR .u32) hv⟩
  · rename_i q
    simp only [Acc.run] at hr
    split at hr
    · rename_i l hq
      have := ret_ok hr; subst this
      refine ⟨[], .u32, l, _, [(3, LSays l)], (.inr (.inr ⟨q, rfl, hq, rfl⟩)), rfl, (argSays l).mpr (by simp), rfl, (fun W R ρ0 own0 hown => hl1 (by kernel_rfl) (by kernel_rfl) (lSays l hown)), gSays l hv⟩
    · cases hr
  · cases hr
end
end Go.Proofs.YtbdfibaljoedpaaDoor

