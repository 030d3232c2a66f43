/- Contracts that the proofs use. -/
import Derived.Test.YtacmmedhjebfjaaGreatDoorQLinkNames2
set_option linter.unusedVariables false
set_option linter.unusedSimpArgs false
namespace Go.Proofs.YtacmmedhjebfjaaGreatDoor
open Go.RowKit Go.Sy Go.Fac
section
variable {ea : Ear} {has : Int → Prop} {rest : List (Nat × SVal)}
def twoB (c m : List Int) (i : Int) : Bool := insB c m i && isaTwo (insI c m i).op
def ktwo : List SVal → Nat → Acc ORes := fun a n => match a with | [.agg [.ro .u32 d, .ro .u32 c, .ro .u8 m, .ro .rel dr, .ro .rel cr, .ro .sym sy], .int .i64 i] => .ret ({ v := .bool (.sym (twoB c m i.val)) }) | _ => .fail "two"
theorem argtwo (d c m : List Int) (dr cr : List Rel) (sy : List Sm) (i : SI) : (all (subL tAtN none' [] deep [.agg [.ro .u32 d, .ro .u32 c, .ro .u8 m, .ro .rel dr, .ro .rel cr, .ro .sym sy], .int .i64 i] [.agg [.ro .u32 d, .ro .u32 c, .ro .u8 m, .ro .rel dr, .ro .rel cr, .ro .sym sy], .int .i64 (.full i.val)])) = (
 d = d ∧ c = c ∧ m = m ∧ dr = dr ∧ cr = cr ∧ sy = sy ∧ SI.val i = SI.val i) := by kernel_rfl
theorem runtwo (rest : List (Nat × SVal)) (d : List Int) (c : List Int) (m : List Int) (dr : List Rel) (cr : List Rel) (sy : List Sm) (i : Int) : (Tr.sat (plainQ (.bool (.sym (twoB c m i)))) (run (env (G7 ++ rest) [(43, kInstr), (44, kTables), (45, kTwo)]) [] (bodyOf Tryz.f75) (start [.agg [.ro .u32 d, .ro .u32 c, .ro .u8 m, .ro .rel dr, .ro .rel cr, .ro .sym sy], .int .i64 (.full i)] 20) (ends (env (G7 ++ rest) [(43, kInstr), (44, kTables), (45, kTwo)]) Tryz.f75.results.toList))) = (
 (insB c m i && isaTwo (insI c m i).op) = twoB c m i) := by kernel_rfl
set_option maxHeartbeats 4000000 in
theorem ctwo : Con ea has (G7 ++ rest) 75 ktwo := by
 refine plain_mkB Tryz.func75 20 (con := [(43, kInstr), (44, kTables), (45, kTwo)]) ⟨cInstr, cTables, cTwo, trivial⟩ (fun hA hr hv => ?_) (by kernel_rfl) (by kernel_rfl) Tryz.ntmps75
 unfold ktwo at hr; split at hr
 ·rename_i d c m dr cr sy i
  have := ret_ok hr; subst this
  refine ⟨_, [], rfl, rfl, .of (argtwo d c m dr cr sy i) (by simp), rfl, (fun W R ρ0 own0 hown => noSums (by kernel_rfl)), .of (runtwo rest d c m dr cr sy i.val) ?_⟩
  clear hr
  rfl
 ·cases hr
def symFine (d c m : List Int) (a v : Int) (g : Bool) : Bool :=
 if a = 1 then decide (v = 0) || (decide (0 < v) && decide (v < d.length))
 else if a = 2 then decide (0 ≤ v) && decide (v < c.length) && decide (m.getD v.toNat 0 = 1)
 else if a = 3 then decide (v = 0) && g else false
def symOk (nm : ByteArray) : Bool := !(decide (nm = ByteArray.empty) || decide (32 < (nm.size : Int)))
def symE (d c m : List Int) (nm : ByteArray) (a v : Int) (g : Bool) (mp : List (ByteArray × Int)) : FErr :=
 if symOk nm = false then .bare 103 else if 1 < mapGet mp nm + 1 then .bare 106 else if symFine d c m a v g = true then .fine else .bare 103
def symMp (nm : ByteArray) (mp : List (ByteArray × Int)) : List (ByteArray × Int) := if symOk nm = false then mp else mapPut mp nm (mapGet mp nm + 1)
theorem get_put {α : Type} [DecidableEq α] (mp : List (α × Int)) (k : α) (x : Int) : mapGet (mapPut mp k x) k = x := by
 induction mp with
 | nil => simp [mapPut, mapGet]
 | cons p mp ih =>
  obtain ⟨a, b⟩ := p
  simp only [mapPut]
  split
  ·rename_i h; simp [mapGet, h]
  ·rename_i h; simp [mapGet, h, ih]
theorem get_put_ne {α : Type} [DecidableEq α] (mp : List (α × Int)) (k k' : α) (x : Int) (h : k ≠ k') : mapGet (mapPut mp k x) k' = mapGet mp k' := by
 induction mp with
 | nil => simp [mapPut, mapGet, h]
 | cons p mp ih =>
  obtain ⟨a, b⟩ := p
  simp only [mapPut]
  split
  ·rename_i he; subst he; simp [mapGet, h]
  ·rename_i he; simp only [mapGet, ih]
theorem fine_if {α : Type} (b : Bool) (y : α) : ((!b) = true → FErr.bare 103 = (if b = true then FErr.fine else .bare 103) ∧ y = y) ∧ ((!b) = false → FErr.fine = (if b = true then FErr.fine else .bare 103) ∧ y = y) := by cases b <;> simp
def ksymbol : List SVal → Nat → Acc ORes := fun a n => match a with
 | [.agg [.ro .u32 d, .ro .u32 c, .ro .u8 m, .ro .rel dr, .ro .rel cr, .ro .sym sy], .agg [.str nm, .int .i64 a, .int .i64 v, .bool g], .map q] => .look q fun cc => match cc with
  | some (.strMap mp) => .ret ({ v := .err (symE d c m nm a.val v.val g.val mp), ws := [(q, some (.strMap (symMp nm mp)))], vc := some (mapGet mp nm ≤ 1000000 ∧ 0 ≤ mapGet mp nm ∧ m.length = c.length) })
  | _ => .fail "symbol"
 | _ => .fail "symbol"
theorem argsymbol (d c m : List Int) (dr cr : List Rel) (sy : List Sm) (nm : ByteArray) (a v : SI) (g : SB) : (all (subL tAtN none' [] deep [.agg [.ro .u32 d, .ro .u32 c, .ro .u8 m, .ro .rel dr, .ro .rel cr, .ro .sym sy], .agg [.str nm, .int .i64 a, .int .i64 v, .bool g]] [.agg [.ro .u32 d, .ro .u32 c, .ro .u8 m, .ro .rel dr, .ro .rel cr, .ro .sym sy], .agg [.str nm, .int .i64 (.full a.val), .int .i64 (.full v.val), .bool (.sym g.val)]])) = (
 d = d ∧ c = c ∧ m = m ∧ dr = dr ∧ cr = cr ∧ sy = sy ∧ nm = nm ∧ SI.val a = SI.val a ∧ SI.val v = SI.val v ∧ SB.val g = SB.val g) := by kernel_rfl
theorem runsymbol (rest : List (Nat × SVal)) (d c m : List Int) (dr cr : List Rel) (sy : List Sm) (nm : ByteArray) (a v : SI) (g : SB) (mp : List (ByteArray × Int)) : (Tr.sat (mapQ (G7 ++ rest) [] (.err (symE d c m nm a.val v.val g.val mp)) (.strMap (symMp nm mp))) (run (envO (G7 ++ rest) []) [] (bodyOf Tryz.f57) (startM [.agg [.ro .u32 d, .ro .u32 c, .ro .u8 m, .ro .rel dr, .ro .rel cr, .ro .sym sy], .agg [.str nm, .int .i64 (.full a.val), .int .i64 (.full v.val), .bool (.sym g.val)]] (.strMap mp) 83) (ends (envO (G7 ++ rest) []) Tryz.f57.results.toList))) = (
 IT (decide (nm = ByteArray.mk (List.toArray (@List.nil UInt8))) || decide ((32 : Int) < (↑(ByteArray.size nm) : Int))) (FErr.bare (103 : Int) = symE d c m nm (SI.val a) (SI.val v) (SB.val g) mp ∧ mp = symMp nm mp) (IT (decide ((1 : Int) < mapGet (mapPut mp nm (IntKind.wrap IntKind.i64 (mapGet mp nm + 1))) nm)) (FErr.bare (106 : Int) = symE d c m nm (SI.val a) (SI.val v) (SB.val g) mp ∧ mapPut mp nm (IntKind.wrap IntKind.i64 (mapGet mp nm + 1)) = symMp nm mp) (IT (decide (SI.val a = 1)) (IT (!(decide (SI.val v = 0) || decide (0 < SI.val v) && decide (SI.val v < (↑(List.length d) : Int)))) (FErr.bare (103 : Int) = symE d c m nm (SI.val a) (SI.val v) (SB.val g) mp ∧ mapPut mp nm (IntKind.wrap IntKind.i64 (mapGet mp nm + 1)) = symMp nm mp) (FErr.fine = symE d c m nm (SI.val a) (SI.val v) (SB.val g) mp ∧ mapPut mp nm (IntKind.wrap IntKind.i64 (mapGet mp nm + 1)) = symMp nm mp)) (IT (decide (SI.val a = 2)) (RQ ((decide (0 ≤ SI.val v) && decide (SI.val v < (↑(List.length c) : Int))) = true → 0 ≤ SI.val v ∧ SI.val v < (↑(List.length m) : Int)) (IT (!(decide (0 ≤ SI.val v) && decide (SI.val v < (↑(List.length c) : Int)) && decide (List.getD m (Int.toNat (SI.val v)) (RT.dflt RT.u8) = 1))) (FErr.bare (103 : Int) = symE d c m nm (SI.val a) (SI.val v) (SB.val g) mp ∧ mapPut mp nm (IntKind.wrap IntKind.i64 (mapGet mp nm + 1)) = symMp nm mp) (FErr.fine = symE d c m nm (SI.val a) (SI.val v) (SB.val g) mp ∧ mapPut mp nm (IntKind.wrap IntKind.i64 (mapGet mp nm + 1)) = symMp nm mp))) (IT (decide (SI.val a = 3)) (IT (!(decide (SI.val v = 0) && SB.val g)) (FErr.bare (103 : Int) = symE d c m nm (SI.val a) (SI.val v) (SB.val g) mp ∧ mapPut mp nm (IntKind.wrap IntKind.i64 (mapGet mp nm + 1)) = symMp nm mp) (FErr.fine = symE d c m nm (SI.val a) (SI.val v) (SB.val g) mp ∧ mapPut mp nm (IntKind.wrap IntKind.i64 (mapGet mp nm + 1)) = symMp nm mp)) (FErr.bare (103 : Int) = symE d c m nm (SI.val a) (SI.val v) (SB.val g) mp ∧ mapPut mp nm (IntKind.wrap IntKind.i64 (mapGet mp nm + 1)) = symMp nm mp)))))) := by kernel_rfl
set_option maxHeartbeats 4000000 in
theorem csymbol : Con ea has (G7 ++ rest) 57 ksymbol := by
 refine map_mk Tryz.func57 83 (con := []) trivial (fun hA hr hv => ?_) (by kernel_rfl) (by kernel_rfl) Tryz.ntmps57
 unfold ksymbol at hr; split at hr
 ·rename_i d c m dr cr sy nm a v g q
  simp only [Acc.run] at hr
  split at hr
  ·rename_i mp hq
   have := ret_ok hr; subst this
   replace hv := hv _ rfl
   refine ⟨[.agg [.ro .u32 d, .ro .u32 c, .ro .u8 m, .ro .rel dr, .ro .rel cr, .ro .sym sy], .agg [.str nm, .int .i64 a, .int .i64 v, .bool g]], q, .strMap mp, .strMap (symMp nm mp), _, [], rfl, hq, rfl, ⟨rfl, rfl, rfl⟩, (argsymbol d c m dr cr sy nm a v g).mpr (by simp), rfl, (fun W R ρ0 own0 hown => noSums (by kernel_rfl)), (runsymbol rest d c m dr cr sy nm a v g mp).mpr ?_⟩
   delta RQ IT
   clear hr
   clear hA
   generalize a.val = a
   generalize v.val = v
   generalize g.val = g
   obtain ⟨v1, v2, v3⟩ := hv
   have d1 : RT.u8.dflt = (0 : Int) := rfl
   simp only [wrapS v2 (show mapGet mp nm ≤ 9223372036854775806 by omega), get_put, d1]
   have so : (decide (nm = ByteArray.mk #[]) || decide ((32 : Int) < nm.size)) = !symOk nm := by unfold symOk; rw [Bool.not_not]; rfl
   rw [so]
   refine ⟨fun h => ?_, fun h => ?_⟩
   ·have h : symOk nm = false := by simpa using h
    rw [symE, symMp, if_pos h, if_pos h]; exact ⟨rfl, rfl⟩
   ·have h : ¬ symOk nm = false := by simpa using h
    have hm : symMp nm mp = mapPut mp nm (mapGet mp nm + 1) := by rw [symMp, if_neg h]
    rw [hm]
    refine ⟨fun h2 => ⟨by rw [symE, if_neg h, if_pos (of_decide_eq_true h2)], rfl⟩, fun h2 => ?_⟩
    have he : symE d c m nm a v g mp = if symFine d c m a v g = true then .fine else .bare 103 := by rw [symE, if_neg h, if_neg (of_decide_eq_false h2)]
    rw [he]
    refine ⟨fun h3 => ?_, fun h3 => ⟨fun h4 => ⟨fun h5 => ?_, fun _ => ?_⟩, fun h4 => ⟨fun h5 => ?_, fun h5 => ?_⟩⟩⟩
    ·have h3 := of_decide_eq_true h3
     rw [symFine, if_pos h3]; exact fine_if _ _
    ·simp only [Bool.and_eq_true, decide_eq_true_eq] at h5; omega
    ·have h3 := of_decide_eq_false h3
     have h4 := of_decide_eq_true h4
     rw [symFine, if_neg h3, if_pos h4]; exact fine_if _ _
    ·have h3 := of_decide_eq_false h3
     have h4 := of_decide_eq_false h4
     rw [symFine, if_neg h3, if_neg h4, if_pos (of_decide_eq_true h5)]; exact fine_if _ _
    ·have h3 := of_decide_eq_false h3
     have h4 := of_decide_eq_false h4
     rw [symFine, if_neg h3, if_neg h4, if_neg (of_decide_eq_false h5)]; exact ⟨rfl, rfl⟩
  ·cases hr
 ·cases hr
def shortM (op : Int) : Bool := decide (op = 16) || decide (op = 17) || decide (op = 18)
def farM (op : Int) : Bool := decide (op = 19) || decide (op = 20) || decide (op = 21) || decide (op = 22)
def kshort : List SVal → Nat → Acc ORes := fun a n => match a with | [.int .i64 op] => .ret ({ v := .bool (.sym (shortM op.val)) }) | _ => .fail "short"
theorem argshort (op : SI) : (all (subL tAtN none' [] deep [.int .i64 op] [.int .i64 (.full op.val)])) = (
 SI.val op = SI.val op) := by kernel_rfl
theorem runshort (rest : List (Nat × SVal)) (op : Int) : (Tr.sat (plainQ (.bool (.sym (shortM op)))) (run (env (G7 ++ rest) []) [] (bodyOf Tryz.f78) (start [.int .i64 (.full op)] 13) (ends (env (G7 ++ rest) []) Tryz.f78.results.toList))) = (
 (decide (op = (16 : Int)) || decide (op = (17 : Int)) || decide (op = (18 : Int))) = shortM op) := by kernel_rfl
set_option maxHeartbeats 4000000 in
theorem cshort : Con ea has (G7 ++ rest) 78 kshort := by
 refine plain_mkB Tryz.func78 13 (con := []) trivial (fun hA hr hv => ?_) (by kernel_rfl) (by kernel_rfl) Tryz.ntmps78
 unfold kshort at hr; split at hr
 ·rename_i op
  have := ret_ok hr; subst this
  refine ⟨_, [], rfl, rfl, .of (argshort op) (by simp), rfl, (fun W R ρ0 own0 hown => noSums (by kernel_rfl)), .of (runshort rest op.val) ?_⟩
  clear hr
  rfl
 ·cases hr
def kfar : List SVal → Nat → Acc ORes := fun a n => match a with | [.int .i64 op] => .ret ({ v := .bool (.sym (farM op.val)) }) | _ => .fail "far"
theorem argfar (op : SI) : (all (subL tAtN none' [] deep [.int .i64 op] [.int .i64 (.full op.val)])) = (
 SI.val op = SI.val op) := by kernel_rfl
theorem runfar (rest : List (Nat × SVal)) (op : Int) : (Tr.sat (plainQ (.bool (.sym (farM op)))) (run (env (G7 ++ rest) []) [] (bodyOf Tryz.f79) (start [.int .i64 (.full op)] 17) (ends (env (G7 ++ rest) []) Tryz.f79.results.toList))) = (
 (decide (op = (19 : Int)) || decide (op = (20 : Int)) || decide (op = (21 : Int)) || decide (op = (22 : Int))) = farM op) := by kernel_rfl
set_option maxHeartbeats 4000000 in
theorem cfar : Con ea has (G7 ++ rest) 79 kfar := by
 refine plain_mkB Tryz.func79 17 (con := []) trivial (fun hA hr hv => ?_) (by kernel_rfl) (by kernel_rfl) Tryz.ntmps79
 unfold kfar at hr; split at hr
 ·rename_i op
  have := ret_ok hr; subst this
  refine ⟨_, [], rfl, rfl, .of (argfar op) (by simp), rfl, (fun W R ρ0 own0 hown => noSums (by kernel_rfl)), .of (runfar rest op.val) ?_⟩
  clear hr
  rfl
 ·cases hr
def relocB (n : Nat) (a k s x last words kind : Int) : Bool :=
 decide (a < 0) || decide (words ≤ a) || decide (a ≤ last) || (decide (k < 1) || decide (kind < k)) || (decide (s < 0) || decide ((n : Int) ≤ s)) || (decide (x < -65536) || decide (65536 < x))
def relocE (n : Nat) (a k s x last words kind : Int) : FErr := if relocB n a k s x last words kind = true then .bare 103 else .fine
def kreloc : List SVal → Nat → Acc ORes := fun a n => match a with | [.agg [.ro .u32 d, .ro .u32 c, .ro .u8 m, .ro .rel dr, .ro .rel cr, .ro .sym sy], .agg [.int .i64 a, .int .i64 k, .int .i64 s, .int .i64 x], .int .i64 last, .int .i64 words, .int .i64 kind] => .ret ({ v := .err (relocE sy.length a.val k.val s.val x.val last.val words.val kind.val) }) | _ => .fail "reloc"
theorem argreloc (d c m : List Int) (dr cr : List Rel) (sy : List Sm) (a k s x last words kind : SI) : (all (subL tAtN none' [] deep [.agg [.ro .u32 d, .ro .u32 c, .ro .u8 m, .ro .rel dr, .ro .rel cr, .ro .sym sy], .agg [.int .i64 a, .int .i64 k, .int .i64 s, .int .i64 x], .int .i64 last, .int .i64 words, .int .i64 kind] [.agg [.ro .u32 d, .ro .u32 c, .ro .u8 m, .ro .rel dr, .ro .rel cr, .ro .sym sy], .agg [.int .i64 (.full a.val), .int .i64 (.full k.val), .int .i64 (.full s.val), .int .i64 (.full x.val)], .int .i64 (.full last.val), .int .i64 (.full words.val), .int .i64 (.full kind.val)])) = (
 d = d ∧ c = c ∧ m = m ∧ dr = dr ∧ cr = cr ∧ sy = sy ∧ SI.val a = SI.val a ∧ SI.val k = SI.val k ∧ SI.val s = SI.val s ∧ SI.val x = SI.val x ∧ SI.val last = SI.val last ∧ SI.val words = SI.val words ∧ SI.val kind = SI.val kind) := by kernel_rfl
theorem runreloc (rest : List (Nat × SVal)) (d : List Int) (c : List Int) (m : List Int) (dr : List Rel) (cr : List Rel) (sy : List Sm) (a : Int) (k : Int) (s : Int) (x : Int) (last : Int) (words : Int) (kind : Int) : (Tr.sat (plainQ (.err (relocE sy.length a k s x last words kind))) (run (env (G7 ++ rest) []) [] (bodyOf Tryz.f76) (start [.agg [.ro .u32 d, .ro .u32 c, .ro .u8 m, .ro .rel dr, .ro .rel cr, .ro .sym sy], .agg [.int .i64 (.full a), .int .i64 (.full k), .int .i64 (.full s), .int .i64 (.full x)], .int .i64 (.full last), .int .i64 (.full words), .int .i64 (.full kind)] 56) (ends (env (G7 ++ rest) []) Tryz.f76.results.toList))) = (
 IT (decide (a < 0) || decide (words ≤ a) || decide (a ≤ last)) (FErr.bare (103 : Int) = relocE (List.length sy) a k s x last words kind) (IT (decide (k < 1) || decide (kind < k)) (FErr.bare (103 : Int) = relocE (List.length sy) a k s x last words kind) (IT (decide (s < 0) || decide ((↑(List.length sy) : Int) ≤ s)) (FErr.bare (103 : Int) = relocE (List.length sy) a k s x last words kind) (IT (decide (x < (-65536 : Int)) || decide ((65536 : Int) < x)) (FErr.bare (103 : Int) = relocE (List.length sy) a k s x last words kind) (FErr.fine = relocE (List.length sy) a k s x last words kind))))) := by kernel_rfl
set_option maxHeartbeats 4000000 in
theorem creloc : Con ea has (G7 ++ rest) 76 kreloc := by
 refine plain_mkB Tryz.func76 56 (con := []) trivial (fun hA hr hv => ?_) (by kernel_rfl) (by kernel_rfl) Tryz.ntmps76
 unfold kreloc at hr; split at hr
 ·rename_i d c m dr cr sy a k s x last words kind
  have := ret_ok hr; subst this
  refine ⟨_, [], rfl, rfl, .of (argreloc d c m dr cr sy a k s x last words kind) (by simp), rfl, (fun W R ρ0 own0 hown => noSums (by kernel_rfl)), .of (runreloc rest d c m dr cr sy a.val k.val s.val x.val last.val words.val kind.val) ?_⟩
  delta IT
  clear hr
  generalize a.val = a
  generalize k.val = k
  generalize s.val = s
  generalize x.val = x
  generalize last.val = last
  generalize words.val = words
  generalize kind.val = kind
  unfold relocE relocB
  refine ⟨fun h => by rw [h]; rfl, fun h => ⟨fun h2 => by rw [h, h2]; rfl, fun h2 => ⟨fun h3 => by rw [h, h2, h3]; rfl, fun h3 => ⟨fun h4 => by rw [h, h2, h3, h4]; rfl, fun h4 => by rw [h, h2, h3, h4]; rfl⟩⟩⟩⟩
 ·cases hr
def shapeB (c m : List Int) (sy : List Sm) (a k s x : Int) : Bool :=
 let data : Bool := decide ((sy.getD s.toNat RT.sym.dflt).in_ = 1)
 if k = 2 then insB c m a && shortM (insI c m a).op && !data && decide (x = 0)
 else if (!decide (x = 0) && !data) = true then false
 else if m.getD a.toNat 0 = 2 then true
 else insB c m (a - 1) && decide (m.getD a.toNat 0 = 0) && (decide ((insI c m (a - 1)).op = 14) || decide ((insI c m (a - 1)).op = 15) || (farM (insI c m (a - 1)).op && !data))
def kshape : List SVal → Nat → Acc ORes := fun a n => match a with | [.agg [.ro .u32 d, .ro .u32 c, .ro .u8 m, .ro .rel dr, .ro .rel cr, .ro .sym sy], .agg [.int .i64 a, .int .i64 k, .int .i64 s, .int .i64 x]] => .ret ({ v := .bool (.sym (shapeB c m sy a.val k.val s.val x.val)), vc := some (0 ≤ a.val ∧ a.val < (m.length : Int) ∧ 0 ≤ s.val ∧ s.val < (sy.length : Int)) }) | _ => .fail "shape"
theorem argshape (d c m : List Int) (dr cr : List Rel) (sy : List Sm) (a k s x : SI) : (all (subL tAtN none' [] deep [.agg [.ro .u32 d, .ro .u32 c, .ro .u8 m, .ro .rel dr, .ro .rel cr, .ro .sym sy], .agg [.int .i64 a, .int .i64 k, .int .i64 s, .int .i64 x]] [.agg [.ro .u32 d, .ro .u32 c, .ro .u8 m, .ro .rel dr, .ro .rel cr, .ro .sym sy], .agg [.int .i64 (.full a.val), .int .i64 (.full k.val), .int .i64 (.full s.val), .int .i64 (.full x.val)]])) = (
 d = d ∧ c = c ∧ m = m ∧ dr = dr ∧ cr = cr ∧ sy = sy ∧ SI.val a = SI.val a ∧ SI.val k = SI.val k ∧ SI.val s = SI.val s ∧ SI.val x = SI.val x) := by kernel_rfl
theorem runshape (rest : List (Nat × SVal)) (d : List Int) (c : List Int) (m : List Int) (dr : List Rel) (cr : List Rel) (sy : List Sm) (a : Int) (k : Int) (s : Int) (x : Int) : (Tr.sat (plainQ (.bool (.sym (shapeB c m sy a k s x)))) (run (env (G7 ++ rest) [(43, kInstr), (78, kshort), (79, kfar)]) [] (bodyOf Tryz.f77) (start [.agg [.ro .u32 d, .ro .u32 c, .ro .u8 m, .ro .rel dr, .ro .rel cr, .ro .sym sy], .agg [.int .i64 (.full a), .int .i64 (.full k), .int .i64 (.full s), .int .i64 (.full x)]] 92) (ends (env (G7 ++ rest) [(43, kInstr), (78, kshort), (79, kfar)]) Tryz.f77.results.toList))) = (
 RQ (0 ≤ s ∧ s < (↑(List.length sy) : Int)) (IT (decide (k = 2)) ((insB c m a && shortM (insI c m a).op && !decide ((List.getD sy (Int.toNat s) (RT.dflt RT.sym)).in_ = 1) && decide (x = 0)) = shapeB c m sy a k s x) (IT (!decide (x = 0) && !decide ((List.getD sy (Int.toNat s) (RT.dflt RT.sym)).in_ = 1)) (false = shapeB c m sy a k s x) (RQ (0 ≤ a ∧ a < (↑(List.length m) : Int)) (IT (decide (List.getD m (Int.toNat a) (RT.dflt RT.u8) = 2)) (true = shapeB c m sy a k s x) (RQ (insB c m (IntKind.wrap IntKind.i64 (a - 1)) = true → 0 ≤ a ∧ a < (↑(List.length m) : Int)) ((insB c m (IntKind.wrap IntKind.i64 (a - 1)) && decide (List.getD m (Int.toNat a) (RT.dflt RT.u8) = 0) && (decide ((insI c m (IntKind.wrap IntKind.i64 (a - 1))).op = 14) || decide ((insI c m (IntKind.wrap IntKind.i64 (a - 1))).op = 15) || farM (insI c m (IntKind.wrap IntKind.i64 (a - 1))).op && !decide ((List.getD sy (Int.toNat s) (RT.dflt RT.sym)).in_ = 1))) = shapeB c m sy a k s x))))))) := by kernel_rfl
set_option maxHeartbeats 4000000 in
theorem cshape : Con ea has (G7 ++ rest) 77 kshape := by
 refine plain_mkB Tryz.func77 92 (con := [(43, kInstr), (78, kshort), (79, kfar)]) ⟨cInstr, cshort, cfar, trivial⟩ (fun hA hr hv => ?_) (by kernel_rfl) (by kernel_rfl) Tryz.ntmps77
 unfold kshape at hr; split at hr
 ·rename_i d c m dr cr sy a k s x
  have := ret_ok hr; subst this
  replace hv := hv _ rfl
  refine ⟨_, [], rfl, rfl, .of (argshape d c m dr cr sy a k s x) (by simp), rfl, (fun W R ρ0 own0 hown => noSums (by kernel_rfl)), .of (runshape rest d c m dr cr sy a.val k.val s.val x.val) ?_⟩
  delta RQ IT
  clear hr
  have hl := (ob_len hA).2.2.1
  clear hA
  generalize a.val = a at *
  generalize k.val = k at *
  generalize s.val = s at *
  generalize x.val = x at *
  obtain ⟨v1, v2, v3, v4⟩ := hv
  have hml := hl
  have d1 : RT.u8.dflt = (0 : Int) := rfl
  have w2 : IntKind.i64.wrap (a - 1) = a - 1 := by rw [IntKind.wrap_i64]; omega
  simp only [d1, w2]
  unfold shapeB
  refine ⟨⟨v3, v4⟩, fun _ => ⟨fun h => by rw [if_pos (of_decide_eq_true h)], fun h => ?_⟩⟩
  rw [if_neg (of_decide_eq_false h)]
  refine ⟨fun h2 => by rw [if_pos h2], fun h2 => ⟨⟨v1, v2⟩, fun _ => ?_⟩⟩
  rw [if_neg (by rw [h2]; simp)]
  refine ⟨fun h3 => by rw [if_pos (of_decide_eq_true h3)], fun h3 => ⟨fun _ => ⟨v1, v2⟩, fun _ => ?_⟩⟩
  rw [if_neg (of_decide_eq_false h3)]
 ·cases hr
def placeE (e : FErr) (i : Nat) : FErr := match e with
 | .bare n => .placed n i
 | _ => .fine
def firstE (f : Nat → FErr) : Nat → FErr
 | 0 => .fine
 | n + 1 => if (firstE f n).isErr = true then firstE f n else if (f n).isErr = true then placeE (f n) n else .fine
theorem fine_of {e : FErr} (h : e.isErr = false) : e = .fine := by cases e <;> simp [FErr.isErr] at h ⊢
theorem firstE_fine {f : Nat → FErr} {i : Nat} (h : firstE f i = .fine) (hf : (f i).isErr = false) : firstE f (i + 1) = .fine := by
 rw [firstE, h, if_neg (by simp [FErr.isErr]), if_neg (by rw [hf]; simp)]
theorem firstE_stay {f : Nat → FErr} {i n : Nat} (h : (firstE f i).isErr = true) (hn : i ≤ n) : firstE f n = firstE f i := by
 induction n with
 | zero => have : i = 0 := by omega
           rw [this]
 | succ n ih =>
  by_cases e : i = n + 1
  ·rw [e]
  ·have := ih (by omega)
   rw [firstE, this, if_pos h]
theorem firstE_at {f : Nat → FErr} {i n : Nat} (h : firstE f i = .fine) (hf : (f i).isErr = true) (hp : (f i).isPlaced = false) (hn : i < n) : firstE f n = placeE (f i) i ∧ (firstE f n).isErr = true := by
 have e : firstE f (i + 1) = placeE (f i) i := by rw [firstE, h, if_neg (by simp [FErr.isErr]), if_pos hf]
 have e2 : (placeE (f i) i).isErr = true := by cases hfi : f i <;> rw [hfi] at hf hp <;> simp_all [placeE, FErr.isErr, FErr.isPlaced]
 have := firstE_stay (n := n) (by rw [e]; exact e2) hn
 rw [this, e]; exact ⟨rfl, e2⟩
theorem relocE_np {n : Nat} {a k s x last words kind : Int} : (relocE n a k s x last words kind).isPlaced = false := by unfold relocE; split <;> rfl
theorem relocE_ok {n : Nat} {a k s x last words kind : Int} (h : (relocE n a k s x last words kind).isErr = false) : 0 ≤ a ∧ a < words ∧ last < a ∧ 1 ≤ k ∧ k ≤ kind ∧ 0 ≤ s ∧ s < n ∧ -65536 ≤ x ∧ x ≤ 65536 := by
 unfold relocE at h
 split at h
 ·cases h
 ·rename_i hb
  simp only [relocB, Bool.or_eq_true, decide_eq_true_eq] at hb
  omega
theorem hl3 {c b1 b2 b3 : Code} {ls : List (Nat × LSum)} {L1 L2 L3 : LSum} {Z : Code → LSum → Prop} (hc : loopsOf c = [b1, b2, b3]) (f1 : find (headId b1) ls = some L1) (z1 : Z b1 L1) (f2 : find (headId b2) ls = some L2) (z2 : Z b2 L2) (f3 : find (headId b3) ls = some L3) (z3 : Z b3 L3) :
  ∀ b ∈ loopsOf c, ∀ L, find (headId b) ls = some L → Z b L := hlN hc fun b hb => by
 simp only [List.mem_cons, List.not_mem_nil, or_false] at hb
 rcases hb with rfl | rfl | rfl
 ·exact ⟨L1, f1, z1⟩
 ·exact ⟨L2, f2, z2⟩
 ·exact ⟨L3, f3, z3⟩
theorem hl2 {c b1 b2 : Code} {ls : List (Nat × LSum)} {L1 L2 : LSum} {Z : Code → LSum → Prop} (hc : loopsOf c = [b1, b2]) (f1 : find (headId b1) ls = some L1) (z1 : Z b1 L1) (f2 : find (headId b2) ls = some L2) (z2 : Z b2 L2) :
  ∀ b ∈ loopsOf c, ∀ L, find (headId b) ls = some L → Z b L := hlN hc fun b hb => by
 simp only [List.mem_cons, List.not_mem_nil, or_false] at hb
 rcases hb with rfl | rfl
 ·exact ⟨L1, f1, z1⟩
 ·exact ⟨L2, f2, z2⟩
def lastR (l : List Rel) : Nat → Int
 | 0 => -1
 | i + 1 => (l.getD i RT.rel.dflt).at_
def drE (d : List Int) (dr : List Rel) (sy : List Sm) (i : Nat) : FErr :=
 let r := dr.getD i RT.rel.dflt
 let e := relocE sy.length r.at_ r.kind r.sym r.add (lastR dr i) d.length 1
 if (!e.isErr && !decide (r.add = 0) && !decide ((sy.getD r.sym.toNat RT.sym.dflt).in_ = 1)) = true then .bare 102 else e
def HDRels (d c m : List Int) (dr cr : List Rel) (sy : List Sm) (i : Nat) : SState := { fr := [(1, .ptr 0 0), (3, .int .i64 (.full (lastR dr i))), (15, .ro .rel dr), (16, .int .i64 (.full dr.length)), (17, .int .i64 (.sym i 0 1000000))], hp := [(0, some (.cells [.ro .u32 d, .ro .u32 c, .ro .u8 m, .ro .rel dr, .ro .rel cr, .ro .sym sy]))], next := 1, sz := 144 }
def XDRels (d c m : List Int) (dr cr : List Rel) (sy : List Sm) : SState := { fr := [(1, .ptr 0 0)], hp := [(0, some (.cells [.ro .u32 d, .ro .u32 c, .ro .u8 m, .ro .rel dr, .ro .rel cr, .ro .sym sy]))], next := 1, sz := 144 }
def YDRels (d c m : List Int) (dr cr : List Rel) (sy : List Sm) : SState := { fr := [(2, .err (firstE (drE d dr sy) dr.length))], hp := [], next := 0, sz := 144 }
def LDRels (d c m : List Int) (dr cr : List Rel) (sy : List Sm) : LSum := ⟨HDRels d c m dr cr sy 0, fun k => .ite (!(firstE (drE d dr sy) dr.length).isErr) (k (.exit 0) (XDRels d c m dr cr sy)) (k .ret (YDRels d c m dr cr sy)), dr.length ≤ 1000000⟩
theorem bDRels (rest : List (Nat × SVal)) (d c m : List Int) (dr cr : List Rel) (sy : List Sm) (i : Nat) : (Tr.sat (rnd2 (env (G7 ++ rest) [(76, kreloc), (77, kshape), (43, kInstr), (78, kshort), (79, kfar)]) (fun i => firstE (drE d dr sy) i = .fine) (dr.length) (HDRels d c m dr cr sy) 0 (!(firstE (drE d dr sy) dr.length).isErr) (XDRels d c m dr cr sy) (YDRels d c m dr cr sy) i) (run (env (G7 ++ rest) [(76, kreloc), (77, kshape), (43, kInstr), (78, kshort), (79, kfar)]) [] (loopN (bodyOf Tryz.f58) 0) (HDRels d c m dr cr sy i) .leaf)) = (
 IT (decide ((↑i : Int) < (↑(List.length dr) : Int))) (RQ (0 ≤ (↑i : Int) ∧ (↑i : Int) < (↑(List.length dr) : Int)) (RQ ((!FErr.isErr (relocE (List.length sy) (List.getD dr (Int.toNat (↑i : Int)) (RT.dflt RT.rel)).at_ (List.getD dr (Int.toNat (↑i : Int)) (RT.dflt RT.rel)).kind (List.getD dr (Int.toNat (↑i : Int)) (RT.dflt RT.rel)).sym (List.getD dr (Int.toNat (↑i : Int)) (RT.dflt RT.rel)).add (lastR dr i) (↑(List.length d) : Int) (1 : Int)) && !decide ((List.getD dr (Int.toNat (↑i : Int)) (RT.dflt RT.rel)).add = 0)) = true → 0 ≤ (List.getD dr (Int.toNat (↑i : Int)) (RT.dflt RT.rel)).sym ∧ (List.getD dr (Int.toNat (↑i : Int)) (RT.dflt RT.rel)).sym < (↑(List.length sy) : Int)) (IT (!FErr.isErr (relocE (List.length sy) (List.getD dr (Int.toNat (↑i : Int)) (RT.dflt RT.rel)).at_ (List.getD dr (Int.toNat (↑i : Int)) (RT.dflt RT.rel)).kind (List.getD dr (Int.toNat (↑i : Int)) (RT.dflt RT.rel)).sym (List.getD dr (Int.toNat (↑i : Int)) (RT.dflt RT.rel)).add (lastR dr i) (↑(List.length d) : Int) (1 : Int)) && !decide ((List.getD dr (Int.toNat (↑i : Int)) (RT.dflt RT.rel)).add = 0) && !decide ((List.getD sy (Int.toNat (List.getD dr (Int.toNat (↑i : Int)) (RT.dflt RT.rel)).sym) (RT.dflt RT.sym)).in_ = 1)) (IT true ((!FErr.isErr (firstE (drE d dr sy) (List.length dr))) = false ∧ firstE (drE d dr sy) (List.length dr) = FErr.placed (102 : Int) (↑i : Int) ∧ FErr.isErr (FErr.bare (102 : Int)) = true ∧ FErr.isPlaced (FErr.bare (102 : Int)) = false) (i < List.length dr ∧ firstE (drE d dr sy) (i + 1) = FErr.fine ∧ (List.getD dr (Int.toNat (↑i : Int)) (RT.dflt RT.rel)).at_ = lastR dr (i + 1) ∧ dr = dr ∧ (↑(List.length dr) : Int) = (↑(List.length dr) : Int) ∧ (↑i : Int) + 1 = (↑(i + 1) : Int) ∧ (0 ≤ (↑(i + 1) : Int) ∧ (↑(i + 1) : Int) ≤ 1000000) ∧ d = d ∧ c = c ∧ m = m ∧ dr = dr ∧ cr = cr ∧ sy = sy)) (IT (!!FErr.isErr (relocE (List.length sy) (List.getD dr (Int.toNat (↑i : Int)) (RT.dflt RT.rel)).at_ (List.getD dr (Int.toNat (↑i : Int)) (RT.dflt RT.rel)).kind (List.getD dr (Int.toNat (↑i : Int)) (RT.dflt RT.rel)).sym (List.getD dr (Int.toNat (↑i : Int)) (RT.dflt RT.rel)).add (lastR dr i) (↑(List.length d) : Int) (1 : Int))) ((!FErr.isErr (firstE (drE d dr sy) (List.length dr))) = false ∧ (firstE (drE d dr sy) (List.length dr) = match relocE (List.length sy) (List.getD dr (Int.toNat (↑i : Int)) (RT.dflt RT.rel)).at_ (List.getD dr (Int.toNat (↑i : Int)) (RT.dflt RT.rel)).kind (List.getD dr (Int.toNat (↑i : Int)) (RT.dflt RT.rel)).sym (List.getD dr (Int.toNat (↑i : Int)) (RT.dflt RT.rel)).add (lastR dr i) (↑(List.length d) : Int) (1 : Int) with | FErr.bare n => FErr.placed n (↑i : Int) | x => FErr.fine) ∧ FErr.isErr (relocE (List.length sy) (List.getD dr (Int.toNat (↑i : Int)) (RT.dflt RT.rel)).at_ (List.getD dr (Int.toNat (↑i : Int)) (RT.dflt RT.rel)).kind (List.getD dr (Int.toNat (↑i : Int)) (RT.dflt RT.rel)).sym (List.getD dr (Int.toNat (↑i : Int)) (RT.dflt RT.rel)).add (lastR dr i) (↑(List.length d) : Int) (1 : Int)) = true ∧ FErr.isPlaced (relocE (List.length sy) (List.getD dr (Int.toNat (↑i : Int)) (RT.dflt RT.rel)).at_ (List.getD dr (Int.toNat (↑i : Int)) (RT.dflt RT.rel)).kind (List.getD dr (Int.toNat (↑i : Int)) (RT.dflt RT.rel)).sym (List.getD dr (Int.toNat (↑i : Int)) (RT.dflt RT.rel)).add (lastR dr i) (↑(List.length d) : Int) (1 : Int)) = false) (i < List.length dr ∧ firstE (drE d dr sy) (i + 1) = FErr.fine ∧ (List.getD dr (Int.toNat (↑i : Int)) (RT.dflt RT.rel)).at_ = lastR dr (i + 1) ∧ dr = dr ∧ (↑(List.length dr) : Int) = (↑(List.length dr) : Int) ∧ (↑i : Int) + 1 = (↑(i + 1) : Int) ∧ (0 ≤ (↑(i + 1) : Int) ∧ (↑(i + 1) : Int) ≤ 1000000) ∧ d = d ∧ c = c ∧ m = m ∧ dr = dr ∧ cr = cr ∧ sy = sy))))) (Nat.beq (0 : Nat) (0 : Nat) = true ∧ (!FErr.isErr (firstE (drE d dr sy) (List.length dr))) = true ∧ d = d ∧ c = c ∧ m = m ∧ dr = dr ∧ cr = cr ∧ sy = sy)) := by kernel_rfl
set_option maxHeartbeats 4000000 in
theorem lDRels (d c m : List Int) (dr cr : List Rel) (sy : List Sm) {W : World} {R own0 : Nat → Prop} {ρ0 : Nat → Option Value} (hown : HownOk (env (G7 ++ rest) [(76, kreloc), (77, kshape), (43, kInstr), (78, kshort), (79, kfar)]) own0 ρ0) : LOk Tryz.prog (env (G7 ++ rest) [(76, kreloc), (77, kshape), (43, kInstr), (78, kshort), (79, kfar)]) (ctx ea has) (G7 ++ rest) W R own0 ρ0 (loopN (bodyOf Tryz.f58) 0) (LDRels d c m dr cr sy) := by
 refine loop2_ok (J := fun i => firstE (drE d dr sy) i = .fine) (N := dr.length) (H := HDRels d c m dr cr sy) (X := XDRels d c m dr cr sy) (Y := YDRels d c m dr cr sy) (env_ok (con := [(76, kreloc), (77, kshape), (43, kInstr), (78, kshort), (79, kfar)]) ⟨creloc, cshape, cInstr, cshort, cfar, trivial⟩) hown (ls := fun i => []) (fun i => noSums (by kernel_rfl)) (fun hm i hi hj => ?_) 0 (fun hm => by first | exact Nat.zero_le _ | omega) (fun hm => rfl)
 rw [bDRels rest d c m dr cr sy i]
 delta RQ IT
 have hnp := @relocE_np sy.length (dr.getD i RT.rel.dflt).at_ (dr.getD i RT.rel.dflt).kind (dr.getD i RT.rel.dflt).sym (dr.getD i RT.rel.dflt).add (lastR dr i) d.length 1
 have hok := @relocE_ok sy.length (dr.getD i RT.rel.dflt).at_ (dr.getD i RT.rel.dflt).kind (dr.getD i RT.rel.dflt).sym (dr.getD i RT.rel.dflt).add (lastR dr i) d.length 1
 have hE := drE.eq_1 d dr sy i
 simp only [Int.toNat_natCast]
 generalize relocE sy.length (dr.getD i RT.rel.dflt).at_ (dr.getD i RT.rel.dflt).kind (dr.getD i RT.rel.dflt).sym (dr.getD i RT.rel.dflt).add (lastR dr i) d.length 1 = e at *
 refine ⟨fun h => ?_, fun h => ?_⟩
 ·have h := of_decide_eq_true h
  have hlt : i < dr.length := by omega
  refine ⟨by omega, fun _ => ⟨fun h2 => ?_, fun _ => ⟨fun h2 => ⟨fun _ => ?_, fun h => by cases h⟩, fun h2 => ⟨fun h3 => ?_, fun h3 => ?_⟩⟩⟩⟩
  ·simp only [Bool.and_eq_true, Bool.not_eq_true'] at h2
   have := hok h2.1; omega
  ·rw [if_pos h2] at hE
   obtain ⟨g1, g2⟩ := firstE_at hj (by rw [hE]; rfl) (by rw [hE]; rfl) hlt
   rw [hE] at g1
   exact ⟨by rw [g2]; rfl, g1, rfl, rfl⟩
  ·rw [if_neg (by rw [h2]; simp)] at hE
   have h3 : e.isErr = true := by simpa using h3
   obtain ⟨g1, g2⟩ := firstE_at hj (by rw [hE]; exact h3) (by rw [hE]; exact hnp) hlt
   rw [hE] at g1
   exact ⟨by rw [g2]; rfl, g1, h3, hnp⟩
  ·rw [if_neg (by rw [h2]; simp)] at hE
   have h3 : e.isErr = false := by simpa using h3
   refine ⟨hlt, firstE_fine hj (by rw [hE]; exact h3), ?_⟩
   simp [lastR]; omega
 ·have h := of_decide_eq_false h
  have : i = dr.length := by omega
  rw [← this, hj]
  simp [FErr.isErr]
def crE (c m : List Int) (cr : List Rel) (sy : List Sm) (i : Nat) : FErr :=
 let r := cr.getD i RT.rel.dflt
 let e := relocE sy.length r.at_ r.kind r.sym r.add (lastR cr i) c.length 2
 if (!e.isErr && !shapeB c m sy r.at_ r.kind r.sym r.add) = true then .bare 102 else e
def atM (cr : List Rel) : Nat → List (Int × Int)
 | 0 => []
 | i + 1 => mapPut (atM cr i) (cr.getD i RT.rel.dflt).at_ (cr.getD i RT.rel.dflt).kind
def HCRels (d c m : List Int) (dr cr : List Rel) (sy : List Sm) (i : Nat) : SState := { fr := [(1, .ptr 0 0), (3, .int .i64 (.full (lastR cr i))), (7, .map 1), (59, .ro .rel cr), (60, .int .i64 (.full cr.length)), (61, .int .i64 (.sym i 0 1000000))], hp := [(0, some (.cells [.ro .u32 d, .ro .u32 c, .ro .u8 m, .ro .rel dr, .ro .rel cr, .ro .sym sy])), (1, some (.intMap (atM cr i)))], next := 2, sz := 144 }
def XCRels (d c m : List Int) (dr cr : List Rel) (sy : List Sm) : SState := { fr := [(1, .ptr 0 0), (7, .map 1)], hp := [(0, some (.cells [.ro .u32 d, .ro .u32 c, .ro .u8 m, .ro .rel dr, .ro .rel cr, .ro .sym sy])), (1, some (.intMap (atM cr cr.length)))], next := 2, sz := 144 }
def YCRels (d c m : List Int) (dr cr : List Rel) (sy : List Sm) : SState := { fr := [(2, .err (firstE (crE c m cr sy) cr.length))], hp := [], next := 0, sz := 144 }
def LCRels (d c m : List Int) (dr cr : List Rel) (sy : List Sm) : LSum := ⟨HCRels d c m dr cr sy 0, fun k => .ite (!(firstE (crE c m cr sy) cr.length).isErr) (k (.exit 2) (XCRels d c m dr cr sy)) (k .ret (YCRels d c m dr cr sy)), cr.length ≤ 1000000 ∧ m.length = c.length⟩
theorem bCRels (rest : List (Nat × SVal)) (d c m : List Int) (dr cr : List Rel) (sy : List Sm) (i : Nat) : (Tr.sat (rnd2 (env (G7 ++ rest) [(76, kreloc), (77, kshape), (43, kInstr), (78, kshort), (79, kfar)]) (fun i => firstE (crE c m cr sy) i = .fine) (cr.length) (HCRels d c m dr cr sy) 2 (!(firstE (crE c m cr sy) cr.length).isErr) (XCRels d c m dr cr sy) (YCRels d c m dr cr sy) i) (run (env (G7 ++ rest) [(76, kreloc), (77, kshape), (43, kInstr), (78, kshort), (79, kfar)]) [] (loopN (bodyOf Tryz.f58) 1) (HCRels d c m dr cr sy i) .leaf)) = (
 IT (decide ((↑i : Int) < (↑(List.length cr) : Int))) (RQ (0 ≤ (↑i : Int) ∧ (↑i : Int) < (↑(List.length cr) : Int)) (RQ ((!FErr.isErr (relocE (List.length sy) (List.getD cr (Int.toNat (↑i : Int)) (RT.dflt RT.rel)).at_ (List.getD cr (Int.toNat (↑i : Int)) (RT.dflt RT.rel)).kind (List.getD cr (Int.toNat (↑i : Int)) (RT.dflt RT.rel)).sym (List.getD cr (Int.toNat (↑i : Int)) (RT.dflt RT.rel)).add (lastR cr i) (↑(List.length c) : Int) (2 : Int))) = true → 0 ≤ (List.getD cr (Int.toNat (↑i : Int)) (RT.dflt RT.rel)).at_ ∧ (List.getD cr (Int.toNat (↑i : Int)) (RT.dflt RT.rel)).at_ < (↑(List.length m) : Int) ∧ 0 ≤ (List.getD cr (Int.toNat (↑i : Int)) (RT.dflt RT.rel)).sym ∧ (List.getD cr (Int.toNat (↑i : Int)) (RT.dflt RT.rel)).sym < (↑(List.length sy) : Int)) (IT (!FErr.isErr (relocE (List.length sy) (List.getD cr (Int.toNat (↑i : Int)) (RT.dflt RT.rel)).at_ (List.getD cr (Int.toNat (↑i : Int)) (RT.dflt RT.rel)).kind (List.getD cr (Int.toNat (↑i : Int)) (RT.dflt RT.rel)).sym (List.getD cr (Int.toNat (↑i : Int)) (RT.dflt RT.rel)).add (lastR cr i) (↑(List.length c) : Int) (2 : Int)) && !shapeB c m sy (List.getD cr (Int.toNat (↑i : Int)) (RT.dflt RT.rel)).at_ (List.getD cr (Int.toNat (↑i : Int)) (RT.dflt RT.rel)).kind (List.getD cr (Int.toNat (↑i : Int)) (RT.dflt RT.rel)).sym (List.getD cr (Int.toNat (↑i : Int)) (RT.dflt RT.rel)).add) (IT true ((!FErr.isErr (firstE (crE c m cr sy) (List.length cr))) = false ∧ firstE (crE c m cr sy) (List.length cr) = FErr.placed (102 : Int) (↑i : Int) ∧ FErr.isErr (FErr.bare (102 : Int)) = true ∧ FErr.isPlaced (FErr.bare (102 : Int)) = false) (i < List.length cr ∧ firstE (crE c m cr sy) (i + 1) = FErr.fine ∧ (List.getD cr (Int.toNat (↑i : Int)) (RT.dflt RT.rel)).at_ = lastR cr (i + 1) ∧ cr = cr ∧ (↑(List.length cr) : Int) = (↑(List.length cr) : Int) ∧ (↑i : Int) + 1 = (↑(i + 1) : Int) ∧ (0 ≤ (↑(i + 1) : Int) ∧ (↑(i + 1) : Int) ≤ 1000000) ∧ d = d ∧ c = c ∧ m = m ∧ dr = dr ∧ cr = cr ∧ sy = sy ∧ mapPut (atM cr i) (List.getD cr (Int.toNat (↑i : Int)) (RT.dflt RT.rel)).at_ (List.getD cr (Int.toNat (↑i : Int)) (RT.dflt RT.rel)).kind = atM cr (i + 1))) (IT (!!FErr.isErr (relocE (List.length sy) (List.getD cr (Int.toNat (↑i : Int)) (RT.dflt RT.rel)).at_ (List.getD cr (Int.toNat (↑i : Int)) (RT.dflt RT.rel)).kind (List.getD cr (Int.toNat (↑i : Int)) (RT.dflt RT.rel)).sym (List.getD cr (Int.toNat (↑i : Int)) (RT.dflt RT.rel)).add (lastR cr i) (↑(List.length c) : Int) (2 : Int))) ((!FErr.isErr (firstE (crE c m cr sy) (List.length cr))) = false ∧ (firstE (crE c m cr sy) (List.length cr) = match relocE (List.length sy) (List.getD cr (Int.toNat (↑i : Int)) (RT.dflt RT.rel)).at_ (List.getD cr (Int.toNat (↑i : Int)) (RT.dflt RT.rel)).kind (List.getD cr (Int.toNat (↑i : Int)) (RT.dflt RT.rel)).sym (List.getD cr (Int.toNat (↑i : Int)) (RT.dflt RT.rel)).add (lastR cr i) (↑(List.length c) : Int) (2 : Int) with | FErr.bare n => FErr.placed n (↑i : Int) | x => FErr.fine) ∧ FErr.isErr (relocE (List.length sy) (List.getD cr (Int.toNat (↑i : Int)) (RT.dflt RT.rel)).at_ (List.getD cr (Int.toNat (↑i : Int)) (RT.dflt RT.rel)).kind (List.getD cr (Int.toNat (↑i : Int)) (RT.dflt RT.rel)).sym (List.getD cr (Int.toNat (↑i : Int)) (RT.dflt RT.rel)).add (lastR cr i) (↑(List.length c) : Int) (2 : Int)) = true ∧ FErr.isPlaced (relocE (List.length sy) (List.getD cr (Int.toNat (↑i : Int)) (RT.dflt RT.rel)).at_ (List.getD cr (Int.toNat (↑i : Int)) (RT.dflt RT.rel)).kind (List.getD cr (Int.toNat (↑i : Int)) (RT.dflt RT.rel)).sym (List.getD cr (Int.toNat (↑i : Int)) (RT.dflt RT.rel)).add (lastR cr i) (↑(List.length c) : Int) (2 : Int)) = false) (i < List.length cr ∧ firstE (crE c m cr sy) (i + 1) = FErr.fine ∧ (List.getD cr (Int.toNat (↑i : Int)) (RT.dflt RT.rel)).at_ = lastR cr (i + 1) ∧ cr = cr ∧ (↑(List.length cr) : Int) = (↑(List.length cr) : Int) ∧ (↑i : Int) + 1 = (↑(i + 1) : Int) ∧ (0 ≤ (↑(i + 1) : Int) ∧ (↑(i + 1) : Int) ≤ 1000000) ∧ d = d ∧ c = c ∧ m = m ∧ dr = dr ∧ cr = cr ∧ sy = sy ∧ mapPut (atM cr i) (List.getD cr (Int.toNat (↑i : Int)) (RT.dflt RT.rel)).at_ (List.getD cr (Int.toNat (↑i : Int)) (RT.dflt RT.rel)).kind = atM cr (i + 1)))))) (Nat.beq (2 : Nat) (2 : Nat) = true ∧ (!FErr.isErr (firstE (crE c m cr sy) (List.length cr))) = true ∧ d = d ∧ c = c ∧ m = m ∧ dr = dr ∧ cr = cr ∧ sy = sy ∧ atM cr i = atM cr (List.length cr))) := by kernel_rfl
set_option maxHeartbeats 4000000 in
theorem lCRels (d c m : List Int) (dr cr : List Rel) (sy : List Sm) {W : World} {R own0 : Nat → Prop} {ρ0 : Nat → Option Value} (hown : HownOk (env (G7 ++ rest) [(76, kreloc), (77, kshape), (43, kInstr), (78, kshort), (79, kfar)]) own0 ρ0) : LOk Tryz.prog (env (G7 ++ rest) [(76, kreloc), (77, kshape), (43, kInstr), (78, kshort), (79, kfar)]) (ctx ea has) (G7 ++ rest) W R own0 ρ0 (loopN (bodyOf Tryz.f58) 1) (LCRels d c m dr cr sy) := by
 refine loop2_ok (J := fun i => firstE (crE c m cr sy) i = .fine) (N := cr.length) (H := HCRels d c m dr cr sy) (X := XCRels d c m dr cr sy) (Y := YCRels d c m dr cr sy) (env_ok (con := [(76, kreloc), (77, kshape), (43, kInstr), (78, kshort), (79, kfar)]) ⟨creloc, cshape, cInstr, cshort, cfar, trivial⟩) hown (ls := fun i => []) (fun i => noSums (by kernel_rfl)) (fun hm i hi hj => ?_) 0 (fun hm => by first | exact Nat.zero_le _ | omega) (fun hm => rfl)
 rw [bCRels rest d c m dr cr sy i]
 delta RQ IT
 have hnp := @relocE_np sy.length (cr.getD i RT.rel.dflt).at_ (cr.getD i RT.rel.dflt).kind (cr.getD i RT.rel.dflt).sym (cr.getD i RT.rel.dflt).add (lastR cr i) c.length 2
 have hok := @relocE_ok sy.length (cr.getD i RT.rel.dflt).at_ (cr.getD i RT.rel.dflt).kind (cr.getD i RT.rel.dflt).sym (cr.getD i RT.rel.dflt).add (lastR cr i) c.length 2
 have hE := crE.eq_1 c m cr sy i
 simp only [Int.toNat_natCast]
 generalize relocE sy.length (cr.getD i RT.rel.dflt).at_ (cr.getD i RT.rel.dflt).kind (cr.getD i RT.rel.dflt).sym (cr.getD i RT.rel.dflt).add (lastR cr i) c.length 2 = e at *
 obtain ⟨hm, hmc⟩ := hm
 refine ⟨fun h => ?_, fun h => ?_⟩
 ·have h := of_decide_eq_true h
  have hlt : i < cr.length := by omega
  refine ⟨by omega, fun _ => ⟨fun h2 => ?_, fun _ => ⟨fun h2 => ⟨fun _ => ?_, fun h => by cases h⟩, fun h2 => ⟨fun h3 => ?_, fun h3 => ?_⟩⟩⟩⟩
  ·have h2 : e.isErr = false := by simpa using h2
   have := hok h2; omega
  ·rw [if_pos h2] at hE
   obtain ⟨g1, g2⟩ := firstE_at hj (by rw [hE]; rfl) (by rw [hE]; rfl) hlt
   rw [hE] at g1
   exact ⟨by rw [g2]; rfl, g1, rfl, rfl⟩
  ·rw [if_neg (by rw [h2]; simp)] at hE
   have h3 : e.isErr = true := by simpa using h3
   obtain ⟨g1, g2⟩ := firstE_at hj (by rw [hE]; exact h3) (by rw [hE]; exact hnp) hlt
   rw [hE] at g1
   exact ⟨by rw [g2]; rfl, g1, h3, hnp⟩
  ·rw [if_neg (by rw [h2]; simp)] at hE
   have h3 : e.isErr = false := by simpa using h3
   refine ⟨hlt, firstE_fine hj (by rw [hE]; exact h3), ?_⟩
   simp [lastR, atM]; omega
 ·have h := of_decide_eq_false h
  have : i = cr.length := by omega
  rw [← this, hj]
  simp [FErr.isErr]
def needE (c m : List Int) (cr : List Rel) (i : Nat) : FErr :=
 if (insB c m i && ((shortM (insI c m i).op && !decide (mapGet (atM cr cr.length) (i : Int) = 2)) || ((farM (insI c m i).op || decide ((insI c m i).op = 15)) && !decide (mapGet (atM cr cr.length) ((i : Int) + 1) = 1)))) = true then .bare 107 else .fine
def HNeeds (d c m : List Int) (dr cr : List Rel) (sy : List Sm) (i : Nat) : SState := { fr := [(1, .ptr 0 0), (7, .map 1), (99, .int .i64 (.full c.length)), (100, .int .i64 (.sym i 0 1000000))], hp := [(0, some (.cells [.ro .u32 d, .ro .u32 c, .ro .u8 m, .ro .rel dr, .ro .rel cr, .ro .sym sy])), (1, some (.intMap (atM cr cr.length)))], next := 2, sz := 144 }
def XNeeds (d c m : List Int) (dr cr : List Rel) (sy : List Sm) : SState := { fr := [(1, .ptr 0 0)], hp := [], next := 1, sz := 144 }
def YNeeds (d c m : List Int) (dr cr : List Rel) (sy : List Sm) : SState := { fr := [(2, .err (firstE (needE c m cr) c.length))], hp := [], next := 0, sz := 144 }
def LNeeds (d c m : List Int) (dr cr : List Rel) (sy : List Sm) : LSum := ⟨HNeeds d c m dr cr sy 0, fun k => .ite (!(firstE (needE c m cr) c.length).isErr) (k (.exit 4) (XNeeds d c m dr cr sy)) (k .ret (YNeeds d c m dr cr sy)), c.length ≤ 1000000⟩
theorem bNeeds (rest : List (Nat × SVal)) (d c m : List Int) (dr cr : List Rel) (sy : List Sm) (i : Nat) : (Tr.sat (rnd2 (env (G7 ++ rest) [(76, kreloc), (77, kshape), (43, kInstr), (78, kshort), (79, kfar)]) (fun i => firstE (needE c m cr) i = .fine) (c.length) (HNeeds d c m dr cr sy) 4 (!(firstE (needE c m cr) c.length).isErr) (XNeeds d c m dr cr sy) (YNeeds d c m dr cr sy) i) (run (env (G7 ++ rest) [(76, kreloc), (77, kshape), (43, kInstr), (78, kshort), (79, kfar)]) [] (loopN (bodyOf Tryz.f58) 2) (HNeeds d c m dr cr sy i) .leaf)) = (
 IT (decide ((↑i : Int) < (↑(List.length c) : Int))) (IT (insB c m (↑i : Int) && (shortM (insI c m (↑i : Int)).op && !decide (mapGet (atM cr (List.length cr)) (↑i : Int) = 2) || (farM (insI c m (↑i : Int)).op || decide ((insI c m (↑i : Int)).op = 15)) && !decide (mapGet (atM cr (List.length cr)) ((↑i : Int) + 1) = 1))) ((!FErr.isErr (firstE (needE c m cr) (List.length c))) = false ∧ firstE (needE c m cr) (List.length c) = FErr.placed (107 : Int) (↑i : Int) ∧ FErr.isErr (FErr.bare (107 : Int)) = true ∧ FErr.isPlaced (FErr.bare (107 : Int)) = false) (i < List.length c ∧ firstE (needE c m cr) (i + 1) = FErr.fine ∧ (↑(List.length c) : Int) = (↑(List.length c) : Int) ∧ (↑i : Int) + 1 = (↑(i + 1) : Int) ∧ (0 ≤ (↑(i + 1) : Int) ∧ (↑(i + 1) : Int) ≤ 1000000) ∧ d = d ∧ c = c ∧ m = m ∧ dr = dr ∧ cr = cr ∧ sy = sy ∧ atM cr (List.length cr) = atM cr (List.length cr))) (Nat.beq (4 : Nat) (4 : Nat) = true ∧ (!FErr.isErr (firstE (needE c m cr) (List.length c))) = true ∧ True)) := by kernel_rfl
set_option maxHeartbeats 4000000 in
theorem lNeeds (d c m : List Int) (dr cr : List Rel) (sy : List Sm) {W : World} {R own0 : Nat → Prop} {ρ0 : Nat → Option Value} (hown : HownOk (env (G7 ++ rest) [(76, kreloc), (77, kshape), (43, kInstr), (78, kshort), (79, kfar)]) own0 ρ0) : LOk Tryz.prog (env (G7 ++ rest) [(76, kreloc), (77, kshape), (43, kInstr), (78, kshort), (79, kfar)]) (ctx ea has) (G7 ++ rest) W R own0 ρ0 (loopN (bodyOf Tryz.f58) 2) (LNeeds d c m dr cr sy) := by
 refine loop2_ok (J := fun i => firstE (needE c m cr) i = .fine) (N := c.length) (H := HNeeds d c m dr cr sy) (X := XNeeds d c m dr cr sy) (Y := YNeeds d c m dr cr sy) (env_ok (con := [(76, kreloc), (77, kshape), (43, kInstr), (78, kshort), (79, kfar)]) ⟨creloc, cshape, cInstr, cshort, cfar, trivial⟩) hown (ls := fun i => []) (fun i => noSums (by kernel_rfl)) (fun hm i hi hj => ?_) 0 (fun hm => by first | exact Nat.zero_le _ | omega) (fun hm => rfl)
 rw [bNeeds rest d c m dr cr sy i]
 delta IT
 have hE := needE.eq_1 c m cr i
 refine ⟨fun h => ?_, fun h => ?_⟩
 ·have h := of_decide_eq_true h
  have hlt : i < c.length := by omega
  refine ⟨fun h2 => ?_, fun h2 => ?_⟩
  ·rw [if_pos h2] at hE
   obtain ⟨g1, g2⟩ := firstE_at hj (by rw [hE]; rfl) (by rw [hE]; rfl) hlt
   rw [hE] at g1
   exact ⟨by rw [g2]; rfl, g1, rfl, rfl⟩
  ·rw [if_neg (by rw [h2]; simp)] at hE
   refine ⟨hlt, firstE_fine hj (by rw [hE]; rfl), ?_⟩
   simp; omega
 ·have h := of_decide_eq_false h
  have : i = c.length := by omega
  rw [← this, hj]
  simp [FErr.isErr]
def relocsE (d c m : List Int) (dr cr : List Rel) (sy : List Sm) : FErr :=
 if (firstE (drE d dr sy) dr.length).isErr = true then firstE (drE d dr sy) dr.length
 else if (firstE (crE c m cr sy) cr.length).isErr = true then firstE (crE c m cr sy) cr.length
 else firstE (needE c m cr) c.length
def krelocs : List SVal → Nat → Acc ORes := fun a n => match a with | [.agg [.ro .u32 d, .ro .u32 c, .ro .u8 m, .ro .rel dr, .ro .rel cr, .ro .sym sy]] => .ret ({ v := .err (relocsE d c m dr cr sy), vc := some (dr.length ≤ 1000000 ∧ cr.length ≤ 1000000 ∧ c.length ≤ 1000000 ∧ m.length = c.length) }) | _ => .fail "relocs"
theorem argrelocs (d c m : List Int) (dr cr : List Rel) (sy : List Sm) : (all (subL tAtN none' [] deep [.agg [.ro .u32 d, .ro .u32 c, .ro .u8 m, .ro .rel dr, .ro .rel cr, .ro .sym sy]] [.agg [.ro .u32 d, .ro .u32 c, .ro .u8 m, .ro .rel dr, .ro .rel cr, .ro .sym sy]])) = (
 d = d ∧ c = c ∧ m = m ∧ dr = dr ∧ cr = cr ∧ sy = sy) := by kernel_rfl
theorem runrelocs (rest : List (Nat × SVal)) (d : List Int) (c : List Int) (m : List Int) (dr : List Rel) (cr : List Rel) (sy : List Sm) : (Tr.sat (plainQ (.err (relocsE d c m dr cr sy))) (run (env (G7 ++ rest) [(76, kreloc), (77, kshape), (43, kInstr), (78, kshort), (79, kfar)]) [(3, LDRels d c m dr cr sy), (15, LCRels d c m dr cr sy), (26, LNeeds d c m dr cr sy)] (bodyOf Tryz.f58) (start [.agg [.ro .u32 d, .ro .u32 c, .ro .u8 m, .ro .rel dr, .ro .rel cr, .ro .sym sy]] 144) (ends (env (G7 ++ rest) [(76, kreloc), (77, kshape), (43, kInstr), (78, kshort), (79, kfar)]) Tryz.f58.results.toList))) = (
 RQ (List.length dr ≤ 1000000 ∧ (-1 : Int) = lastR dr (0 : Nat) ∧ dr = dr ∧ (↑(List.length dr) : Int) = (↑(List.length dr) : Int) ∧ (0 : Int) = (↑(0 : Nat) : Int) ∧ d = d ∧ c = c ∧ m = m ∧ dr = dr ∧ cr = cr ∧ sy = sy) (IT (!FErr.isErr (firstE (drE d dr sy) (List.length dr))) (RQ ((List.length cr ≤ 1000000 ∧ List.length m = List.length c) ∧ (-1 : Int) = lastR cr (0 : Nat) ∧ cr = cr ∧ (↑(List.length cr) : Int) = (↑(List.length cr) : Int) ∧ (0 : Int) = (↑(0 : Nat) : Int) ∧ d = d ∧ c = c ∧ m = m ∧ dr = dr ∧ cr = cr ∧ sy = sy ∧ @List.nil (Int × Int) = atM cr (0 : Nat)) (IT (!FErr.isErr (firstE (crE c m cr sy) (List.length cr))) (RQ (List.length c ≤ 1000000 ∧ (↑(List.length c) : Int) = (↑(List.length c) : Int) ∧ (0 : Int) = (↑(0 : Nat) : Int) ∧ d = d ∧ c = c ∧ m = m ∧ dr = dr ∧ cr = cr ∧ sy = sy ∧ atM cr (List.length cr) = atM cr (List.length cr)) (IT (!FErr.isErr (firstE (needE c m cr) (List.length c))) (FErr.fine = relocsE d c m dr cr sy) (firstE (needE c m cr) (List.length c) = relocsE d c m dr cr sy))) (firstE (crE c m cr sy) (List.length cr) = relocsE d c m dr cr sy))) (firstE (drE d dr sy) (List.length dr) = relocsE d c m dr cr sy))) := by kernel_rfl
set_option maxHeartbeats 4000000 in
theorem crelocs : Con ea has (G7 ++ rest) 58 krelocs := by
 refine plain_mkB Tryz.func58 144 (con := [(76, kreloc), (77, kshape), (43, kInstr), (78, kshort), (79, kfar)]) ⟨creloc, cshape, cInstr, cshort, cfar, trivial⟩ (fun hA hr hv => ?_) (by kernel_rfl) (by kernel_rfl) Tryz.ntmps58
 unfold krelocs at hr; split at hr
 ·rename_i d c m dr cr sy
  have := ret_ok hr; subst this
  replace hv := hv _ rfl
  refine ⟨_, [(3, LDRels d c m dr cr sy), (15, LCRels d c m dr cr sy), (26, LNeeds d c m dr cr sy)], rfl, rfl, .of (argrelocs d c m dr cr sy) (by simp), rfl, (fun W R ρ0 own0 hown => hl3 (by kernel_rfl) (by kernel_rfl) (lDRels d c m dr cr sy hown) (by kernel_rfl) (lCRels d c m dr cr sy hown) (by kernel_rfl) (lNeeds d c m dr cr sy hown)), .of (runrelocs rest d c m dr cr sy) ?_⟩
  delta RQ IT
  clear hr
  clear hA
  refine ⟨by simp [lastR, hv], fun _ => ⟨fun h => ⟨by simp [lastR, atM, hv], fun _ => ⟨fun h2 => ⟨by simp [hv], fun _ => ⟨fun h3 => ?_, fun h3 => ?_⟩⟩, fun h2 => ?_⟩⟩, fun h => ?_⟩⟩
  ·rw [relocsE, if_neg (by simpa using h), if_neg (by simpa using h2)]; exact (fine_of (by simpa using h3)).symm
  ·rw [relocsE, if_neg (by simpa using h), if_neg (by simpa using h2)]
  ·rw [relocsE, if_neg (by simpa using h), if_pos (by simpa using h2)]
  ·rw [relocsE, if_pos (by simpa using h)]
 ·cases hr
def mpS (sy : List Sm) : Nat → List (ByteArray × Int)
 | 0 => []
 | i + 1 => symMp (sy.getD i RT.sym.dflt).name (mpS sy i)
def syE (d c m : List Int) (sy : List Sm) (i : Nat) : FErr := symE d c m (sy.getD i RT.sym.dflt).name (sy.getD i RT.sym.dflt).in_ (sy.getD i RT.sym.dflt).value (sy.getD i RT.sym.dflt).global (mpS sy i)
theorem symE_np (d c m : List Int) (nm : ByteArray) (a v : Int) (g : Bool) (mp : List (ByteArray × Int)) : (symE d c m nm a v g mp).isPlaced = false := by
 unfold symE; repeat (first | rfl | split)
theorem mpS_le (sy : List Sm) (k : ByteArray) : ∀ n, 0 ≤ mapGet (mpS sy n) k ∧ mapGet (mpS sy n) k ≤ n
 | 0 => ⟨Int.le_refl _, Int.le_refl _⟩
 | n + 1 => by
  have h := mpS_le sy k n
  have h2 := mpS_le sy (sy.getD n RT.sym.dflt).name n
  unfold mpS symMp
  split
  ·omega
  ·by_cases e : (sy.getD n RT.sym.dflt).name = k
   ·rw [e, get_put]; rw [e] at h2; omega
   ·rw [get_put_ne _ _ _ _ e]; omega
def manyB (d c : List Int) (dr cr : List Rel) (sy : List Sm) : Bool :=
 decide ((2048 : Int) < d.length) || decide ((2048 : Int) < c.length) || decide ((1024 : Int) < dr.length) || decide ((1024 : Int) < cr.length) || decide ((256 : Int) < sy.length)
end
end Go.Proofs.YtacmmedhjebfjaaGreatDoor
set_option linter.unusedVariables false
set_option linter.unusedSimpArgs false
namespace Go.Proofs.YtacmmedhjebfjaaGreatDoor
def idxM (p : Nat → Bool) : Nat → Nat
 | 0 => 0
 | k + 1 => if idxM p k < k then idxM p k else if p k = true then k else k + 1
theorem idxM_le (p : Nat → Bool) : ∀ n, idxM p n ≤ n
 | 0 => Nat.le_refl _
 | n + 1 => by
  have := idxM_le p n
  unfold idxM; split
  ·omega
  ·split <;> omega
theorem idxM_step {p : Nat → Bool} {i : Nat} (h : idxM p i = i) (hp : p i = false) : idxM p (i + 1) = i + 1 := by
 rw [idxM, h, if_neg (by omega), if_neg (by rw [hp]; simp)]
theorem idxM_hit {p : Nat → Bool} {i n : Nat} (h : idxM p i = i) (hp : p i = true) (hn : i < n) : idxM p n = i := by
 induction n with
 | zero => omega
 | succ n ih =>
  by_cases e : i = n
  ·subst e; rw [idxM, h, if_neg (by omega), if_pos hp]
  ·have := ih (by omega)
   rw [idxM, this, if_pos (by omega)]
end Go.Proofs.YtacmmedhjebfjaaGreatDoor
set_option linter.unusedVariables false
set_option linter.unusedSimpArgs false
namespace Go.Proofs.YtacmmedhjebfjaaGreatDoor
open Go.RowKit Go.Sy Go.Fac
section
variable {ea : Ear} {has : Int → Prop} {gl : List (Nat × SVal)}
def nmP (sy : List Sm) (nm : ByteArray) (i : Nat) : Bool := decide ((sy.getD i RT.sym.dflt).name = nm)
def symI (sy : List Sm) (nm : ByteArray) : Nat := idxM (nmP sy nm) sy.length
def symAdd (sy : List Sm) (nm : ByteArray) : List Sm := if symI sy nm < sy.length then sy else sy ++ [⟨nm, 3, 0, true⟩]
abbrev envS (gl : List (Nat × SVal)) : Env := { env gl [] with old := [0, 1, 2, 3] }
theorem envS_ok : EnvOk Tryz.prog (ctx ea has) gl (envS gl) :=
 let e := env_ok (con := []) (ea := ea) (has := has) (gl := gl) trivial
 ⟨e.tab, e.err, e.glob, e.tAt, e.mixed, e.con, e.cmp⟩
abbrev boxS (dd : List Int) (n : Nat) : Option Cont := some (.cells [.ro .u32 dd, .own 1, .own 2, .nilslice, .own 3, .own n])
def HSym (dd : List Int) (sy : List Sm) (nm : ByteArray) (i : Nat) : SState := { fr := [(0, .ptr 0 0), (1, .str nm), (5, .int .i64 (.sym i 0 1000000))], hp := [(0, boxS dd 4), (4, some (.recs .sym sy))], next := 5, sz := 43 }
def XSym (dd : List Int) (sy : List Sm) (nm : ByteArray) : SState := { fr := [(0, .ptr 0 0), (1, .str nm)], hp := [(0, boxS dd 4), (4, some (.recs .sym sy))], next := 5, sz := 43 }
def YSym (dd : List Int) (sy : List Sm) (nm : ByteArray) : SState := { fr := [(4, .int .i64 (.full (symI sy nm)))], hp := [(0, boxS dd 4), (4, some (.recs .sym sy))], next := 5, sz := 43 }
abbrev cSymB (sy : List Sm) (nm : ByteArray) : Bool := decide (symI sy nm = sy.length)
def LSym (dd : List Int) (sy : List Sm) (nm : ByteArray) : LSum := ⟨HSym dd sy nm 0, fun k => .ite (cSymB sy nm) (k (.exit 0) (XSym dd sy nm)) (k .ret (YSym dd sy nm)), sy.length ≤ 999999⟩
theorem bSym (gl : List (Nat × SVal)) (dd : List Int) (sy : List Sm) (nm : ByteArray) (i : Nat) : (Tr.sat (rnd2 (envS gl) (fun i => idxM (nmP sy nm) i = i) sy.length (HSym dd sy nm) 0 (cSymB sy nm) (XSym dd sy nm) (YSym dd sy nm) i) (run (envS gl) [] (loopN (bodyOf Tryz.f19) 0) (HSym dd sy nm i) .leaf)) = (
 (decide ((↑i : Int) < (↑(List.length sy) : Int)) = true → ((0 : Int) ≤ (↑i : Int) ∧ (↑i : Int) < (↑(List.length sy) : Int)) ∧ ((0 : Int) ≤ (↑i : Int) ∧ (↑i : Int) < (↑(List.length sy) : Int) → (decide ((List.getD sy (Int.toNat (↑i : Int)) (RT.dflt RT.sym)).name = nm) = true → cSymB sy nm = false ∧ (↑i : Int) = (↑(symI sy nm) : Int) ∧ dd = dd ∧ sy = sy) ∧ (decide ((List.getD sy (Int.toNat (↑i : Int)) (RT.dflt RT.sym)).name = nm) = false → i < List.length sy ∧ idxM (nmP sy nm) (i + (1 : Nat)) = i + (1 : Nat) ∧ nm = nm ∧ (↑i : Int) + (1 : Int) = (↑(i + (1 : Nat)) : Int) ∧ ((0 : Int) ≤ (↑(i + (1 : Nat)) : Int) ∧ (↑(i + (1 : Nat)) : Int) ≤ (1000000 : Int)) ∧ dd = dd ∧ sy = sy))) ∧ (decide ((↑i : Int) < (↑(List.length sy) : Int)) = false → Nat.beq (0 : Nat) (0 : Nat) = true ∧ cSymB sy nm = true ∧ nm = nm ∧ dd = dd ∧ sy = sy)) := by kernel_rfl
theorem lSym (dd : List Int) (sy : List Sm) (nm : ByteArray) {W : World} {R own0 : Nat → Prop} {ρ0 : Nat → Option Value} : LOk Tryz.prog (envS gl) (ctx ea has) gl W R own0 ρ0 (loopN (bodyOf Tryz.f19) 0) (LSym dd sy nm) := by
 refine loop2_ok envS_ok trivial (ls := fun _ => []) (fun _ => noLoops (by kernel_rfl)) (fun hm i hi hj => (bSym gl dd sy nm i).mpr ?_) 0 (fun _ => Nat.zero_le _) (fun _ => rfl)
 have hlo : nmP sy nm i = decide ((sy.getD i RT.sym.dflt).name = nm) := rfl
 simp only [Int.toNat_natCast]
 refine ⟨fun h => ?_, fun h => ?_⟩
 ·have h := of_decide_eq_true h
  have hlt : i < sy.length := by omega
  refine ⟨by omega, fun _ => ⟨fun h2 => ?_, fun h2 => ?_⟩⟩
  ·have e : symI sy nm = i := idxM_hit hj (hlo.trans h2) hlt
   refine ⟨decide_eq_false (by omega), by rw [e], ?_⟩
   simp
  ·refine ⟨hlt, idxM_step hj (hlo.trans h2), ?_⟩
   simp; omega
 ·have h := of_decide_eq_false h
  have e : i = sy.length := by omega
  subst e
  refine ⟨rfl, decide_eq_true hj, ?_⟩
  simp
theorem runSym (gl : List (Nat × SVal)) (dd : List Int) (sy : List Sm) (nm : ByteArray) : (Tr.sat (fun _ s => fits (envS gl) s { fr := [(0, .int .i64 (.full (symI sy nm)))], hp := [(0, boxS dd 5), (5, some (.recs .sym (symAdd sy nm)))], next := 6, sz := 1 }) (run (envS gl) [(2, LSym dd sy nm)] (bodyOf Tryz.f19) { fr := numb 0 [.ptr 0 0, .str nm], hp := [(0, boxS dd 4), (4, some (.recs .sym sy))], next := 5, sz := 43 } (ends (envS gl) Tryz.f19.results.toList))) = (
 (List.length sy ≤ (999999 : Nat) ∧ nm = nm ∧ (0 : Int) = (↑(0 : Nat) : Int) ∧ dd = dd ∧ sy = sy) ∧ (List.length sy ≤ (999999 : Nat) ∧ nm = nm ∧ (0 : Int) = (↑(0 : Nat) : Int) ∧ dd = dd ∧ sy = sy → (cSymB sy nm = true → List.length sy + List.length [Sm.mk nm (3 : Int) (0 : Int) true] ≤ (137438953472 : Nat) ∧ (List.length sy + List.length [Sm.mk nm (3 : Int) (0 : Int) true] ≤ (137438953472 : Nat) → (↑(List.length (sy ++ [Sm.mk nm (3 : Int) (0 : Int) true])) : Int) - (1 : Int) = (↑(symI sy nm) : Int) ∧ dd = dd ∧ sy ++ [Sm.mk nm (3 : Int) (0 : Int) true] = symAdd sy nm)) ∧ (cSymB sy nm = false → (↑(symI sy nm) : Int) = (↑(symI sy nm) : Int) ∧ dd = dd ∧ sy = symAdd sy nm))) := by kernel_rfl
theorem gSym (dd : List Int) (sy : List Sm) (nm : ByteArray) (hv : sy.length ≤ 999999) : Tr.sat (fun _ s => fits (envS gl) s { fr := [(0, .int .i64 (.full (symI sy nm)))], hp := [(0, boxS dd 5), (5, some (.recs .sym (symAdd sy nm)))], next := 6, sz := 1 }) (run (envS gl) [(2, LSym dd sy nm)] (bodyOf Tryz.f19) { fr := numb 0 [.ptr 0 0, .str nm], hp := [(0, boxS dd 4), (4, some (.recs .sym sy))], next := 5, sz := 43 } (ends (envS gl) Tryz.f19.results.toList)) := by
 refine (runSym gl dd sy nm).mpr ?_
 refine ⟨⟨hv, rfl, rfl, rfl, rfl⟩, fun _ => ⟨fun h => ?_, fun h => ?_⟩⟩
 ·have h := of_decide_eq_true h
  have e : symAdd sy nm = sy ++ [⟨nm, 3, 0, true⟩] := by rw [symAdd, if_neg (by omega)]
  refine ⟨by simp; omega, fun _ => ⟨by rw [h]; simp, rfl, e.symm⟩⟩
 ·have h := of_decide_eq_false h
  have := idxM_le (nmP sy nm) sy.length
  have e : symAdd sy nm = sy := by rw [symAdd, if_pos (by unfold symI at *; omega)]
  exact ⟨rfl, rfl, e.symm⟩
def rSym (dd : List Int) (sy : List Sm) (nm : ByteArray) (q a1 a2 a3 a4 n : Nat) : ORes := { v := .int .i64 (.full (symI sy nm)), ws := [(a4, none), (n, some (.recs .sym (symAdd sy nm))), (q, some (.cells [.ro .u32 dd, .own a1, .own a2, .nilslice, .own a3, .own n]))], k := 1, vc := some (sy.length ≤ 999999) }
def kSym : List SVal → Nat → Acc ORes := fun a n => match a with
 | [.ptr q 0, .str nm] => .look q fun c => match c with
  | some (.cells [.ro .u32 dd, .own a1, .own a2, .nilslice, .own a3, .own a4]) => .look a4 fun c => match c with
   | some (.recs .sym sy) => .ret (rSym dd sy nm q a1 a2 a3 a4 n)
   | _ => .fail "sym"
  | _ => .fail "sym"
 | _ => .fail "sym"
theorem cSym : Con ea has gl 19 kSym where
 call := enters Tryz.func19 (c := bodyOf Tryz.f19) (by kernel_rfl) (by kernel_rfl)
 does {W R ρ h args vs next r l l'} M hA hr hv hn := by
  unfold kSym at hr
  split at hr
  ·rename_i q nm
   simp only [Acc.run] at hr
   split at hr
   ·rename_i dd a1 a2 a3 a4 hq
    simp only [Acc.run] at hr
    split at hr
    ·rename_i sy ha4
     have := ret_ok hr; subst this
     replace hv := hv _ rfl
     clear hr
     -- what is handed over
     obtain ⟨vq, hvq, b, cs, T, rfl, hb, hd⟩ := M.at_ q _ hq
     obtain ⟨v4, hv4, hh4⟩ := M.at_ a4 _ ha4
     obtain ⟨u0, us, rfl, o0, d0, hd⟩ := hd.inv_one rfl
     obtain ⟨u1, us, rfl, o1, d1, hd⟩ := hd.inv_one rfl
     obtain ⟨u2, us, rfl, o2, d2, hd⟩ := hd.inv_one rfl
     obtain ⟨u3, us, rfl, o3, d3, hd⟩ := hd.inv_one rfl
     obtain ⟨u4, us, rfl, o4, d4, hd⟩ := hd.inv_one rfl
     obtain ⟨u5, us, rfl, o5, d5, hd⟩ := hd.inv_one rfl
     cases hd
     cases d1 with
     | own _ A1 m1 c1 e1 =>
     cases d2 with
     | own _ A2 m2 c2 e2 =>
     cases d4 with
     | own _ A3 m3 c3 e3 =>
     cases d5 with
     | own _ A4 m4 c4 e4 =>
     rw [hv4] at e4; cases e4
     let ρ0 : Nat → Option Value := fun n => if n = 0 then ρ q else if n = 1 then ρ a1 else if n = 2 then ρ a2 else if n = 3 then ρ a3 else if n = 4 then ρ a4 else none
     have only : ∀ n c, lookS [(0, boxS dd 4), (4, some (.recs .sym sy))] n = some c → (n = 0 ∧ c = .cells [.ro .u32 dd, .own 1, .own 2, .nilslice, .own 3, .own 4]) ∨ (n = 4 ∧ c = .recs .sym sy) := fun n c hc => by
      unfold lookS at hc
      simp only [find] at hc
      split at hc
      ·rename_i hbq; have := Nat.eq_of_beq_eq_true hbq; subst this; cases hc; exact .inl ⟨rfl, rfl⟩
      ·split at hc
       ·rename_i hbq; have := Nat.eq_of_beq_eq_true hbq; subst this; cases hc; exact .inr ⟨rfl, rfl⟩
       ·cases hc
     have hne : q ≠ a4 := fun e => by subst e; rw [hq] at ha4; cases ha4
     have hroF : ∀ {ρ' : Nat → Option Value} {u}, Den (ctx ea has) W R ρ (.ro .u32 dd) u → Den (ctx ea has) W R ρ' (.ro .u32 dd) u := fun {ρ' u} hd => by
      cases hd with
      | ro _ _ A cap vs h1 h2 h3 h4 h5 => exact .ro _ _ A cap vs h1 h2 (h3.free (fun _ h => h) (flat_plain .u32 dd)) h4 h5
     have S : Enters (ctx ea has) gl W R ρ h (rSym dd sy nm q a1 a2 a3 a4 next) R (fun x => x = b ∨ blk (.slice A4 m4 c4) = some x) ρ0 [(0, boxS dd 4), (4, some (.recs .sym sy))] 5 [.ptr 0 0, .str nm] vs := by
      refine ⟨?_, ⟨M.base, fun n c hc => ?_, fun n n' c c' v v' x k1 k2 k3 k4 k5 k6 => ?_, fun n c v x k1 k2 k3 => ?_⟩, fun n hn => ?_, fun _ h => h, fun _ h => .inl h, fun x hx => ?_, fun x hx => ?_⟩
      ·cases hA with
       | cons _ v _ us h1 h2 =>
        cases h2 with
        | cons _ v' _ us' h3 h4 =>
         cases h4
         cases h1 with
         | ptr _ _ b' hv' => exact .cons _ _ _ _ (.ptr 0 0 b' hv') (.cons _ _ _ _ (h3.free (fun _ h => h) rfl) .nil)
      ·rcases only n c hc with ⟨rfl, rfl⟩ | ⟨rfl, rfl⟩
       ·exact ⟨_, hvq, b, _, T, rfl, hb, .one _ _ _ _ rfl o0 (hroF d0) (.one _ _ _ _ rfl o1 (.own 1 _ _ _ e1) (.one _ _ _ _ rfl o2 (.own 2 _ _ _ e2) (.one _ _ _ _ rfl o3 (by cases d3; exact .nilslice) (.one _ _ _ _ rfl o4 (.own 3 _ _ _ e3) (.one _ _ _ _ rfl o5 (.own 4 _ _ _ hv4) .nil)))))⟩
       ·obtain ⟨e, vs, ho, hl⟩ := hh4
        exact ⟨_, hv4, e, vs, ho, hl.free (fun _ h => h) (flat_plain .sym sy)⟩
      ·rcases only n c k1 with ⟨rfl, rfl⟩ | ⟨rfl, rfl⟩ <;> rcases only n' c' k2 with ⟨rfl, rfl⟩ | ⟨rfl, rfl⟩
       ·rfl
       ·exact (hne (M.apart q a4 _ _ _ _ x hq ha4 k3 k4 k5 k6)).elim
       ·exact (hne (M.apart q a4 _ _ _ _ x hq ha4 k4 k3 k6 k5)).elim
       ·rfl
      ·rcases only n c k1 with ⟨rfl, rfl⟩ | ⟨rfl, rfl⟩
       ·exact M.off q _ v x hq k2 k3
       ·exact M.off a4 _ v x ha4 k2 k3
      ·show (if n = 0 then ρ q else if n = 1 then ρ a1 else if n = 2 then ρ a2 else if n = 3 then ρ a3 else if n = 4 then ρ a4 else none) = none
       rw [if_neg (by omega), if_neg (by omega), if_neg (by omega), if_neg (by omega), if_neg (by omega)]
      ·obtain ⟨n, c, v, k1, k2, k3⟩ := hx
       rcases only n c k1 with ⟨rfl, rfl⟩ | ⟨rfl, rfl⟩
       ·have k2 : ρ q = some v := k2
        rw [hvq] at k2; cases k2; cases k3; exact .inl rfl
       ·have k2 : ρ a4 = some v := k2
        rw [hv4] at k2; cases k2; exact .inr k3
      ·rcases hx with rfl | hx
       ·exact ⟨q, _, _, by simp [keys, rSym], hq, hvq, rfl⟩
       ·exact ⟨a4, _, _, by simp [keys, rSym], ha4, hv4, hx⟩
     have hnq : ρ next = none := hn 0 Nat.one_pos
     have hqn : q ≠ next := fun e => by subst e; rw [hvq] at hnq; cases hnq
     refine con_run envS_ok rfl Tryz.func19 (c := bodyOf Tryz.f19) (by kernel_rfl) (ls := [(2, LSym dd sy nm)]) M hn S (by kernel_rfl) (fun W R ρ0 own0 _ => hl1 (by kernel_rfl) (by kernel_rfl) (lSym dd sy nm)) ?_
     refine sat_mono (fun e s hs => ⟨_, _, [(q, 0), (next, 5)], hs, ?_, ?_, ?_, rfl⟩) (gSym dd sy nm hv)
     ·intro W R ρ2 ρ3 u M2 ha he _ _ hd
      exact hd.free (fun _ h => h) rfl
     ·intro n c hc
      have f0 : find q [(q, 0), (next, 5)] = some 0 := by simp [find, Nat.beq_refl]
      have f1 : find next [(q, 0), (next, 5)] = some 5 := by
       have : q.beq next = false := by cases hb : q.beq next with | false => rfl | true => exact (hqn (Nat.eq_of_beq_eq_true hb)).elim
       simp [find, Nat.beq_refl, this]
      unfold rSym at hc
      simp only [find] at hc
      split at hc
      ·cases hc; exact .inl rfl
      ·split at hc
       ·rename_i hbq
        have := Nat.eq_of_beq_eq_true hbq; subst this
        cases hc
        refine .inr ⟨5, .recs .sym (symAdd sy nm), _, f1, rfl, rfl, fun W R ρ2 ρ3 u M2 ha he _ _ hh => ?_⟩
        obtain ⟨e, vs, ho, hl⟩ := hh
        exact ⟨e, vs, ho, hl.free (fun _ h => h) (flat_plain .sym _)⟩
       ·split at hc
        ·rename_i hbq
         have := Nat.eq_of_beq_eq_true hbq; subst this
         cases hc
         refine .inr ⟨0, .cells [.ro .u32 dd, .own 1, .own 2, .nilslice, .own 3, .own 5], _, f0, rfl, rfl, fun W R ρ2 ρ3 u M2 ha he hpin hext hh => ?_⟩
         obtain ⟨b', cs, T, rfl, hb, hd⟩ := hh
         obtain ⟨w0, us, rfl, p0, q0, hd⟩ := hd.inv_one rfl
         obtain ⟨w1, us, rfl, p1, q1, hd⟩ := hd.inv_one rfl
         obtain ⟨w2, us, rfl, p2, q2, hd⟩ := hd.inv_one rfl
         obtain ⟨w3, us, rfl, p3, q3, hd⟩ := hd.inv_one rfl
         obtain ⟨w4, us, rfl, p4, q4, hd⟩ := hd.inv_one rfl
         obtain ⟨w5, us, rfl, p5, q5, hd⟩ := hd.inv_one rfl
         cases hd
         have g1 := hpin 1 (by simp) _ (show ρ0 1 = _ from e1)
         have g2 := hpin 2 (by simp) _ (show ρ0 2 = _ from e2)
         have g3 := hpin 3 (by simp) _ (show ρ0 3 = _ from e3)
         refine ⟨b', _, T, rfl, hb, .one _ _ _ _ rfl p0 ?_ (.one _ _ _ _ rfl p1 ?_ (.one _ _ _ _ rfl p2 ?_ (.one _ _ _ _ rfl p3 (by cases q3; exact .nilslice) (.one _ _ _ _ rfl p4 ?_ (.one _ _ _ _ rfl p5 ?_ .nil)))))⟩
         ·cases q0 with
          | ro _ _ A cap vs h1 h2 h3 h4 h5 => exact .ro _ _ A cap vs h1 h2 (h3.free (fun _ h => h) (flat_plain .u32 dd)) h4 h5
         ·cases q1 with
          | own _ A m c e => rw [g1] at e; cases e; exact .own _ _ _ _ (hext _ _ e1)
         ·cases q2 with
          | own _ A m c e => rw [g2] at e; cases e; exact .own _ _ _ _ (hext _ _ e2)
         ·cases q4 with
          | own _ A m c e => rw [g3] at e; cases e; exact .own _ _ _ _ (hext _ _ e3)
         ·cases q5 with
          | own _ A m c e => exact .own _ _ _ _ (by rw [he next 5 f1]; exact e)
        ·cases hc
     ·intro n q' hq'
      simp only [find] at hq'
      split at hq'
      ·rename_i hbq
       have := Nat.eq_of_beq_eq_true hbq; subst this
       cases hq'
       exact .inl ⟨by simp, rfl, by rw [hvq]; simp⟩
      ·split at hq'
       ·rename_i hbq
        have := Nat.eq_of_beq_eq_true hbq; subst this
        cases hq'
        exact .inr ⟨by simp [keys, rSym], Nat.le_refl _, Nat.lt_succ_self _⟩
       ·cases hq'
    ·cases hr
   ·cases hr
  ·cases hr
end
end Go.Proofs.YtacmmedhjebfjaaGreatDoor
set_option linter.unusedVariables false
set_option linter.unusedSimpArgs false
namespace Go.Proofs.YtacmmedhjebfjaaGreatDoor
open Go.RowKit Go.Sy Go.Fac
section
variable {ea : Ear} {has : Int → Prop} {gl : List (Nat × SVal)}
structure OS where
 code : List Int
 map : List Int
 cr : List Rel
 sy : List Sm
def oLab (x : Ln) (s : OS) : OS := { s with sy := (symAdd s.sy x.name).set (symI s.sy x.name) ⟨x.name, 2, s.code.length, true⟩ }
def oRel (x : Ln) (at_ kind : Int) (s : OS) : OS := if x.sym = ByteArray.empty then s else { s with cr := s.cr ++ [⟨at_, kind, symI s.sy x.sym, 0⟩], sy := symAdd s.sy x.sym }
def oTab (x : Ln) (s : OS) : OS := let t := oRel x s.code.length 1 s; { t with code := s.code ++ [x.i.imm], map := s.map ++ [2] }
def oIns (x : Ln) (s : OS) : OS :=
 let two := isaTwo x.i.op
 let t := oRel x (if two = true then s.code.length + 1 else s.code.length) (if two = true then 1 else 2) s
 let w := wordW x.i.op x.i.a x.i.b x.i.c x.i.imm
 if two = true then { t with code := s.code ++ [w] ++ [x.i.imm], map := s.map ++ [1] ++ [0] } else { t with code := s.code ++ [w], map := s.map ++ [1] }
def oStep (x : Ln) (s : OS) : OS := if ¬ x.name = ByteArray.empty then oLab x s else if x.table = true then oTab x s else oIns x s
def oSt (ls : List Ln) : Nat → OS
 | 0 => ⟨[], [], [], []⟩
 | i + 1 => oStep (ls.getD i RT.line.dflt) (oSt ls i)
def oAll (ls : List Ln) : OS := oSt ls ls.length
def shortN (l : List Int) : Prop := l.length ≤ 1000000
def shObj : List Shp := [.ro .u32, .ro .line]
def lnAt (ls : List Ln) (i : Nat) : Ln := ls.getD i RT.line.dflt
def hpO (dd : List Int) (s : OS) : List (Nat × Option Cont) := [(0, boxS dd 4), (1, some (.recs .u32 s.code)), (2, some (.recs .u8 s.map)), (3, some (.recs .rel s.cr)), (4, some (.recs .sym s.sy)), (5, some (.cells [.nilslice, .nilslice, .nilslice, .nilslice, .nilslice, .nilslice]))]
def frO (ls : List Ln) (i : Nat) : List (Nat × SVal) := [(1, .ro .line ls), (4, .ptr 5 0), (5, .ptr 0 0), (6, .int .i64 (.sym i 0 1000000))]
def stX (dd : List Int) (ls : List Ln) (i : Nat) (fr : List (Nat × SVal)) (s : OS) : SState := { fr := frO ls i ++ (7, .ptr 6 0) :: fr, hp := hpO dd s ++ [(6, some (.cells (RT.line.enc (lnAt ls i))))], next := 7, sz := 132 }
def wO (x : Ln) : Int := wordW x.i.op x.i.a x.i.b x.i.c x.i.imm
def atO (x : Ln) (s : OS) : Int := if isaTwo x.i.op = true then s.code.length + 1 else s.code.length
def kiO (x : Ln) : Int := if isaTwo x.i.op = true then 1 else 2
def joinsO (dd : List Int) (ls : List Ln) (i : Nat) : List (Nat × LSum) := [
 (2000019, cutL (stX dd ls i [] (oSt ls i))),
 (2000025, cutL (stX dd ls i [] (oRel (lnAt ls i) (oSt ls i).code.length 1 (oSt ls i)))),
 (2000013, cutL (stX dd ls i [(9, .int .u32 (.full (wO (lnAt ls i)))), (11, .int .i64 (.full (atO (lnAt ls i) (oSt ls i)))), (12, .int .i64 (.full (kiO (lnAt ls i))))] (oSt ls i))),
 (2000014, cutL (stX dd ls i [(9, .int .u32 (.full (wO (lnAt ls i))))] (oRel (lnAt ls i) (atO (lnAt ls i) (oSt ls i)) (kiO (lnAt ls i)) (oSt ls i)))),
 (2000004, cutL { fr := frO ls i, hp := hpO dd (oSt ls (i + 1)), next := 6, sz := 132 })]
theorem symAdd_len (sy : List Sm) (nm : ByteArray) : (symAdd sy nm).length ≤ sy.length + 1 := by unfold symAdd; split <;> simp
theorem symI_lt (sy : List Sm) (nm : ByteArray) : symI sy nm < (symAdd sy nm).length := by
 have := idxM_le (nmP sy nm) sy.length
 unfold symAdd
 split
 ·assumption
 ·unfold symI; simp; omega
theorem oRel_len (x : Ln) (a k : Int) (s : OS) : (oRel x a k s).code = s.code ∧ (oRel x a k s).map = s.map ∧ (oRel x a k s).cr.length ≤ s.cr.length + 1 ∧ (oRel x a k s).sy.length ≤ s.sy.length + 1 := by
 unfold oRel
 split
 ·exact ⟨rfl, rfl, by omega, by omega⟩
 ·exact ⟨rfl, rfl, by simp, symAdd_len _ _⟩
theorem oSt_len (ls : List Ln) : ∀ i, (oSt ls i).code.length ≤ 2 * i ∧ (oSt ls i).map.length ≤ 2 * i ∧ (oSt ls i).cr.length ≤ i ∧ (oSt ls i).sy.length ≤ i
 | 0 => ⟨Nat.le_refl _, Nat.le_refl _, Nat.le_refl _, Nat.le_refl _⟩
 | i + 1 => by
  have h := oSt_len ls i
  rw [oSt]
  unfold oStep
  split
  ·have := symAdd_len (oSt ls i).sy (ls.getD i RT.line.dflt).name
   simp only [oLab, List.length_set]; omega
  ·split
   ·have := oRel_len (ls.getD i RT.line.dflt) (oSt ls i).code.length 1 (oSt ls i)
    simp only [oTab, List.length_append, List.length_singleton]; omega
   ·unfold oIns
    simp only
    generalize (if isaTwo (ls.getD i RT.line.dflt).i.op = true then ((oSt ls i).code.length : Int) + 1 else (oSt ls i).code.length) = A
    generalize (if isaTwo (ls.getD i RT.line.dflt).i.op = true then (1 : Int) else 2) = K
    have h1 := oRel_len (ls.getD i RT.line.dflt) A K (oSt ls i)
    split <;> simp only [List.length_append, List.length_singleton] <;> omega
def HObj (dd : List Int) (ls : List Ln) (i : Nat) : SState := { fr := frO ls i, hp := hpO dd (oSt ls i), next := 6, sz := 132 }
def XObj (dd : List Int) (ls : List Ln) : SState := { fr := [(4, .ptr 5 0), (5, .ptr 0 0)], hp := hpO dd (oAll ls), next := 6, sz := 132 }
def LObj (dd : List Int) (ls : List Ln) : LSum := ⟨HObj dd ls 0, fun k => k (.exit 0) (XObj dd ls), ls.length ≤ 100000⟩
theorem bObj (gl : List (Nat × SVal)) (dd : List Int) (ls : List Ln) (i : Nat) : (Tr.sat (rnd1 (env gl [(18, kWords), (19, kSym), (20, krWord), (21, krTwo)]) (fun _ => True) (ls.length) (HObj dd ls) 0 (XObj dd ls) i) (run (env gl [(18, kWords), (19, kSym), (20, krWord), (21, krTwo)]) (joinsO dd ls i) (loopN (bodyOf Tryz.f10) 0) (HObj dd ls i) .leaf)) = (
 IT (decide ((↑i : Int) < (↑(List.length ls) : Int))) (((RQ (0 ≤ (↑i : Int) ∧ (↑i : Int) < (↑(List.length ls) : Int)) (ls = ls ∧ (↑i : Int) = (↑i : Int) ∧ dd = dd ∧ (oSt ls i).code = (oSt ls i).code ∧ (oSt ls i).map = (oSt ls i).map ∧ (oSt ls i).cr = (oSt ls i).cr ∧ (oSt ls i).sy = (oSt ls i).sy ∧ (List.getD ls (Int.toNat (↑i : Int)) (RT.dflt RT.line)).i.op = (lnAt ls i).i.op ∧ (List.getD ls (Int.toNat (↑i : Int)) (RT.dflt RT.line)).i.a = (lnAt ls i).i.a ∧ (List.getD ls (Int.toNat (↑i : Int)) (RT.dflt RT.line)).i.b = (lnAt ls i).i.b ∧ (List.getD ls (Int.toNat (↑i : Int)) (RT.dflt RT.line)).i.c = (lnAt ls i).i.c ∧ (List.getD ls (Int.toNat (↑i : Int)) (RT.dflt RT.line)).i.imm = (lnAt ls i).i.imm ∧ (List.getD ls (Int.toNat (↑i : Int)) (RT.dflt RT.line)).name = (lnAt ls i).name ∧ (List.getD ls (Int.toNat (↑i : Int)) (RT.dflt RT.line)).sym = (lnAt ls i).sym ∧ (List.getD ls (Int.toNat (↑i : Int)) (RT.dflt RT.line)).table = (lnAt ls i).table)) ∧ ((!decide ((lnAt ls i).name = ByteArray.mk (List.toArray (@List.nil UInt8)))) = true → RQ (List.length (oSt ls i).sy ≤ 999999) (RQ (0 ≤ (↑(symI (oSt ls i).sy (lnAt ls i).name) : Int) ∧ (↑(symI (oSt ls i).sy (lnAt ls i).name) : Int) < (↑(List.length (symAdd (oSt ls i).sy (lnAt ls i).name)) : Int)) (ls = ls ∧ (↑i : Int) = (↑i : Int) ∧ dd = dd ∧ (oSt ls i).code = (oSt ls (i + 1)).code ∧ (oSt ls i).map = (oSt ls (i + 1)).map ∧ (oSt ls i).cr = (oSt ls (i + 1)).cr ∧ List.set (symAdd (oSt ls i).sy (lnAt ls i).name) (Int.toNat (↑(symI (oSt ls i).sy (lnAt ls i).name) : Int)) (Sm.mk (lnAt ls i).name (2 : Int) (↑(List.length (oSt ls i).code) : Int) true) = (oSt ls (i + 1)).sy))) ∧ ((!decide ((lnAt ls i).name = ByteArray.mk (List.toArray (@List.nil UInt8)))) = false → IT ((lnAt ls i).table) ((IT (!decide ((lnAt ls i).sym = ByteArray.mk (List.toArray (@List.nil UInt8)))) (RQ (List.length (oSt ls i).sy ≤ 999999) (RQ (List.length (oSt ls i).cr + List.length [Rel.mk (↑(List.length (oSt ls i).code) : Int) (1 : Int) (↑(symI (oSt ls i).sy (lnAt ls i).sym) : Int) (0 : Int)] ≤ 137438953472) (RQ ((true = true ∧ true = true ∧ true = true ∧ (0 : Nat) = (0 : Nat) ∧ (0 : Nat) = (0 : Nat)) ∧ (true = true → SVal.own (3 : Nat) = SVal.own (3 : Nat) ∧ True)) (RQ ((true = true ∧ true = true ∧ true = true ∧ (0 : Nat) = (0 : Nat) ∧ (0 : Nat) = (0 : Nat)) ∧ (true = true → SVal.own (1 : Nat) = SVal.own (1 : Nat) ∧ True)) (ls = ls ∧ (↑i : Int) = (↑i : Int) ∧ dd = dd ∧ (oSt ls i).code = (oRel (lnAt ls i) (↑(List.length (oSt ls i).code) : Int) (1 : Int) (oSt ls i)).code ∧ (oSt ls i).map = (oRel (lnAt ls i) (↑(List.length (oSt ls i).code) : Int) (1 : Int) (oSt ls i)).map ∧ (oSt ls i).cr ++ [Rel.mk (↑(List.length (oSt ls i).code) : Int) (1 : Int) (↑(symI (oSt ls i).sy (lnAt ls i).sym) : Int) (0 : Int)] = (oRel (lnAt ls i) (↑(List.length (oSt ls i).code) : Int) (1 : Int) (oSt ls i)).cr ∧ symAdd (oSt ls i).sy (lnAt ls i).sym = (oRel (lnAt ls i) (↑(List.length (oSt ls i).code) : Int) (1 : Int) (oSt ls i)).sy ∧ (lnAt ls i).i.op = (lnAt ls i).i.op ∧ (lnAt ls i).i.a = (lnAt ls i).i.a ∧ (lnAt ls i).i.b = (lnAt ls i).i.b ∧ (lnAt ls i).i.c = (lnAt ls i).i.c ∧ (lnAt ls i).i.imm = (lnAt ls i).i.imm ∧ (lnAt ls i).name = (lnAt ls i).name ∧ (lnAt ls i).sym = (lnAt ls i).sym ∧ (lnAt ls i).table = (lnAt ls i).table))))) (ls = ls ∧ (↑i : Int) = (↑i : Int) ∧ dd = dd ∧ (oSt ls i).code = (oRel (lnAt ls i) (↑(List.length (oSt ls i).code) : Int) (1 : Int) (oSt ls i)).code ∧ (oSt ls i).map = (oRel (lnAt ls i) (↑(List.length (oSt ls i).code) : Int) (1 : Int) (oSt ls i)).map ∧ (oSt ls i).cr = (oRel (lnAt ls i) (↑(List.length (oSt ls i).code) : Int) (1 : Int) (oSt ls i)).cr ∧ (oSt ls i).sy = (oRel (lnAt ls i) (↑(List.length (oSt ls i).code) : Int) (1 : Int) (oSt ls i)).sy ∧ (lnAt ls i).i.op = (lnAt ls i).i.op ∧ (lnAt ls i).i.a = (lnAt ls i).i.a ∧ (lnAt ls i).i.b = (lnAt ls i).i.b ∧ (lnAt ls i).i.c = (lnAt ls i).i.c ∧ (lnAt ls i).i.imm = (lnAt ls i).i.imm ∧ (lnAt ls i).name = (lnAt ls i).name ∧ (lnAt ls i).sym = (lnAt ls i).sym ∧ (lnAt ls i).table = (lnAt ls i).table)) ∧ RQ (List.length (oRel (lnAt ls i) (↑(List.length (oSt ls i).code) : Int) (1 : Int) (oSt ls i)).code + List.length [(lnAt ls i).i.imm] ≤ 137438953472) (RQ (List.length (oRel (lnAt ls i) (↑(List.length (oSt ls i).code) : Int) (1 : Int) (oSt ls i)).map + List.length [(2 : Int)] ≤ 137438953472) (ls = ls ∧ (↑i : Int) = (↑i : Int) ∧ dd = dd ∧ (oRel (lnAt ls i) (↑(List.length (oSt ls i).code) : Int) (1 : Int) (oSt ls i)).code ++ [(lnAt ls i).i.imm] = (oSt ls (i + 1)).code ∧ (oRel (lnAt ls i) (↑(List.length (oSt ls i).code) : Int) (1 : Int) (oSt ls i)).map ++ [(2 : Int)] = (oSt ls (i + 1)).map ∧ (oRel (lnAt ls i) (↑(List.length (oSt ls i).code) : Int) (1 : Int) (oSt ls i)).cr = (oSt ls (i + 1)).cr ∧ (oRel (lnAt ls i) (↑(List.length (oSt ls i).code) : Int) (1 : Int) (oSt ls i)).sy = (oSt ls (i + 1)).sy))) ((IT (!decide ((lnAt ls i).sym = ByteArray.mk (List.toArray (@List.nil UInt8)))) ((IT (isaTwo (lnAt ls i).i.op) (ls = ls ∧ (↑i : Int) = (↑i : Int) ∧ wordW (lnAt ls i).i.op (lnAt ls i).i.a (lnAt ls i).i.b (lnAt ls i).i.c (lnAt ls i).i.imm = wO (lnAt ls i) ∧ IntKind.wrap IntKind.i64 ((↑(List.length (oSt ls i).code) : Int) + 1) = atO (lnAt ls i) (oSt ls i) ∧ (1 : Int) = kiO (lnAt ls i) ∧ dd = dd ∧ (oSt ls i).code = (oSt ls i).code ∧ (oSt ls i).map = (oSt ls i).map ∧ (oSt ls i).cr = (oSt ls i).cr ∧ (oSt ls i).sy = (oSt ls i).sy ∧ (lnAt ls i).i.op = (lnAt ls i).i.op ∧ (lnAt ls i).i.a = (lnAt ls i).i.a ∧ (lnAt ls i).i.b = (lnAt ls i).i.b ∧ (lnAt ls i).i.c = (lnAt ls i).i.c ∧ (lnAt ls i).i.imm = (lnAt ls i).i.imm ∧ (lnAt ls i).name = (lnAt ls i).name ∧ (lnAt ls i).sym = (lnAt ls i).sym ∧ (lnAt ls i).table = (lnAt ls i).table) (ls = ls ∧ (↑i : Int) = (↑i : Int) ∧ wordW (lnAt ls i).i.op (lnAt ls i).i.a (lnAt ls i).i.b (lnAt ls i).i.c (lnAt ls i).i.imm = wO (lnAt ls i) ∧ (↑(List.length (oSt ls i).code) : Int) = atO (lnAt ls i) (oSt ls i) ∧ (2 : Int) = kiO (lnAt ls i) ∧ dd = dd ∧ (oSt ls i).code = (oSt ls i).code ∧ (oSt ls i).map = (oSt ls i).map ∧ (oSt ls i).cr = (oSt ls i).cr ∧ (oSt ls i).sy = (oSt ls i).sy ∧ (lnAt ls i).i.op = (lnAt ls i).i.op ∧ (lnAt ls i).i.a = (lnAt ls i).i.a ∧ (lnAt ls i).i.b = (lnAt ls i).i.b ∧ (lnAt ls i).i.c = (lnAt ls i).i.c ∧ (lnAt ls i).i.imm = (lnAt ls i).i.imm ∧ (lnAt ls i).name = (lnAt ls i).name ∧ (lnAt ls i).sym = (lnAt ls i).sym ∧ (lnAt ls i).table = (lnAt ls i).table)) ∧ RQ (List.length (oSt ls i).sy ≤ 999999) (RQ (List.length (oSt ls i).cr + List.length [Rel.mk (atO (lnAt ls i) (oSt ls i)) (kiO (lnAt ls i)) (↑(symI (oSt ls i).sy (lnAt ls i).sym) : Int) (0 : Int)] ≤ 137438953472) (RQ ((true = true ∧ true = true ∧ true = true ∧ (0 : Nat) = (0 : Nat) ∧ (0 : Nat) = (0 : Nat)) ∧ (true = true → SVal.own (3 : Nat) = SVal.own (3 : Nat) ∧ True)) (ls = ls ∧ (↑i : Int) = (↑i : Int) ∧ wO (lnAt ls i) = wO (lnAt ls i) ∧ dd = dd ∧ (oSt ls i).code = (oRel (lnAt ls i) (atO (lnAt ls i) (oSt ls i)) (kiO (lnAt ls i)) (oSt ls i)).code ∧ (oSt ls i).map = (oRel (lnAt ls i) (atO (lnAt ls i) (oSt ls i)) (kiO (lnAt ls i)) (oSt ls i)).map ∧ (oSt ls i).cr ++ [Rel.mk (atO (lnAt ls i) (oSt ls i)) (kiO (lnAt ls i)) (↑(symI (oSt ls i).sy (lnAt ls i).sym) : Int) (0 : Int)] = (oRel (lnAt ls i) (atO (lnAt ls i) (oSt ls i)) (kiO (lnAt ls i)) (oSt ls i)).cr ∧ symAdd (oSt ls i).sy (lnAt ls i).sym = (oRel (lnAt ls i) (atO (lnAt ls i) (oSt ls i)) (kiO (lnAt ls i)) (oSt ls i)).sy ∧ (lnAt ls i).i.op = (lnAt ls i).i.op ∧ (lnAt ls i).i.a = (lnAt ls i).i.a ∧ (lnAt ls i).i.b = (lnAt ls i).i.b ∧ (lnAt ls i).i.c = (lnAt ls i).i.c ∧ (lnAt ls i).i.imm = (lnAt ls i).i.imm ∧ (lnAt ls i).name = (lnAt ls i).name ∧ (lnAt ls i).sym = (lnAt ls i).sym ∧ (lnAt ls i).table = (lnAt ls i).table)))) (ls = ls ∧ (↑i : Int) = (↑i : Int) ∧ wordW (lnAt ls i).i.op (lnAt ls i).i.a (lnAt ls i).i.b (lnAt ls i).i.c (lnAt ls i).i.imm = wO (lnAt ls i) ∧ dd = dd ∧ (oSt ls i).code = (oRel (lnAt ls i) (atO (lnAt ls i) (oSt ls i)) (kiO (lnAt ls i)) (oSt ls i)).code ∧ (oSt ls i).map = (oRel (lnAt ls i) (atO (lnAt ls i) (oSt ls i)) (kiO (lnAt ls i)) (oSt ls i)).map ∧ (oSt ls i).cr = (oRel (lnAt ls i) (atO (lnAt ls i) (oSt ls i)) (kiO (lnAt ls i)) (oSt ls i)).cr ∧ (oSt ls i).sy = (oRel (lnAt ls i) (atO (lnAt ls i) (oSt ls i)) (kiO (lnAt ls i)) (oSt ls i)).sy ∧ (lnAt ls i).i.op = (lnAt ls i).i.op ∧ (lnAt ls i).i.a = (lnAt ls i).i.a ∧ (lnAt ls i).i.b = (lnAt ls i).i.b ∧ (lnAt ls i).i.c = (lnAt ls i).i.c ∧ (lnAt ls i).i.imm = (lnAt ls i).i.imm ∧ (lnAt ls i).name = (lnAt ls i).name ∧ (lnAt ls i).sym = (lnAt ls i).sym ∧ (lnAt ls i).table = (lnAt ls i).table)) ∧ RQ (List.length (oRel (lnAt ls i) (atO (lnAt ls i) (oSt ls i)) (kiO (lnAt ls i)) (oSt ls i)).code + List.length [wO (lnAt ls i)] ≤ 137438953472) (RQ (List.length (oRel (lnAt ls i) (atO (lnAt ls i) (oSt ls i)) (kiO (lnAt ls i)) (oSt ls i)).map + List.length [(1 : Int)] ≤ 137438953472) (IT (isaTwo (lnAt ls i).i.op) (RQ (List.length ((oRel (lnAt ls i) (atO (lnAt ls i) (oSt ls i)) (kiO (lnAt ls i)) (oSt ls i)).code ++ [wO (lnAt ls i)]) + List.length [(lnAt ls i).i.imm] ≤ 137438953472) (RQ (List.length ((oRel (lnAt ls i) (atO (lnAt ls i) (oSt ls i)) (kiO (lnAt ls i)) (oSt ls i)).map ++ [(1 : Int)]) + List.length [(0 : Int)] ≤ 137438953472) (ls = ls ∧ (↑i : Int) = (↑i : Int) ∧ dd = dd ∧ (oRel (lnAt ls i) (atO (lnAt ls i) (oSt ls i)) (kiO (lnAt ls i)) (oSt ls i)).code ++ [wO (lnAt ls i)] ++ [(lnAt ls i).i.imm] = (oSt ls (i + 1)).code ∧ (oRel (lnAt ls i) (atO (lnAt ls i) (oSt ls i)) (kiO (lnAt ls i)) (oSt ls i)).map ++ [(1 : Int)] ++ [(0 : Int)] = (oSt ls (i + 1)).map ∧ (oRel (lnAt ls i) (atO (lnAt ls i) (oSt ls i)) (kiO (lnAt ls i)) (oSt ls i)).cr = (oSt ls (i + 1)).cr ∧ (oRel (lnAt ls i) (atO (lnAt ls i) (oSt ls i)) (kiO (lnAt ls i)) (oSt ls i)).sy = (oSt ls (i + 1)).sy))) (ls = ls ∧ (↑i : Int) = (↑i : Int) ∧ dd = dd ∧ (oRel (lnAt ls i) (atO (lnAt ls i) (oSt ls i)) (kiO (lnAt ls i)) (oSt ls i)).code ++ [wO (lnAt ls i)] = (oSt ls (i + 1)).code ∧ (oRel (lnAt ls i) (atO (lnAt ls i) (oSt ls i)) (kiO (lnAt ls i)) (oSt ls i)).map ++ [(1 : Int)] = (oSt ls (i + 1)).map ∧ (oRel (lnAt ls i) (atO (lnAt ls i) (oSt ls i)) (kiO (lnAt ls i)) (oSt ls i)).cr = (oSt ls (i + 1)).cr ∧ (oRel (lnAt ls i) (atO (lnAt ls i) (oSt ls i)) (kiO (lnAt ls i)) (oSt ls i)).sy = (oSt ls (i + 1)).sy)))))) ∧ i < List.length ls ∧ True ∧ ls = ls ∧ (↑i : Int) + 1 = (↑(i + 1) : Int) ∧ (0 ≤ (↑(i + 1) : Int) ∧ (↑(i + 1) : Int) ≤ 1000000) ∧ dd = dd ∧ (oSt ls (i + 1)).code = (oSt ls (i + 1)).code ∧ (oSt ls (i + 1)).map = (oSt ls (i + 1)).map ∧ (oSt ls (i + 1)).cr = (oSt ls (i + 1)).cr ∧ (oSt ls (i + 1)).sy = (oSt ls (i + 1)).sy) (Nat.beq (0 : Nat) (0 : Nat) = true ∧ dd = dd ∧ (oSt ls i).code = (oAll ls).code ∧ (oSt ls i).map = (oAll ls).map ∧ (oSt ls i).cr = (oAll ls).cr ∧ (oSt ls i).sy = (oAll ls).sy)) := by kernel_rfl
set_option maxHeartbeats 4000000 in
theorem lObj (dd : List Int) (ls : List Ln) {W : World} {R own0 : Nat → Prop} {ρ0 : Nat → Option Value} (hown : HownOk (env gl [(18, kWords), (19, kSym), (20, krWord), (21, krTwo)]) own0 ρ0) : LOk Tryz.prog (env gl [(18, kWords), (19, kSym), (20, krWord), (21, krTwo)]) (ctx ea has) gl W R own0 ρ0 (loopN (bodyOf Tryz.f10) 0) (LObj dd ls) := by
 refine loop1_ok (J := fun _ => True) (N := ls.length) (H := HObj dd ls) (X := XObj dd ls) (env_ok (con := [(18, kWords), (19, kSym), (20, krWord), (21, krTwo)]) ⟨cWords, cSym, crWord, crTwo, trivial⟩) hown (ls := fun i => (joinsO dd ls i)) (fun i => noSums (by kernel_rfl)) (fun hm i hi hj => ?_) 0 (fun hm => by first | exact Nat.zero_le _ | omega) (fun hm => trivial)
 rw [bObj gl dd ls i]
 delta RQ IT
 have hL := oSt_len ls i
 have hstep : oSt ls (i + 1) = oStep (lnAt ls i) (oSt ls i) := rfl
 have hx : ls.getD i RT.line.dflt = lnAt ls i := rfl
 have e0 : ByteArray.mk #[] = ByteArray.empty := rfl
 refine ⟨fun h => ?_, fun h => ?_⟩
 ·have h := of_decide_eq_true h
  have hlt : i < ls.length := by omega
  have hlt' : (0 : Int) ≤ i ∧ (i : Int) < ls.length := by omega
  simp only [Int.toNat_natCast, hx, hstep, e0]
  generalize oSt ls i = s at *
  generalize lnAt ls i = x at *
  have hs1 := symI_lt s.sy x.name
  have hs2 := symI_lt s.sy x.sym
  have w1 : IntKind.i64.wrap ((s.code.length : Int) + 1) = s.code.length + 1 := by rw [IntKind.wrap_i64]; omega
  obtain ⟨l1, l2, l3, l4⟩ := hL
  by_cases hn : x.name = ByteArray.empty
  ·cases ht : x.table <;> by_cases hsy : x.sym = ByteArray.empty <;> cases htw : isaTwo x.i.op <;>
    simp [hn, ht, hsy, htw, oStep, oTab, oIns, oRel, atO, kiO, wO, w1, hlt', hlt] <;> omega
  ·simp [hn, oStep, oLab, hlt', hlt] <;> omega
 ·have h := of_decide_eq_false h
  have e : i = ls.length := by omega
  subst e
  simp [oAll]
end
end Go.Proofs.YtacmmedhjebfjaaGreatDoor
set_option linter.unusedVariables false
set_option linter.unusedSimpArgs false
namespace Go.Proofs.YtacmmedhjebfjaaGreatDoor
open Go.RowKit Go.Sy Go.Fac
section
variable {ea : Ear} {has : Int → Prop} {gl : List (Nat × SVal)}
def noneQ (p : Nat → Bool) : Nat → Bool
 | 0 => true
 | n + 1 => noneQ p n && !p n
theorem noneQ_at {p : Nat → Bool} {i n : Nat} (hp : p i = true) (hn : i < n) : noneQ p n = false := by
 induction n with
 | zero => omega
 | succ n ih =>
  rw [noneQ]
  by_cases e : i = n
  ·subst e; rw [hp]; simp
  ·rw [ih (by omega)]; rfl
theorem noneQ_iff {p : Nat → Bool} {n : Nat} : noneQ p n = true ↔ ∀ i, i < n → p i = false := by
 induction n with
 | zero => simp [noneQ]
 | succ n ih =>
  rw [noneQ, Bool.and_eq_true, ih, Bool.not_eq_true']
  refine ⟨fun ⟨h1, h2⟩ i hi => ?_, fun h => ⟨fun i hi => h i (by omega), h n (by omega)⟩⟩
  by_cases e : i = n
  ·rw [e]; exact h2
  ·exact h1 i (by omega)
end
end Go.Proofs.YtacmmedhjebfjaaGreatDoor
set_option linter.unusedVariables false
set_option linter.unusedSimpArgs false
namespace Go.Proofs.YtacmmedhjebfjaaGreatDoor
open Go.RowKit Go.Sy Go.Fac
section
variable {ea : Ear} {has : Int → Prop} {gl : List (Nat × SVal)}
def kNumber : List SVal → Nat → Acc ORes := fun a n => match a with | [.int .i64 n', .int .i64 b] => .ret ({ v := .int .i64 (.full (n'.val % b.val)), vc := some (0 < b.val) }) | _ => .fail "Number"
theorem argNumber (n' b : SI) : (all (subL tAtN none' [] deep [.int .i64 n', .int .i64 b] [.int .i64 (.full n'.val), .int .i64 (.full b.val)])) = (
 SI.val n' = SI.val n' ∧ SI.val b = SI.val b) := by kernel_rfl
theorem runNumber (gl : List (Nat × SVal)) (n' : Int) (b : Int) : (Tr.sat (plainQ (.int .i64 (.full (n' % b)))) (run (env gl []) [] (bodyOf Tryz.f6) (start [.int .i64 (.full n'), .int .i64 (.full b)] 15) (ends (env gl []) Tryz.f6.results.toList))) = (
 RQ (b ≠ (0 : Int)) (IT (decide (Int.tmod n' b < 0)) (IntKind.wrap IntKind.i64 (Int.tmod n' b + b) = n' % b) (Int.tmod n' b = n' % b))) := by kernel_rfl
set_option maxHeartbeats 4000000 in
theorem cNumber : Con ea has gl 6 kNumber := by
 refine plain_mkB Tryz.func6 15 (con := []) trivial (fun hA hr hv => ?_) (by kernel_rfl) (by kernel_rfl) Tryz.ntmps6
 unfold kNumber at hr; split at hr
 ·rename_i n' b
  have := ret_ok hr; subst this
  replace hv := hv _ rfl
  refine ⟨_, [], rfl, rfl, .of (argNumber n' b) (by simp), rfl, (fun W R ρ0 own0 hown => noSums (by kernel_rfl)), .of (runNumber gl n'.val b.val) ?_⟩
  delta RQ IT
  clear hr
  obtain ⟨us, hB⟩ := DenA.tl hA
  have b1 : b.val ≤ 9223372036854775807 := (DenA.i0 hB).hi
  clear hB
  clear hA
  generalize n'.val = x
  generalize b.val = y at *
  have h0 := Int.emod_nonneg x (show y ≠ 0 by omega)
  have h1 := Int.emod_lt_of_pos x hv
  have ht := Int.tmod_eq_emod (a := x) (b := y)
  have key : x % y = if x.tmod y < 0 then x.tmod y + y else x.tmod y := by
   generalize x % y = m at *
   generalize x.tmod y = t at *
   split at ht <;> split <;> omega
  refine ⟨by omega, fun _ => ⟨fun h => ?_, fun h => ?_⟩⟩
  ·rw [if_pos (of_decide_eq_true h)] at key
   rw [IntKind.wrap_i64]; omega
  ·rw [if_neg (of_decide_eq_false h)] at key
   exact key.symm
 ·cases hr
def kNone : List SVal → Nat → Acc ORes := fun a n => match a with | [] => .ret ({ v := .agg [.int .i64 (.full 0), .bool (.sym false), .int .i64 (.full 0)] }) | _ => .fail "None"
theorem argNone  : (all (subL tAtN none' [] deep [] [])) = (
 True) := by kernel_rfl
theorem runNone (gl : List (Nat × SVal)) : (Tr.sat (plainQ (.agg [.int .i64 (.full 0), .bool (.sym false), .int .i64 (.full 0)])) (run (env gl []) [] (bodyOf Tryz.f14) (start [] 2) (ends (env gl []) Tryz.f14.results.toList))) = (
 (0 : Int) = (0 : Int) ∧ false = false ∧ (0 : Int) = (0 : Int)) := by kernel_rfl
set_option maxHeartbeats 4000000 in
theorem cNone : Con ea has gl 14 kNone := by
 refine plain_mkB Tryz.func14 2 (con := []) trivial (fun hA hr hv => ?_) (by kernel_rfl) (by kernel_rfl) Tryz.ntmps14
 unfold kNone at hr; split at hr
 ·skip
  have := ret_ok hr; subst this
  refine ⟨_, [], rfl, rfl, .of (argNone ) (by simp), rfl, (fun W R ρ0 own0 hown => noSums (by kernel_rfl)), .of (runNone gl ) ?_⟩
  clear hr
  exact ⟨rfl, rfl, rfl⟩
 ·cases hr
def kBare : List SVal → Nat → Acc ORes := fun a n => match a with | [.int .i64 c] => .ret ({ v := .agg [.int .i64 (.full c.val), .bool (.sym false), .int .i64 (.full 0)] }) | _ => .fail "Bare"
theorem argBare (c : SI) : (all (subL tAtN none' [] deep [.int .i64 c] [.int .i64 (.full c.val)])) = (
 SI.val c = SI.val c) := by kernel_rfl
theorem runBare (gl : List (Nat × SVal)) (c : Int) : (Tr.sat (plainQ (.agg [.int .i64 (.full c), .bool (.sym false), .int .i64 (.full 0)])) (run (env gl []) [] (bodyOf Tryz.f24) (start [.int .i64 (.full c)] 5) (ends (env gl []) Tryz.f24.results.toList))) = (
 c = c ∧ false = false ∧ (0 : Int) = (0 : Int)) := by kernel_rfl
set_option maxHeartbeats 4000000 in
theorem cBare : Con ea has gl 24 kBare := by
 refine plain_mkB Tryz.func24 5 (con := []) trivial (fun hA hr hv => ?_) (by kernel_rfl) (by kernel_rfl) Tryz.ntmps24
 unfold kBare at hr; split at hr
 ·rename_i c
  have := ret_ok hr; subst this
  refine ⟨_, [], rfl, rfl, .of (argBare c) (by simp), rfl, (fun W R ρ0 own0 hown => noSums (by kernel_rfl)), .of (runBare gl c.val) ?_⟩
  clear hr
  exact ⟨rfl, rfl, rfl⟩
 ·cases hr
def kPlaced : List SVal → Nat → Acc ORes := fun a n => match a with | [.int .i64 c, .int .i64 p] => .ret ({ v := .agg [.int .i64 (.full c.val), .bool (.sym (!decide (c.val = 0))), .int .i64 (.full (if c.val = 0 then 0 else p.val))] }) | _ => .fail "Placed"
theorem argPlaced (c p : SI) : (all (subL tAtN none' [] deep [.int .i64 c, .int .i64 p] [.int .i64 (.full c.val), .int .i64 (.full p.val)])) = (
 SI.val c = SI.val c ∧ SI.val p = SI.val p) := by kernel_rfl
theorem runPlaced (gl : List (Nat × SVal)) (c : Int) (p : Int) : (Tr.sat (plainQ (.agg [.int .i64 (.full c), .bool (.sym (!decide (c = 0))), .int .i64 (.full (if c = 0 then 0 else p))])) (run (env gl [(14, kNone)]) [] (bodyOf Tryz.f15) (start [.int .i64 (.full c), .int .i64 (.full p)] 11) (ends (env gl [(14, kNone)]) Tryz.f15.results.toList))) = (
 IT (decide (c = 0)) ((0 : Int) = c ∧ false = !decide (c = 0) ∧ (0 : Int) = if c = 0 then (0 : Int) else p) (c = c ∧ true = !decide (c = 0) ∧ p = if c = 0 then (0 : Int) else p)) := by kernel_rfl
set_option maxHeartbeats 4000000 in
theorem cPlaced : Con ea has gl 15 kPlaced := by
 refine plain_mkB Tryz.func15 11 (con := [(14, kNone)]) ⟨cNone, trivial⟩ (fun hA hr hv => ?_) (by kernel_rfl) (by kernel_rfl) Tryz.ntmps15
 unfold kPlaced at hr; split at hr
 ·rename_i c p
  have := ret_ok hr; subst this
  refine ⟨_, [], rfl, rfl, .of (argPlaced c p) (by simp), rfl, (fun W R ρ0 own0 hown => noSums (by kernel_rfl)), .of (runPlaced gl c.val p.val) ?_⟩
  delta IT
  clear hr
  refine ⟨fun h => ?_, fun h => ?_⟩
  ·have h1 := of_decide_eq_true h
   rw [h, if_pos h1]; exact ⟨h1.symm, rfl, rfl⟩
  ·have h1 := of_decide_eq_false h
   rw [h, if_neg h1]; exact ⟨rfl, rfl, rfl⟩
 ·cases hr
def kSameFault : List SVal → Nat → Acc ORes := fun a n => match a with | [.agg [.int .i64 a, .bool b, .int .i64 c], .agg [.int .i64 d, .bool e, .int .i64 f]] => .ret ({ v := .bool (.sym (decide (a.val = d.val) && (b.val == e.val) && decide (c.val = f.val))) }) | _ => .fail "SameFault"
theorem argSameFault (a : SI) (b : SB) (c d : SI) (e : SB) (f : SI) : (all (subL tAtN none' [] deep [.agg [.int .i64 a, .bool b, .int .i64 c], .agg [.int .i64 d, .bool e, .int .i64 f]] [.agg [.int .i64 (.full a.val), .bool (.sym b.val), .int .i64 (.full c.val)], .agg [.int .i64 (.full d.val), .bool (.sym e.val), .int .i64 (.full f.val)]])) = (
 SI.val a = SI.val a ∧ SB.val b = SB.val b ∧ SI.val c = SI.val c ∧ SI.val d = SI.val d ∧ SB.val e = SB.val e ∧ SI.val f = SI.val f) := by kernel_rfl
theorem runSameFault (gl : List (Nat × SVal)) (a : Int) (b : Bool) (c : Int) (d : Int) (e : Bool) (f : Int) : (Tr.sat (plainQ (.bool (.sym (decide (a = d) && (b == e) && decide (c = f))))) (run (env gl []) [] (bodyOf Tryz.f25) (start [.agg [.int .i64 (.full a), .bool (.sym b), .int .i64 (.full c)], .agg [.int .i64 (.full d), .bool (.sym e), .int .i64 (.full f)]] 24) (ends (env gl []) Tryz.f25.results.toList))) = (
 (decide (a = d) && b == e && decide (c = f)) = (decide (a = d) && b == e && decide (c = f))) := by kernel_rfl
set_option maxHeartbeats 4000000 in
theorem cSameFault : Con ea has gl 25 kSameFault := by
 refine plain_mkB Tryz.func25 24 (con := []) trivial (fun hA hr hv => ?_) (by kernel_rfl) (by kernel_rfl) Tryz.ntmps25
 unfold kSameFault at hr; split at hr
 ·rename_i a b c d e f
  have := ret_ok hr; subst this
  refine ⟨_, [], rfl, rfl, .of (argSameFault a b c d e f) (by simp), rfl, (fun W R ρ0 own0 hown => noSums (by kernel_rfl)), .of (runSameFault gl a.val b.val c.val d.val e.val f.val) ?_⟩
  clear hr
  rfl
 ·cases hr
end
end Go.Proofs.YtacmmedhjebfjaaGreatDoor
set_option linter.unusedVariables false
set_option linter.unusedSimpArgs false
namespace Go.Proofs.YtacmmedhjebfjaaGreatDoor
open Go.RowKit Go.Sy Go.Fac
section
variable {ea : Ear} {has : Int → Prop} {rest : List (Nat × SVal)}
theorem firstE_all {f : Nat → FErr} (hp : ∀ i, (f i).isPlaced = false) {n : Nat} (h : (firstE f n).isErr = false) : ∀ i, i < n → (f i).isErr = false := by
 intro i hi
 cases hf : (f i).isErr with
 | false => rfl
 | true =>
  cases hi1 : (firstE f i).isErr with
  | true =>
   have := firstE_stay hi1 (Nat.le_of_lt hi)
   rw [this, hi1] at h; cases h
  | false =>
   have := (firstE_at (fine_of hi1) hf (hp i) hi).2
   rw [this] at h; cases h
end
end Go.Proofs.YtacmmedhjebfjaaGreatDoor
set_option linter.unusedVariables false
set_option linter.unusedSimpArgs false
namespace Go.Proofs.YtacmmedhjebfjaaGreatDoor
open Go.RowKit Go.Sy Go.Fac
abbrev markI : Int := 2147483648
def unmark (w : Int) : Int := bits .andNot .u32 w markI
def backB (w : Int) : Bool := !decide (bits .and .u32 w markI = 0) && ofOk (unmark w) && (decide (isaClass (ofF (unmark w) 0).op = 2) || decide (isaClass (ofF (unmark w) 0).op = 3))
def backI (w : Int) : In5 := if backB w = true then ofF (unmark w) 0 else ⟨0, 0, 0, 0, 0⟩
end Go.Proofs.YtacmmedhjebfjaaGreatDoor
set_option linter.unusedVariables false
set_option linter.unusedSimpArgs false
namespace Go.Proofs.YtacmmedhjebfjaaGreatDoor
open Go.RowKit Go.Sy Go.Fac
section
variable {ea : Ear} {has : Int → Prop} {rest : List (Nat × SVal)}
theorem take_get1 {α : Type} (l : List α) (d : α) {i : Nat} (h : i < l.length) : l.take (i + 1) = l.take i ++ [l.getD i d] := by rw [List.take_add_one, List.getElem?_eq_getElem h]; simp [h]
theorem relocs_fine {d c m : List Int} {dr cr : List Rel} {sy : List Sm} (h : (relocsE d c m dr cr sy).isErr = false) : (firstE (drE d dr sy) dr.length).isErr = false ∧ (firstE (crE c m cr sy) cr.length).isErr = false ∧ (firstE (needE c m cr) c.length).isErr = false := by
 unfold relocsE at h
 split at h
 ·rename_i h1; rw [h] at h1; cases h1
 ·rename_i h1
  split at h
  ·rename_i h2; rw [h] at h2; cases h2
  ·rename_i h2
   exact ⟨by simpa using h1, by simpa using h2, h⟩
theorem crE_np (c m : List Int) (cr : List Rel) (sy : List Sm) (i : Nat) : (crE c m cr sy i).isPlaced = false := by
 unfold crE; simp only; split
 ·rfl
 ·exact relocE_np
def kBack : List SVal → Nat → Acc ORes := fun a n => match a with | [.int .u32 w] => .ret ({ v := .tuple [.agg (backI w.val).enc, .bool (.sym (backB w.val))] }) | _ => .fail "Back"
theorem argBack (w : SI) : (all (subL tAtN none' [] deep [.int .u32 w] [.int .u32 (.full w.val)])) = (
 SI.val w = SI.val w) := by kernel_rfl
theorem runBack (rest : List (Nat × SVal)) (w : Int) : (Tr.sat (plainQ (.tuple [.agg (backI w).enc, .bool (.sym (backB w))])) (run (env (G7 ++ rest) [(62, kOf), (44, kTables), (68, kClass)]) [] (bodyOf Tryz.f59) (start [.int .u32 (.full w)] 34) (ends (env (G7 ++ rest) [(62, kOf), (44, kTables), (68, kClass)]) Tryz.f59.results.toList))) = (
 IT (decide (bits BinOp.and IntKind.u32 w (2147483648 : Int) = (0 : Int)) || !ofOk (bits BinOp.andNot IntKind.u32 w (2147483648 : Int)) || !decide (isaClass (ofF (bits BinOp.andNot IntKind.u32 w (2147483648 : Int)) (0 : Int)).op = 2) && !decide (isaClass (ofF (bits BinOp.andNot IntKind.u32 w (2147483648 : Int)) (0 : Int)).op = 3)) ((0 : Int) = (backI w).op ∧ (0 : Int) = (backI w).a ∧ (0 : Int) = (backI w).b ∧ (0 : Int) = (backI w).c ∧ (0 : Int) = (backI w).imm ∧ false = backB w) ((ofF (bits BinOp.andNot IntKind.u32 w (2147483648 : Int)) (0 : Int)).op = (backI w).op ∧ (ofF (bits BinOp.andNot IntKind.u32 w (2147483648 : Int)) (0 : Int)).a = (backI w).a ∧ (ofF (bits BinOp.andNot IntKind.u32 w (2147483648 : Int)) (0 : Int)).b = (backI w).b ∧ (ofF (bits BinOp.andNot IntKind.u32 w (2147483648 : Int)) (0 : Int)).c = (backI w).c ∧ (ofF (bits BinOp.andNot IntKind.u32 w (2147483648 : Int)) (0 : Int)).imm = (backI w).imm ∧ true = backB w)) := by kernel_rfl
set_option maxHeartbeats 4000000 in
theorem cBack : Con ea has (G7 ++ rest) 59 kBack := by
 refine plain_mkB Tryz.func59 34 (con := [(62, kOf), (44, kTables), (68, kClass)]) ⟨cOf, cTables, cClass, trivial⟩ (fun hA hr hv => ?_) (by kernel_rfl) (by kernel_rfl) Tryz.ntmps59
 unfold kBack at hr; split at hr
 ·rename_i w
  have := ret_ok hr; subst this
  refine ⟨_, [], rfl, rfl, .of (argBack w) (by simp), rfl, (fun W R ρ0 own0 hown => noSums (by kernel_rfl)), .of (runBack rest w.val) ?_⟩
  delta IT
  clear hr
  have hb : backB w.val = !(decide (bits BinOp.and IntKind.u32 w.val 2147483648 = 0) || !ofOk (bits BinOp.andNot IntKind.u32 w.val 2147483648) || !decide (isaClass (ofF (bits BinOp.andNot IntKind.u32 w.val 2147483648) 0).op = 2) && !decide (isaClass (ofF (bits BinOp.andNot IntKind.u32 w.val 2147483648) 0).op = 3)) := by
   unfold backB unmark
   simp [Bool.not_or, Bool.not_and]
  refine ⟨fun h => ?_, fun h => ?_⟩
  ·rw [h] at hb
   unfold backI; rw [hb]; exact ⟨rfl, rfl, rfl, rfl, rfl, rfl⟩
  ·rw [h] at hb
   unfold backI; rw [hb]; exact ⟨rfl, rfl, rfl, rfl, rfl, rfl⟩
 ·cases hr
end
end Go.Proofs.YtacmmedhjebfjaaGreatDoor
set_option linter.unusedVariables false
set_option linter.unusedSimpArgs false
set_option linter.unusedSectionVars false
namespace Go.Proofs.YtacmmedhjebfjaaGreatDoor
open Go.RowKit Go.Sy Go.Fac
section
variable {ea : Ear} {has : Int → Prop} {rest : List (Nat × SVal)} [ht : Nonempty (EType ea)]
def insE (e : FErr) (i : Int) : FErr := match e with
 | .fine => .fine
 | .bare n => .placed n i
 | .placed n _ => .placed n i
def kinside : List SVal → Nat → Acc ORes := fun a n => match a with | [.int .i64 i, .err e] => .ret ({ v := .err (insE e i.val), vc := some (e.isErr = true) }) | _ => .fail "inside"
theorem arginside (i : SI) (e : FErr) : (all (subL tAtN none' [] deep [.int .i64 i, .err e] [.int .i64 (.full i.val), .err e])) = (
 SI.val i = SI.val i ∧ e = e) := by kernel_rfl
theorem runinside (rest : List (Nat × SVal)) (i : Int) (e : FErr) : (Tr.sat (plainQ (.err (insE e i))) (run (env (G7 ++ rest) [(60, kErrAs)]) [] (bodyOf Tryz.f41) (start [.int .i64 (.full i), .err e] 18) (ends (env (G7 ++ rest) [(60, kErrAs)]) Tryz.f41.results.toList))) = (
 RQ (FErr.isErr e = true) (IT (FErr.isPlaced e) (RQ (FErr.isPlaced e = true) (RQ (FErr.isPlaced e = true) ((insE e i = match FErr.inner e with | FErr.bare n => FErr.placed n i | x => FErr.fine) ∧ FErr.isErr (FErr.inner e) = true ∧ FErr.isPlaced (FErr.inner e) = false))) ((insE e i = match e with | FErr.bare n => FErr.placed n i | x => FErr.fine) ∧ FErr.isErr e = true ∧ FErr.isPlaced e = false))) := by kernel_rfl
set_option maxHeartbeats 4000000 in
theorem cinside : Con ea has (G7 ++ rest) 41 kinside := by
 refine plain_mkB Tryz.func41 18 (con := [(60, kErrAs)]) ⟨cErrAs, trivial⟩ (fun hA hr hv => ?_) (by kernel_rfl) (by kernel_rfl) Tryz.ntmps41
 unfold kinside at hr; split at hr
 ·rename_i i e
  have := ret_ok hr; subst this
  replace hv := hv _ rfl
  refine ⟨_, [], rfl, rfl, .of (arginside i e) (by simp), rfl, (fun W R ρ0 own0 hown => noSums (by kernel_rfl)), .of (runinside rest i.val e) ?_⟩
  delta RQ IT
  clear hr
  cases e <;> simp [FErr.isErr, FErr.isPlaced, FErr.inner, insE] at hv ⊢
 ·cases hr
def kback : List SVal → Nat → Acc ORes := fun a n => match a with | [.int .u32 w] => .ret ({ v := .bool (.sym (backB w.val)) }) | _ => .fail "back"
theorem argback (w : SI) : (all (subL tAtN none' [] deep [.int .u32 w] [.int .u32 (.full w.val)])) = (
 SI.val w = SI.val w) := by kernel_rfl
theorem runback (rest : List (Nat × SVal)) (w : Int) : (Tr.sat (plainQ (.bool (.sym (backB w)))) (run (env (G7 ++ rest) [(59, kBack)]) [] (bodyOf Tryz.f40) (start [.int .u32 (.full w)] 11) (ends (env (G7 ++ rest) [(59, kBack)]) Tryz.f40.results.toList))) = (
 backB w = backB w) := by kernel_rfl
set_option maxHeartbeats 4000000 in
theorem cback : Con ea has (G7 ++ rest) 40 kback := by
 refine plain_mkB Tryz.func40 11 (con := [(59, kBack)]) ⟨cBack, trivial⟩ (fun hA hr hv => ?_) (by kernel_rfl) (by kernel_rfl) Tryz.ntmps40
 unfold kback at hr; split at hr
 ·rename_i w
  have := ret_ok hr; subst this
  refine ⟨_, [], rfl, rfl, .of (argback w) (by simp), rfl, (fun W R ρ0 own0 hown => noSums (by kernel_rfl)), .of (runback rest w.val) ?_⟩
  clear hr
  rfl
 ·cases hr
abbrev spT : RT := .flat (.int .i64) [.int .i64]
def symAt (l : List Ob) (o s : Int) : Sm := (l.getD o.toNat RT.obj.dflt).syms.getD s.toNat RT.sym.dflt
def kksym0 : List SVal → Nat → Acc ORes := fun a n => match a with | [.rop [.ro .obj l, .any, .any, .any, .any, .any, .any, .any], .agg [.int .i64 o, .int .i64 s]] => .ret ({ v := .agg (RT.sym.enc (symAt l o.val s.val)), vc := some (0 ≤ o.val ∧ o.val < l.length ∧ 0 ≤ s.val ∧ s.val < (l.getD o.val.toNat RT.obj.dflt).syms.length) }) | _ => .fail "ksym0"
theorem argksym0 (l : List Ob) (o s : SI) : (all (subL tAtN none' [] deep [.rop [.ro .obj l, .any, .any, .any, .any, .any, .any, .any], .agg [.int .i64 o, .int .i64 s]] [.rop [.ro .obj l, .any, .any, .any, .any, .any, .any, .any], .agg [.int .i64 (.full o.val), .int .i64 (.full s.val)]])) = (
 l = l ∧ SI.val o = SI.val o ∧ SI.val s = SI.val s) := by kernel_rfl
theorem runksym0 (rest : List (Nat × SVal)) (l : List Ob) (o : Int) (s : Int) : (Tr.sat (plainQ (.agg (RT.sym.enc (symAt l o s)))) (run (env (G7 ++ rest) []) [] (bodyOf Tryz.f35) (start [.rop [.ro .obj l, .any, .any, .any, .any, .any, .any, .any], .agg [.int .i64 (.full o), .int .i64 (.full s)]] 18) (ends (env (G7 ++ rest) []) Tryz.f35.results.toList))) = (
 RQ (0 ≤ o ∧ o < (↑(List.length l) : Int)) (RQ (0 ≤ s ∧ s < (↑(List.length (List.getD l (Int.toNat o) (RT.dflt RT.obj)).syms) : Int)) ((List.getD (List.getD l (Int.toNat o) (RT.dflt RT.obj)).syms (Int.toNat s) (RT.dflt RT.sym)).name = (symAt l o s).name ∧ (List.getD (List.getD l (Int.toNat o) (RT.dflt RT.obj)).syms (Int.toNat s) (RT.dflt RT.sym)).in_ = (symAt l o s).in_ ∧ (List.getD (List.getD l (Int.toNat o) (RT.dflt RT.obj)).syms (Int.toNat s) (RT.dflt RT.sym)).value = (symAt l o s).value ∧ (List.getD (List.getD l (Int.toNat o) (RT.dflt RT.obj)).syms (Int.toNat s) (RT.dflt RT.sym)).global = (symAt l o s).global))) := by kernel_rfl
set_option maxHeartbeats 4000000 in
theorem cksym0 : Con ea has (G7 ++ rest) 35 kksym0 := by
 refine plain_mkB Tryz.func35 18 (con := []) trivial (fun hA hr hv => ?_) (by kernel_rfl) (by kernel_rfl) Tryz.ntmps35
 unfold kksym0 at hr; split at hr
 ·rename_i l o s
  have := ret_ok hr; subst this
  replace hv := hv _ rfl
  refine ⟨_, [], rfl, rfl, .of (argksym0 l o s) (by simp), rfl, (fun W R ρ0 own0 hown => noSums (by kernel_rfl)), .of (runksym0 rest l o.val s.val) ?_⟩
  delta RQ
  clear hr
  obtain ⟨v1, v2, v3, v4⟩ := hv
  exact ⟨⟨v1, v2⟩, fun _ => ⟨⟨v3, v4⟩, fun _ => ⟨rfl, rfl, rfl, rfl⟩⟩⟩
 ·cases hr
abbrev Glb := List (FK.str.ty × spT.ty)
@[simp] theorem castM_self {k : FK} {t : RT} (h : k = k) (h' : t = t) (m : Option (List (k.ty × t.ty))) : castM h h' m = m := rfl
def realM (l : List Ob) (g : Glb) (o s : Int) : Int × Int := if (symAt l o s).in_ = 3 then @gGet _ _ (FK.deq .str) (0, 0) g (symAt l o s).name else (o, s)
def kkreal0 : List SVal → Nat → Acc ORes := fun a n => match a with | [.rop [.ro .obj l, .rom .str (.flat (.int .i64) [.int .i64]) (some g), .any, .any, .any, .any, .any, .any], .int .i64 o, .int .i64 s] => .ret ({ v := .agg [.int .i64 (.full (realM l g o.val s.val).1), .int .i64 (.full (realM l g o.val s.val).2)], vc := some (0 ≤ o.val ∧ o.val < l.length ∧ 0 ≤ s.val ∧ s.val < (l.getD o.val.toNat RT.obj.dflt).syms.length) }) | _ => .fail "kreal0"
theorem argkreal0 (l : List Ob) (g : Glb) (o s : SI) : (all (subL tAtN none' [] deep [.rop [.ro .obj l, .rom .str (.flat (.int .i64) [.int .i64]) (some g), .any, .any, .any, .any, .any, .any], .int .i64 o, .int .i64 s] [.rop [.ro .obj l, .rom .str (.flat (.int .i64) [.int .i64]) (some g), .any, .any, .any, .any, .any, .any], .int .i64 (.full o.val), .int .i64 (.full s.val)])) = (l = l ∧ castM (k := .str) (t := .flat (.int .i64) [.int .i64]) rfl rfl (some g) = some g ∧ o.val = o.val ∧ s.val = s.val) := by kernel_rfl
theorem runkreal0 (rest : List (Nat × SVal)) (l : List Ob) (g : Glb) (o : Int) (s : Int) : (Tr.sat (plainQ (.agg [.int .i64 (.full (realM l g o s).1), .int .i64 (.full (realM l g o s).2)])) (run (env (G7 ++ rest) []) [] (bodyOf Tryz.f34) (start [.rop [.ro .obj l, .rom .str (.flat (.int .i64) [.int .i64]) (some g), .any, .any, .any, .any, .any, .any], .int .i64 (.full o), .int .i64 (.full s)] 32) (ends (env (G7 ++ rest) []) Tryz.f34.results.toList))) = (
 RQ (0 ≤ o ∧ o < (↑(List.length l) : Int)) (RQ (0 ≤ s ∧ s < (↑(List.length (List.getD l (Int.toNat o) (RT.dflt RT.obj)).syms) : Int)) (IT (decide ((List.getD (List.getD l (Int.toNat o) (RT.dflt RT.obj)).syms (Int.toNat s) (RT.dflt RT.sym)).in_ = 3)) ((gGet (RT.dflt (RT.flat (FK.int IntKind.i64) [FK.int IntKind.i64])) (Option.getD (some g) (@List.nil (FK.ty FK.str × RT.ty (RT.flat (FK.int IntKind.i64) [FK.int IntKind.i64])))) (List.getD (List.getD l (Int.toNat o) (RT.dflt RT.obj)).syms (Int.toNat s) (RT.dflt RT.sym)).name).fst = (realM l g o s).fst ∧ (gGet (RT.dflt (RT.flat (FK.int IntKind.i64) [FK.int IntKind.i64])) (Option.getD (some g) (@List.nil (FK.ty FK.str × RT.ty (RT.flat (FK.int IntKind.i64) [FK.int IntKind.i64])))) (List.getD (List.getD l (Int.toNat o) (RT.dflt RT.obj)).syms (Int.toNat s) (RT.dflt RT.sym)).name).snd = (realM l g o s).snd) (o = (realM l g o s).fst ∧ s = (realM l g o s).snd)))) := by kernel_rfl
set_option maxHeartbeats 4000000 in
theorem ckreal0 : Con ea has (G7 ++ rest) 34 kkreal0 := by
 refine plain_mkB Tryz.func34 32 (con := []) trivial (fun hA hr hv => ?_) (by kernel_rfl) (by kernel_rfl) Tryz.ntmps34
 unfold kkreal0 at hr; split at hr
 ·rename_i l g o s
  have := ret_ok hr; subst this
  replace hv := hv _ rfl
  refine ⟨_, [], rfl, rfl, .of (argkreal0 l g o s) (by simp), rfl, (fun W R ρ0 own0 hown => noSums (by kernel_rfl)), .of (runkreal0 rest l g o.val s.val) ?_⟩
  delta RQ IT
  clear hr
  obtain ⟨v1, v2, v3, v4⟩ := hv
  refine ⟨⟨v1, v2⟩, fun _ => ⟨⟨v3, v4⟩, fun _ => ⟨fun h => ?_, fun h => ?_⟩⟩⟩
  ·have h := of_decide_eq_true h
   rw [show realM l g o.val s.val = _ from if_pos h]; exact ⟨rfl, rfl⟩
  ·have h := of_decide_eq_false h
   rw [show realM l g o.val s.val = _ from if_neg h]; exact ⟨rfl, rfl⟩
 ·cases hr
abbrev kksym := borN [.box [.ro .obj, .drop, .drop, .drop, .drop, .drop, .drop, .drop], .any] kksym0
theorem cksym : Con ea has (G7 ++ rest) 35 kksym := borN_ok cksym0 _
end
end Go.Proofs.YtacmmedhjebfjaaGreatDoor
set_option linter.unusedVariables false
set_option linter.unusedSimpArgs false
set_option linter.unusedSectionVars false
namespace Go.Proofs.YtacmmedhjebfjaaGreatDoor
open Go.RowKit Go.Sy Go.Fac
section
variable {ea : Ear} {has : Int → Prop} {rest : List (Nat × SVal)} [ht : Nonempty (EType ea)]
def callB (c m : List Int) (i : Int) : Bool := decide (isaClass (insI c m i).op = 4) && (decide ((c.length : Int) ≤ i + 1) || !backB (c.getD (i + 1).toNat 0))
def wordBE (c m : List Int) (i : Int) : FErr :=
 if m.getD i.toNat 0 = 1 then
  if (!insB c m i || callB c m i) = true then .bare 105
  else if (isaTwo (insI c m i).op && (decide ((c.length : Int) ≤ i + 1) || !decide (m.getD (i + 1).toNat 0 = 0))) = true then .bare 109 else .fine
 else if m.getD i.toNat 0 = 0 then (if (decide (i = 0) || !twoB c m (i - 1)) = true then .bare 109 else .fine)
 else if m.getD i.toNat 0 = 2 then .fine else .bare 109
def kwordB : List SVal → Nat → Acc ORes := fun a n => match a with | [.agg [.ro .u32 d, .ro .u32 c, .ro .u8 m, .ro .rel dr, .ro .rel cr, .ro .sym sy], .int .i64 i, .func 40 []] => .ret ({ v := .err (wordBE c m i.val), vc := some (0 ≤ i.val ∧ i.val < (m.length : Int) ∧ m.length = c.length ∧ m.length ≤ 1000000) }) | _ => .fail "wordB"
theorem argwordB (d c m : List Int) (dr cr : List Rel) (sy : List Sm) (i : SI) : (all (subL tAtN none' [] deep [.agg [.ro .u32 d, .ro .u32 c, .ro .u8 m, .ro .rel dr, .ro .rel cr, .ro .sym sy], .int .i64 i, .func 40 []] [.agg [.ro .u32 d, .ro .u32 c, .ro .u8 m, .ro .rel dr, .ro .rel cr, .ro .sym sy], .int .i64 (.full i.val), .func 40 []])) = (
 d = d ∧ c = c ∧ m = m ∧ dr = dr ∧ cr = cr ∧ sy = sy ∧ SI.val i = SI.val i) := by kernel_rfl
theorem runwordB (rest : List (Nat × SVal)) (d : List Int) (c : List Int) (m : List Int) (dr : List Rel) (cr : List Rel) (sy : List Sm) (i : Int) : (Tr.sat (plainQ (.err (wordBE c m i))) (run (env (G7 ++ rest) [(43, kInstr), (44, kTables), (68, kClass), (45, kTwo), (75, ktwo), (40, kback)]) [] (bodyOf Tryz.f56) (start [.agg [.ro .u32 d, .ro .u32 c, .ro .u8 m, .ro .rel dr, .ro .rel cr, .ro .sym sy], .int .i64 (.full i), .func 40 []] 96) (ends (env (G7 ++ rest) [(43, kInstr), (44, kTables), (68, kClass), (45, kTwo), (75, ktwo), (40, kback)]) Tryz.f56.results.toList))) = (
 RQ (0 ≤ i ∧ i < (↑(List.length m) : Int)) (IT (decide (List.getD m (Int.toNat i) (RT.dflt RT.u8) = 1)) (RQ ((!!insB c m i && decide (isaClass (insI c m i).op = 4) && !decide ((↑(List.length c) : Int) ≤ IntKind.wrap IntKind.i64 (i + 1))) = true → 0 ≤ IntKind.wrap IntKind.i64 (i + 1) ∧ IntKind.wrap IntKind.i64 (i + 1) < (↑(List.length c) : Int)) (IT (!insB c m i || decide (isaClass (insI c m i).op = 4) && (decide ((↑(List.length c) : Int) ≤ IntKind.wrap IntKind.i64 (i + 1)) || !backB (List.getD c (Int.toNat (IntKind.wrap IntKind.i64 (i + 1))) (RT.dflt RT.u32)))) (FErr.bare (105 : Int) = wordBE c m i) (RQ ((isaTwo (insI c m i).op && !decide ((↑(List.length c) : Int) ≤ IntKind.wrap IntKind.i64 (i + 1))) = true → 0 ≤ IntKind.wrap IntKind.i64 (i + 1) ∧ IntKind.wrap IntKind.i64 (i + 1) < (↑(List.length m) : Int)) (IT (isaTwo (insI c m i).op && (decide ((↑(List.length c) : Int) ≤ IntKind.wrap IntKind.i64 (i + 1)) || !decide (List.getD m (Int.toNat (IntKind.wrap IntKind.i64 (i + 1))) (RT.dflt RT.u8) = 0))) (FErr.bare (109 : Int) = wordBE c m i) (FErr.fine = wordBE c m i))))) (IT (decide (List.getD m (Int.toNat i) (RT.dflt RT.u8) = 0)) (IT (decide (i = 0) || !twoB c m (IntKind.wrap IntKind.i64 (i - 1))) (FErr.bare (109 : Int) = wordBE c m i) (FErr.fine = wordBE c m i)) (IT (decide (List.getD m (Int.toNat i) (RT.dflt RT.u8) = 2)) (FErr.fine = wordBE c m i) (FErr.bare (109 : Int) = wordBE c m i))))) := by kernel_rfl
set_option maxHeartbeats 4000000 in
theorem cwordB : Con ea has (G7 ++ rest) 56 kwordB := by
 refine plain_mkB Tryz.func56 96 (con := [(43, kInstr), (44, kTables), (68, kClass), (45, kTwo), (75, ktwo), (40, kback)]) ⟨cInstr, cTables, cClass, cTwo, ctwo, cback, trivial⟩ (fun hA hr hv => ?_) (by kernel_rfl) (by kernel_rfl) Tryz.ntmps56
 unfold kwordB at hr; split at hr
 ·rename_i d c m dr cr sy i
  have := ret_ok hr; subst this
  replace hv := hv _ rfl
  refine ⟨_, [], rfl, rfl, .of (argwordB d c m dr cr sy i) (by simp), rfl, (fun W R ρ0 own0 hown => noSums (by kernel_rfl)), .of (runwordB rest d c m dr cr sy i.val) ?_⟩
  delta RQ IT
  clear hr
  clear hA
  generalize i.val = i at *
  obtain ⟨v1, v2, v3, v4⟩ := hv
  have d1 : RT.u8.dflt = (0 : Int) := rfl
  have w2 : IntKind.i64.wrap (i - 1) = i - 1 := by rw [IntKind.wrap_i64]; omega
  have d2 : RT.u32.dflt = (0 : Int) := rfl
  simp only [d1, d2, w2, wrapS v1 (show i ≤ 9223372036854775806 by omega), decide_eq_true_eq, decide_eq_false_iff_not]
  refine ⟨⟨v1, v2⟩, fun _ => ⟨fun h1 => ⟨fun g => ?_, fun _ => ⟨fun h2 => by rw [wordBE, if_pos h1, if_pos (show (!insB c m i || callB c m i) = true from h2)], fun h2 => ⟨fun h3 => ?_, fun _ => ⟨fun h3 => ?_, fun h3 => ?_⟩⟩⟩⟩, fun h1 => ⟨fun h2 => ⟨fun h3 => ?_, fun h3 => ?_⟩, fun h2 => ⟨fun h3 => ?_, fun h3 => ?_⟩⟩⟩⟩
  ·simp only [Bool.and_eq_true, Bool.not_eq_true', decide_eq_false_iff_not] at g; omega
  ·simp only [Bool.and_eq_true, Bool.not_eq_true', decide_eq_false_iff_not] at h3; omega
  ·rw [wordBE, if_pos h1, if_neg (by rw [show (!insB c m i || callB c m i) = false from h2]; simp), if_pos h3]
  ·rw [wordBE, if_pos h1, if_neg (by rw [show (!insB c m i || callB c m i) = false from h2]; simp), if_neg (by rw [h3]; simp)]
  ·rw [wordBE, if_neg h1, if_pos h2, if_pos h3]
  ·rw [wordBE, if_neg h1, if_pos h2, if_neg (by rw [h3]; simp)]
  ·rw [wordBE, if_neg h1, if_neg h2, if_pos h3]
  ·rw [wordBE, if_neg h1, if_neg h2, if_neg h3]
 ·cases hr
def wdBE (c m : List Int) (i : Nat) : FErr := wordBE c m i
theorem wordBE_np (c m : List Int) (i : Int) : (wordBE c m i).isPlaced = false := by
 unfold wordBE; repeat (first | rfl | split)
def HWordsB (d c m : List Int) (dr cr : List Rel) (sy : List Sm) (i : Nat) : SState := { fr := [(1, .func 40 []), (2, .ptr 0 0), (52, .int .i64 (.full c.length)), (53, .int .i64 (.sym i 0 1000000))], hp := [(0, some (.cells [.ro .u32 d, .ro .u32 c, .ro .u8 m, .ro .rel dr, .ro .rel cr, .ro .sym sy]))], next := 1, sz := 91 }
def XWordsB (d c m : List Int) (dr cr : List Rel) (sy : List Sm) : SState := { fr := [(2, .ptr 0 0)], hp := [(0, some (.cells [.ro .u32 d, .ro .u32 c, .ro .u8 m, .ro .rel dr, .ro .rel cr, .ro .sym sy]))], next := 1, sz := 91 }
def YWordsB (d c m : List Int) (dr cr : List Rel) (sy : List Sm) : SState := { fr := [(4, .err (firstE (wdBE c m) c.length))], hp := [], next := 0, sz := 91 }
def LWordsB (d c m : List Int) (dr cr : List Rel) (sy : List Sm) : LSum := ⟨HWordsB d c m dr cr sy 0, fun k => .ite (!(firstE (wdBE c m) c.length).isErr) (k (.exit 1) (XWordsB d c m dr cr sy)) (k .ret (YWordsB d c m dr cr sy)), c.length ≤ 1000000 ∧ m.length = c.length⟩
theorem bWordsB (rest : List (Nat × SVal)) (d c m : List Int) (dr cr : List Rel) (sy : List Sm) (i : Nat) : (Tr.sat (rnd2 (env (G7 ++ rest) [(56, kwordB), (57, ksymbol), (58, krelocs)]) (fun i => firstE (wdBE c m) i = .fine) (c.length) (HWordsB d c m dr cr sy) 1 (!(firstE (wdBE c m) c.length).isErr) (XWordsB d c m dr cr sy) (YWordsB d c m dr cr sy) i) (run (env (G7 ++ rest) [(56, kwordB), (57, ksymbol), (58, krelocs)]) [] (loopN (bodyOf Tryz.f39) 0) (HWordsB d c m dr cr sy i) .leaf)) = (
 IT (decide ((↑i : Int) < (↑(List.length c) : Int))) (RQ (0 ≤ (↑i : Int) ∧ (↑i : Int) < (↑(List.length m) : Int) ∧ List.length m = List.length c ∧ List.length m ≤ 1000000) (IT (!!FErr.isErr (wordBE c m (↑i : Int))) ((!FErr.isErr (firstE (wdBE c m) (List.length c))) = false ∧ (firstE (wdBE c m) (List.length c) = match wordBE c m (↑i : Int) with | FErr.bare n => FErr.placed n (↑i : Int) | x => FErr.fine) ∧ FErr.isErr (wordBE c m (↑i : Int)) = true ∧ FErr.isPlaced (wordBE c m (↑i : Int)) = false) (i < List.length c ∧ firstE (wdBE c m) (i + 1) = FErr.fine ∧ (↑(List.length c) : Int) = (↑(List.length c) : Int) ∧ (↑i : Int) + 1 = (↑(i + 1) : Int) ∧ (0 ≤ (↑(i + 1) : Int) ∧ (↑(i + 1) : Int) ≤ 1000000) ∧ d = d ∧ c = c ∧ m = m ∧ dr = dr ∧ cr = cr ∧ sy = sy))) (Nat.beq (1 : Nat) (1 : Nat) = true ∧ (!FErr.isErr (firstE (wdBE c m) (List.length c))) = true ∧ d = d ∧ c = c ∧ m = m ∧ dr = dr ∧ cr = cr ∧ sy = sy)) := by kernel_rfl
set_option maxHeartbeats 4000000 in
theorem lWordsB (d c m : List Int) (dr cr : List Rel) (sy : List Sm) {W : World} {R own0 : Nat → Prop} {ρ0 : Nat → Option Value} (hown : HownOk (env (G7 ++ rest) [(56, kwordB), (57, ksymbol), (58, krelocs)]) own0 ρ0) : LOk Tryz.prog (env (G7 ++ rest) [(56, kwordB), (57, ksymbol), (58, krelocs)]) (ctx ea has) (G7 ++ rest) W R own0 ρ0 (loopN (bodyOf Tryz.f39) 0) (LWordsB d c m dr cr sy) := by
 refine loop2_ok (J := fun i => firstE (wdBE c m) i = .fine) (N := c.length) (H := HWordsB d c m dr cr sy) (X := XWordsB d c m dr cr sy) (Y := YWordsB d c m dr cr sy) (env_ok (con := [(56, kwordB), (57, ksymbol), (58, krelocs)]) ⟨cwordB, csymbol, crelocs, trivial⟩) hown (ls := fun i => []) (fun i => noSums (by kernel_rfl)) (fun hm i hi hj => ?_) 0 (fun hm => by first | exact Nat.zero_le _ | omega) (fun hm => rfl)
 rw [bWordsB rest d c m dr cr sy i]
 delta RQ IT
 have hE2 : wdBE c m i = wordBE c m i := rfl
 have hnp := wordBE_np c m i
 generalize wordBE c m i = e at *
 obtain ⟨hm, hmc⟩ := hm
 refine ⟨fun h => ?_, fun h => ?_⟩
 ·have h := of_decide_eq_true h
  have hlt : i < c.length := by omega
  refine ⟨by omega, fun _ => ⟨fun h3 => ?_, fun h3 => ?_⟩⟩
  ·have h3 : e.isErr = true := by simpa using h3
   obtain ⟨g1, g2⟩ := firstE_at hj (by rw [hE2]; exact h3) (by rw [hE2]; exact hnp) hlt
   rw [hE2] at g1
   exact ⟨by rw [g2]; rfl, g1, h3, hnp⟩
  ·have h3 : e.isErr = false := by simpa using h3
   refine ⟨hlt, firstE_fine hj (by rw [hE2]; exact h3), ?_⟩
   simp; omega
 ·have h := of_decide_eq_false h
  have : i = c.length := by omega
  rw [← this, hj]
  simp [FErr.isErr]
def HSymsB (d c m : List Int) (dr cr : List Rel) (sy : List Sm) (i : Nat) : SState := { fr := [(2, .ptr 0 0), (7, .map 1), (70, .ro .sym sy), (71, .int .i64 (.full sy.length)), (72, .int .i64 (.sym i 0 1000000))], hp := [(0, some (.cells [.ro .u32 d, .ro .u32 c, .ro .u8 m, .ro .rel dr, .ro .rel cr, .ro .sym sy])), (1, some (.strMap (mpS sy i)))], next := 2, sz := 91 }
def XSymsB (d c m : List Int) (dr cr : List Rel) (sy : List Sm) : SState := { fr := [(2, .ptr 0 0)], hp := [(0, some (.cells [.ro .u32 d, .ro .u32 c, .ro .u8 m, .ro .rel dr, .ro .rel cr, .ro .sym sy]))], next := 1, sz := 91 }
def YSymsB (d c m : List Int) (dr cr : List Rel) (sy : List Sm) : SState := { fr := [(4, .err (firstE (syE d c m sy) sy.length))], hp := [], next := 0, sz := 91 }
def LSymsB (d c m : List Int) (dr cr : List Rel) (sy : List Sm) : LSum := ⟨HSymsB d c m dr cr sy 0, fun k => .ite (!(firstE (syE d c m sy) sy.length).isErr) (k (.exit 3) (XSymsB d c m dr cr sy)) (k .ret (YSymsB d c m dr cr sy)), sy.length ≤ 1000000 ∧ m.length = c.length⟩
theorem bSymsB (rest : List (Nat × SVal)) (d c m : List Int) (dr cr : List Rel) (sy : List Sm) (i : Nat) : (Tr.sat (rnd2 (env (G7 ++ rest) [(56, kwordB), (57, ksymbol), (58, krelocs)]) (fun i => firstE (syE d c m sy) i = .fine) (sy.length) (HSymsB d c m dr cr sy) 3 (!(firstE (syE d c m sy) sy.length).isErr) (XSymsB d c m dr cr sy) (YSymsB d c m dr cr sy) i) (run (env (G7 ++ rest) [(56, kwordB), (57, ksymbol), (58, krelocs)]) [] (loopN (bodyOf Tryz.f39) 1) (HSymsB d c m dr cr sy i) .leaf)) = (
 IT (decide ((↑i : Int) < (↑(List.length sy) : Int))) (RQ (0 ≤ (↑i : Int) ∧ (↑i : Int) < (↑(List.length sy) : Int)) (RQ (mapGet (mpS sy i) (List.getD sy (Int.toNat (↑i : Int)) (RT.dflt RT.sym)).name ≤ 1000000 ∧ 0 ≤ mapGet (mpS sy i) (List.getD sy (Int.toNat (↑i : Int)) (RT.dflt RT.sym)).name ∧ List.length m = List.length c) (IT (!!FErr.isErr (symE d c m (List.getD sy (Int.toNat (↑i : Int)) (RT.dflt RT.sym)).name (List.getD sy (Int.toNat (↑i : Int)) (RT.dflt RT.sym)).in_ (List.getD sy (Int.toNat (↑i : Int)) (RT.dflt RT.sym)).value (List.getD sy (Int.toNat (↑i : Int)) (RT.dflt RT.sym)).global (mpS sy i))) ((!FErr.isErr (firstE (syE d c m sy) (List.length sy))) = false ∧ (firstE (syE d c m sy) (List.length sy) = match symE d c m (List.getD sy (Int.toNat (↑i : Int)) (RT.dflt RT.sym)).name (List.getD sy (Int.toNat (↑i : Int)) (RT.dflt RT.sym)).in_ (List.getD sy (Int.toNat (↑i : Int)) (RT.dflt RT.sym)).value (List.getD sy (Int.toNat (↑i : Int)) (RT.dflt RT.sym)).global (mpS sy i) with | FErr.bare n => FErr.placed n (↑i : Int) | x => FErr.fine) ∧ FErr.isErr (symE d c m (List.getD sy (Int.toNat (↑i : Int)) (RT.dflt RT.sym)).name (List.getD sy (Int.toNat (↑i : Int)) (RT.dflt RT.sym)).in_ (List.getD sy (Int.toNat (↑i : Int)) (RT.dflt RT.sym)).value (List.getD sy (Int.toNat (↑i : Int)) (RT.dflt RT.sym)).global (mpS sy i)) = true ∧ FErr.isPlaced (symE d c m (List.getD sy (Int.toNat (↑i : Int)) (RT.dflt RT.sym)).name (List.getD sy (Int.toNat (↑i : Int)) (RT.dflt RT.sym)).in_ (List.getD sy (Int.toNat (↑i : Int)) (RT.dflt RT.sym)).value (List.getD sy (Int.toNat (↑i : Int)) (RT.dflt RT.sym)).global (mpS sy i)) = false) (i < List.length sy ∧ firstE (syE d c m sy) (i + 1) = FErr.fine ∧ sy = sy ∧ (↑(List.length sy) : Int) = (↑(List.length sy) : Int) ∧ (↑i : Int) + 1 = (↑(i + 1) : Int) ∧ (0 ≤ (↑(i + 1) : Int) ∧ (↑(i + 1) : Int) ≤ 1000000) ∧ d = d ∧ c = c ∧ m = m ∧ dr = dr ∧ cr = cr ∧ sy = sy ∧ symMp (List.getD sy (Int.toNat (↑i : Int)) (RT.dflt RT.sym)).name (mpS sy i) = mpS sy (i + 1))))) (Nat.beq (3 : Nat) (3 : Nat) = true ∧ (!FErr.isErr (firstE (syE d c m sy) (List.length sy))) = true ∧ d = d ∧ c = c ∧ m = m ∧ dr = dr ∧ cr = cr ∧ sy = sy)) := by kernel_rfl
set_option maxHeartbeats 4000000 in
theorem lSymsB (d c m : List Int) (dr cr : List Rel) (sy : List Sm) {W : World} {R own0 : Nat → Prop} {ρ0 : Nat → Option Value} (hown : HownOk (env (G7 ++ rest) [(56, kwordB), (57, ksymbol), (58, krelocs)]) own0 ρ0) : LOk Tryz.prog (env (G7 ++ rest) [(56, kwordB), (57, ksymbol), (58, krelocs)]) (ctx ea has) (G7 ++ rest) W R own0 ρ0 (loopN (bodyOf Tryz.f39) 1) (LSymsB d c m dr cr sy) := by
 refine loop2_ok (J := fun i => firstE (syE d c m sy) i = .fine) (N := sy.length) (H := HSymsB d c m dr cr sy) (X := XSymsB d c m dr cr sy) (Y := YSymsB d c m dr cr sy) (env_ok (con := [(56, kwordB), (57, ksymbol), (58, krelocs)]) ⟨cwordB, csymbol, crelocs, trivial⟩) hown (ls := fun i => []) (fun i => noSums (by kernel_rfl)) (fun hm i hi hj => ?_) 0 (fun hm => by first | exact Nat.zero_le _ | omega) (fun hm => rfl)
 rw [bSymsB rest d c m dr cr sy i]
 delta RQ IT
 have hE2 : syE d c m sy i = _ := syE.eq_1 d c m sy i
 have hnp := symE_np d c m (sy.getD i RT.sym.dflt).name (sy.getD i RT.sym.dflt).in_ (sy.getD i RT.sym.dflt).value (sy.getD i RT.sym.dflt).global (mpS sy i)
 have hle := mpS_le sy (sy.getD i RT.sym.dflt).name i
 simp only [Int.toNat_natCast]
 generalize symE d c m (sy.getD i RT.sym.dflt).name (sy.getD i RT.sym.dflt).in_ (sy.getD i RT.sym.dflt).value (sy.getD i RT.sym.dflt).global (mpS sy i) = e at *
 obtain ⟨hm, hmc⟩ := hm
 refine ⟨fun h => ?_, fun h => ?_⟩
 ·have h := of_decide_eq_true h
  have hlt : i < sy.length := by omega
  refine ⟨by omega, fun _ => ⟨by omega, fun _ => ⟨fun h3 => ?_, fun h3 => ?_⟩⟩⟩
  ·have h3 : e.isErr = true := by simpa using h3
   obtain ⟨g1, g2⟩ := firstE_at hj (by rw [hE2]; exact h3) (by rw [hE2]; exact hnp) hlt
   rw [hE2] at g1
   exact ⟨by rw [g2]; rfl, g1, h3, hnp⟩
  ·have h3 : e.isErr = false := by simpa using h3
   refine ⟨hlt, firstE_fine hj (by rw [hE2]; exact h3), ?_⟩
   simp [mpS]; omega
 ·have h := of_decide_eq_false h
  have : i = sy.length := by omega
  rw [← this, hj]
  simp [FErr.isErr]
def validBE (d c m : List Int) (dr cr : List Rel) (sy : List Sm) : FErr :=
 if manyB d c dr cr sy = true then .bare 104 else if (!decide ((m.length : Int) = c.length)) = true then .bare 109
 else if (firstE (wdBE c m) c.length).isErr = true then firstE (wdBE c m) c.length
 else if (firstE (syE d c m sy) sy.length).isErr = true then firstE (syE d c m sy) sy.length
 else relocsE d c m dr cr sy
def kValidB : List SVal → Nat → Acc ORes := fun a n => match a with | [.agg [.ro .u32 d, .ro .u32 c, .ro .u8 m, .ro .rel dr, .ro .rel cr, .ro .sym sy], .func 40 []] => .ret ({ v := .err (validBE d c m dr cr sy) }) | _ => .fail "ValidB"
theorem argValidB (d c m : List Int) (dr cr : List Rel) (sy : List Sm) : (all (subL tAtN none' [] deep [.agg [.ro .u32 d, .ro .u32 c, .ro .u8 m, .ro .rel dr, .ro .rel cr, .ro .sym sy], .func 40 []] [.agg [.ro .u32 d, .ro .u32 c, .ro .u8 m, .ro .rel dr, .ro .rel cr, .ro .sym sy], .func 40 []])) = (
 d = d ∧ c = c ∧ m = m ∧ dr = dr ∧ cr = cr ∧ sy = sy) := by kernel_rfl
theorem runValidB (rest : List (Nat × SVal)) (d : List Int) (c : List Int) (m : List Int) (dr : List Rel) (cr : List Rel) (sy : List Sm) : (Tr.sat (plainQ (.err (validBE d c m dr cr sy))) (run (env (G7 ++ rest) [(56, kwordB), (57, ksymbol), (58, krelocs)]) [(6, LWordsB d c m dr cr sy), (14, LSymsB d c m dr cr sy)] (bodyOf Tryz.f39) (start [.agg [.ro .u32 d, .ro .u32 c, .ro .u8 m, .ro .rel dr, .ro .rel cr, .ro .sym sy], .func 40 []] 91) (ends (env (G7 ++ rest) [(56, kwordB), (57, ksymbol), (58, krelocs)]) Tryz.f39.results.toList))) = (
 IT (decide ((2048 : Int) < (↑(List.length d) : Int)) || decide ((2048 : Int) < (↑(List.length c) : Int)) || decide ((1024 : Int) < (↑(List.length dr) : Int)) || decide ((1024 : Int) < (↑(List.length cr) : Int)) || decide ((256 : Int) < (↑(List.length sy) : Int))) (FErr.bare (104 : Int) = validBE d c m dr cr sy) (IT (!decide ((↑(List.length m) : Int) = (↑(List.length c) : Int))) (FErr.bare (109 : Int) = validBE d c m dr cr sy) (RQ ((List.length c ≤ 1000000 ∧ List.length m = List.length c) ∧ (↑(List.length c) : Int) = (↑(List.length c) : Int) ∧ (0 : Int) = (↑(0 : Nat) : Int) ∧ d = d ∧ c = c ∧ m = m ∧ dr = dr ∧ cr = cr ∧ sy = sy) (IT (!FErr.isErr (firstE (wdBE c m) (List.length c))) (RQ ((List.length sy ≤ 1000000 ∧ List.length m = List.length c) ∧ sy = sy ∧ (↑(List.length sy) : Int) = (↑(List.length sy) : Int) ∧ (0 : Int) = (↑(0 : Nat) : Int) ∧ d = d ∧ c = c ∧ m = m ∧ dr = dr ∧ cr = cr ∧ sy = sy ∧ @List.nil (ByteArray × Int) = mpS sy (0 : Nat)) (IT (!FErr.isErr (firstE (syE d c m sy) (List.length sy))) (RQ (List.length dr ≤ 1000000 ∧ List.length cr ≤ 1000000 ∧ List.length c ≤ 1000000 ∧ List.length m = List.length c) (relocsE d c m dr cr sy = validBE d c m dr cr sy)) (firstE (syE d c m sy) (List.length sy) = validBE d c m dr cr sy))) (firstE (wdBE c m) (List.length c) = validBE d c m dr cr sy))))) := by kernel_rfl
set_option maxHeartbeats 4000000 in
theorem cValidB : Con ea has (G7 ++ rest) 39 kValidB := by
 refine plain_mkB Tryz.func39 91 (con := [(56, kwordB), (57, ksymbol), (58, krelocs)]) ⟨cwordB, csymbol, crelocs, trivial⟩ (fun hA hr hv => ?_) (by kernel_rfl) (by kernel_rfl) Tryz.ntmps39
 unfold kValidB at hr; split at hr
 ·rename_i d c m dr cr sy
  have := ret_ok hr; subst this
  refine ⟨_, [(6, LWordsB d c m dr cr sy), (14, LSymsB d c m dr cr sy)], rfl, rfl, .of (argValidB d c m dr cr sy) (by simp), rfl, (fun W R ρ0 own0 hown => hl2 (by kernel_rfl) (by kernel_rfl) (lWordsB d c m dr cr sy hown) (by kernel_rfl) (lSymsB d c m dr cr sy hown)), .of (runValidB rest d c m dr cr sy) ?_⟩
  delta RQ IT
  clear hr
  refine ⟨fun h => ?_, fun h => ⟨fun h2 => ?_, fun h2 => ?_⟩⟩
  ·rw [validBE, if_pos (show manyB d c dr cr sy = true from h)]
  ·rw [validBE, if_neg (show ¬ manyB d c dr cr sy = true by rw [show manyB d c dr cr sy = false from h]; simp), if_pos h2]
  ·have hv : validBE d c m dr cr sy = _ := validBE.eq_1 d c m dr cr sy
   rw [if_neg (show ¬ manyB d c dr cr sy = true by rw [show manyB d c dr cr sy = false from h]; simp), if_neg (by rw [h2]; simp)] at hv
   have hmc : m.length = c.length := by simp at h2; omega
   simp only [Bool.or_eq_false_iff, decide_eq_false_iff_not] at h
   refine ⟨by simp [hmc]; omega, fun _ => ⟨fun h3 => ⟨by simp [mpS, hmc]; omega, fun _ => ⟨fun h4 => ⟨by omega, fun _ => ?_⟩, fun h4 => ?_⟩⟩, fun h3 => ?_⟩⟩
   ·rw [if_neg (by simpa using h3), if_neg (by simpa using h4)] at hv; exact hv.symm
   ·rw [if_neg (by simpa using h3), if_pos (by simpa using h4)] at hv; exact hv.symm
   ·rw [if_pos (by simpa using h3)] at hv; exact hv.symm
 ·cases hr
def vBE (o : Ob) : FErr := validBE o.data o.code o.map o.drels o.crels o.syms
end
end Go.Proofs.YtacmmedhjebfjaaGreatDoor
set_option linter.unusedVariables false
set_option linter.unusedSimpArgs false
namespace Go.Proofs.YtacmmedhjebfjaaGreatDoor
open Go.RowKit Go.Sy Go.Fac
theorem gHas_gPut {α β : Type} [DecidableEq α] (k : α) (v : β) (k' : α) : ∀ m : List (α × β), gHas (gPut m k v) k' = (decide (k = k') || gHas m k')
 | [] => by simp [gPut, gHas]
 | (a, b) :: m => by
  unfold gPut
  by_cases h : a = k
  ·rw [if_pos h]; subst h
   by_cases h2 : a = k' <;> simp [gHas, h2]
  ·rw [if_neg h]
   have ih := gHas_gPut k v k' m
   by_cases h2 : a = k' <;> simp [gHas, h2, ih]
theorem gGet_gPut {α β : Type} [DecidableEq α] (d : β) (k : α) (v : β) (k' : α) : ∀ m : List (α × β), gGet d (gPut m k v) k' = if k = k' then v else gGet d m k'
 | [] => by simp [gPut, gGet]
 | (a, b) :: m => by
  unfold gPut
  by_cases h : a = k
  ·rw [if_pos h]; subst h
   by_cases h2 : a = k' <;> simp [gGet, h2]
  ·rw [if_neg h]
   have ih := gGet_gPut d k v k' m
   by_cases h2 : a = k'
   ·subst h2; simp [gGet, Ne.symm h]
   ·simp [gGet, h2, ih]
def glH (g : Glb) (k : ByteArray) : Bool := @gHas _ _ (FK.deq .str) g k
def glG (g : Glb) (k : ByteArray) : Int × Int := @gGet _ _ (FK.deq .str) (0, 0) g k
def glP (g : Glb) (k : ByteArray) (v : Int × Int) : Glb := @gPut _ _ (FK.deq .str) g k v
theorem glH_put (g : Glb) (k : ByteArray) (v : Int × Int) (k' : ByteArray) : glH (glP g k v) k' = true ↔ k = k' ∨ glH g k' = true := by
 have := @gHas_gPut _ _ (FK.deq .str) k v k' g
 unfold glH glP
 rw [this]; simp
theorem glG_put (g : Glb) (k : ByteArray) (v : Int × Int) (k' : ByteArray) : glG (glP g k v) k' = if k = k' then v else glG g k' := by
 have := @gGet_gPut _ _ (FK.deq .str) (0, 0) k v k' g
 unfold glG glP
 rw [this]
 by_cases h : k = k'
 ·rw [if_pos h, if_pos h]
 ·rw [if_neg h, if_neg h]
abbrev obN (l : List Ob) (o : Nat) : Ob := l.getD o RT.obj.dflt
def syO (l : List Ob) (o s : Nat) : Sm := (obN l o).syms.getD s RT.sym.dflt
theorem symAt_nat (l : List Ob) (o s : Nat) : symAt l o s = syO l o s := by unfold symAt syO; rfl
def expS (x : Sm) : Prop := x.global = true ∧ x.in_ ≠ 3
def expB (x : Sm) : Bool := x.global && !decide (x.in_ = 3)
theorem expB_iff {x : Sm} : expB x = true ↔ expS x := by unfold expB expS; simp
def nmStep (i : Int) (j : Nat) (s : Sm) (g : Glb) : FErr × Glb :=
 if expB s = false then (.fine, g) else if glH g s.name = true then (.placed 106 i, g) else (.fine, glP g s.name (i, j))
def nmS (i : Int) (sy : List Sm) (g : Glb) : Nat → FErr × Glb
 | 0 => (.fine, g)
 | j + 1 => if (nmS i sy g j).1.isErr = true then nmS i sy g j else nmStep i j (sy.getD j RT.sym.dflt) (nmS i sy g j).2
def nmO (l : List Ob) : Nat → FErr × Glb
 | 0 => (.fine, [])
 | i + 1 => if (nmO l i).1.isErr = true then nmO l i else if (vBE (obN l i)).isErr = true then (insE (vBE (obN l i)) i, (nmO l i).2) else nmS i (obN l i).syms (nmO l i).2 (obN l i).syms.length
theorem nmS_stay (i : Int) (sy : List Sm) (g : Glb) {j : Nat} (h : (nmS i sy g j).1.isErr = true) : ∀ n, j ≤ n → nmS i sy g n = nmS i sy g j
 | 0, hn => by rw [show j = 0 by omega]
 | n + 1, hn => by
  by_cases e : j = n + 1
  ·rw [e]
  ·have := nmS_stay i sy g h n (by omega)
   rw [nmS, this, if_pos h]
theorem nmO_stay (l : List Ob) {j : Nat} (h : (nmO l j).1.isErr = true) : ∀ n, j ≤ n → nmO l n = nmO l j
 | 0, hn => by rw [show j = 0 by omega]
 | n + 1, hn => by
  by_cases e : j = n + 1
  ·rw [e]
  ·have := nmO_stay l h n (by omega)
   rw [nmO, this, if_pos h]
theorem nmS_prev (i : Int) (sy : List Sm) (g : Glb) {j n : Nat} (h : (nmS i sy g n).1 = .fine) (hj : j ≤ n) : (nmS i sy g j).1 = .fine := by
 cases e : (nmS i sy g j).1.isErr with
 | false => exact fine_of e
 | true => rw [nmS_stay i sy g e n hj] at h; rw [h] at e; cases e
theorem nmO_prev (l : List Ob) {j n : Nat} (h : (nmO l n).1 = .fine) (hj : j ≤ n) : (nmO l j).1 = .fine := by
 cases e : (nmO l j).1.isErr with
 | false => exact fine_of e
 | true => rw [nmO_stay l e n hj] at h; rw [h] at e; cases e
structure NmI (l : List Ob) (i j : Nat) (g : Glb) : Prop where
 fnd : ∀ k, glH g k = true → ∃ o s : Nat, glG g k = ((o : Int), (s : Int)) ∧ (o < i ∨ o = i ∧ s < j) ∧ s < (obN l o).syms.length ∧ (syO l o s).name = k ∧ expS (syO l o s)
 all : ∀ o s : Nat, (o < i ∨ o = i ∧ s < j) → s < (obN l o).syms.length → expS (syO l o s) → glH g (syO l o s).name = true ∧ glG g (syO l o s).name = ((o : Int), (s : Int))
theorem nmS_inv {l : List Ob} {i : Nat} {g : Glb} (h0 : NmI l i 0 g) : ∀ j, j ≤ (obN l i).syms.length → (nmS i (obN l i).syms g j).1 = .fine → NmI l i j (nmS i (obN l i).syms g j).2
 | 0, _, _ => h0
 | j + 1, hj, hf => by
  have hp := nmS_prev i _ g hf (Nat.le_succ j)
  have ih := nmS_inv h0 j (by omega) hp
  have e : nmS i (obN l i).syms g (j + 1) = nmStep i j (syO l i j) (nmS i (obN l i).syms g j).2 := by
   rw [nmS, if_neg (by rw [hp]; simp [FErr.isErr])]; rfl
  rw [e] at hf ⊢
  generalize (nmS i (obN l i).syms g j).2 = g' at *
  unfold nmStep at hf ⊢
  by_cases hx : expB (syO l i j) = false
  ·rw [if_pos hx]
   refine ⟨fun k hk => ?_, fun o s hos hs hex => ?_⟩
   ·obtain ⟨o, s, h1, h2, h3⟩ := ih.fnd k hk
    exact ⟨o, s, h1, by omega, h3⟩
   ·by_cases e : o = i ∧ s = j
    ·obtain ⟨rfl, rfl⟩ := e
     rw [← expB_iff, hx] at hex; cases hex
    ·exact ih.all o s (by omega) hs hex
  ·rw [if_neg hx] at hf ⊢
   by_cases hh : glH g' (syO l i j).name = true
   ·rw [if_pos hh] at hf; cases hf
   ·rw [if_neg hh]
    have hx : expS (syO l i j) := expB_iff.1 (by simpa using hx)
    refine ⟨fun k hk => ?_, fun o s hos hs hex => ?_⟩
    ·show ∃ o s : Nat, glG (glP _ _ _) k = _ ∧ _
     rw [glG_put]
     by_cases e : (syO l i j).name = k
     ·exact ⟨i, j, by rw [if_pos e], by omega, by omega, e, hx⟩
     ·obtain ⟨o, s, h1, h2, h3⟩ := ih.fnd k (((glH_put _ _ _ _).1 hk).resolve_left e)
      exact ⟨o, s, by rw [if_neg e, h1], by omega, h3⟩
    ·show glH (glP _ _ _) _ = true ∧ glG (glP _ _ _) _ = _
     rw [glG_put, glH_put]
     by_cases e : o = i ∧ s = j
     ·obtain ⟨rfl, rfl⟩ := e
      exact ⟨.inl rfl, by rw [if_pos rfl]⟩
     ·obtain ⟨g1, g2⟩ := ih.all o s (by omega) hs hex
      have hne : ¬ (syO l i j).name = (syO l o s).name := fun e => by rw [e] at hh; exact hh g1
      exact ⟨.inr g1, by rw [if_neg hne, g2]⟩
theorem nmI_next {l : List Ob} {i : Nat} {g : Glb} (h : NmI l i (obN l i).syms.length g) : NmI l (i + 1) 0 g := by
 refine ⟨fun k hk => ?_, fun o s hos hs hex => h.all o s ?_ hs hex⟩
 ·obtain ⟨o, s, h1, h2, h3⟩ := h.fnd k hk
  exact ⟨o, s, h1, by omega, h3⟩
 ·by_cases e : o = i
  ·subst e; exact .inr ⟨rfl, hs⟩
  ·exact .inl (by omega)
theorem nmO_inv (l : List Ob) : ∀ i, (nmO l i).1 = .fine → NmI l i 0 (nmO l i).2 ∧ ∀ j, j < i → (vBE (obN l j)).isErr = false
 | 0, _ => ⟨⟨fun k hk => (by cases hk), fun o s hos _ _ => (by omega)⟩, fun j hj => by omega⟩
 | i + 1, hf => by
  have hp := nmO_prev l hf (Nat.le_succ i)
  obtain ⟨ih1, ih2⟩ := nmO_inv l i hp
  rw [nmO, if_neg (by rw [hp]; simp [FErr.isErr])] at hf ⊢
  by_cases hv : (vBE (obN l i)).isErr = true
  ·rw [if_pos hv] at hf
   revert hf hv
   cases vBE (obN l i) <;> simp [insE, FErr.isErr]
  ·rw [if_neg hv] at hf ⊢
   refine ⟨nmI_next (nmS_inv ih1 _ (Nat.le_refl _) hf), fun j hj => ?_⟩
   by_cases e : j = i
   ·subst e; simpa using hv
   ·exact ih2 j (by omega)
theorem validB_size {d c m : List Int} {dr cr : List Rel} {sy : List Sm} (h : (validBE d c m dr cr sy).isErr = false) : c.length ≤ 2048 ∧ m.length = c.length ∧ d.length ≤ 2048 ∧ dr.length ≤ 1024 ∧ cr.length ≤ 1024 ∧ sy.length ≤ 256 ∧
  (firstE (wdBE c m) c.length).isErr = false ∧ (firstE (syE d c m sy) sy.length).isErr = false ∧ (relocsE d c m dr cr sy).isErr = false := by
 unfold validBE at h
 split at h
 ·cases h
 ·rename_i h1
  split at h
  ·cases h
  ·rename_i h2
   split at h
   ·rename_i h3; rw [h] at h3; cases h3
   ·rename_i h3
    split at h
    ·rename_i h4; rw [h] at h4; cases h4
    ·rename_i h4
     have h1 : manyB d c dr cr sy = false := by simpa using h1
     unfold manyB at h1
     simp only [Bool.or_eq_false_iff, decide_eq_false_iff_not] at h1
     simp only [Bool.not_eq_true', decide_eq_false_iff_not, Decidable.not_not] at h2
     refine ⟨by omega, by omega, by omega, by omega, by omega, by omega, by simpa using h3, by simpa using h4, h⟩
structure VOb (o : Ob) : Prop where
 code : o.code.length ≤ 2048
 map : o.map.length = o.code.length
 data : o.data.length ≤ 2048
 drels : o.drels.length ≤ 1024
 crels : o.crels.length ≤ 1024
 syms : o.syms.length ≤ 256
 words : ∀ i, i < o.code.length → (wordBE o.code o.map i).isErr = false
 sym : ∀ i, i < o.syms.length → (syE o.data o.code o.map o.syms i).isErr = false
 dr : ∀ i, i < o.drels.length → (drE o.data o.drels o.syms i).isErr = false
 cr : ∀ i, i < o.crels.length → (crE o.code o.map o.crels o.syms i).isErr = false
 need : ∀ i, i < o.code.length → (needE o.code o.map o.crels i).isErr = false
theorem drE_np (d : List Int) (dr : List Rel) (sy : List Sm) (i : Nat) : (drE d dr sy i).isPlaced = false := by
 unfold drE; simp only; split
 ·rfl
 ·exact relocE_np
theorem needE_np (c m : List Int) (cr : List Rel) (i : Nat) : (needE c m cr i).isPlaced = false := by
 unfold needE; split <;> rfl
theorem vOb {o : Ob} (h : (vBE o).isErr = false) : VOb o := by
 obtain ⟨h1, h2, h3, h4, h5, h6, h7, h8, h9⟩ := validB_size h
 obtain ⟨r1, r2, r3⟩ := relocs_fine h9
 exact ⟨h1, h2, h3, h4, h5, h6, firstE_all (fun i => wordBE_np _ _ i) h7, firstE_all (fun i => symE_np _ _ _ _ _ _ _ _) h8, firstE_all (drE_np _ _ _) r1, firstE_all (fun i => crE_np _ _ _ _ i) r2, firstE_all (needE_np _ _ _) r3⟩
theorem VOb.crel {o : Ob} (v : VOb o) {j : Nat} (hj : j < o.crels.length) :
  ∀ r, r = o.crels.getD j RT.rel.dflt → 0 ≤ r.at_ ∧ r.at_ < o.code.length ∧ 0 ≤ r.sym ∧ r.sym < o.syms.length ∧ (r.kind = 1 ∨ r.kind = 2) ∧ -65536 ≤ r.add ∧ r.add ≤ 65536 ∧ shapeB o.code o.map o.syms r.at_ r.kind r.sym r.add = true ∧ lastR o.crels j < r.at_ := by
 intro r hr
 have := v.cr j hj
 unfold crE at this
 simp only at this
 rw [← hr] at this
 split at this
 ·cases this
 ·rename_i hs
  have e := this
  unfold relocE at e
  split at e
  ·cases e
  ·rename_i hb
   unfold relocB at hb
   simp only [Bool.or_eq_true, decide_eq_true_eq, not_or] at hb
   rw [this] at hs
   simp only [Bool.not_false, Bool.true_and, Bool.not_eq_true', Bool.not_eq_false] at hs
   refine ⟨by omega, by omega, by omega, by omega, by omega, by omega, by omega, by simpa using hs, by omega⟩
theorem VOb.drel {o : Ob} (v : VOb o) {j : Nat} (hj : j < o.drels.length) :
  ∀ r, r = o.drels.getD j RT.rel.dflt → 0 ≤ r.at_ ∧ r.at_ < o.data.length ∧ 0 ≤ r.sym ∧ r.sym < o.syms.length ∧ -65536 ≤ r.add ∧ r.add ≤ 65536 ∧ lastR o.drels j < r.at_ := by
 intro r hr
 have := v.dr j hj
 unfold drE at this
 simp only at this
 rw [← hr] at this
 split at this
 ·cases this
 ·rename_i hs
  have e := this
  unfold relocE at e
  split at e
  ·cases e
  ·rename_i hb
   unfold relocB at hb
   simp only [Bool.or_eq_true, decide_eq_true_eq, not_or] at hb
   exact ⟨by omega, by omega, by omega, by omega, by omega, by omega, by omega⟩
theorem VOb.symb {o : Ob} (v : VOb o) {j : Nat} (hj : j < o.syms.length) : symFine o.data o.code o.map (o.syms.getD j RT.sym.dflt).in_ (o.syms.getD j RT.sym.dflt).value (o.syms.getD j RT.sym.dflt).global = true ∧ symOk (o.syms.getD j RT.sym.dflt).name = true := by
 have := v.sym j hj
 unfold syE symE at this
 split at this
 ·cases this
 ·rename_i hk
  split at this
  ·cases this
  ·split at this
   ·rename_i hf; exact ⟨hf, by simpa using hk⟩
   ·cases this
theorem VOb.symc {o : Ob} (v : VOb o) {j : Nat} (hj : j < o.syms.length) (h2 : (o.syms.getD j RT.sym.dflt).in_ = 2) : 0 ≤ (o.syms.getD j RT.sym.dflt).value ∧ (o.syms.getD j RT.sym.dflt).value < o.code.length ∧ o.map.getD (o.syms.getD j RT.sym.dflt).value.toNat 0 = 1 := by
 have := (v.symb hj).1
 unfold symFine at this
 rw [if_neg (by omega), if_pos h2] at this
 simp only [Bool.and_eq_true, decide_eq_true_eq] at this
 exact ⟨this.1.1, this.1.2, this.2⟩
theorem VOb.symd {o : Ob} (v : VOb o) {j : Nat} (hj : j < o.syms.length) (h2 : (o.syms.getD j RT.sym.dflt).in_ = 1) : 0 ≤ (o.syms.getD j RT.sym.dflt).value ∧ (o.syms.getD j RT.sym.dflt).value ≤ o.data.length := by
 have := (v.symb hj).1
 unfold symFine at this
 rw [if_pos h2] at this
 simp only [Bool.and_eq_true, Bool.or_eq_true, decide_eq_true_eq] at this
 omega
theorem VOb.symi {o : Ob} (v : VOb o) {j : Nat} (hj : j < o.syms.length) : (o.syms.getD j RT.sym.dflt).in_ = 1 ∨ (o.syms.getD j RT.sym.dflt).in_ = 2 ∨ (o.syms.getD j RT.sym.dflt).in_ = 3 := by
 have := (v.symb hj).1
 unfold symFine at this
 by_cases h1 : (o.syms.getD j RT.sym.dflt).in_ = 1
 ·exact .inl h1
 ·by_cases h2 : (o.syms.getD j RT.sym.dflt).in_ = 2
  ·exact .inr (.inl h2)
  ·by_cases h3 : (o.syms.getD j RT.sym.dflt).in_ = 3
   ·exact .inr (.inr h3)
   ·rw [if_neg h1, if_neg h2, if_neg h3] at this; cases this
def noneB (l : List Ob) (g : Glb) (i j : Nat) : Bool := decide ((syO l i j).in_ = 3) && !glH g (syO l i j).name
def noneO (l : List Ob) (g : Glb) (i : Nat) : Bool := decide (idxM (noneB l g i) (obN l i).syms.length ≠ (obN l i).syms.length)
theorem idxM_all {p : Nat → Bool} : ∀ {n : Nat}, idxM p n = n → ∀ i, i < n → p i = false
 | 0, _, i, hi => by omega
 | n + 1, h, i, hi => by
  have hle := idxM_le p n
  unfold idxM at h
  by_cases h1 : idxM p n < n
  ·rw [if_pos h1] at h; omega
  ·rw [if_neg h1] at h
   have h2 : idxM p n = n := by omega
   by_cases h3 : p n = true
   ·rw [if_pos h3] at h; omega
   ·by_cases e : i = n
    ·subst e; simpa using h3
    ·exact idxM_all h2 i (by omega)
theorem idxM_none {p : Nat → Bool} {n : Nat} (h : ∀ i, i < n → p i = false) : idxM p n = n := by
 have : ∀ k, k ≤ n → idxM p k = k := fun k => by
  induction k with
  | zero => intro _; rfl
  | succ k ih => intro hk; exact idxM_step (ih (by omega)) (h k (by omega))
 exact this n (Nat.le_refl _)
structure NmG (l : List Ob) (g : Glb) : Prop where
 few : l.length ≤ 16
 val : ∀ i, i < l.length → VOb (obN l i)
 inv : NmI l l.length 0 g
 abs : ∀ i, i < l.length → ∀ j, j < (obN l i).syms.length → noneB l g i j = false
theorem NmG.real {l : List Ob} {g : Glb} (G : NmG l g) {i : Nat} (hi : i < l.length) {s : Int} (h0 : 0 ≤ s) (hs : s < (obN l i).syms.length) :
  ∃ o x : Nat, realM l g i s = ((o : Int), (x : Int)) ∧ o < l.length ∧ x < (obN l o).syms.length ∧ (syO l o x).in_ ≠ 3 ∧ (syO l o x).name = (syO l i s.toNat).name := by
 obtain ⟨s', rfl⟩ : ∃ n : Nat, s = n := ⟨s.toNat, by omega⟩
 have e : symAt l i s' = syO l i s' := symAt_nat l i s'
 unfold realM
 rw [e]
 by_cases h3 : (syO l i s').in_ = 3
 ·rw [if_pos h3]
  have := G.abs i hi s' (by omega)
  unfold noneB at this
  rw [decide_eq_true h3] at this
  have hh : glH g (syO l i s').name = true := by simpa using this
  obtain ⟨o, x, g1, g2, g3, g4, g5⟩ := G.inv.fnd _ hh
  exact ⟨o, x, g1, by omega, g3, g5.2, g4⟩
 ·rw [if_neg h3]
  exact ⟨i, s', rfl, hi, by omega, h3, rfl⟩
def jumpsB (c m : List Int) (a k : Int) : Bool := if k = 2 then true else insB c m (a - 1) && decide (m.getD a.toNat 0 = 0) && isaJumps (insI c m (a - 1)).op
abbrev relN (l : List Ob) (i j : Nat) : Rel := (obN l i).crels.getD j RT.rel.dflt
def toB (l : List Ob) (g : Glb) (i j : Nat) : Bool :=
 jumpsB (obN l i).code (obN l i).map (relN l i j).at_ (relN l i j).kind && decide ((symAt l (realM l g i (relN l i j).sym).1 (realM l g i (relN l i j).sym).2).in_ = 1)
def toO (l : List Ob) (g : Glb) (i : Nat) : Bool := decide (idxM (toB l g i) (obN l i).crels.length ≠ (obN l i).crels.length)
def mainT : ByteArray := ⟨#[109, 97, 105, 110]⟩
def noMain (l : List Ob) (g : Glb) : Bool := !glH g mainT || !decide ((symAt l (glG g mainT).1 (glG g mainT).2).in_ = 2)
def nmG (l : List Ob) : Glb := (nmO l l.length).2
def namesE (l : List Ob) : FErr :=
 if (nmO l l.length).1.isErr = true then (nmO l l.length).1
 else if idxM (noneO l (nmG l)) l.length ≠ l.length then .placed 107 (idxM (noneO l (nmG l)) l.length)
 else if idxM (toO l (nmG l)) l.length ≠ l.length then .placed 102 (idxM (toO l (nmG l)) l.length)
 else if noMain l (nmG l) = true then .bare 107 else .fine
theorem nmG_ok {l : List Ob} (hl : l.length ≤ 16) (h : (nmO l l.length).1 = .fine) (h2 : idxM (noneO l (nmG l)) l.length = l.length) : NmG l (nmG l) := by
 obtain ⟨g1, g2⟩ := nmO_inv l _ h
 refine ⟨hl, fun i hi => vOb (g2 i hi), g1, fun i hi j hj => ?_⟩
 have := idxM_all h2 i hi
 unfold noneO at this
 rw [decide_eq_false_iff_not, Decidable.not_not] at this
 exact idxM_all this j hj
end Go.Proofs.YtacmmedhjebfjaaGreatDoor
