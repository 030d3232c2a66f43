/- Contracts that the proofs use. -/
import Derived.Test.YtacmmedhjebfjaaGreatDoorQLinkNames1
import Derived.WalkKit
import Derived.LaidEql
import Derived.Stop.Asserts
import Derived.RowKitTokens
import Derived.Laws.BitsLemmas
set_option linter.unusedVariables false
namespace Go.Proofs.YtacmmedhjebfjaaGreatDoor
open Go.RowKit Go.Extern.Stop Go.Stop Go.Extern
theorem as_valueOfP (t : Addr) (w : World) : (ReflectliteValue.unpack (.iface 134 (.pointer (some t)))).run Tryz.prog w
  = .ok (.agg #[.pointer (some ⟨20, 134, none⟩), .pointer (some ⟨w.heap.size, 0, none⟩), .int .u64 150]) (w.alloc (.cells #[.pointer (some t)] 134)) := by kernel_rfl
theorem as_typeP (a : Addr) (w : World) : (ReflectliteValue.methodAny (ReflectliteValue.valueError "reflectlite.Value.Type" 0) (fun t _ _ _ => ReflectliteType.toType t) #[.agg #[.pointer (some ⟨20, 134, none⟩), .pointer (some a), .int .u64 150]]).run Tryz.prog w
  = .ok (.iface 166 (.agg #[.pointer (some ⟨20, 134, none⟩)])) w := by kernel_rfl
theorem as_mKind (h : Value) (w : World) : (Go.method 311 166 (.agg #[h]) "Kind").run Tryz.prog w = .ok (105, h) w := by kernel_rfl
theorem as_kindP (w : World) : ((ReflectliteType.abiMethod fun t => (fun a : Nat => Value.int IntKind.u8 (a : Int)) <$> Rtype.kind t) #[.pointer (some ⟨20, 134, none⟩)]).run Tryz.prog w = .ok (.int .u8 22) w := by kernel_rfl
theorem as_kindA (w : World) : ((ReflectliteType.abiMethod fun t => (fun a : Nat => Value.int IntKind.u8 (a : Int)) <$> Rtype.kind t) #[.pointer (some ⟨20, 95, none⟩)]).run Tryz.prog w = .ok (.int .u8 22) w := by kernel_rfl
theorem rlm (z : Sem Value) (f : TypeId → Addr → Nat → Nat → Sem Value) (v : Value) :
  ReflectliteValue.method z f #[v] = (do match ← ReflectliteValue.parts v with | none => z | some (t, a, fl) => f t a fl (fl % 32)) := rfl
theorem as_partsP (a : Addr) (w : World) : (ReflectliteValue.parts (.agg #[.pointer (some ⟨20, 134, none⟩), .pointer (some a), .int .u64 150])).run Tryz.prog w = .ok (some (134, a, 150)) w := by kernel_rfl
theorem as_isNilP (a p : Addr) (W : World) (ha : W.cell? a = some (.pointer (some p))) :
  (ReflectliteValue.method (ReflectliteValue.valueError "reflectlite.Value.IsNil" 0) ReflectliteValue.isNil #[.agg #[.pointer (some ⟨20, 134, none⟩), .pointer (some a), .int .u64 150]]).run Tryz.prog W = .ok (.bool false) W := by
 rw [rlm]
 simp only [Sem.run_bind, as_partsP, Result.andThen]
 simp [ReflectliteValue.isNil, loadVar, isAgg, underlying, Tryz.underlying134, ha, Result.andThen]
theorem as_mElem (h : Value) (w : World) : (Go.method 311 166 (.agg #[h]) "Elem").run Tryz.prog w = .ok (116, .agg #[h]) w := by kernel_rfl
theorem as_mImplements (h : Value) (w : World) : (Go.method 311 166 (.agg #[h]) "Implements").run Tryz.prog w = .ok (117, .agg #[h]) w := by kernel_rfl
theorem as_mAssignableTo (h : Value) (w : World) : (Go.method 311 166 (.agg #[h]) "AssignableTo").run Tryz.prog w = .ok (114, .agg #[h]) w := by kernel_rfl
theorem as_elemP (w : World) : (ReflectliteType.method ReflectliteType.elem #[.agg #[.pointer (some ⟨20, 134, none⟩)]]).run Tryz.prog w = .ok (.iface 166 (.agg #[.pointer (some ⟨20, 95, none⟩)])) w := by kernel_rfl
theorem as_implementsA (w : World) : (ReflectliteType.relation "Implements" ReflectliteType.implements_ #[.agg #[.pointer (some ⟨20, 95, none⟩)], .iface 166 (.agg #[.pointer (some ⟨20, 45, none⟩)])]).run Tryz.prog w = .ok (.bool true) w := by kernel_rfl
theorem as_typeOfA (v : Value) (w : World) : (ReflectliteType.typeOf #[.iface 95 v]).run Tryz.prog w = .ok (.iface 166 (.agg #[.pointer (some ⟨20, 95, none⟩)])) w := by kernel_rfl
theorem as_assignableA (w : World) : (ReflectliteType.relation "AssignableTo" ReflectliteType.assignableTo #[.agg #[.pointer (some ⟨20, 95, none⟩)], .iface 166 (.agg #[.pointer (some ⟨20, 95, none⟩)])]).run Tryz.prog w = .ok (.bool true) w := by kernel_rfl
theorem as_valueOfA (e : Addr) (w : World) : (ReflectliteValue.unpack (.iface 95 (.pointer (some e)))).run Tryz.prog w
  = .ok (.agg #[.pointer (some ⟨20, 95, none⟩), .pointer (some ⟨w.heap.size, 0, none⟩), .int .u64 150]) (w.alloc (.cells #[.pointer (some e)] 95)) := by kernel_rfl
theorem as_elemOfP (w : World) : (Rtype.elem? 134).run Tryz.prog w = .ok (some 95) w := by kernel_rfl
theorem as_mkA (p : Addr) (w : World) : (ReflectliteValue.mk 95 p ReflectliteValue.flagAddr).run Tryz.prog w = .ok (.agg #[.pointer (some ⟨20, 95, none⟩), .pointer (some p), .int .u64 406]) w := by kernel_rfl
theorem as_elemVP (a p : Addr) (W : World) (ha : W.cell? a = some (.pointer (some p))) :
  (ReflectliteValue.method (ReflectliteValue.valueError "reflectlite.Value.Elem" 0) ReflectliteValue.elem #[.agg #[.pointer (some ⟨20, 134, none⟩), .pointer (some a), .int .u64 150]]).run Tryz.prog W
   = .ok (.agg #[.pointer (some ⟨20, 95, none⟩), .pointer (some p), .int .u64 406]) W := by
 rw [rlm]
 simp only [Sem.run_bind, as_partsP, Result.andThen]
 simp [ReflectliteValue.elem, loadVar, isAgg, underlying, Tryz.underlying134, ha, Result.andThen, as_elemOfP, as_mkA]
theorem rls (v x : Value) : ReflectliteValue.set #[v, x] = (do
  let (some (dst, a, fl), some (src, b, _)) := (← ReflectliteValue.parts v, ← ReflectliteValue.parts x)
   | unsupported (.noEntry "extern/(internal/reflectlite.Value).Set.zeroValue")
  if fl / ReflectliteValue.flagAddr % 2 == 0 then unsupported (.noEntry "extern/(internal/reflectlite.Value).Set.unaddressable")
  let val ← loadVar src b
  if ← Rtype.directlyAssignable dst src then storeVar dst a val
  else if ← Rtype.implements dst src then
   if (← Rtype.kind src) == 20 then
    match val with
    | .nilIface => unsupported (.noEntry "extern/reflectlite: a nil value of one interface type handed on as a value of another")
    | _ => storeVar dst a val
   else storeVar dst a (.iface src val)
  else panicString ("reflectlite.Set: value of type " ++ (← Rtype.spelt src) ++ " is not assignable to type " ++ (← Rtype.spelt dst))
  pure (.tuple #[])) := rfl
theorem as_partsAa (a : Addr) (w : World) : (ReflectliteValue.parts (.agg #[.pointer (some ⟨20, 95, none⟩), .pointer (some a), .int .u64 406])).run Tryz.prog w = .ok (some (95, a, 406)) w := by kernel_rfl
theorem as_partsA (a : Addr) (w : World) : (ReflectliteValue.parts (.agg #[.pointer (some ⟨20, 95, none⟩), .pointer (some a), .int .u64 150])).run Tryz.prog w = .ok (some (95, a, 150)) w := by kernel_rfl
theorem as_directA (w : World) : (Rtype.directlyAssignable 95 95).run Tryz.prog w = .ok true w := by kernel_rfl
theorem as_setA (ta b e : Addr) (old : Value) (W : World) (hb : W.cell? b = some (.pointer (some e))) (ht : W.cell? ta = some old) (hf : W.frozen? ta = false) :
  (ReflectliteValue.set #[.agg #[.pointer (some ⟨20, 95, none⟩), .pointer (some ta), .int .u64 406], .agg #[.pointer (some ⟨20, 95, none⟩), .pointer (some b), .int .u64 150]]).run Tryz.prog W
   = .ok (.tuple #[]) (W.setCell ta (.pointer (some e))) := by
 rw [rls]
 simp only [Sem.run_bind, as_partsAa, as_partsA, Result.andThen]
 simp [ReflectliteValue.flagAddr, loadVar, isAgg, underlying, Tryz.underlying95, hb, Result.andThen, as_directA, storeVar, Value.cells, storeCells, Addr.add]
 rw [run_store Tryz.prog W ta _ _ (by rfl)]
 simp [ht, hf]
set_option maxHeartbeats 4000000 in
theorem as_hit (e t : Addr) (old : Value) (w : World) (hg : w.cell? ⟨17, 0, none⟩ = some (.iface 166 (.agg #[.pointer (some ⟨20, 45, none⟩)]))) (ht0 : w.cell? t = some old) (hf0 : w.frozen? t = false) :
  Calls Tryz.prog 60 #[.iface 95 (.pointer (some e)), .iface 134 (.pointer (some t))] w fun ev w' => ev = .returned (.bool true) ∧ w' = ((((w.alloc (.cells #[.pointer (some t)] 134)).alloc (.cells #[.pointer (some ⟨20, 134, none⟩), .pointer (some ⟨w.heap.size, 0, none⟩), .int .u64 150] 154)).alloc (.cells #[.pointer (some ⟨20, 134, none⟩), .pointer (some ⟨w.heap.size, 0, none⟩), .int .u64 150] 154)).alloc (.cells #[.pointer (some e)] 95)).setCell t (.pointer (some e)) := by
 have h6 := @run_callFunc_extern Tryz.prog 80 _ (fun args => ReflectliteValue.unpack (args.getD 0 (.tuple #[]))) Tryz.func80 (by kernel_rfl) (by kernel_rfl) (by kernel_rfl) (by kernel_rfl)
 have h7 := @run_callFunc_extern Tryz.prog 81 _ (ReflectliteValue.methodAny (ReflectliteValue.valueError "reflectlite.Value.Type" 0) (fun t _ _ _ => ReflectliteType.toType t)) Tryz.func81 (by kernel_rfl) (by kernel_rfl) (by kernel_rfl) (by kernel_rfl)
 have h8 := @run_callFunc_extern Tryz.prog 82 _ (ReflectliteValue.method (ReflectliteValue.valueError "reflectlite.Value.IsNil" 0) ReflectliteValue.isNil) Tryz.func82 (by kernel_rfl) (by kernel_rfl) (by kernel_rfl) (by kernel_rfl)
 have h27 := @run_callFunc_extern Tryz.prog 105 _ (ReflectliteType.abiMethod fun t => do pure (.int .u8 (← Rtype.kind t))) Tryz.func105 (by kernel_rfl) (by kernel_rfl) (by kernel_rfl) (by kernel_rfl)
 have h37 := @run_callFunc_extern Tryz.prog 116 _ (ReflectliteType.method ReflectliteType.elem) Tryz.func116 (by kernel_rfl) (by kernel_rfl) (by kernel_rfl) (by kernel_rfl)
 have h38 := @run_callFunc_extern Tryz.prog 117 _ (ReflectliteType.relation "Implements" ReflectliteType.implements_) Tryz.func117 (by kernel_rfl) (by kernel_rfl) (by kernel_rfl) (by kernel_rfl)
 have h10 := @run_callFunc_extern Tryz.prog 88 _ ReflectliteType.typeOf Tryz.func88 (by kernel_rfl) (by kernel_rfl) (by kernel_rfl) (by kernel_rfl)
 have h35 := @run_callFunc_extern Tryz.prog 114 _ (ReflectliteType.relation "AssignableTo" ReflectliteType.assignableTo) Tryz.func114 (by kernel_rfl) (by kernel_rfl) (by kernel_rfl) (by kernel_rfl)
 have h11 := @run_callFunc_extern Tryz.prog 89 _ (ReflectliteValue.method (ReflectliteValue.valueError "reflectlite.Value.Elem" 0) ReflectliteValue.elem) Tryz.func89 (by kernel_rfl) (by kernel_rfl) (by kernel_rfl) (by kernel_rfl)
 have h12 := @run_callFunc_extern Tryz.prog 90 _ ReflectliteValue.set Tryz.func90 (by kernel_rfl) (by kernel_rfl) (by kernel_rfl) (by kernel_rfl)
 have tO := as_typeOfA
 have mA := as_mAssignableTo
 have a25 := as_assignableA
 have v25 := as_valueOfA
 have f6 := as_valueOfP
 have f7 := as_typeP
 have mK := as_mKind
 have mE := as_mElem
 have mI := as_mImplements
 have k27 := as_kindP
 have k25 := as_kindA
 have e27 := as_elemP
 have i25 := as_implementsA
 have n8 := as_isNilP ⟨w.heap.size, 0, none⟩ t ((w.alloc (.cells #[.pointer (some t)] 134)).alloc (.cells #[.pointer (some ⟨20, 134, none⟩), .pointer (some ⟨w.heap.size, 0, none⟩), .int .u64 150] 154)) (by simp)
 have hlt : 17 < w.heap.size := by
  rcases Nat.lt_or_ge 17 w.heap.size with h | h
  ·exact h
  ·simp [World.cell?, Array.getElem?_eq_none h] at hg
 have hg2 : ((w.alloc (.cells #[.pointer (some t)] 134)).alloc (.cells #[.pointer (some ⟨20, 134, none⟩), .pointer (some ⟨w.heap.size, 0, none⟩), .int .u64 150] 154)).cell? ⟨17, 0, none⟩ = some (.iface 166 (.agg #[.pointer (some ⟨20, 45, none⟩)])) := by
  rw [World.cell?_alloc_lt _ _ ⟨17, 0, none⟩ (by simp; omega), World.cell?_alloc_lt _ _ ⟨17, 0, none⟩ hlt]; exact hg
 have htl : t.block < w.heap.size := by
  rcases Nat.lt_or_ge t.block w.heap.size with h | h
  ·exact h
  ·simp [World.cell?, Array.getElem?_eq_none h] at ht0
 have el := as_elemVP ⟨w.heap.size, 0, none⟩ t (((w.alloc (.cells #[.pointer (some t)] 134)).alloc (.cells #[.pointer (some ⟨20, 134, none⟩), .pointer (some ⟨w.heap.size, 0, none⟩), .int .u64 150] 154)).alloc (.cells #[.pointer (some ⟨20, 134, none⟩), .pointer (some ⟨w.heap.size, 0, none⟩), .int .u64 150] 154)) (by rw [World.cell?_alloc_lt _ _ ⟨w.heap.size, 0, none⟩ (by simp; omega)]; simp)
 have st := as_setA t ⟨w.heap.size + 1 + 1 + 1, 0, none⟩ e old ((((w.alloc (.cells #[.pointer (some t)] 134)).alloc (.cells #[.pointer (some ⟨20, 134, none⟩), .pointer (some ⟨w.heap.size, 0, none⟩), .int .u64 150] 154)).alloc (.cells #[.pointer (some ⟨20, 134, none⟩), .pointer (some ⟨w.heap.size, 0, none⟩), .int .u64 150] 154)).alloc (.cells #[.pointer (some e)] 95))
  (by rw [World.cell?_alloc_at _ _ _ _ (by simp)]; rfl)
  (by rw [World.cell?_alloc_lt _ _ t (by simp; omega), World.cell?_alloc_lt _ _ t (by simp; omega), World.cell?_alloc_lt _ _ t (by simp; omega), World.cell?_alloc_lt _ _ t htl]; exact ht0)
  (by rw [World.frozen?_alloc_old _ _ t (by simp; omega), World.frozen?_alloc_old _ _ t (by simp; omega), World.frozen?_alloc_old _ _ t (by simp; omega), World.frozen?_alloc_old _ _ t (Nat.ne_of_lt htl)]; exact hf0)
 go_enter Tryz.func60, Tryz.ntmps60
 go_wp2
 refine wp_loop_rounds 1 ?_
 rw [rounds_succ]
 go_wp2
 go_ret
 exact ⟨rfl, rfl⟩
end Go.Proofs.YtacmmedhjebfjaaGreatDoor
set_option linter.unusedVariables false
namespace Go.Proofs.YtacmmedhjebfjaaGreatDoor
open Go.RowKit Go.Extern.Stop Go.Stop Go.Extern
theorem as_typeOfE (v : Value) (w : World) : (ReflectliteType.typeOf #[.iface 178 v]).run Tryz.prog w = .ok (.iface 166 (.agg #[.pointer (some ⟨20, 178, none⟩)])) w := by kernel_rfl
theorem as_assignableE (w : World) : (ReflectliteType.relation "AssignableTo" ReflectliteType.assignableTo #[.agg #[.pointer (some ⟨20, 178, none⟩)], .iface 166 (.agg #[.pointer (some ⟨20, 95, none⟩)])]).run Tryz.prog w = .ok (.bool false) w := by kernel_rfl
theorem as_noAs (v : Value) (xT : TypeId) (w : World) : (Instr.typeAssert (.iface 178 v) xT 171 true).run Tryz.prog w = .ok (.tuple #[.nilIface, .bool false]) w := run_typeAssert_lacksB Tryz.underlying171 (by kernel_rfl) (by kernel_rfl) v xT w
theorem as_noUnwrap (v : Value) (xT : TypeId) (w : World) : (Instr.typeAssert (.iface 178 v) xT 174 true).run Tryz.prog w = .ok (.tuple #[.nilIface, .bool false]) w := run_typeAssert_lacksB Tryz.underlying174 (by kernel_rfl) (by kernel_rfl) v xT w
theorem as_noUnwraps (v : Value) (xT : TypeId) (w : World) : (Instr.typeAssert (.iface 178 v) xT 175 true).run Tryz.prog w = .ok (.tuple #[.nilIface, .bool false]) w := run_typeAssert_lacksB Tryz.underlying175 (by kernel_rfl) (by kernel_rfl) v xT w
set_option maxHeartbeats 4000000 in
theorem as_miss (v : Value) (t : Addr) (old : Value) (w : World) (hg : w.cell? ⟨17, 0, none⟩ = some (.iface 166 (.agg #[.pointer (some ⟨20, 45, none⟩)]))) (ht0 : w.cell? t = some old) (hf0 : w.frozen? t = false) :
  Calls Tryz.prog 60 #[.iface 178 v, .iface 134 (.pointer (some t))] w fun ev w' => ev = .returned (.bool false) ∧ w' = ((w.alloc (.cells #[.pointer (some t)] 134)).alloc (.cells #[.pointer (some ⟨20, 134, none⟩), .pointer (some ⟨w.heap.size, 0, none⟩), .int .u64 150] 154)).alloc (.cells #[.pointer (some ⟨20, 134, none⟩), .pointer (some ⟨w.heap.size, 0, none⟩), .int .u64 150] 154) := by
 have h6 := @run_callFunc_extern Tryz.prog 80 _ (fun args => ReflectliteValue.unpack (args.getD 0 (.tuple #[]))) Tryz.func80 (by kernel_rfl) (by kernel_rfl) (by kernel_rfl) (by kernel_rfl)
 have h7 := @run_callFunc_extern Tryz.prog 81 _ (ReflectliteValue.methodAny (ReflectliteValue.valueError "reflectlite.Value.Type" 0) (fun t _ _ _ => ReflectliteType.toType t)) Tryz.func81 (by kernel_rfl) (by kernel_rfl) (by kernel_rfl) (by kernel_rfl)
 have h8 := @run_callFunc_extern Tryz.prog 82 _ (ReflectliteValue.method (ReflectliteValue.valueError "reflectlite.Value.IsNil" 0) ReflectliteValue.isNil) Tryz.func82 (by kernel_rfl) (by kernel_rfl) (by kernel_rfl) (by kernel_rfl)
 have h27 := @run_callFunc_extern Tryz.prog 105 _ (ReflectliteType.abiMethod fun t => do pure (.int .u8 (← Rtype.kind t))) Tryz.func105 (by kernel_rfl) (by kernel_rfl) (by kernel_rfl) (by kernel_rfl)
 have h37 := @run_callFunc_extern Tryz.prog 116 _ (ReflectliteType.method ReflectliteType.elem) Tryz.func116 (by kernel_rfl) (by kernel_rfl) (by kernel_rfl) (by kernel_rfl)
 have h38 := @run_callFunc_extern Tryz.prog 117 _ (ReflectliteType.relation "Implements" ReflectliteType.implements_) Tryz.func117 (by kernel_rfl) (by kernel_rfl) (by kernel_rfl) (by kernel_rfl)
 have h10 := @run_callFunc_extern Tryz.prog 88 _ ReflectliteType.typeOf Tryz.func88 (by kernel_rfl) (by kernel_rfl) (by kernel_rfl) (by kernel_rfl)
 have h35 := @run_callFunc_extern Tryz.prog 114 _ (ReflectliteType.relation "AssignableTo" ReflectliteType.assignableTo) Tryz.func114 (by kernel_rfl) (by kernel_rfl) (by kernel_rfl) (by kernel_rfl)
 have h11 := @run_callFunc_extern Tryz.prog 89 _ (ReflectliteValue.method (ReflectliteValue.valueError "reflectlite.Value.Elem" 0) ReflectliteValue.elem) Tryz.func89 (by kernel_rfl) (by kernel_rfl) (by kernel_rfl) (by kernel_rfl)
 have h12 := @run_callFunc_extern Tryz.prog 90 _ ReflectliteValue.set Tryz.func90 (by kernel_rfl) (by kernel_rfl) (by kernel_rfl) (by kernel_rfl)
 have mA := as_mAssignableTo
 have f6 := as_valueOfP
 have f7 := as_typeP
 have mK := as_mKind
 have mE := as_mElem
 have mI := as_mImplements
 have k27 := as_kindP
 have k25 := as_kindA
 have e27 := as_elemP
 have i25 := as_implementsA
 have n8 := as_isNilP ⟨w.heap.size, 0, none⟩ t ((w.alloc (.cells #[.pointer (some t)] 134)).alloc (.cells #[.pointer (some ⟨20, 134, none⟩), .pointer (some ⟨w.heap.size, 0, none⟩), .int .u64 150] 154)) (by simp)
 have hlt : 17 < w.heap.size := by
  rcases Nat.lt_or_ge 17 w.heap.size with h | h
  ·exact h
  ·simp [World.cell?, Array.getElem?_eq_none h] at hg
 have hg2 : ((w.alloc (.cells #[.pointer (some t)] 134)).alloc (.cells #[.pointer (some ⟨20, 134, none⟩), .pointer (some ⟨w.heap.size, 0, none⟩), .int .u64 150] 154)).cell? ⟨17, 0, none⟩ = some (.iface 166 (.agg #[.pointer (some ⟨20, 45, none⟩)])) := by
  rw [World.cell?_alloc_lt _ _ ⟨17, 0, none⟩ (by simp; omega), World.cell?_alloc_lt _ _ ⟨17, 0, none⟩ hlt]; exact hg
 have htl : t.block < w.heap.size := by
  rcases Nat.lt_or_ge t.block w.heap.size with h | h
  ·exact h
  ·simp [World.cell?, Array.getElem?_eq_none h] at ht0
 have tE := as_typeOfE
 have aE := as_assignableE
 have u1 := as_noAs
 have u2 := as_noUnwrap
 have u3 := as_noUnwraps
 go_enter Tryz.func60, Tryz.ntmps60
 go_wp2
 refine wp_loop_rounds 1 ?_
 rw [rounds_succ]
 go_wp2
 go_ret
 exact ⟨rfl, rfl⟩
end Go.Proofs.YtacmmedhjebfjaaGreatDoor
set_option linter.unusedVariables false
set_option linter.unusedSimpArgs false
namespace Go.Proofs.YtacmmedhjebfjaaGreatDoor
open Go.RowKit Go.Sy
structure Box (P : Prop) : Prop where
 h : P
theorem Box.of {A B : Prop} (e : A = B) (h : B) : Box A := ⟨e.mpr h⟩
abbrev bodyOf (f : Func) : Code := f.body.getD .skip
section
variable {ea : Ear} {has : Int → Prop} {gl : List (Nat × SVal)}
abbrev plainQ (v : SVal) : Exi → SState → Prop := fun _ s => all (sub tAtN (lookS s.hp) [] deep ((find 0 s.fr).getD .any) v)
abbrev start (args : List SVal) (n : Nat) : SState := { fr := numb 0 args, hp := [], next := 0, sz := n }
theorem plain_mk {f : Nat} {fn : Func} {k : List SVal → Nat → Acc ORes} (hf : Tryz.prog.funcs[f]? = some fn) (n : Nat) {con : List (Nat × (List SVal → Nat → Acc ORes))} (hcon : Cons Tryz.prog (ctx ea has) gl con)
  (hk : ∀ {W : World} {R : Nat → Prop} {ρ : Nat → Option Value} {h : Nat → Option Cont} {args : List SVal} {vs : List Value} {next : Nat} {r : ORes} {l l' : List Nat}, DenA (ctx ea has) W R ρ args vs → (k args next).run h l = .ok (r, l') → (∀ q, r.vc = some q → q) →
   ∃ args' ls, r.ws = [] ∧ r.k = 0 ∧ all (subL tAtN none' [] deep args args') ∧ Nat.ble args'.length n = true ∧
    (∀ W R ρ0 own0, HownOk (env gl con) own0 ρ0 → ∀ b ∈ loopsOf (bodyOf fn), ∀ L, find (headId b) ls = some L → LOk Tryz.prog (env gl con) (ctx ea has) gl W R own0 ρ0 b L) ∧
    (run (env gl con) ls (bodyOf fn) (start args' n) (ends (env gl con) fn.results.toList)).sat (plainQ r.v))
  (hb : fn.body = some (bodyOf fn)) (hname : (fn.name == "runtime.NumGoroutine") = false) (hnt : fn.ntmps = n) : Con ea has gl f k where
 call := enters hf hb hname
 does {W R ρ h args vs next r l l'} M hA hr hv hn := by
  obtain ⟨args', ls, h1, h2, h3, h4, HL, h5⟩ := hk hA hr hv
  exact con_plain (env_ok hcon) rfl hf hb M (Enters.bare M hA (all_mem h3)) ⟨rfl, (by rw [h1]; intro p hp; cases hp), h2⟩ rfl hnt h4 HL h5
theorem plain_mkB {f : Nat} {fn : Func} {k : List SVal → Nat → Acc ORes} (hf : Tryz.prog.funcs[f]? = some fn) (n : Nat) {con : List (Nat × (List SVal → Nat → Acc ORes))} (hcon : Cons Tryz.prog (ctx ea has) gl con)
  (hk : ∀ {W : World} {R : Nat → Prop} {ρ : Nat → Option Value} {h : Nat → Option Cont} {args : List SVal} {vs : List Value} {next : Nat} {r : ORes} {l l' : List Nat}, DenA (ctx ea has) W R ρ args vs → (k args next).run h l = .ok (r, l') → (∀ q, r.vc = some q → q) →
   ∃ args' ls, r.ws = [] ∧ r.k = 0 ∧ Box (all (subL tAtN none' [] deep args args')) ∧ Nat.ble args'.length n = true ∧
    (∀ W R ρ0 own0, HownOk (env gl con) own0 ρ0 → ∀ b ∈ loopsOf (bodyOf fn), ∀ L, find (headId b) ls = some L → LOk Tryz.prog (env gl con) (ctx ea has) gl W R own0 ρ0 b L) ∧
    Box ((run (env gl con) ls (bodyOf fn) (start args' n) (ends (env gl con) fn.results.toList)).sat (plainQ r.v)))
  (hb : fn.body = some (bodyOf fn)) (hname : (fn.name == "runtime.NumGoroutine") = false) (hnt : fn.ntmps = n) : Con ea has gl f k :=
 plain_mk hf n hcon (fun hA hr hv => by
  obtain ⟨args', ls, h1, h2, ⟨h3⟩, h4, HL, ⟨h5⟩⟩ := hk hA hr hv
  exact ⟨args', ls, h1, h2, h3, h4, HL, h5⟩) hb hname hnt
theorem new_mk {f : Nat} {fn : Func} {k : List SVal → Nat → Acc ORes} (hf : Tryz.prog.funcs[f]? = some fn) (n : Nat) {con : List (Nat × (List SVal → Nat → Acc ORes))} (hcon : Cons Tryz.prog (ctx ea has) gl con)
  (hk : ∀ {W : World} {R : Nat → Prop} {ρ : Nat → Option Value} {h : Nat → Option Cont} {args : List SVal} {vs : List Value} {next : Nat} {r : ORes} {l l' : List Nat}, DenA (ctx ea has) W R ρ args vs → (k args next).run h l = .ok (r, l') → (∀ q, r.vc = some q → q) →
   ∃ args' ls rv hp m, (r.v = shV next rv ∧ r.ws = shH next hp ∧ r.k = m) ∧ all (subL tAtN none' [] deep args args') ∧ Nat.ble args'.length n = true ∧ (nodupB (keysH hp) && allLt m (keysH hp) && boundIn (keysH hp) m) = true ∧
    (∀ W R ρ0 own0, HownOk (env gl con) own0 ρ0 → ∀ b ∈ loopsOf (bodyOf fn), ∀ L, find (headId b) ls = some L → LOk Tryz.prog (env gl con) (ctx ea has) gl W R own0 ρ0 b L) ∧
    (run (env gl con) ls (bodyOf fn) (start args' n) (ends (env gl con) fn.results.toList)).sat (newQ (env gl con) rv hp m))
  (hb : fn.body = some (bodyOf fn)) (hname : (fn.name == "runtime.NumGoroutine") = false) (hnt : fn.ntmps = n) : Con ea has gl f k where
 call := enters hf hb hname
 does {W R ρ h args vs next r l l'} M hA hr hv hn := by
  obtain ⟨args', ls, rv, hp, m, h1, h3, h4, h6, HL, h5⟩ := hk hA hr hv
  exact con_new (env_ok hcon) rfl hf hb M (fz := []) (Enters.bare M hA (all_mem h3)) h1 (fun p hp => by cases hp) hn rfl hnt h4 h6 HL h5
theorem new_mkB {f : Nat} {fn : Func} {k : List SVal → Nat → Acc ORes} (hf : Tryz.prog.funcs[f]? = some fn) (n : Nat) {con : List (Nat × (List SVal → Nat → Acc ORes))} (hcon : Cons Tryz.prog (ctx ea has) gl con)
  (hk : ∀ {W : World} {R : Nat → Prop} {ρ : Nat → Option Value} {h : Nat → Option Cont} {args : List SVal} {vs : List Value} {next : Nat} {r : ORes} {l l' : List Nat}, DenA (ctx ea has) W R ρ args vs → (k args next).run h l = .ok (r, l') → (∀ q, r.vc = some q → q) →
   ∃ args' ls rv hp m, (r.v = shV next rv ∧ r.ws = shH next hp ∧ r.k = m) ∧ Box (all (subL tAtN none' [] deep args args')) ∧ Nat.ble args'.length n = true ∧ (nodupB (keysH hp) && allLt m (keysH hp) && boundIn (keysH hp) m) = true ∧
    (∀ W R ρ0 own0, HownOk (env gl con) own0 ρ0 → ∀ b ∈ loopsOf (bodyOf fn), ∀ L, find (headId b) ls = some L → LOk Tryz.prog (env gl con) (ctx ea has) gl W R own0 ρ0 b L) ∧
    Box ((run (env gl con) ls (bodyOf fn) (start args' n) (ends (env gl con) fn.results.toList)).sat (newQ (env gl con) rv hp m)))
  (hb : fn.body = some (bodyOf fn)) (hname : (fn.name == "runtime.NumGoroutine") = false) (hnt : fn.ntmps = n) : Con ea has gl f k :=
 new_mk hf n hcon (fun hA hr hv => by
  obtain ⟨args', ls, rv, hp, m, h1, ⟨h3⟩, h4, h6, HL, ⟨h5⟩⟩ := hk hA hr hv
  exact ⟨args', ls, rv, hp, m, h1, h3, h4, h6, HL, h5⟩) hb hname hnt
def LastIs (h : Nat → Option Cont) (a0 : List SVal) (t : RT) (x : List t.ty) (args : List SVal) (ws : List (Nat × Option Cont)) : Prop :=
 (args = a0 ++ [.ro t x] ∧ ws = []) ∨ (args = a0 ++ [.nilslice] ∧ x = [] ∧ ws = []) ∨ ∃ q, args = a0 ++ [.own q] ∧ h q = some (.recs t x) ∧ ws = [(q, none)]
theorem nil_ro {C : Ctx} {W : World} {R : Nat → Prop} {ρ : Nat → Option Value} {t : RT} : ∀ {l : List SVal} {vs : List Value}, DenA C W R ρ (l ++ [.nilslice]) vs → DenA C W R ρ (l ++ [.ro t []]) vs := by
 intro l
 induction l with
 | nil =>
  intro vs h
  cases h with
  | cons _ v _ us h1 h2 =>
   cases h2
   refine .cons _ _ _ _ ?_ .nil
   cases h1
   exact .ro _ [] none 0 [] (Nat.le_refl _) (Nat.zero_le _) .nil (fun h => (h rfl).elim) fun _ => rfl
 | cons a l ih =>
  intro vs h
  cases h with
  | cons _ v _ us h1 h2 => exact .cons _ _ _ _ h1 (ih h2)
theorem last_enters {W : World} {R : Nat → Prop} {ρ : Nat → Option Value} {h : Nat → Option Cont} {r : ORes} {args : List SVal} {vs : List Value} (M : Mem (ctx ea has) gl W R ρ h) {a0 a' : List SVal} {t : RT} {x : List t.ty} {fz : List (Nat × Option Cont)}
  (hL : LastIs h a0 t x args fz) (hk : ∀ n ∈ keys fz, n ∈ keys r.ws) (hA : DenA (ctx ea has) W R ρ args vs) (h3 : all (subL tAtN none' [] deep a0 a')) : ∃ R1 own0, Enters (ctx ea has) gl W R ρ h r R1 own0 (fun _ => none) [] 0 (a' ++ [.ro t x]) vs := by
 rcases hL with ⟨rfl, _⟩ | ⟨rfl, rfl, _⟩ | ⟨q, rfl, hq, rfl⟩
 ·exact ⟨_, _, Enters.last M hA (all_mem h3)⟩
 ·exact ⟨_, _, Enters.last M (nil_ro hA) (all_mem h3)⟩
 ·exact Enters.frozen M hq (hk q (by simp [keys])) hA (all_mem h3)
theorem last_fz {W : World} {R : Nat → Prop} {ρ : Nat → Option Value} {h : Nat → Option Cont} {args : List SVal} (M : Mem (ctx ea has) gl W R ρ h) {a0 : List SVal} {t : RT} {x : List t.ty} {fz : List (Nat × Option Cont)}
  (hL : LastIs h a0 t x args fz) : ∀ p ∈ fz, p.2 = none ∧ ρ p.1 ≠ none := by
 rcases hL with ⟨_, rfl⟩ | ⟨_, _, rfl⟩ | ⟨q, _, hq, rfl⟩
 ·intro p hp; cases hp
 ·intro p hp; cases hp
 ·intro p hp
  simp only [List.mem_singleton] at hp
  subst hp
  obtain ⟨v, hv, _⟩ := M.at_ q _ hq
  exact ⟨rfl, by rw [hv]; simp⟩
theorem lastP_mk {f : Nat} {fn : Func} {k : List SVal → Nat → Acc ORes} (hf : Tryz.prog.funcs[f]? = some fn) (n : Nat) {con : List (Nat × (List SVal → Nat → Acc ORes))} (hcon : Cons Tryz.prog (ctx ea has) gl con)
  (hk : ∀ {W : World} {R : Nat → Prop} {ρ : Nat → Option Value} {h : Nat → Option Cont} {args : List SVal} {vs : List Value} {next : Nat} {r : ORes} {l l' : List Nat}, DenA (ctx ea has) W R ρ args vs → (k args next).run h l = .ok (r, l') → (∀ q, r.vc = some q → q) →
   ∃ a0 t x a' ls, LastIs h a0 t x args r.ws ∧ r.k = 0 ∧ all (subL tAtN none' [] deep a0 a') ∧ Nat.ble (a' ++ [SVal.ro t x]).length n = true ∧
    (∀ W R ρ0 own0, HownOk (env gl con) own0 ρ0 → ∀ b ∈ loopsOf (bodyOf fn), ∀ L, find (headId b) ls = some L → LOk Tryz.prog (env gl con) (ctx ea has) gl W R own0 ρ0 b L) ∧
    (run (env gl con) ls (bodyOf fn) (start (a' ++ [.ro t x]) n) (ends (env gl con) fn.results.toList)).sat (plainQ r.v))
  (hb : fn.body = some (bodyOf fn)) (hname : (fn.name == "runtime.NumGoroutine") = false) (hnt : fn.ntmps = n) : Con ea has gl f k where
 call := enters hf hb hname
 does {W R ρ h args vs next r l l'} M hA hr hv hn := by
  obtain ⟨a0, t, x, a', ls, h1, h2, h3, h4, HL, h5⟩ := hk hA hr hv
  obtain ⟨R1, own0, S⟩ := last_enters M (r := r) h1 (fun _ h => h) hA h3
  exact con_plain (env_ok hcon) rfl hf hb M S ⟨rfl, fun p hp => (last_fz M h1 p hp).1, h2⟩ rfl hnt h4 HL h5
abbrev envO (gl : List (Nat × SVal)) (con : List (Nat × (List SVal → Nat → Acc ORes))) : Env := { env gl con with old := [0] }
theorem envO_ok {con : List (Nat × (List SVal → Nat → Acc ORes))} (h : Cons Tryz.prog (ctx ea has) gl con) : EnvOk Tryz.prog (ctx ea has) gl (envO gl con) :=
 let e := env_ok h
 ⟨e.tab, e.err, e.glob, e.tAt, e.mixed, e.con, e.cmp⟩
abbrev mapQ (gl : List (Nat × SVal)) (con : List (Nat × (List SVal → Nat → Acc ORes))) (v : SVal) (c1 : Cont) : Exi → SState → Prop := fun _ s => fits (envO gl con) s { fr := [(0, v)], hp := [(0, some c1)], next := 1, sz := 1 }
abbrev startM (args : List SVal) (c : Cont) (n : Nat) : SState := { fr := numb 0 (args ++ [.map 0]), hp := [(0, some c)], next := 1, sz := n }
theorem map_mk {f : Nat} {fn : Func} {k : List SVal → Nat → Acc ORes} (hf : Tryz.prog.funcs[f]? = some fn) (n : Nat) {con : List (Nat × (List SVal → Nat → Acc ORes))} (hcon : Cons Tryz.prog (ctx ea has) gl con)
  (hk : ∀ {W : World} {R : Nat → Prop} {ρ : Nat → Option Value} {h : Nat → Option Cont} {args : List SVal} {vs : List Value} {next : Nat} {r : ORes} {l l' : List Nat}, DenA (ctx ea has) W R ρ args vs → (k args next).run h l = .ok (r, l') → (∀ q, r.vc = some q → q) →
   ∃ a0 q c0 c1 a' ls, args = a0 ++ [.map q] ∧ h q = some c0 ∧ (isMapC c0 && isMapC c1) = true ∧ (plain r.v = true ∧ r.ws = [(q, some c1)] ∧ r.k = 0) ∧ all (subL tAtN none' [] deep a0 a') ∧ Nat.ble (a'.length + 1) n = true ∧
    (∀ W R ρ0 own0, HownOk (envO gl con) own0 ρ0 → ∀ b ∈ loopsOf (bodyOf fn), ∀ L, find (headId b) ls = some L → LOk Tryz.prog (envO gl con) (ctx ea has) gl W R own0 ρ0 b L) ∧
    (run (envO gl con) ls (bodyOf fn) (startM a' c0 n) (ends (envO gl con) fn.results.toList)).sat (mapQ gl con r.v c1))
  (hb : fn.body = some (bodyOf fn)) (hname : (fn.name == "runtime.NumGoroutine") = false) (hnt : fn.ntmps = n) : Con ea has gl f k where
 call := enters hf hb hname
 does {W R ρ h args vs next r l l'} M hA hr hv hn := by
  obtain ⟨a0, q, c0, c1, a', ls, rfl, h1, h2, h3, h4, h5, HL, h6⟩ := hk hA hr hv
  exact con_map (envO_ok hcon) rfl hf hb M hA (next := next) h1 h2 h3 rfl hnt (all_mem h4) h5 HL h6
abbrev envK (gl : List (Nat × SVal)) (con : List (Nat × (List SVal → Nat → Acc ORes))) (m : Nat) : Env := { env gl con with old := rangeN 0 m }
theorem envK_ok {con : List (Nat × (List SVal → Nat → Acc ORes))} {m : Nat} (h : Cons Tryz.prog (ctx ea has) gl con) : EnvOk Tryz.prog (ctx ea has) gl (envK gl con m) :=
 let e := env_ok h
 ⟨e.tab, e.err, e.glob, e.tAt, e.mixed, e.con, e.cmp⟩
def handsOk (h : Nat → Option Cont) (f : Nat → Nat) : List Nat → List Cont → Prop
 | [], [] => True
 | q :: qs, c :: cs => h q = some (rnC f c) ∧ handsOk h f qs cs
 | _, _ => False
theorem hands_of {h : Nat → Option Cont} {f : Nat → Nat} : ∀ {qs : List Nat} {cs : List Cont}, handsOk h f qs cs → cs.length = qs.length ∧ ∀ (i q : Nat) (c : Cont), qs[i]? = some q → cs[i]? = some c → h q = some (rnC f c)
 | [], [], _ => ⟨rfl, fun i q c h1 => by simp at h1⟩
 | q :: qs, c :: cs, ⟨h1, h2⟩ => by
  obtain ⟨e1, e2⟩ := hands_of h2
  refine ⟨by simp [e1], fun i q' c' k1 k2 => ?_⟩
  cases i with
  | zero => simp at k1 k2; subst k1 k2; exact h1
  | succ i => exact e2 i q' c' (by simpa using k1) (by simpa using k2)
 | [], _ :: _, h => h.elim
 | _ :: _, [], h => h.elim
abbrev S1 (args : List SVal) (hp : List (Nat × Option Cont)) (next n : Nat) : SState := { fr := numb 0 args, hp := hp, next := next, sz := n }
theorem gen_mk {f : Nat} {fn : Func} {k : List SVal → Nat → Acc ORes} (hf : Tryz.prog.funcs[f]? = some fn) (n m : Nat) {con : List (Nat × (List SVal → Nat → Acc ORes))} (hcon : Cons Tryz.prog (ctx ea has) gl con)
  (hk : ∀ {W : World} {R : Nat → Prop} {ρ : Nat → Option Value} {h : Nat → Option Cont} {args : List SVal} {vs : List Value} {next : Nat} {r : ORes} {l l' : List Nat}, DenA (ctx ea has) W R ρ args vs → (k args next).run h l = .ok (r, l') → (∀ q, r.vc = some q → q) →
   ∃ kept rest cs args0 s1 ls rv hp j, args = rnL (gq (kept ++ rest)) args0 ∧ kept.length = m ∧ (r.v = rnV (fN kept next) rv ∧ r.ws = gone rest ++ rnH (fN kept next) hp ∧ r.k = j) ∧ nodupB (kept ++ rest) = true ∧ handsOk h (gq (kept ++ rest)) (kept ++ rest) cs ∧
    (okL (kept ++ rest).length args0 && cs.all (okC (kept ++ rest).length)) = true ∧ Nat.ble args0.length n = true ∧
    Box (fits (envK gl con m) (S1 args0 (numC 0 cs) (kept ++ rest).length n) s1) ∧ (nodupB (keysH hp) && allLt (m + j) (keysH hp) && boundIn (keysH hp) (m + j)) = true ∧
    (∀ W R ρ0 own0, HownOk (envK gl con m) own0 ρ0 → ∀ b ∈ loopsOf (bodyOf fn), ∀ L, find (headId b) ls = some L → LOk Tryz.prog (envK gl con m) (ctx ea has) gl W R own0 ρ0 b L) ∧
    Box ((run (envK gl con m) ls (bodyOf fn) s1 (ends (envK gl con m) fn.results.toList)).sat (newQ (envK gl con m) rv hp (m + j))))
  (hb : fn.body = some (bodyOf fn)) (hname : (fn.name == "runtime.NumGoroutine") = false) (hnt : fn.ntmps = n) : Con ea has gl f k where
 call := enters hf hb hname
 does {W R ρ h args vs next r l l'} M hA hr hv hn := by
  obtain ⟨kept, rest, cs, args0, s1, ls, rv, hp, j, rfl, rfl, h2, h3, h4, h5, h6, ⟨h7⟩, h8, HL, ⟨h9⟩⟩ := hk hA hr hv
  obtain ⟨e1, e2⟩ := hands_of h4
  refine con_gen (envK_ok hcon) rfl hf hb M hA h2 (fun p hp => (gone_find (K := rest) (n := p.1) (c := p.2) ?_).2) hn rfl e1 h3 e2 (fun q hq => ?_) h5 rfl hnt h6 h7 h8 HL h9
  ·have gen : ∀ (L : List Nat) (p : Nat × Option Cont), p ∈ gone L → find p.1 (gone L) = some p.2 := fun L => by
    induction L with
    | nil => intro p hp; cases hp
    | cons q L ih =>
     intro p hp
     simp only [gone, find]
     cases hb : q.beq p.1 with
     | true =>
      have all : ∀ L, ∀ p ∈ gone L, p.2 = none := fun L => by
       induction L with
       | nil => intro p hp; cases hp
       | cons q L ih =>
        intro p hp
        rcases List.mem_cons.1 hp with rfl | hp
        ·rfl
        ·exact ih p hp
      rw [all _ p hp]
     | false =>
      rcases List.mem_cons.1 hp with rfl | hp
      ·rw [Nat.beq_refl] at hb; cases hb
      ·exact ih p hp
   exact gen rest p hp
  ·rw [h2.2.1]
   simp only [keys, List.map_append, List.mem_append] at hq ⊢
   rcases hq with hq | hq
   ·obtain ⟨i, hi⟩ := List.mem_iff_getElem?.1 hq
    have hlt : i < kept.length := (List.getElem?_eq_some_iff.1 hi).1
    obtain ⟨q', g1, g2⟩ := fN_lt (next := next) hlt
    rw [hi] at g1; cases g1
    right
    simp only [Bool.and_eq_true] at h8
    have := rnH_key (f := fN kept next) (boundIn_of h8.2 i (by omega))
    rw [g2] at this
    exact this
   ·exact .inl (gone_keys.2 hq)
theorem noLoops {c : Code} (h : loopsOf c = []) {Z : Code → LSum → Prop} {ls : List (Nat × LSum)} : ∀ b ∈ loopsOf c, ∀ L, find (headId b) ls = some L → Z b L := fun b hb => by rw [h] at hb; cases hb
theorem noSums {c : Code} {ls : List (Nat × LSum)} (h : ((loopsOf c).all fun b => (find (headId b) ls).isNone) = true) {Z : Code → LSum → Prop} : ∀ b ∈ loopsOf c, ∀ L, find (headId b) ls = some L → Z b L := fun b hb L hL => by
 have := List.all_eq_true.1 h b hb
 rw [hL] at this; cases this
def nilR (t : RT) : List t.ty := []
theorem DenA.i0 {C : Ctx} {W : World} {R : Nat → Prop} {ρ : Nat → Option Value} {k : IntKind} {a : SI} {l : List SVal} {vs : List Value} (h : DenA C W R ρ (.int k a :: l) vs) : InI k a := by
 cases h with | cons _ _ _ _ h _ => exact h.int_inv.2
theorem DenA.tl {C : Ctx} {W : World} {R : Nat → Prop} {ρ : Nat → Option Value} {a : SVal} {l : List SVal} {vs : List Value} (h : DenA C W R ρ (a :: l) vs) : ∃ us, DenA C W R ρ l us := by
 cases h with | cons _ _ _ us _ h => exact ⟨us, h⟩
end
end Go.Proofs.YtacmmedhjebfjaaGreatDoor
set_option linter.unusedVariables false
set_option linter.unusedSimpArgs false
set_option linter.unusedSectionVars false
namespace Go.Proofs.YtacmmedhjebfjaaGreatDoor
open Go.RowKit Go.Sy
structure EType (ea : Ear) : Prop where
 et : ∃ T s, ea.fix 17 = some (.cells #[.iface 166 (.agg #[.pointer (some ⟨20, 45, none⟩)])] T s)
section
variable {ea : Ear} {has : Int → Prop} {gl : List (Nat × SVal)} [ht : Nonempty (EType ea)]
def kErrAs : List SVal → Nat → Acc ORes := fun a n => match a with
 | [.err e, .iface 134 (.ptr q 0)] => .look q fun
  | some (.cells [.nilptr]) => .ret { v := .bool (.sym e.isPlaced), ws := [(q, some (.cells [.atp e]))], vc := some (e.isErr = true) }
  | _ => .fail "As"
 | _ => .fail "As"
theorem keep4 (W : World) (o1 o2 o3 o4 : Obj) (a : Addr) (v : Value) (k : Nat) (hk : k < W.heap.size) (hka : k ≠ a.block) : (((((W.alloc o1).alloc o2).alloc o3).alloc o4).setCell a v).heap[k]? = W.heap[k]? := by
 rw [Below.heap_setCell _ _ _ _ hka, Below.heap_alloc _ _ _ (by simp; omega), Below.heap_alloc _ _ _ (by simp; omega), Below.heap_alloc _ _ _ (by simp; omega), Below.heap_alloc _ _ _ hk]
theorem at4 (W : World) (o1 o2 o3 o4 : Obj) {b : Nat} (v : Value) {u : Value} {T : Nat} {s : Nat × Nat} (hh : W.heap[b]? = some (.cells #[u] T s)) : (((((W.alloc o1).alloc o2).alloc o3).alloc o4).setCell ⟨b, 0, none⟩ v).heap[b]? = some (.cells #[v] T s) := by
 have hk : b < W.heap.size := (Array.getElem?_eq_some_iff.1 hh).1
 have e : ((((W.alloc o1).alloc o2).alloc o3).alloc o4).heap[b]? = some (.cells #[u] T s) := by
  rw [Below.heap_alloc _ _ _ (by simp; omega), Below.heap_alloc _ _ _ (by simp; omega), Below.heap_alloc _ _ _ (by simp; omega), Below.heap_alloc _ _ _ hk]; exact hh
 show (((((W.alloc o1).alloc o2).alloc o3).alloc o4).heap.modify b _)[b]? = _
 rw [Array.getElem?_modify, if_pos rfl, e]
 rfl
theorem as_trans {C : Ctx} {W W' : World} {R : Nat → Prop} {ρ : Nat → Option Value} {h : Nat → Option Cont} (M : Mem C gl W R ρ h) {q b : Nat} {c0 : Cont} {v : Value} {T : Nat} {e : FErr} (hq : h q = some c0) (hv : ρ q = some (.pointer (some ⟨b, 0, none⟩)))
  (os : W'.os = W.os) (tape : W'.tape = W.tape) (output : W'.output = W.output) (size : W.heap.size ≤ W'.heap.size) (keep : ∀ k, k < W.heap.size → k ≠ b → W'.heap[k]? = W.heap[k]?)
  (hb : W'.heap[b]? = some (.cells #[v] T (0, 0))) (hd : (∀ b, R b → W'.heap[b]? = W.heap[b]?) → Den C W' R ρ (.atp e) v) (h1 : v.oneCell' = true) : Trans C gl W R ρ h [(q, some (.cells [.atp e]))] W' R ρ := by
 refine Trans.gen M os tape output size (fun _ _ h => h) (fun _ _ h => .inl h) (fun k hk hx => keep k hk fun e => hx q c0 _ (by simp [keys]) hq hv (by simp [blk, e])) (fun kR r c' hf => ?_) (fun r r' c1 c2 h1 h2 => ?_)
 ·obtain ⟨rfl, e⟩ := find_one hf
  cases e
  exact ⟨_, hv, ⟨b, [v], T, rfl, hb, .one _ _ _ _ rfl h1 (hd kR) .nil⟩, fun b' hb' => .inl ⟨r, c0, _, by simp [keys], hq, hv, hb'⟩⟩
 ·rw [(find_one h1).1, (find_one h2).1]
theorem cErrAs : Con ea has gl 60 kErrAs where
 call := enters Tryz.func60 (c := bodyOf Tryz.f60) (by kernel_rfl) (by kernel_rfl)
 does {W R ρ h args vs next r l l'} M hA hr hv hn := by
  obtain ⟨T5, s5, h5⟩ := (Classical.choice ht).et
  unfold kErrAs at hr; split at hr
  ·rename_i e q
   simp only [Acc.run] at hr
   split at hr
   ·rename_i hc
    have := ret_ok hr; subst this
    have he : e.isErr = true := hv _ rfl
    obtain ⟨v', hv', b, us, T, rfl, hh, hl⟩ := M.at_ _ _ hc
    obtain ⟨u, us', rfl, _, hu, hn'⟩ := hl.inv_one rfl
    cases hn'
    cases hu
    cases hA with | cons _ v0 _ us h1 h2 => ?_
    cases h2 with | cons _ v1 _ us2 h3 h4 => ?_
    cases h4
    cases h3 with | iface _ _ pv hp => ?_
    cases hp with | ptr _ _ b' hb' => ?_
    rw [hv'] at hb'; cases hb'
    have hlt : b < W.heap.size := (Array.getElem?_eq_some_iff.1 hh).1
    have hg : W.cell? ⟨17, 0, none⟩ = some (.iface 166 (.agg #[.pointer (some ⟨20, 45, none⟩)])) := by
     have := (M.base.fix _ _ h5).2
     simp [World.cell?, this]
    have ht0 : W.cell? ⟨b, 0, none⟩ = some (.pointer none) := by simp [World.cell?, hh]
    have hf0 : W.frozen? ⟨b, 0, none⟩ = false := by simp [World.frozen?, hh]
    cases h1 with
    | fine => cases he
    | bare n hn1 =>
     refine (as_miss _ ⟨b, 0, none⟩ _ W hg ht0 hf0).mono fun ev w' ⟨h1, h2⟩ => ⟨_, R, ρ, h1, ?_, .bool (.sym false)⟩
     subst h2
     refine as_trans M (T := T) hc hv' rfl rfl rfl (by simp; omega) (fun k hk _ => ?_) ?_ (fun _ => .atnil _ rfl) rfl
     ·rw [Below.heap_alloc _ _ _ (by simp; omega), Below.heap_alloc _ _ _ (by simp; omega), Below.heap_alloc _ _ _ hk]
     ·rw [Below.heap_alloc _ _ _ (by simp; omega), Below.heap_alloc _ _ _ (by simp; omega), Below.heap_alloc _ _ _ hlt]; exact hh
    | placed n p be off g1 g2 g3 g4 g5 =>
     refine (as_hit ⟨be, off, none⟩ ⟨b, 0, none⟩ _ W hg ht0 hf0).mono fun ev w' ⟨h1, h2⟩ => ⟨_, R, ρ, h1, ?_, .bool (.sym true)⟩
     subst h2
     refine as_trans M (T := T) hc hv' rfl rfl rfl (by simp [World.setCell]; omega) (fun k hk hkb => keep4 _ _ _ _ _ _ _ _ hk hkb) (at4 _ _ _ _ _ _ hh) (fun kR => .atp n p be off g1 g2 g3 g4 (g5.mono (kR _ g2))) rfl
   ·cases hr
  ·cases hr
end
end Go.Proofs.YtacmmedhjebfjaaGreatDoor
set_option linter.unusedVariables false
set_option linter.unusedSimpArgs false
namespace Go.Fac
open Go.RowKit Go.Kit
def isaClass (op : Int) : Int := if 1 ≤ op ∧ op ≤ 24 then 1 else if 32 ≤ op ∧ op ≤ 44 then 2 else if 64 ≤ op ∧ op ≤ 67 then 3 else if op = 96 then 4 else 0
def isaTwo (op : Int) : Bool := op == 14 || op == 15 || op == 19 || op == 20 || op == 21 || op == 22 || op == 96
def isaJumps (op : Int) : Bool := decide (16 ≤ op ∧ op ≤ 23)
def kA (op : Int) : Int :=
 if op = 14 ∨ op = 15 ∨ op = 20 ∨ op = 21 ∨ op = 23 ∨ op = 32 ∨ op = 33 ∨ op = 35 ∨ op = 36 ∨ op = 39 ∨ op = 40 ∨ op = 43 ∨ op = 44 ∨ op = 66 ∨ op = 67 then 1
 else if op = 2 ∨ op = 37 ∨ op = 38 ∨ op = 41 then 1 else if (3 ≤ op ∧ op ≤ 11) ∨ op = 24 then 1 else if op = 12 ∨ op = 13 then 1 else if op = 17 ∨ op = 18 then 1 else 0
def kB (op : Int) : Int :=
 if op = 2 ∨ op = 37 ∨ op = 38 ∨ op = 41 then 1 else if (3 ≤ op ∧ op ≤ 11) ∨ op = 24 then 1 else if op = 12 ∨ op = 13 then 1 else 0
def kC (op : Int) : Int :=
 if (3 ≤ op ∧ op ≤ 11) ∨ op = 24 then 1 else if op = 12 ∨ op = 13 then 2 else if op = 16 then 2 else if op = 17 ∨ op = 18 then 2 else 0
def uA (op : Int) : Bool := !(op == 1 || op == 34 || op == 42 || op == 64 || op == 65 || op == 19 || op == 22 || op == 96 || op == 16)
def uB (op : Int) : Bool := op == 2 || op == 37 || op == 38 || op == 41 || op == 12 || op == 13 || (decide (3 ≤ op) && decide (op ≤ 11)) || op == 24
def uC (op : Int) : Bool := op == 12 || op == 13 || op == 16 || op == 17 || op == 18 || (decide (3 ≤ op) && decide (op ≤ 11)) || op == 24
def uN (op : Int) : Bool := op == 12 || op == 13 || op == 16 || op == 17 || op == 18
def most (k : Int) : Int := if k = 0 then 0 else if k = 1 then 15 else 255
def fitsM (n k : Int) : Bool := decide (0 ≤ n) && decide (n ≤ most k)
theorem kA_in (op : Int) : kA op = 0 ∨ kA op = 1 ∨ kA op = 2 := by
 unfold kA; repeat' split
 all_goals simp
theorem kB_in (op : Int) : kB op = 0 ∨ kB op = 1 ∨ kB op = 2 := by
 unfold kB; repeat' split
 all_goals simp
theorem kC_in (op : Int) : kC op = 0 ∨ kC op = 1 ∨ kC op = 2 := by
 unfold kC; repeat' split
 all_goals simp
def wordOk (op a b c i : Int) : Bool := !(isaClass op == 0) && fitsM a (kA op) && fitsM b (kB op) && fitsM c (kC op) && (!(i != 0) || isaTwo op)
def wordVal (op a b c : Int) : Int := op * 16777216 + a * 65536 + b * 256 + c
theorem class_in {op : Int} (h : (isaClass op == 0) = false) : 1 ≤ op ∧ op ≤ 96 := by
 have : isaClass op ≠ 0 := by simpa using h
 unfold isaClass at this
 repeat' split at this
 all_goals omega
theorem fits_in {n k : Int} (h : fitsM n k = true) : 0 ≤ n ∧ n ≤ 255 := by
 unfold fitsM most at h; simp only [Bool.and_eq_true, decide_eq_true_eq] at h
 obtain ⟨h1, h2⟩ := h
 repeat' split at h2
 all_goals omega
theorem wraps32 (n : Int) (h₀ : 0 ≤ n) (h₁ : n < 2 ^ 32) : IntKind.u32.wrap n = n := by rw [IntKind.wrap_u32]; omega
theorem u32_or_hi (i : Nat) (x y : Int) (hx₀ : 0 ≤ x) (hx : x % 2 ^ i = 0) (hx₁ : x < 2 ^ 32) (hy₀ : 0 ≤ y) (hy : y < 2 ^ i) (hy₁ : y < 2 ^ 32) : bits .or .u32 x y = x + y :=
 bits_join .u32 32 (by decide) wraps32 i x y hx₀ hx hx₁ hy₀ hy hy₁
theorem word_bits {op a b c : Int} (ho : 1 ≤ op ∧ op ≤ 255) (ha : 0 ≤ a ∧ a ≤ 255) (hb : 0 ≤ b ∧ b ≤ 255) (hc : 0 ≤ c ∧ c ≤ 255) :
  bits BinOp.or IntKind.u32 (bits BinOp.or IntKind.u32 (bits BinOp.or IntKind.u32 (op % 4294967296 * 16777216 % 4294967296) (a % 4294967296 * 65536 % 4294967296)) (b % 4294967296 * 256 % 4294967296)) (c % 4294967296) = wordVal op a b c := by
 have e1 : op % 4294967296 * 16777216 % 4294967296 = op * 16777216 := by omega
 have e2 : a % 4294967296 * 65536 % 4294967296 = a * 65536 := by omega
 have e3 : b % 4294967296 * 256 % 4294967296 = b * 256 := by omega
 have e4 : c % 4294967296 = c := by omega
 rw [e1, e2, e3, e4]
 rw [u32_or_hi 24 (op * 16777216) (a * 65536) (by omega) (by omega) (by omega) (by omega) (by omega) (by omega)]
 rw [u32_or_hi 16 (op * 16777216 + a * 65536) (b * 256) (by omega) (by omega) (by omega) (by omega) (by omega) (by omega)]
 rw [u32_or_hi 8 (op * 16777216 + a * 65536 + b * 256) c (by omega) (by omega) (by omega) (by omega) (by omega) (by omega)]
 rfl
def ofImm (w imm : Int) : Int := if isaTwo (w / 16777216) = true then imm else 0
def ofOk (w : Int) : Bool := wordOk (w / 16777216) (w / 65536 % 256) (w / 256 % 256) (w % 256) 0
theorem ofOk_imm {op a b c imm : Int} (h : isaTwo op = true) : wordOk op a b c imm = wordOk op a b c 0 := by
 unfold wordOk; rw [h]; simp
def wordW (op a b c i : Int) : Int := if wordOk op a b c i = true then wordVal op a b c else 0
def okA (op a : Int) : Bool := a == 0 || (uA op && (decide (0 < a) && decide (a ≤ 15)))
def okB (op a : Int) : Bool := a == 0 || (uB op && (decide (0 < a) && decide (a ≤ 15)))
def okC (op a : Int) : Bool := a == 0 || (uC op && (decide (0 < a) && decide (a ≤ if uN op = true then 255 else 15)))
theorem class_ops {op : Int} (h : (isaClass op == 0) = false) : (1 ≤ op ∧ op ≤ 24) ∨ (32 ≤ op ∧ op ≤ 44) ∨ (64 ≤ op ∧ op ≤ 67) ∨ op = 96 := by
 have : isaClass op ≠ 0 := by simpa using h
 unfold isaClass at this
 repeat' split at this
 all_goals omega
theorem ops_cases {P : Int → Prop} (h : ∀ n : Fin 97, P n.val) {op : Int} (h0 : 0 ≤ op) (h1 : op ≤ 96) : P op := by
 have := h ⟨op.toNat, by omega⟩
 have e : ((op.toNat : Nat) : Int) = op := by omega
 simpa [e] using this
theorem fitsA_ok {op a : Int} (h : (isaClass op == 0) = false) : fitsM a (kA op) = okA op a := by
 have hk : kA op = if uA op = true then 1 else 0 := by
  have := class_ops h
  revert h
  exact ops_cases (P := fun op => (isaClass op == 0) = false → kA op = if uA op = true then 1 else 0) (by decide +kernel) (by omega) (by omega)
 unfold fitsM okA most; rw [hk]
 cases uA op <;> simp <;> (rw [Bool.eq_iff_iff]; simp; omega)
theorem fitsB_ok {op a : Int} (h : (isaClass op == 0) = false) : fitsM a (kB op) = okB op a := by
 have hk : kB op = if uB op = true then 1 else 0 := by
  have := class_ops h
  revert h
  exact ops_cases (P := fun op => (isaClass op == 0) = false → kB op = if uB op = true then 1 else 0) (by decide +kernel) (by omega) (by omega)
 unfold fitsM okB most; rw [hk]
 cases uB op <;> simp <;> (rw [Bool.eq_iff_iff]; simp; omega)
theorem fitsC_ok {op a : Int} (h : (isaClass op == 0) = false) : fitsM a (kC op) = okC op a := by
 have hk : kC op = if uC op = true then (if uN op = true then 2 else 1) else 0 := by
  have := class_ops h
  revert h
  exact ops_cases (P := fun op => (isaClass op == 0) = false → kC op = if uC op = true then (if uN op = true then 2 else 1) else 0) (by decide +kernel) (by omega) (by omega)
 unfold fitsM okC most; rw [hk]
 cases uC op <;> cases uN op <;> simp <;> (rw [Bool.eq_iff_iff]; simp; omega)
theorem fits_zero (k : Int) : fitsM 0 k = true := by
 unfold fitsM most; simp; repeat' split
 all_goals omega
theorem wordB {op a : Int} (h : (isaClass op == 0) = false) : wordOk op 0 a 0 0 = okB op a := by
 unfold wordOk; rw [h, fits_zero, fits_zero, fitsB_ok h]; simp
end Go.Fac
set_option linter.unusedVariables false
set_option linter.unusedSimpArgs false
namespace Go.Fac
open Go.RowKit Go.Sy
def ofF (w imm : Int) : In5 := if ofOk w = true then ⟨w / 16777216, w / 65536 % 256, w / 256 % 256, w % 256, ofImm w imm⟩ else ⟨0, 0, 0, 0, 0⟩
end Go.Fac
set_option linter.unusedVariables false
set_option linter.unusedSimpArgs false
namespace Go.Proofs.YtacmmedhjebfjaaGreatDoor
open Go.RowKit Go.Sy Go.Fac
section
variable {ea : Ear} {has : Int → Prop} {gl : List (Nat × SVal)}
def kTables : List SVal → Nat → Acc ORes := fun a n => match a with | [] => .ret ({ v := .agg [] }) | _ => .fail "Tables"
theorem argTables  : (all (subL tAtN none' [] deep [] [])) = (
 True) := by kernel_rfl
theorem runTables (gl : List (Nat × SVal)) : (Tr.sat (plainQ (.agg [])) (run (env gl []) [] (bodyOf Tryz.f44) (start [] 2) (ends (env gl []) Tryz.f44.results.toList))) = (
 True) := by kernel_rfl
set_option maxHeartbeats 4000000 in
theorem cTables : Con ea has gl 44 kTables := by
 refine plain_mkB Tryz.func44 2 (con := []) trivial (fun hA hr hv => ?_) (by kernel_rfl) (by kernel_rfl) Tryz.ntmps44
 unfold kTables at hr; split at hr
 ·skip
  have := ret_ok hr; subst this
  refine ⟨_, [], rfl, rfl, .of (argTables ) (by simp), rfl, (fun W R ρ0 own0 hown => noSums (by kernel_rfl)), .of (runTables gl ) ?_⟩
  clear hr
  trivial
 ·cases hr
def kClass : List SVal → Nat → Acc ORes := fun a n => match a with | [.agg [], .int .i64 op] => .ret ({ v := .int .i64 (.sym (isaClass op.val) 0 4) }) | _ => .fail "Class"
theorem argClass (op : SI) : (all (subL tAtN none' [] deep [.agg [], .int .i64 op] [.agg [], .int .i64 (.full op.val)])) = (
 SI.val op = SI.val op) := by kernel_rfl
theorem runClass (gl : List (Nat × SVal)) (op : Int) : (Tr.sat (plainQ (.int .i64 (.sym (isaClass op) 0 4))) (run (env gl []) [] (bodyOf Tryz.f68) (start [.agg [], .int .i64 (.full op)] 29) (ends (env gl []) Tryz.f68.results.toList))) = (
 ((decide ((1 : Int) ≤ op) && decide (op ≤ (24 : Int))) = true → (1 : Int) = isaClass op) ∧ ((decide ((1 : Int) ≤ op) && decide (op ≤ (24 : Int))) = false → ((decide ((32 : Int) ≤ op) && decide (op ≤ (44 : Int))) = true → (2 : Int) = isaClass op) ∧ ((decide ((32 : Int) ≤ op) && decide (op ≤ (44 : Int))) = false → ((decide ((64 : Int) ≤ op) && decide (op ≤ (67 : Int))) = true → (3 : Int) = isaClass op) ∧ ((decide ((64 : Int) ≤ op) && decide (op ≤ (67 : Int))) = false → (decide (op = (96 : Int)) = true → (4 : Int) = isaClass op) ∧ (decide (op = (96 : Int)) = false → (0 : Int) = isaClass op))))) := by kernel_rfl
set_option maxHeartbeats 4000000 in
theorem cClass : Con ea has gl 68 kClass := by
 refine plain_mkB Tryz.func68 29 (con := []) trivial (fun hA hr hv => ?_) (by kernel_rfl) (by kernel_rfl) Tryz.ntmps68
 unfold kClass at hr; split at hr
 ·rename_i op
  have := ret_ok hr; subst this
  refine ⟨_, [], rfl, rfl, .of (argClass op) (by simp), rfl, (fun W R ρ0 own0 hown => noSums (by kernel_rfl)), .of (runClass gl op.val) ?_⟩
  clear hr
  generalize op.val = op
  simp only [isaClass, Bool.and_eq_true, decide_eq_true_eq, Bool.and_eq_false_imp, decide_eq_false_iff_not]
  repeat (first | omega | split | intro _ | refine ⟨?_, ?_⟩)
 ·cases hr
def kTwo : List SVal → Nat → Acc ORes := fun a n => match a with | [.agg [], .int .i64 op] => .ret ({ v := .bool (.sym (isaTwo op.val)) }) | _ => .fail "Two"
theorem argTwo (op : SI) : (all (subL tAtN none' [] deep [.agg [], .int .i64 op] [.agg [], .int .i64 (.full op.val)])) = (
 SI.val op = SI.val op) := by kernel_rfl
theorem runTwo (gl : List (Nat × SVal)) (op : Int) : (Tr.sat (plainQ (.bool (.sym (isaTwo op)))) (run (env gl []) [] (bodyOf Tryz.f45) (start [.agg [], .int .i64 (.full op)] 14) (ends (env gl []) Tryz.f45.results.toList))) = (
 (decide (op = (14 : Int)) = true → true = isaTwo op) ∧ (decide (op = (14 : Int)) = false → (decide (op = (15 : Int)) = true → true = isaTwo op) ∧ (decide (op = (15 : Int)) = false → (decide (op = (19 : Int)) = true → true = isaTwo op) ∧ (decide (op = (19 : Int)) = false → (decide (op = (20 : Int)) = true → true = isaTwo op) ∧ (decide (op = (20 : Int)) = false → (decide (op = (21 : Int)) = true → true = isaTwo op) ∧ (decide (op = (21 : Int)) = false → (decide (op = (22 : Int)) = true → true = isaTwo op) ∧ (decide (op = (22 : Int)) = false → (decide (op = (96 : Int)) = true → true = isaTwo op) ∧ (decide (op = (96 : Int)) = false → false = isaTwo op)))))))) := by kernel_rfl
set_option maxHeartbeats 4000000 in
theorem cTwo : Con ea has gl 45 kTwo := by
 refine plain_mkB Tryz.func45 14 (con := []) trivial (fun hA hr hv => ?_) (by kernel_rfl) (by kernel_rfl) Tryz.ntmps45
 unfold kTwo at hr; split at hr
 ·rename_i op
  have := ret_ok hr; subst this
  refine ⟨_, [], rfl, rfl, .of (argTwo op) (by simp), rfl, (fun W R ρ0 own0 hown => noSums (by kernel_rfl)), .of (runTwo gl op.val) ?_⟩
  clear hr
  generalize op.val = op
  simp only [decide_eq_true_eq, decide_eq_false_iff_not]
  repeat (first | (intro h; subst h; rfl) | intro _ | refine ⟨?_, ?_⟩ | (simp [isaTwo, *]; done))
 ·cases hr
def koperands : List SVal → Nat → Acc ORes := fun a n => match a with | [.int .i64 op] => .ret ({ v := .tuple [.int .i64 (.sym (kA op.val) 0 2), .int .i64 (.sym (kB op.val) 0 2), .int .i64 (.sym (kC op.val) 0 2)] }) | _ => .fail "operands"
theorem argoperands (op : SI) : (all (subL tAtN none' [] deep [.int .i64 op] [.int .i64 (.full op.val)])) = (
 SI.val op = SI.val op) := by kernel_rfl
theorem runoperands (gl : List (Nat × SVal)) (op : Int) : (Tr.sat (plainQ (.tuple [.int .i64 (.sym (kA op) 0 2), .int .i64 (.sym (kB op) 0 2), .int .i64 (.sym (kC op) 0 2)])) (run (env gl []) [] (bodyOf Tryz.f67) (start [.int .i64 (.full op)] 46) (ends (env gl []) Tryz.f67.results.toList))) = (
 (decide (op = (14 : Int)) = true → (1 : Int) = kA op ∧ (0 : Int) = kB op ∧ (0 : Int) = kC op) ∧ (decide (op = (14 : Int)) = false → (decide (op = (15 : Int)) = true → (1 : Int) = kA op ∧ (0 : Int) = kB op ∧ (0 : Int) = kC op) ∧ (decide (op = (15 : Int)) = false → (decide (op = (20 : Int)) = true → (1 : Int) = kA op ∧ (0 : Int) = kB op ∧ (0 : Int) = kC op) ∧ (decide (op = (20 : Int)) = false → (decide (op = (21 : Int)) = true → (1 : Int) = kA op ∧ (0 : Int) = kB op ∧ (0 : Int) = kC op) ∧ (decide (op = (21 : Int)) = false → (decide (op = (23 : Int)) = true → (1 : Int) = kA op ∧ (0 : Int) = kB op ∧ (0 : Int) = kC op) ∧ (decide (op = (23 : Int)) = false → (decide (op = (32 : Int)) = true → (1 : Int) = kA op ∧ (0 : Int) = kB op ∧ (0 : Int) = kC op) ∧ (decide (op = (32 : Int)) = false → (decide (op = (33 : Int)) = true → (1 : Int) = kA op ∧ (0 : Int) = kB op ∧ (0 : Int) = kC op) ∧ (decide (op = (33 : Int)) = false → (decide (op = (35 : Int)) = true → (1 : Int) = kA op ∧ (0 : Int) = kB op ∧ (0 : Int) = kC op) ∧ (decide (op = (35 : Int)) = false → (decide (op = (36 : Int)) = true → (1 : Int) = kA op ∧ (0 : Int) = kB op ∧ (0 : Int) = kC op) ∧ (decide (op = (36 : Int)) = false → (decide (op = (39 : Int)) = true → (1 : Int) = kA op ∧ (0 : Int) = kB op ∧ (0 : Int) = kC op) ∧ (decide (op = (39 : Int)) = false → (decide (op = (40 : Int)) = true → (1 : Int) = kA op ∧ (0 : Int) = kB op ∧ (0 : Int) = kC op) ∧ (decide (op = (40 : Int)) = false → (decide (op = (43 : Int)) = true → (1 : Int) = kA op ∧ (0 : Int) = kB op ∧ (0 : Int) = kC op) ∧ (decide (op = (43 : Int)) = false → (decide (op = (44 : Int)) = true → (1 : Int) = kA op ∧ (0 : Int) = kB op ∧ (0 : Int) = kC op) ∧ (decide (op = (44 : Int)) = false → (decide (op = (66 : Int)) = true → (1 : Int) = kA op ∧ (0 : Int) = kB op ∧ (0 : Int) = kC op) ∧ (decide (op = (66 : Int)) = false → (decide (op = (67 : Int)) = true → (1 : Int) = kA op ∧ (0 : Int) = kB op ∧ (0 : Int) = kC op) ∧ (decide (op = (67 : Int)) = false → (decide (op = (2 : Int)) = true → (1 : Int) = kA op ∧ (1 : Int) = kB op ∧ (0 : Int) = kC op) ∧ (decide (op = (2 : Int)) = false → (decide (op = (37 : Int)) = true → (1 : Int) = kA op ∧ (1 : Int) = kB op ∧ (0 : Int) = kC op) ∧ (decide (op = (37 : Int)) = false → (decide (op = (38 : Int)) = true → (1 : Int) = kA op ∧ (1 : Int) = kB op ∧ (0 : Int) = kC op) ∧ (decide (op = (38 : Int)) = false → (decide (op = (41 : Int)) = true → (1 : Int) = kA op ∧ (1 : Int) = kB op ∧ (0 : Int) = kC op) ∧ (decide (op = (41 : Int)) = false → (decide (op = (3 : Int)) = true → (1 : Int) = kA op ∧ (1 : Int) = kB op ∧ (1 : Int) = kC op) ∧ (decide (op = (3 : Int)) = false → (decide (op = (4 : Int)) = true → (1 : Int) = kA op ∧ (1 : Int) = kB op ∧ (1 : Int) = kC op) ∧ (decide (op = (4 : Int)) = false → (decide (op = (5 : Int)) = true → (1 : Int) = kA op ∧ (1 : Int) = kB op ∧ (1 : Int) = kC op) ∧ (decide (op = (5 : Int)) = false → (decide (op = (6 : Int)) = true → (1 : Int) = kA op ∧ (1 : Int) = kB op ∧ (1 : Int) = kC op) ∧ (decide (op = (6 : Int)) = false → (decide (op = (7 : Int)) = true → (1 : Int) = kA op ∧ (1 : Int) = kB op ∧ (1 : Int) = kC op) ∧ (decide (op = (7 : Int)) = false → (decide (op = (8 : Int)) = true → (1 : Int) = kA op ∧ (1 : Int) = kB op ∧ (1 : Int) = kC op) ∧ (decide (op = (8 : Int)) = false → (decide (op = (9 : Int)) = true → (1 : Int) = kA op ∧ (1 : Int) = kB op ∧ (1 : Int) = kC op) ∧ (decide (op = (9 : Int)) = false → (decide (op = (10 : Int)) = true → (1 : Int) = kA op ∧ (1 : Int) = kB op ∧ (1 : Int) = kC op) ∧ (decide (op = (10 : Int)) = false → (decide (op = (11 : Int)) = true → (1 : Int) = kA op ∧ (1 : Int) = kB op ∧ (1 : Int) = kC op) ∧ (decide (op = (11 : Int)) = false → (decide (op = (24 : Int)) = true → (1 : Int) = kA op ∧ (1 : Int) = kB op ∧ (1 : Int) = kC op) ∧ (decide (op = (24 : Int)) = false → (decide (op = (12 : Int)) = true → (1 : Int) = kA op ∧ (1 : Int) = kB op ∧ (2 : Int) = kC op) ∧ (decide (op = (12 : Int)) = false → (decide (op = (13 : Int)) = true → (1 : Int) = kA op ∧ (1 : Int) = kB op ∧ (2 : Int) = kC op) ∧ (decide (op = (13 : Int)) = false → (decide (op = (16 : Int)) = true → (0 : Int) = kA op ∧ (0 : Int) = kB op ∧ (2 : Int) = kC op) ∧ (decide (op = (16 : Int)) = false → (decide (op = (17 : Int)) = true → (1 : Int) = kA op ∧ (0 : Int) = kB op ∧ (2 : Int) = kC op) ∧ (decide (op = (17 : Int)) = false → (decide (op = (18 : Int)) = true → (1 : Int) = kA op ∧ (0 : Int) = kB op ∧ (2 : Int) = kC op) ∧ (decide (op = (18 : Int)) = false → (0 : Int) = kA op ∧ (0 : Int) = kB op ∧ (0 : Int) = kC op))))))))))))))))))))))))))))))))))) := by kernel_rfl
set_option maxHeartbeats 4000000 in
theorem coperands : Con ea has gl 67 koperands := by
 refine plain_mkB Tryz.func67 46 (con := []) trivial (fun hA hr hv => ?_) (by kernel_rfl) (by kernel_rfl) Tryz.ntmps67
 unfold koperands at hr; split at hr
 ·rename_i op
  have := ret_ok hr; subst this
  refine ⟨_, [], rfl, rfl, .of (argoperands op) (by simp), rfl, (fun W R ρ0 own0 hown => noSums (by kernel_rfl)), .of (runoperands gl op.val) ?_⟩
  clear hr
  generalize op.val = op
  simp only [decide_eq_true_eq, decide_eq_false_iff_not]
  repeat (first | (intro h; subst h; decide) | (with_reducible intro _) | (with_reducible refine ⟨fun _ => ?_, fun _ => ?_⟩) | (refine ⟨?_, ?_, ?_⟩ <;> (first | (unfold kA; repeat (split; try omega); try omega) |  (unfold kB; repeat (split; try omega); try omega) | (unfold kC; repeat (split; try omega); try omega))))
 ·cases hr
def kfits : List SVal → Nat → Acc ORes := fun a n => match a with | [.int .i64 x, .int .i64 k] => .ret ({ v := .bool (.sym (fitsM x.val k.val)), vc := some (0 ≤ k.val ∧ k.val ≤ 2) }) | _ => .fail "fits"
theorem argfits (x k : SI) : (all (subL tAtN none' [] deep [.int .i64 x, .int .i64 k] [.int .i64 (.full x.val), .int .i64 (.full k.val)])) = (
 SI.val x = SI.val x ∧ SI.val k = SI.val k) := by kernel_rfl
theorem runfits (gl : List (Nat × SVal)) (x : Int) (k : Int) : (Tr.sat (plainQ (.bool (.sym (fitsM x k)))) (run (env gl []) [] (bodyOf Tryz.f69) (start [.int .i64 (.full x), .int .i64 (.full k)] 17) (ends (env gl []) Tryz.f69.results.toList))) = (
 ((0 : Int) ≤ k ∧ k < (↑(List.length [(0 : Int), (15 : Int), (255 : Int)]) : Int)) ∧ ((0 : Int) ≤ k ∧ k < (↑(List.length [(0 : Int), (15 : Int), (255 : Int)]) : Int) → (decide ((0 : Int) ≤ x) && decide (x ≤ List.getD [(0 : Int), (15 : Int), (255 : Int)] (Int.toNat k) (RT.dflt RT.i64))) = fitsM x k)) := by kernel_rfl
set_option maxHeartbeats 4000000 in
theorem cfits : Con ea has gl 69 kfits := by
 refine plain_mkB Tryz.func69 17 (con := []) trivial (fun hA hr hv => ?_) (by kernel_rfl) (by kernel_rfl) Tryz.ntmps69
 unfold kfits at hr; split at hr
 ·rename_i x k
  have := ret_ok hr; subst this
  replace hv := hv _ rfl
  refine ⟨_, [], rfl, rfl, .of (argfits x k) (by simp), rfl, (fun W R ρ0 own0 hown => noSums (by kernel_rfl)), .of (runfits gl x.val k.val) ?_⟩
  clear hr
  generalize x.val = x at *
  generalize k.val = k at *
  have : k = 0 ∨ k = 1 ∨ k = 2 := by omega
  rcases this with rfl | rfl | rfl <;> exact ⟨by decide, fun _ => rfl⟩
 ·cases hr
def kWord : List SVal → Nat → Acc ORes := fun a n => match a with | [.agg [.int .i64 op, .int .i64 a, .int .i64 b, .int .i64 c, .int .u32 imm]] => .ret ({ v := .tuple [.int .u32 (.full (wordW op.val a.val b.val c.val imm.val)), .bool (.sym (wordOk op.val a.val b.val c.val imm.val))] }) | _ => .fail "Word"
theorem argWord (op a b c imm : SI) : (all (subL tAtN none' [] deep [.agg [.int .i64 op, .int .i64 a, .int .i64 b, .int .i64 c, .int .u32 imm]] [.agg [.int .i64 (.full op.val), .int .i64 (.full a.val), .int .i64 (.full b.val), .int .i64 (.full c.val), .int .u32 (.full imm.val)]])) = (
 SI.val op = SI.val op ∧ SI.val a = SI.val a ∧ SI.val b = SI.val b ∧ SI.val c = SI.val c ∧ SI.val imm = SI.val imm) := by kernel_rfl
theorem runWord (gl : List (Nat × SVal)) (op : Int) (a : Int) (b : Int) (c : Int) (imm : Int) : (Tr.sat (plainQ (.tuple [.int .u32 (.full (wordW op a b c imm)), .bool (.sym (wordOk op a b c imm))])) (run (env gl [(44, kTables), (68, kClass), (45, kTwo), (67, koperands), (69, kfits)]) [] (bodyOf Tryz.f49) (start [.agg [.int .i64 (.full op), .int .i64 (.full a), .int .i64 (.full b), .int .i64 (.full c), .int .u32 (.full imm)]] 72) (ends (env gl [(44, kTables), (68, kClass), (45, kTwo), (67, koperands), (69, kfits)]) Tryz.f49.results.toList))) = (
 ((!decide (isaClass op = (0 : Int))) = true → (0 : Int) ≤ kA op ∧ kA op ≤ (2 : Int)) ∧ (((!decide (isaClass op = (0 : Int))) = true → (0 : Int) ≤ kA op ∧ kA op ≤ (2 : Int)) → ((!(decide (isaClass op = (0 : Int)) || !fitsM a (kA op))) = true → (0 : Int) ≤ kB op ∧ kB op ≤ (2 : Int)) ∧ (((!(decide (isaClass op = (0 : Int)) || !fitsM a (kA op))) = true → (0 : Int) ≤ kB op ∧ kB op ≤ (2 : Int)) → ((!(decide (isaClass op = (0 : Int)) || !fitsM a (kA op) || !fitsM b (kB op))) = true → (0 : Int) ≤ kC op ∧ kC op ≤ (2 : Int)) ∧ (((!(decide (isaClass op = (0 : Int)) || !fitsM a (kA op) || !fitsM b (kB op))) = true → (0 : Int) ≤ kC op ∧ kC op ≤ (2 : Int)) → ((decide (isaClass op = (0 : Int)) || !fitsM a (kA op) || !fitsM b (kB op) || !fitsM c (kC op) || !decide (imm = (0 : Int)) && !isaTwo op) = true → (0 : Int) = wordW op a b c imm ∧ false = wordOk op a b c imm) ∧ ((decide (isaClass op = (0 : Int)) || !fitsM a (kA op) || !fitsM b (kB op) || !fitsM c (kC op) || !decide (imm = (0 : Int)) && !isaTwo op) = false → bits BinOp.or IntKind.u32 (bits BinOp.or IntKind.u32 (bits BinOp.or IntKind.u32 (IntKind.wrap IntKind.u32 (IntKind.wrap IntKind.u32 op * (16777216 : Int))) (IntKind.wrap IntKind.u32 (IntKind.wrap IntKind.u32 a * (65536 : Int)))) (IntKind.wrap IntKind.u32 (IntKind.wrap IntKind.u32 b * (256 : Int)))) (IntKind.wrap IntKind.u32 c) = wordW op a b c imm ∧ true = wordOk op a b c imm))))) := by kernel_rfl
set_option maxHeartbeats 4000000 in
theorem cWord : Con ea has gl 49 kWord := by
 refine plain_mkB Tryz.func49 72 (con := [(44, kTables), (68, kClass), (45, kTwo), (67, koperands), (69, kfits)]) ⟨cTables, cClass, cTwo, coperands, cfits, trivial⟩ (fun hA hr hv => ?_) (by kernel_rfl) (by kernel_rfl) Tryz.ntmps49
 unfold kWord at hr; split at hr
 ·rename_i op a b c imm
  have := ret_ok hr; subst this
  refine ⟨_, [], rfl, rfl, .of (argWord op a b c imm) (by simp), rfl, (fun W R ρ0 own0 hown => noSums (by kernel_rfl)), .of (runWord gl op.val a.val b.val c.val imm.val) ?_⟩
  clear hr
  clear hA hv
  generalize op.val = op
  generalize a.val = a
  generalize b.val = b
  generalize c.val = c
  generalize imm.val = imm
  have e : (decide (isaClass op = 0) || !fitsM a (kA op) || !fitsM b (kB op) || !fitsM c (kC op) || !decide (imm = 0) && !isaTwo op) = !wordOk op a b c imm := by
   unfold wordOk
   simp only [Bool.not_and, Bool.not_not, bne, Bool.not_or]
   rfl
  rw [e]
  have h1 := kA_in op
  have h2 := kB_in op
  have h3 := kC_in op
  refine ⟨fun _ => by omega, fun _ => ⟨fun _ => by omega, fun _ => ⟨fun _ => by omega, fun _ => ⟨fun h => ?_, fun h => ?_⟩⟩⟩⟩
  ·have h : wordOk op a b c imm = false := by simpa using h
   rw [wordW, h]; exact ⟨rfl, rfl⟩
  ·have h : wordOk op a b c imm = true := by simpa using h
   refine ⟨?_, h.symm⟩
   rw [wordW, if_pos h]
   have hw := h
   unfold wordOk at h
   simp only [Bool.and_eq_true, Bool.not_eq_true'] at h
   obtain ⟨⟨⟨⟨g1, g2⟩, g3⟩, g4⟩, _⟩ := h
   have := class_in g1
   simp only [IntKind.wrap_u32]
   exact word_bits (by omega) (fits_in g2) (fits_in g3) (fits_in g4)
 ·cases hr
def kOf : List SVal → Nat → Acc ORes := fun a n => match a with | [.int .u32 w, .int .u32 imm] => .ret ({ v := .tuple [.agg (ofF w.val imm.val).enc, .bool (.sym (ofOk w.val))] }) | _ => .fail "Of"
theorem argOf (w imm : SI) : (all (subL tAtN none' [] deep [.int .u32 w, .int .u32 imm] [.int .u32 (.full w.val), .int .u32 (.full imm.val)])) = (
 SI.val w = SI.val w ∧ SI.val imm = SI.val imm) := by kernel_rfl
theorem runOf (gl : List (Nat × SVal)) (w : Int) (imm : Int) : (Tr.sat (plainQ (.tuple [.agg (ofF w imm).enc, .bool (.sym (ofOk w))])) (run (env gl [(44, kTables), (45, kTwo), (49, kWord)]) [] (bodyOf Tryz.f62) (start [.int .u32 (.full w), .int .u32 (.full imm)] 41) (ends (env gl [(44, kTables), (45, kTwo), (49, kWord)]) Tryz.f62.results.toList))) = (
 (isaTwo (w / (16777216 : Int)) = true → ((!wordOk (w / (16777216 : Int)) (w / (65536 : Int) % (256 : Int)) (w / (256 : Int) % (256 : Int)) (w % (256 : Int)) imm) = true → (0 : Int) = (ofF w imm).op ∧ (0 : Int) = (ofF w imm).a ∧ (0 : Int) = (ofF w imm).b ∧ (0 : Int) = (ofF w imm).c ∧ (0 : Int) = (ofF w imm).imm ∧ false = ofOk w) ∧ ((!wordOk (w / (16777216 : Int)) (w / (65536 : Int) % (256 : Int)) (w / (256 : Int) % (256 : Int)) (w % (256 : Int)) imm) = false → w / (16777216 : Int) = (ofF w imm).op ∧ w / (65536 : Int) % (256 : Int) = (ofF w imm).a ∧ w / (256 : Int) % (256 : Int) = (ofF w imm).b ∧ w % (256 : Int) = (ofF w imm).c ∧ imm = (ofF w imm).imm ∧ true = ofOk w)) ∧ (isaTwo (w / (16777216 : Int)) = false → ((!wordOk (w / (16777216 : Int)) (w / (65536 : Int) % (256 : Int)) (w / (256 : Int) % (256 : Int)) (w % (256 : Int)) (0 : Int)) = true → (0 : Int) = (ofF w imm).op ∧ (0 : Int) = (ofF w imm).a ∧ (0 : Int) = (ofF w imm).b ∧ (0 : Int) = (ofF w imm).c ∧ (0 : Int) = (ofF w imm).imm ∧ false = ofOk w) ∧ ((!wordOk (w / (16777216 : Int)) (w / (65536 : Int) % (256 : Int)) (w / (256 : Int) % (256 : Int)) (w % (256 : Int)) (0 : Int)) = false → w / (16777216 : Int) = (ofF w imm).op ∧ w / (65536 : Int) % (256 : Int) = (ofF w imm).a ∧ w / (256 : Int) % (256 : Int) = (ofF w imm).b ∧ w % (256 : Int) = (ofF w imm).c ∧ (0 : Int) = (ofF w imm).imm ∧ true = ofOk w))) := by kernel_rfl
set_option maxHeartbeats 4000000 in
theorem cOf : Con ea has gl 62 kOf := by
 refine plain_mkB Tryz.func62 41 (con := [(44, kTables), (45, kTwo), (49, kWord)]) ⟨cTables, cTwo, cWord, trivial⟩ (fun hA hr hv => ?_) (by kernel_rfl) (by kernel_rfl) Tryz.ntmps62
 unfold kOf at hr; split at hr
 ·rename_i w imm
  have := ret_ok hr; subst this
  refine ⟨_, [], rfl, rfl, .of (argOf w imm) (by simp), rfl, (fun W R ρ0 own0 hown => noSums (by kernel_rfl)), .of (runOf gl w.val imm.val) ?_⟩
  clear hr
  clear hA hv
  generalize w.val = w
  generalize imm.val = imm
  have e : wordOk (w / 16777216) (w / 65536 % 256) (w / 256 % 256) (w % 256) 0 = ofOk w := rfl
  refine ⟨fun h => ?_, fun h => ?_⟩
  ·rw [ofOk_imm h, e]; cases hk : ofOk w <;> simp [ofF, hk, ofImm, h]
  ·rw [e]; cases hk : ofOk w <;> simp [ofF, hk, ofImm, h]
 ·cases hr
def krClass : List SVal → Nat → Acc ORes := fun a n => match a with | [.int .i64 op] => .ret ({ v := .int .i64 (.sym (isaClass op.val) 0 4) }) | _ => .fail "rClass"
theorem argrClass (op : SI) : (all (subL tAtN none' [] deep [.int .i64 op] [.int .i64 (.full op.val)])) = (
 SI.val op = SI.val op) := by kernel_rfl
theorem runrClass (gl : List (Nat × SVal)) (op : Int) : (Tr.sat (plainQ (.int .i64 (.sym (isaClass op) 0 4))) (run (env gl []) [] (bodyOf Tryz.f29) (start [.int .i64 (.full op)] 27) (ends (env gl []) Tryz.f29.results.toList))) = (
 ((decide ((1 : Int) ≤ op) && decide (op ≤ (24 : Int))) = true → (1 : Int) = isaClass op) ∧ ((decide ((1 : Int) ≤ op) && decide (op ≤ (24 : Int))) = false → ((decide ((32 : Int) ≤ op) && decide (op ≤ (44 : Int))) = true → (2 : Int) = isaClass op) ∧ ((decide ((32 : Int) ≤ op) && decide (op ≤ (44 : Int))) = false → ((decide ((64 : Int) ≤ op) && decide (op ≤ (67 : Int))) = true → (3 : Int) = isaClass op) ∧ ((decide ((64 : Int) ≤ op) && decide (op ≤ (67 : Int))) = false → (decide (op = (96 : Int)) = true → (4 : Int) = isaClass op) ∧ (decide (op = (96 : Int)) = false → (0 : Int) = isaClass op))))) := by kernel_rfl
set_option maxHeartbeats 4000000 in
theorem crClass : Con ea has gl 29 krClass := by
 refine plain_mkB Tryz.func29 27 (con := []) trivial (fun hA hr hv => ?_) (by kernel_rfl) (by kernel_rfl) Tryz.ntmps29
 unfold krClass at hr; split at hr
 ·rename_i op
  have := ret_ok hr; subst this
  refine ⟨_, [], rfl, rfl, .of (argrClass op) (by simp), rfl, (fun W R ρ0 own0 hown => noSums (by kernel_rfl)), .of (runrClass gl op.val) ?_⟩
  clear hr
  generalize op.val = op
  simp only [isaClass, Bool.and_eq_true, decide_eq_true_eq, Bool.and_eq_false_imp, decide_eq_false_iff_not]
  repeat (first | omega | split | intro _ | refine ⟨?_, ?_⟩)
 ·cases hr
end
end Go.Proofs.YtacmmedhjebfjaaGreatDoor
set_option linter.unusedVariables false
set_option linter.unusedSimpArgs false
namespace Go.Proofs.YtacmmedhjebfjaaGreatDoor
open Go.RowKit Go.Sy Go.Fac
section
variable {ea : Ear} {has : Int → Prop} {gl : List (Nat × SVal)}
def krTwo : List SVal → Nat → Acc ORes := fun a n => match a with | [.int .i64 op] => .ret ({ v := .bool (.sym (isaTwo op.val)) }) | _ => .fail "rTwo"
theorem argrTwo (op : SI) : (all (subL tAtN none' [] deep [.int .i64 op] [.int .i64 (.full op.val)])) = (
 SI.val op = SI.val op) := by kernel_rfl
theorem runrTwo (gl : List (Nat × SVal)) (op : Int) : (Tr.sat (plainQ (.bool (.sym (isaTwo op)))) (run (env gl []) [] (bodyOf Tryz.f21) (start [.int .i64 (.full op)] 29) (ends (env gl []) Tryz.f21.results.toList))) = (
 (decide (op = (14 : Int)) || decide (op = (15 : Int)) || decide (op = (19 : Int)) || decide (op = (20 : Int)) || decide (op = (21 : Int)) || decide (op = (22 : Int)) || decide (op = (96 : Int))) = isaTwo op) := by kernel_rfl
set_option maxHeartbeats 4000000 in
theorem crTwo : Con ea has gl 21 krTwo := by
 refine plain_mkB Tryz.func21 29 (con := []) trivial (fun hA hr hv => ?_) (by kernel_rfl) (by kernel_rfl) Tryz.ntmps21
 unfold krTwo at hr; split at hr
 ·rename_i op
  have := ret_ok hr; subst this
  refine ⟨_, [], rfl, rfl, .of (argrTwo op) (by simp), rfl, (fun W R ρ0 own0 hown => noSums (by kernel_rfl)), .of (runrTwo gl op.val) ?_⟩
  clear hr
  rfl
 ·cases hr
def regB (n : Int) (h : Bool) : Bool := decide (n = 0) || h && decide (0 < n) && decide (n < 16)
def kreg : List SVal → Nat → Acc ORes := fun a n => match a with | [.int .i64 n', .bool b] => .ret ({ v := .bool (.sym (regB n'.val b.val)) }) | _ => .fail "reg"
theorem argreg (n' : SI) (b : SB) : (all (subL tAtN none' [] deep [.int .i64 n', .bool b] [.int .i64 (.full n'.val), .bool (.sym b.val)])) = (
 SI.val n' = SI.val n' ∧ SB.val b = SB.val b) := by kernel_rfl
theorem runreg (gl : List (Nat × SVal)) (n' : Int) (b : Bool) : (Tr.sat (plainQ (.bool (.sym (regB n' b)))) (run (env gl []) [] (bodyOf Tryz.f30) (start [.int .i64 (.full n'), .bool (.sym b)] 18) (ends (env gl []) Tryz.f30.results.toList))) = (
 (decide (n' = (0 : Int)) || b && decide ((0 : Int) < n') && decide (n' < (16 : Int))) = regB n' b) := by kernel_rfl
set_option maxHeartbeats 4000000 in
theorem creg : Con ea has gl 30 kreg := by
 refine plain_mkB Tryz.func30 18 (con := []) trivial (fun hA hr hv => ?_) (by kernel_rfl) (by kernel_rfl) Tryz.ntmps30
 unfold kreg at hr; split at hr
 ·rename_i n' b
  have := ret_ok hr; subst this
  refine ⟨_, [], rfl, rfl, .of (argreg n' b) (by simp), rfl, (fun W R ρ0 own0 hown => noSums (by kernel_rfl)), .of (runreg gl n'.val b.val) ?_⟩
  clear hr
  rfl
 ·cases hr
def kUses : List SVal → Nat → Acc ORes := fun a n => match a with | [.int .i64 op] => .ret ({ v := .tuple [.bool (.sym (uA op.val)), .bool (.sym (uB op.val)), .bool (.sym (uC op.val)), .bool (.sym (uN op.val))] }) | _ => .fail "Uses"
theorem argUses (op : SI) : (all (subL tAtN none' [] deep [.int .i64 op] [.int .i64 (.full op.val)])) = (
 SI.val op = SI.val op) := by kernel_rfl
theorem runUses (gl : List (Nat × SVal)) (op : Int) : (Tr.sat (plainQ (.tuple [.bool (.sym (uA op)), .bool (.sym (uB op)), .bool (.sym (uC op)), .bool (.sym (uN op))])) (run (env gl []) [] (bodyOf Tryz.f28) (start [.int .i64 (.full op)] 40) (ends (env gl []) Tryz.f28.results.toList))) = (
 (decide (op = (1 : Int)) = true → false = uA op ∧ false = uB op ∧ false = uC op ∧ false = uN op) ∧ (decide (op = (1 : Int)) = false → (decide (op = (34 : Int)) = true → false = uA op ∧ false = uB op ∧ false = uC op ∧ false = uN op) ∧ (decide (op = (34 : Int)) = false → (decide (op = (42 : Int)) = true → false = uA op ∧ false = uB op ∧ false = uC op ∧ false = uN op) ∧ (decide (op = (42 : Int)) = false → (decide (op = (64 : Int)) = true → false = uA op ∧ false = uB op ∧ false = uC op ∧ false = uN op) ∧ (decide (op = (64 : Int)) = false → (decide (op = (65 : Int)) = true → false = uA op ∧ false = uB op ∧ false = uC op ∧ false = uN op) ∧ (decide (op = (65 : Int)) = false → (decide (op = (19 : Int)) = true → false = uA op ∧ false = uB op ∧ false = uC op ∧ false = uN op) ∧ (decide (op = (19 : Int)) = false → (decide (op = (22 : Int)) = true → false = uA op ∧ false = uB op ∧ false = uC op ∧ false = uN op) ∧ (decide (op = (22 : Int)) = false → (decide (op = (96 : Int)) = true → false = uA op ∧ false = uB op ∧ false = uC op ∧ false = uN op) ∧ (decide (op = (96 : Int)) = false → (decide (op = (2 : Int)) = true → true = uA op ∧ true = uB op ∧ false = uC op ∧ false = uN op) ∧ (decide (op = (2 : Int)) = false → (decide (op = (37 : Int)) = true → true = uA op ∧ true = uB op ∧ false = uC op ∧ false = uN op) ∧ (decide (op = (37 : Int)) = false → (decide (op = (38 : Int)) = true → true = uA op ∧ true = uB op ∧ false = uC op ∧ false = uN op) ∧ (decide (op = (38 : Int)) = false → (decide (op = (41 : Int)) = true → true = uA op ∧ true = uB op ∧ false = uC op ∧ false = uN op) ∧ (decide (op = (41 : Int)) = false → (decide (op = (12 : Int)) = true → true = uA op ∧ true = uB op ∧ true = uC op ∧ true = uN op) ∧ (decide (op = (12 : Int)) = false → (decide (op = (13 : Int)) = true → true = uA op ∧ true = uB op ∧ true = uC op ∧ true = uN op) ∧ (decide (op = (13 : Int)) = false → (decide (op = (16 : Int)) = true → false = uA op ∧ false = uB op ∧ true = uC op ∧ true = uN op) ∧ (decide (op = (16 : Int)) = false → (decide (op = (17 : Int)) = true → true = uA op ∧ false = uB op ∧ true = uC op ∧ true = uN op) ∧ (decide (op = (17 : Int)) = false → (decide (op = (18 : Int)) = true → true = uA op ∧ false = uB op ∧ true = uC op ∧ true = uN op) ∧ (decide (op = (18 : Int)) = false → (decide (op = (3 : Int)) = true → true = uA op ∧ true = uB op ∧ true = uC op ∧ false = uN op) ∧ (decide (op = (3 : Int)) = false → (decide (op = (4 : Int)) = true → true = uA op ∧ true = uB op ∧ true = uC op ∧ false = uN op) ∧ (decide (op = (4 : Int)) = false → (decide (op = (5 : Int)) = true → true = uA op ∧ true = uB op ∧ true = uC op ∧ false = uN op) ∧ (decide (op = (5 : Int)) = false → (decide (op = (6 : Int)) = true → true = uA op ∧ true = uB op ∧ true = uC op ∧ false = uN op) ∧ (decide (op = (6 : Int)) = false → (decide (op = (7 : Int)) = true → true = uA op ∧ true = uB op ∧ true = uC op ∧ false = uN op) ∧ (decide (op = (7 : Int)) = false → (decide (op = (8 : Int)) = true → true = uA op ∧ true = uB op ∧ true = uC op ∧ false = uN op) ∧ (decide (op = (8 : Int)) = false → (decide (op = (9 : Int)) = true → true = uA op ∧ true = uB op ∧ true = uC op ∧ false = uN op) ∧ (decide (op = (9 : Int)) = false → (decide (op = (10 : Int)) = true → true = uA op ∧ true = uB op ∧ true = uC op ∧ false = uN op) ∧ (decide (op = (10 : Int)) = false → (decide (op = (11 : Int)) = true → true = uA op ∧ true = uB op ∧ true = uC op ∧ false = uN op) ∧ (decide (op = (11 : Int)) = false → (decide (op = (24 : Int)) = true → true = uA op ∧ true = uB op ∧ true = uC op ∧ false = uN op) ∧ (decide (op = (24 : Int)) = false → true = uA op ∧ false = uB op ∧ false = uC op ∧ false = uN op)))))))))))))))))))))))))))) := by kernel_rfl
set_option maxHeartbeats 4000000 in
theorem cUses : Con ea has gl 28 kUses := by
 refine plain_mkB Tryz.func28 40 (con := []) trivial (fun hA hr hv => ?_) (by kernel_rfl) (by kernel_rfl) Tryz.ntmps28
 unfold kUses at hr; split at hr
 ·rename_i op
  have := ret_ok hr; subst this
  refine ⟨_, [], rfl, rfl, .of (argUses op) (by simp), rfl, (fun W R ρ0 own0 hown => noSums (by kernel_rfl)), .of (runUses gl op.val) ?_⟩
  clear hr
  generalize op.val = op
  simp only [decide_eq_true_eq, decide_eq_false_iff_not]
  repeat (first | (intro h; subst h; decide) | (with_reducible intro _) | (with_reducible refine ⟨?_, fun _ => ?_⟩))
  all_goals (refine ⟨?_, ?_, ?_, ?_⟩ <;> simp [uA, uB, uC, uN, *] <;> omega)
 ·cases hr
theorem uN_uC {op : Int} (h : uN op = true) : uC op = true := by
 simp only [uN, uC, Bool.or_eq_true, beq_iff_eq] at h ⊢
 omega
theorem ref_ok (op a b c imm : Int) : (uN op = true → (!decide (isaClass op = 0) && regB a (uA op) && regB b (uB op) && (isaTwo op || decide (imm = 0)) && decide (0 ≤ c) && decide (c ≤ 255)) = wordOk op a b c imm) ∧
  (uN op = false → (!decide (isaClass op = 0) && regB a (uA op) && regB b (uB op) && (isaTwo op || decide (imm = 0)) && regB c (uC op)) = wordOk op a b c imm) := by
 cases hc : (isaClass op == 0) with
 | true =>
  have : isaClass op = 0 := by simpa using hc
  simp [wordOk, this]
 | false =>
  have hne : ¬ isaClass op = 0 := by simpa using hc
  unfold wordOk
  rw [fitsA_ok hc, fitsB_ok hc, fitsC_ok hc, hc]
  refine ⟨fun h => ?_, fun h => ?_⟩
  ·have hC := uN_uC h
   rw [Bool.eq_iff_iff]
   unfold okA okB Fac.okC regB
   rw [h, hC]
   cases uA op <;> cases uB op <;> cases isaTwo op <;> simp [hne] <;> omega
  ·rw [Bool.eq_iff_iff]
   unfold okA okB Fac.okC regB
   rw [h]
   cases uA op <;> cases uB op <;> cases uC op <;> cases isaTwo op <;> simp [hne] <;> omega
def krWord : List SVal → Nat → Acc ORes := fun a n => match a with | [.agg [.int .i64 op, .int .i64 a, .int .i64 b, .int .i64 c, .int .u32 imm]] => .ret ({ v := .tuple [.int .u32 (.full (wordW op.val a.val b.val c.val imm.val)), .bool (.sym (wordOk op.val a.val b.val c.val imm.val))] }) | _ => .fail "rWord"
theorem argrWord (op a b c imm : SI) : (all (subL tAtN none' [] deep [.agg [.int .i64 op, .int .i64 a, .int .i64 b, .int .i64 c, .int .u32 imm]] [.agg [.int .i64 (.full op.val), .int .i64 (.full a.val), .int .i64 (.full b.val), .int .i64 (.full c.val), .int .u32 (.full imm.val)]])) = (
 SI.val op = SI.val op ∧ SI.val a = SI.val a ∧ SI.val b = SI.val b ∧ SI.val c = SI.val c ∧ SI.val imm = SI.val imm) := by kernel_rfl
theorem runrWord (gl : List (Nat × SVal)) (op : Int) (a : Int) (b : Int) (c : Int) (imm : Int) : (Tr.sat (plainQ (.tuple [.int .u32 (.full (wordW op a b c imm)), .bool (.sym (wordOk op a b c imm))])) (run (env gl [(28, kUses), (29, krClass), (30, kreg), (21, krTwo)]) [] (bodyOf Tryz.f20) (start [.agg [.int .i64 (.full op), .int .i64 (.full a), .int .i64 (.full b), .int .i64 (.full c), .int .u32 (.full imm)]] 82) (ends (env gl [(28, kUses), (29, krClass), (30, kreg), (21, krTwo)]) Tryz.f20.results.toList))) = (
 (uN op = true → ((!(!decide (isaClass op = (0 : Int)) && regB a (uA op) && regB b (uB op) && (isaTwo op || decide (imm = (0 : Int))) && decide ((0 : Int) ≤ c) && decide (c ≤ (255 : Int)))) = true → (0 : Int) = wordW op a b c imm ∧ false = wordOk op a b c imm) ∧ ((!(!decide (isaClass op = (0 : Int)) && regB a (uA op) && regB b (uB op) && (isaTwo op || decide (imm = (0 : Int))) && decide ((0 : Int) ≤ c) && decide (c ≤ (255 : Int)))) = false → bits BinOp.or IntKind.u32 (bits BinOp.or IntKind.u32 (bits BinOp.or IntKind.u32 (IntKind.wrap IntKind.u32 (IntKind.wrap IntKind.u32 op * (16777216 : Int))) (IntKind.wrap IntKind.u32 (IntKind.wrap IntKind.u32 a * (65536 : Int)))) (IntKind.wrap IntKind.u32 (IntKind.wrap IntKind.u32 b * (256 : Int)))) (IntKind.wrap IntKind.u32 c) = wordW op a b c imm ∧ true = wordOk op a b c imm)) ∧ (uN op = false → ((!(!decide (isaClass op = (0 : Int)) && regB a (uA op) && regB b (uB op) && (isaTwo op || decide (imm = (0 : Int))) && regB c (uC op))) = true → (0 : Int) = wordW op a b c imm ∧ false = wordOk op a b c imm) ∧ ((!(!decide (isaClass op = (0 : Int)) && regB a (uA op) && regB b (uB op) && (isaTwo op || decide (imm = (0 : Int))) && regB c (uC op))) = false → bits BinOp.or IntKind.u32 (bits BinOp.or IntKind.u32 (bits BinOp.or IntKind.u32 (IntKind.wrap IntKind.u32 (IntKind.wrap IntKind.u32 op * (16777216 : Int))) (IntKind.wrap IntKind.u32 (IntKind.wrap IntKind.u32 a * (65536 : Int)))) (IntKind.wrap IntKind.u32 (IntKind.wrap IntKind.u32 b * (256 : Int)))) (IntKind.wrap IntKind.u32 c) = wordW op a b c imm ∧ true = wordOk op a b c imm))) := by kernel_rfl
set_option maxHeartbeats 4000000 in
theorem crWord : Con ea has gl 20 krWord := by
 refine plain_mkB Tryz.func20 82 (con := [(28, kUses), (29, krClass), (30, kreg), (21, krTwo)]) ⟨cUses, crClass, creg, crTwo, trivial⟩ (fun hA hr hv => ?_) (by kernel_rfl) (by kernel_rfl) Tryz.ntmps20
 unfold krWord at hr; split at hr
 ·rename_i op a b c imm
  have := ret_ok hr; subst this
  refine ⟨_, [], rfl, rfl, .of (argrWord op a b c imm) (by simp), rfl, (fun W R ρ0 own0 hown => noSums (by kernel_rfl)), .of (runrWord gl op.val a.val b.val c.val imm.val) ?_⟩
  clear hr
  clear hA hv
  generalize op.val = op
  generalize a.val = a
  generalize b.val = b
  generalize c.val = c
  generalize imm.val = imm
  have h1 := (ref_ok op a b c imm).1
  have h2 := (ref_ok op a b c imm).2
  have fin : ((!wordOk op a b c imm) = true → 0 = wordW op a b c imm ∧ false = wordOk op a b c imm) ∧ ((!wordOk op a b c imm) = false →
    bits BinOp.or IntKind.u32 (bits BinOp.or IntKind.u32 (bits BinOp.or IntKind.u32 (IntKind.u32.wrap (IntKind.u32.wrap op * 16777216)) (IntKind.u32.wrap (IntKind.u32.wrap a * 65536))) (IntKind.u32.wrap (IntKind.u32.wrap b * 256))) (IntKind.u32.wrap c) = wordW op a b c imm ∧ true = wordOk op a b c imm) := by
   refine ⟨fun h => ?_, fun h => ?_⟩
   ·have h : wordOk op a b c imm = false := by simpa using h
    rw [wordW, h]; exact ⟨rfl, rfl⟩
   ·have h : wordOk op a b c imm = true := by simpa using h
    refine ⟨?_, h.symm⟩
    rw [wordW, if_pos h]
    unfold wordOk at h
    simp only [Bool.and_eq_true, Bool.not_eq_true'] at h
    obtain ⟨⟨⟨⟨g1, g2⟩, g3⟩, g4⟩, _⟩ := h
    have := class_in g1
    simp only [IntKind.wrap_u32]
    exact word_bits (by omega) (fits_in g2) (fits_in g3) (fits_in g4)
  refine ⟨fun h => ?_, fun h => ?_⟩
  ·rw [h1 h]; exact fin
  ·rw [h2 h]; exact fin
 ·cases hr
def kiJumps : List SVal → Nat → Acc ORes := fun a n => match a with | [.agg [], .int .i64 op] => .ret ({ v := .bool (.sym (isaJumps op.val)) }) | _ => .fail "iJumps"
theorem argiJumps (op : SI) : (all (subL tAtN none' [] deep [.agg [], .int .i64 op] [.agg [], .int .i64 (.full op.val)])) = (
 SI.val op = SI.val op) := by kernel_rfl
theorem runiJumps (gl : List (Nat × SVal)) (op : Int) : (Tr.sat (plainQ (.bool (.sym (isaJumps op)))) (run (env gl []) [] (bodyOf Tryz.f61) (start [.agg [], .int .i64 (.full op)] 15) (ends (env gl []) Tryz.f61.results.toList))) = (
 (decide (op = (16 : Int)) = true → true = isaJumps op) ∧ (decide (op = (16 : Int)) = false → (decide (op = (17 : Int)) = true → true = isaJumps op) ∧ (decide (op = (17 : Int)) = false → (decide (op = (18 : Int)) = true → true = isaJumps op) ∧ (decide (op = (18 : Int)) = false → (decide (op = (19 : Int)) = true → true = isaJumps op) ∧ (decide (op = (19 : Int)) = false → (decide (op = (20 : Int)) = true → true = isaJumps op) ∧ (decide (op = (20 : Int)) = false → (decide (op = (21 : Int)) = true → true = isaJumps op) ∧ (decide (op = (21 : Int)) = false → (decide (op = (22 : Int)) = true → true = isaJumps op) ∧ (decide (op = (22 : Int)) = false → (decide (op = (23 : Int)) = true → true = isaJumps op) ∧ (decide (op = (23 : Int)) = false → false = isaJumps op))))))))) := by kernel_rfl
set_option maxHeartbeats 4000000 in
theorem ciJumps : Con ea has gl 61 kiJumps := by
 refine plain_mkB Tryz.func61 15 (con := []) trivial (fun hA hr hv => ?_) (by kernel_rfl) (by kernel_rfl) Tryz.ntmps61
 unfold kiJumps at hr; split at hr
 ·rename_i op
  have := ret_ok hr; subst this
  refine ⟨_, [], rfl, rfl, .of (argiJumps op) (by simp), rfl, (fun W R ρ0 own0 hown => noSums (by kernel_rfl)), .of (runiJumps gl op.val) ?_⟩
  clear hr
  generalize op.val = op
  unfold isaJumps
  simp only [decide_eq_true_eq, decide_eq_false_iff_not]
  repeat (first | (intro h; subst h; decide) | (with_reducible intro _) | (with_reducible refine ⟨?_, fun _ => ?_⟩))
  all_goals (symm; rw [decide_eq_false_iff_not]; omega)
 ·cases hr
end
end Go.Proofs.YtacmmedhjebfjaaGreatDoor
set_option linter.unusedVariables false
set_option linter.unusedSimpArgs false
namespace Go.Proofs.YtacmmedhjebfjaaGreatDoor
open Go.RowKit Go.Sy Go.Fac
section
variable {ea : Ear} {has : Int → Prop} {gl : List (Nat × SVal)}
def kAt : List SVal → Nat → Acc ORes := fun a n => match a with | [.str nm] => .ret ({ v := .agg (RT.line.enc ⟨⟨0, 0, 0, 0, 0⟩, nm, ByteArray.empty, false⟩) }) | _ => .fail "At"
theorem argAt (nm : ByteArray) : (all (subL tAtN none' [] deep [.str nm] [.str nm])) = (
 nm = nm) := by kernel_rfl
theorem runAt (gl : List (Nat × SVal)) (nm : ByteArray) : (Tr.sat (plainQ (.agg (RT.line.enc ⟨⟨0, 0, 0, 0, 0⟩, nm, ByteArray.empty, false⟩))) (run (env gl []) [] (bodyOf Tryz.f7) (start [.str nm] 5) (ends (env gl []) Tryz.f7.results.toList))) = (
 (0 : Int) = (0 : Int) ∧ (0 : Int) = (0 : Int) ∧ (0 : Int) = (0 : Int) ∧ (0 : Int) = (0 : Int) ∧ (0 : Int) = (0 : Int) ∧ nm = nm ∧ ByteArray.empty = ByteArray.empty ∧ false = false) := by kernel_rfl
set_option maxHeartbeats 4000000 in
theorem cAt : Con ea has gl 7 kAt := by
 refine plain_mkB Tryz.func7 5 (con := []) trivial (fun hA hr hv => ?_) (by kernel_rfl) (by kernel_rfl) Tryz.ntmps7
 unfold kAt at hr; split at hr
 ·rename_i nm
  have := ret_ok hr; subst this
  refine ⟨_, [], rfl, rfl, .of (argAt nm) (by simp), rfl, (fun W R ρ0 own0 hown => noSums (by kernel_rfl)), .of (runAt gl nm) ?_⟩
  clear hr
  exact ⟨rfl, rfl, rfl, rfl, rfl, rfl, rfl, rfl⟩
 ·cases hr
def opL (op : Int) (l : List Int) : Ln := ⟨⟨op, l.getD 0 0, l.getD 1 0, l.getD 2 0, 0⟩, ByteArray.empty, ByteArray.empty, false⟩
def rOp (op : SI) (l : List Int) (n : Nat) : ORes := { v := .agg (RT.line.enc (opL op.val l)) }
def kOp : List SVal → Nat → Acc ORes := fun a n => match a with
 | [.int .i64 op, .ro .i64 l] => .ret (rOp op l n)
 | [.int .i64 op, .nilslice] => .ret (rOp op (nilR .i64) n)
 | [.int .i64 op, .own q] => .look q fun cc => match cc with
  | some (.recs .i64 l) => .ret ({ rOp op l n with ws := [(q, none)] })
  | _ => .fail "Op"
 | _ => .fail "Op"
theorem argOp (op : SI) (l : List Int) : (all (subL tAtN none' [] deep [.int .i64 op] [.int .i64 (.full op.val)])) = (
 SI.val op = SI.val op) := by kernel_rfl
theorem runOp (gl : List (Nat × SVal)) (op : SI) (l : List Int) : (Tr.sat (plainQ (.agg (RT.line.enc (opL op.val l)))) (run (env gl []) [] (bodyOf Tryz.f9) (start ([.int .i64 (.full op.val)] ++ [.ro .i64 l]) 34) (ends (env gl []) Tryz.f9.results.toList))) = (
 (decide ((0 : Int) < (↑(List.length l) : Int)) = true → ((0 : Int) ≤ (0 : Int) ∧ (0 : Int) < (↑(List.length l) : Int)) ∧ ((0 : Int) ≤ (0 : Int) ∧ (0 : Int) < (↑(List.length l) : Int) → (decide ((1 : Int) < (↑(List.length l) : Int)) = true → ((0 : Int) ≤ (1 : Int) ∧ (1 : Int) < (↑(List.length l) : Int)) ∧ ((0 : Int) ≤ (1 : Int) ∧ (1 : Int) < (↑(List.length l) : Int) → (decide ((2 : Int) < (↑(List.length l) : Int)) = true → ((0 : Int) ≤ (2 : Int) ∧ (2 : Int) < (↑(List.length l) : Int)) ∧ ((0 : Int) ≤ (2 : Int) ∧ (2 : Int) < (↑(List.length l) : Int) → SI.val op = (opL (SI.val op) l).i.op ∧ List.getD l (Int.toNat (0 : Int)) (RT.dflt RT.i64) = (opL (SI.val op) l).i.a ∧ List.getD l (Int.toNat (1 : Int)) (RT.dflt RT.i64) = (opL (SI.val op) l).i.b ∧ List.getD l (Int.toNat (2 : Int)) (RT.dflt RT.i64) = (opL (SI.val op) l).i.c ∧ (0 : Int) = (opL (SI.val op) l).i.imm ∧ ByteArray.empty = (opL (SI.val op) l).name ∧ ByteArray.empty = (opL (SI.val op) l).sym ∧ false = (opL (SI.val op) l).table)) ∧ (decide ((2 : Int) < (↑(List.length l) : Int)) = false → SI.val op = (opL (SI.val op) l).i.op ∧ List.getD l (Int.toNat (0 : Int)) (RT.dflt RT.i64) = (opL (SI.val op) l).i.a ∧ List.getD l (Int.toNat (1 : Int)) (RT.dflt RT.i64) = (opL (SI.val op) l).i.b ∧ (0 : Int) = (opL (SI.val op) l).i.c ∧ (0 : Int) = (opL (SI.val op) l).i.imm ∧ ByteArray.empty = (opL (SI.val op) l).name ∧ ByteArray.empty = (opL (SI.val op) l).sym ∧ false = (opL (SI.val op) l).table))) ∧ (decide ((1 : Int) < (↑(List.length l) : Int)) = false → (decide ((2 : Int) < (↑(List.length l) : Int)) = true → ((0 : Int) ≤ (2 : Int) ∧ (2 : Int) < (↑(List.length l) : Int)) ∧ ((0 : Int) ≤ (2 : Int) ∧ (2 : Int) < (↑(List.length l) : Int) → SI.val op = (opL (SI.val op) l).i.op ∧ List.getD l (Int.toNat (0 : Int)) (RT.dflt RT.i64) = (opL (SI.val op) l).i.a ∧ (0 : Int) = (opL (SI.val op) l).i.b ∧ List.getD l (Int.toNat (2 : Int)) (RT.dflt RT.i64) = (opL (SI.val op) l).i.c ∧ (0 : Int) = (opL (SI.val op) l).i.imm ∧ ByteArray.empty = (opL (SI.val op) l).name ∧ ByteArray.empty = (opL (SI.val op) l).sym ∧ false = (opL (SI.val op) l).table)) ∧ (decide ((2 : Int) < (↑(List.length l) : Int)) = false → SI.val op = (opL (SI.val op) l).i.op ∧ List.getD l (Int.toNat (0 : Int)) (RT.dflt RT.i64) = (opL (SI.val op) l).i.a ∧ (0 : Int) = (opL (SI.val op) l).i.b ∧ (0 : Int) = (opL (SI.val op) l).i.c ∧ (0 : Int) = (opL (SI.val op) l).i.imm ∧ ByteArray.empty = (opL (SI.val op) l).name ∧ ByteArray.empty = (opL (SI.val op) l).sym ∧ false = (opL (SI.val op) l).table)))) ∧ (decide ((0 : Int) < (↑(List.length l) : Int)) = false → (decide ((1 : Int) < (↑(List.length l) : Int)) = true → ((0 : Int) ≤ (1 : Int) ∧ (1 : Int) < (↑(List.length l) : Int)) ∧ ((0 : Int) ≤ (1 : Int) ∧ (1 : Int) < (↑(List.length l) : Int) → (decide ((2 : Int) < (↑(List.length l) : Int)) = true → ((0 : Int) ≤ (2 : Int) ∧ (2 : Int) < (↑(List.length l) : Int)) ∧ ((0 : Int) ≤ (2 : Int) ∧ (2 : Int) < (↑(List.length l) : Int) → SI.val op = (opL (SI.val op) l).i.op ∧ (0 : Int) = (opL (SI.val op) l).i.a ∧ List.getD l (Int.toNat (1 : Int)) (RT.dflt RT.i64) = (opL (SI.val op) l).i.b ∧ List.getD l (Int.toNat (2 : Int)) (RT.dflt RT.i64) = (opL (SI.val op) l).i.c ∧ (0 : Int) = (opL (SI.val op) l).i.imm ∧ ByteArray.empty = (opL (SI.val op) l).name ∧ ByteArray.empty = (opL (SI.val op) l).sym ∧ false = (opL (SI.val op) l).table)) ∧ (decide ((2 : Int) < (↑(List.length l) : Int)) = false → SI.val op = (opL (SI.val op) l).i.op ∧ (0 : Int) = (opL (SI.val op) l).i.a ∧ List.getD l (Int.toNat (1 : Int)) (RT.dflt RT.i64) = (opL (SI.val op) l).i.b ∧ (0 : Int) = (opL (SI.val op) l).i.c ∧ (0 : Int) = (opL (SI.val op) l).i.imm ∧ ByteArray.empty = (opL (SI.val op) l).name ∧ ByteArray.empty = (opL (SI.val op) l).sym ∧ false = (opL (SI.val op) l).table))) ∧ (decide ((1 : Int) < (↑(List.length l) : Int)) = false → (decide ((2 : Int) < (↑(List.length l) : Int)) = true → ((0 : Int) ≤ (2 : Int) ∧ (2 : Int) < (↑(List.length l) : Int)) ∧ ((0 : Int) ≤ (2 : Int) ∧ (2 : Int) < (↑(List.length l) : Int) → SI.val op = (opL (SI.val op) l).i.op ∧ (0 : Int) = (opL (SI.val op) l).i.a ∧ (0 : Int) = (opL (SI.val op) l).i.b ∧ List.getD l (Int.toNat (2 : Int)) (RT.dflt RT.i64) = (opL (SI.val op) l).i.c ∧ (0 : Int) = (opL (SI.val op) l).i.imm ∧ ByteArray.empty = (opL (SI.val op) l).name ∧ ByteArray.empty = (opL (SI.val op) l).sym ∧ false = (opL (SI.val op) l).table)) ∧ (decide ((2 : Int) < (↑(List.length l) : Int)) = false → SI.val op = (opL (SI.val op) l).i.op ∧ (0 : Int) = (opL (SI.val op) l).i.a ∧ (0 : Int) = (opL (SI.val op) l).i.b ∧ (0 : Int) = (opL (SI.val op) l).i.c ∧ (0 : Int) = (opL (SI.val op) l).i.imm ∧ ByteArray.empty = (opL (SI.val op) l).name ∧ ByteArray.empty = (opL (SI.val op) l).sym ∧ false = (opL (SI.val op) l).table)))) := by kernel_rfl
theorem gOp (op : SI) (l : List Int) (hv : ∀ q, (rOp op l 0).vc = some q → q) : Tr.sat (plainQ (.agg (RT.line.enc (opL op.val l)))) (run (env gl []) [] (bodyOf Tryz.f9) (start ([.int .i64 (.full op.val)] ++ [.ro .i64 l]) 34) (ends (env gl []) Tryz.f9.results.toList)) := by
 skip
 refine (runOp gl op l).mpr ?_
 generalize op.val = op
 have d0 : RT.i64.dflt = (0 : Int) := rfl
 simp only [d0]
 rcases l with _ | ⟨x, _ | ⟨y, _ | ⟨z, l⟩⟩⟩ <;> simp [opL] <;> omega
set_option maxHeartbeats 4000000 in
theorem cOp : Con ea has gl 9 kOp := by
 refine lastP_mk Tryz.func9 34 (con := []) trivial (fun hA hr hv => ?_) (by kernel_rfl) (by kernel_rfl) Tryz.ntmps9
 unfold kOp at hr; split at hr
 ·rename_i op l
  have := ret_ok hr; subst this
  refine ⟨[.int .i64 op], .i64, l, _, [], (.inl ⟨rfl, rfl⟩), rfl, (argOp op l).mpr (by simp), rfl, (fun W R ρ0 own0 hown => noSums (by kernel_rfl)), gOp op l hv⟩
 ·rename_i op
  have := ret_ok hr; subst this
  refine ⟨[.int .i64 op], .i64, (nilR .i64), _, [], (.inr (.inl ⟨rfl, rfl, rfl⟩)), rfl, (argOp op (nilR .i64)).mpr (by simp), rfl, (fun W R ρ0 own0 hown => noSums (by kernel_rfl)), gOp op (nilR .i64) hv⟩
 ·rename_i op q
  simp only [Acc.run] at hr
  split at hr
  ·rename_i l hq
   have := ret_ok hr; subst this
   refine ⟨[.int .i64 op], .i64, l, _, [], (.inr (.inr ⟨q, rfl, hq, rfl⟩)), rfl, (argOp op l).mpr (by simp), rfl, (fun W R ρ0 own0 hown => noSums (by kernel_rfl)), gOp op l hv⟩
  ·cases hr
 ·cases hr
def HWords' (l : List Int) (i : Nat) : SState := { fr := [(0, .ro .u32 l), (3, .own 0), (4, .int .i64 (.sym i 0 1000000))], hp := [(0, some (.recs .u32 (l.take i)))], next := 1, sz := 22 }
def XWords' (l : List Int) : SState := { fr := [(3, .own 0)], hp := [(0, some (.recs .u32 l))], next := 1, sz := 22 }
def LWords' (l : List Int) : LSum := ⟨HWords' l 0, fun k => k (.exit 0) (XWords' l), l.length ≤ 1000000⟩
theorem bWords' (gl : List (Nat × SVal)) (l : List Int) (i : Nat) : (Tr.sat (rnd1 (env gl []) (fun _ => True) (l.length) (HWords' l) 0 (XWords' l) i) (run (env gl []) [] (loopN (bodyOf Tryz.f18) 0) (HWords' l i) .leaf)) = (
 (decide ((↑i : Int) < (↑(List.length l) : Int)) = true → ((0 : Int) ≤ (↑i : Int) ∧ (↑i : Int) < (↑(List.length l) : Int)) ∧ ((0 : Int) ≤ (↑i : Int) ∧ (↑i : Int) < (↑(List.length l) : Int) → List.length (List.take i l) + List.length [List.getD l (Int.toNat (↑i : Int)) (RT.dflt RT.u32)] ≤ (137438953472 : Nat) ∧ (List.length (List.take i l) + List.length [List.getD l (Int.toNat (↑i : Int)) (RT.dflt RT.u32)] ≤ (137438953472 : Nat) → i < List.length l ∧ True ∧ l = l ∧ (↑i : Int) + (1 : Int) = (↑(i + (1 : Nat)) : Int) ∧ ((0 : Int) ≤ (↑(i + (1 : Nat)) : Int) ∧ (↑(i + (1 : Nat)) : Int) ≤ (1000000 : Int)) ∧ List.take i l ++ [List.getD l (Int.toNat (↑i : Int)) (RT.dflt RT.u32)] = List.take (i + (1 : Nat)) l))) ∧ (decide ((↑i : Int) < (↑(List.length l) : Int)) = false → Nat.beq (0 : Nat) (0 : Nat) = true ∧ List.take i l = l)) := by kernel_rfl
set_option maxHeartbeats 4000000 in
theorem lWords' (l : List Int) {W : World} {R own0 : Nat → Prop} {ρ0 : Nat → Option Value} (hown : HownOk (env gl []) own0 ρ0) : LOk Tryz.prog (env gl []) (ctx ea has) gl W R own0 ρ0 (loopN (bodyOf Tryz.f18) 0) (LWords' l) := by
 refine loop1_ok (J := fun _ => True) (N := l.length) (H := HWords' l) (X := XWords' l) (env_ok (con := []) trivial) hown (ls := fun i => []) (fun i => noSums (by kernel_rfl)) (fun hm i hi hj => ?_) 0 (fun hm => by first | exact Nat.zero_le _ | omega) (fun hm => trivial)
 rw [bWords' gl l i]
 have d0 : RT.u32.dflt = (0 : Int) := rfl
 simp only [d0, Int.toNat_natCast, List.length_singleton, List.length_take]
 refine ⟨fun h => ?_, fun h => ?_⟩
 ·have h := of_decide_eq_true h
  have hlt : i < l.length := by omega
  have : l.take i ++ [l.getD i 0] = l.take (i + 1) := by rw [List.take_add_one, List.getElem?_eq_getElem hlt]; simp [hlt]
  refine ⟨by omega, fun _ => ⟨by omega, fun _ => ⟨hlt, trivial, ?_⟩⟩⟩
  simp only [this, true_and, and_true]; omega
 ·have h := of_decide_eq_false h
  exact ⟨rfl, List.take_of_length_le (by omega)⟩
def rWords (l : List Int) (n : Nat) : ORes := { v := .ro .u32 l, vc := some (l.length ≤ 1000000) }
def kWords : List SVal → Nat → Acc ORes := fun a n => match a with
 | [.ro .u32 l] => .ret (rWords l n)
 | [.nilslice] => .ret (rWords (nilR .u32) n)
 | [.own q] => .look q fun cc => match cc with
  | some (.recs .u32 l) => .ret ({ rWords l n with ws := [(q, none)] })
  | _ => .fail "Words"
 | _ => .fail "Words"
theorem argWords (l : List Int) : (all (subL tAtN none' [] deep [] [])) = (
 True) := by kernel_rfl
theorem runWords (gl : List (Nat × SVal)) (l : List Int) : (Tr.sat (plainQ (.ro .u32 l)) (run (env gl []) [(3, LWords' l)] (bodyOf Tryz.f18) (start ([] ++ [.ro .u32 l]) 22) (ends (env gl []) Tryz.f18.results.toList))) = (
 ((0 : Int) ≤ (0 : Int) ∧ (0 : Int) ≤ (↑(List.length l) : Int) ∧ (↑(List.length l) : Int) ≤ (137438953472 : Int)) ∧ ((0 : Int) ≤ (0 : Int) ∧ (0 : Int) ≤ (↑(List.length l) : Int) ∧ (↑(List.length l) : Int) ≤ (137438953472 : Int) → (List.length l ≤ (1000000 : Nat) ∧ l = l ∧ (0 : Int) = (↑(0 : Nat) : Int) ∧ List.replicate (Int.toNat (0 : Int)) (RT.dflt RT.u32) = List.take (0 : Nat) l) ∧ (List.length l ≤ (1000000 : Nat) ∧ l = l ∧ (0 : Int) = (↑(0 : Nat) : Int) ∧ List.replicate (Int.toNat (0 : Int)) (RT.dflt RT.u32) = List.take (0 : Nat) l → l = l))) := by kernel_rfl
theorem gWords (l : List Int) (hv : ∀ q, (rWords l 0).vc = some q → q) : Tr.sat (plainQ (.ro .u32 l)) (run (env gl []) [(3, LWords' l)] (bodyOf Tryz.f18) (start ([] ++ [.ro .u32 l]) 22) (ends (env gl []) Tryz.f18.results.toList)) := by
 replace hv := hv _ rfl
 refine (runWords gl l).mpr ?_
 refine ⟨by omega, fun _ => ⟨⟨hv, rfl, rfl, rfl⟩, fun _ => rfl⟩⟩
set_option maxHeartbeats 4000000 in
theorem cWords : Con ea has gl 18 kWords := by
 refine lastP_mk Tryz.func18 22 (con := []) trivial (fun hA hr hv => ?_) (by kernel_rfl) (by kernel_rfl) Tryz.ntmps18
 unfold kWords at hr; split at hr
 ·rename_i l
  have := ret_ok hr; subst this
  refine ⟨[], .u32, l, _, [(3, LWords' l)], (.inl ⟨rfl, rfl⟩), rfl, (argWords l).mpr (by simp), rfl, (fun W R ρ0 own0 hown => hl1 (by kernel_rfl) (by kernel_rfl) (lWords' l hown)), gWords l hv⟩
 ·skip
  have := ret_ok hr; subst this
  refine ⟨[], .u32, (nilR .u32), _, [(3, LWords' (nilR .u32))], (.inr (.inl ⟨rfl, rfl, rfl⟩)), rfl, (argWords (nilR .u32)).mpr (by simp), rfl, (fun W R ρ0 own0 hown => hl1 (by kernel_rfl) (by kernel_rfl) (lWords' (nilR .u32) hown)), gWords (nilR .u32) hv⟩
 ·rename_i q
  simp only [Acc.run] at hr
  split at hr
  ·rename_i l hq
   have := ret_ok hr; subst this
   refine ⟨[], .u32, l, _, [(3, LWords' l)], (.inr (.inr ⟨q, rfl, hq, rfl⟩)), rfl, (argWords l).mpr (by simp), rfl, (fun W R ρ0 own0 hown => hl1 (by kernel_rfl) (by kernel_rfl) (lWords' l hown)), gWords l hv⟩
  ·cases hr
 ·cases hr
end
end Go.Proofs.YtacmmedhjebfjaaGreatDoor
set_option linter.unusedVariables false
set_option linter.unusedSimpArgs false
namespace Go.Proofs.YtacmmedhjebfjaaGreatDoor
open Go.RowKit Go.Sy Go.Fac
section
variable {ea : Ear} {has : Int → Prop} {gl : List (Nat × SVal)}
abbrev obV (d c m : List Int) (dr cr : List Rel) (sy : List Sm) : SVal := .agg [.ro .u32 d, .ro .u32 c, .ro .u8 m, .ro .rel dr, .ro .rel cr, .ro .sym sy]
def begM (c m : List Int) (i : Int) : Bool := !(decide (i < 0) || decide ((c.length : Int) ≤ i) || decide ((m.length : Int) ≤ i) || !decide (m.getD i.toNat 0 = 1))
def nextW (c : List Int) (i : Int) : Int := if i + 1 < c.length then c.getD (i + 1).toNat 0 else 0
def insI (c m : List Int) (i : Int) : In5 := if begM c m i = true then ofF (c.getD i.toNat 0) (nextW c i) else ⟨0, 0, 0, 0, 0⟩
def insB (c m : List Int) (i : Int) : Bool := begM c m i && ofOk (c.getD i.toNat 0)
theorem ro_len {C : Ctx} {W : World} {R : Nat → Prop} {ρ : Nat → Option Value} {t : RT} {l : List t.ty} {v : Value} (h : Den C W R ρ (.ro t l) v) : l.length ≤ 9223372036854775807 := by
 cases h with
 | ro _ _ A cap vs h1 h2 => unfold maxLen at h2; omega
theorem ob_len {C : Ctx} {W : World} {R : Nat → Prop} {ρ : Nat → Option Value} {d c m : List Int} {dr cr : List Rel} {sy : List Sm} {l : List SVal} {vs : List Value} (h : DenA C W R ρ (obV d c m dr cr sy :: l) vs) :
  d.length ≤ 9223372036854775807 ∧ c.length ≤ 9223372036854775807 ∧ m.length ≤ 9223372036854775807 ∧ dr.length ≤ 9223372036854775807 ∧ cr.length ≤ 9223372036854775807 ∧ sy.length ≤ 9223372036854775807 := by
 cases h with
 | cons _ v _ us h _ =>
  cases h with
  | agg _ vs h =>
   obtain ⟨_, _, rfl, _, h1, h⟩ := h.inv_one rfl
   obtain ⟨_, _, rfl, _, h2, h⟩ := h.inv_one rfl
   obtain ⟨_, _, rfl, _, h3, h⟩ := h.inv_one rfl
   obtain ⟨_, _, rfl, _, h4, h⟩ := h.inv_one rfl
   obtain ⟨_, _, rfl, _, h5, h⟩ := h.inv_one rfl
   obtain ⟨_, _, rfl, _, h6, h⟩ := h.inv_one rfl
   exact ⟨ro_len h1, ro_len h2, ro_len h3, ro_len h4, ro_len h5, ro_len h6⟩
theorem wrapS {n : Int} (h : 0 ≤ n) (h' : n ≤ 9223372036854775806) : IntKind.i64.wrap (n + 1) = n + 1 := by rw [IntKind.wrap_i64]; omega
def kInstr : List SVal → Nat → Acc ORes := fun a n => match a with | [.agg [.ro .u32 d, .ro .u32 c, .ro .u8 m, .ro .rel dr, .ro .rel cr, .ro .sym sy], .int .i64 i] => .ret ({ v := .tuple [.agg (insI c m i.val).enc, .bool (.sym (insB c m i.val))] }) | _ => .fail "Instr"
theorem argInstr (d c m : List Int) (dr cr : List Rel) (sy : List Sm) (i : SI) : (all (subL tAtN none' [] deep [.agg [.ro .u32 d, .ro .u32 c, .ro .u8 m, .ro .rel dr, .ro .rel cr, .ro .sym sy], .int .i64 i] [.agg [.ro .u32 d, .ro .u32 c, .ro .u8 m, .ro .rel dr, .ro .rel cr, .ro .sym sy], .int .i64 (.full i.val)])) = (
 d = d ∧ c = c ∧ m = m ∧ dr = dr ∧ cr = cr ∧ sy = sy ∧ SI.val i = SI.val i) := by kernel_rfl
theorem runInstr (gl : List (Nat × SVal)) (d : List Int) (c : List Int) (m : List Int) (dr : List Rel) (cr : List Rel) (sy : List Sm) (i : Int) : (Tr.sat (plainQ (.tuple [.agg (insI c m i).enc, .bool (.sym (insB c m i))])) (run (env gl [(62, kOf)]) [] (bodyOf Tryz.f43) (start [.agg [.ro .u32 d, .ro .u32 c, .ro .u8 m, .ro .rel dr, .ro .rel cr, .ro .sym sy], .int .i64 (.full i)] 53) (ends (env gl [(62, kOf)]) Tryz.f43.results.toList))) = (
 RQ ((!(decide (i < 0) || decide ((↑(List.length c) : Int) ≤ i) || decide ((↑(List.length m) : Int) ≤ i))) = true → 0 ≤ i ∧ i < (↑(List.length m) : Int)) (IT (decide (i < 0) || decide ((↑(List.length c) : Int) ≤ i) || decide ((↑(List.length m) : Int) ≤ i) || !decide (List.getD m (Int.toNat i) (RT.dflt RT.u8) = 1)) ((0 : Int) = (insI c m i).op ∧ (0 : Int) = (insI c m i).a ∧ (0 : Int) = (insI c m i).b ∧ (0 : Int) = (insI c m i).c ∧ (0 : Int) = (insI c m i).imm ∧ false = insB c m i) (IT (decide (IntKind.wrap IntKind.i64 (i + 1) < (↑(List.length c) : Int))) (RQ (0 ≤ IntKind.wrap IntKind.i64 (i + 1) ∧ IntKind.wrap IntKind.i64 (i + 1) < (↑(List.length c) : Int)) (RQ (0 ≤ i ∧ i < (↑(List.length c) : Int)) ((ofF (List.getD c (Int.toNat i) (RT.dflt RT.u32)) (List.getD c (Int.toNat (IntKind.wrap IntKind.i64 (i + 1))) (RT.dflt RT.u32))).op = (insI c m i).op ∧ (ofF (List.getD c (Int.toNat i) (RT.dflt RT.u32)) (List.getD c (Int.toNat (IntKind.wrap IntKind.i64 (i + 1))) (RT.dflt RT.u32))).a = (insI c m i).a ∧ (ofF (List.getD c (Int.toNat i) (RT.dflt RT.u32)) (List.getD c (Int.toNat (IntKind.wrap IntKind.i64 (i + 1))) (RT.dflt RT.u32))).b = (insI c m i).b ∧ (ofF (List.getD c (Int.toNat i) (RT.dflt RT.u32)) (List.getD c (Int.toNat (IntKind.wrap IntKind.i64 (i + 1))) (RT.dflt RT.u32))).c = (insI c m i).c ∧ (ofF (List.getD c (Int.toNat i) (RT.dflt RT.u32)) (List.getD c (Int.toNat (IntKind.wrap IntKind.i64 (i + 1))) (RT.dflt RT.u32))).imm = (insI c m i).imm ∧ ofOk (List.getD c (Int.toNat i) (RT.dflt RT.u32)) = insB c m i))) (RQ (0 ≤ i ∧ i < (↑(List.length c) : Int)) ((ofF (List.getD c (Int.toNat i) (RT.dflt RT.u32)) (0 : Int)).op = (insI c m i).op ∧ (ofF (List.getD c (Int.toNat i) (RT.dflt RT.u32)) (0 : Int)).a = (insI c m i).a ∧ (ofF (List.getD c (Int.toNat i) (RT.dflt RT.u32)) (0 : Int)).b = (insI c m i).b ∧ (ofF (List.getD c (Int.toNat i) (RT.dflt RT.u32)) (0 : Int)).c = (insI c m i).c ∧ (ofF (List.getD c (Int.toNat i) (RT.dflt RT.u32)) (0 : Int)).imm = (insI c m i).imm ∧ ofOk (List.getD c (Int.toNat i) (RT.dflt RT.u32)) = insB c m i))))) := by kernel_rfl
set_option maxHeartbeats 4000000 in
theorem cInstr : Con ea has gl 43 kInstr := by
 refine plain_mkB Tryz.func43 53 (con := [(62, kOf)]) ⟨cOf, trivial⟩ (fun hA hr hv => ?_) (by kernel_rfl) (by kernel_rfl) Tryz.ntmps43
 unfold kInstr at hr; split at hr
 ·rename_i d c m dr cr sy i
  have := ret_ok hr; subst this
  refine ⟨_, [], rfl, rfl, .of (argInstr d c m dr cr sy i) (by simp), rfl, (fun W R ρ0 own0 hown => noSums (by kernel_rfl)), .of (runInstr gl d c m dr cr sy i.val) ?_⟩
  delta RQ IT
  clear hr
  have hl := (ob_len hA).2.1
  clear hA hv
  generalize i.val = i
  have d1 : RT.u8.dflt = (0 : Int) := rfl
  have d2 : RT.u32.dflt = (0 : Int) := rfl
  simp only [d1, d2]
  refine ⟨fun h => by simp at h; omega, fun _ => ⟨fun h => ?_, fun h => ?_⟩⟩
  ·have h : begM c m i = false := by unfold begM; rw [h]; rfl
   simp [insI, insB, h]
  ·have hb : begM c m i = true := by unfold begM; rw [h]; rfl
   simp only [Bool.or_eq_false_iff, decide_eq_false_iff_not] at h
   rw [wrapS (by omega) (by omega)]
   refine ⟨fun h2 => ⟨by have := of_decide_eq_true h2; omega, fun _ => ⟨by omega, fun _ => ?_⟩⟩, fun h2 => ⟨by omega, fun _ => ?_⟩⟩
   ·have h2 := of_decide_eq_true h2
    simp [insI, insB, hb, nextW, h2]
   ·have h2 := of_decide_eq_false h2
    simp [insI, insB, hb, nextW, h2]
 ·cases hr
end
end Go.Proofs.YtacmmedhjebfjaaGreatDoor
