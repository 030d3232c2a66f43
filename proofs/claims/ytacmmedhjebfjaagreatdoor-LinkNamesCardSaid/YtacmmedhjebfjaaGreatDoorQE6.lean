/- Words that the proofs use, part 6. -/
import Derived.Test.YtacmmedhjebfjaaGreatDoorQE5
import Derived.Laws.StructEq
import Derived.Laws.Rows
import Derived.WalkSpells
set_option linter.unusedVariables false
set_option linter.unusedSimpArgs false
namespace Go.Sy
open Go.RowKit
def isAggD : TypeDesc → Bool
 | .struct _ | .array _ _ => true
 | _ => false
def TDOk (P : Program) (d : TypeDesc) : TD → Prop
 | .int k => d = .int k
 | .bool => d = .bool
 | .str => d = .string
 | .ptr e => d = .pointer e
 | .slice e => d = .slice e
 | .arr n e => d = .array n e
 | .struct fs => ∃ fields, d = .struct fields ∧ fs = fields.toList.map (fun f => (f.offset, f.type, P.cellsOf f.type)) ∧ ∀ f ∈ fields.toList, ∃ i, P.info? f.type = some i ∧ i.size = P.cellsOf f.type ∧ 0 < i.size
 | .iface => ∃ ms, d = .interface ms
 | .func => ∃ a b c, d = .func a b c
 | .map k v => d = .map k v
 | .other => isAggD d = false
structure TiOk (P : Program) (t : Nat) (ti : TI) : Prop where
 d : ∃ d, P.underlying t = some d ∧ TDOk P d ti.d
 i : ∃ i z, P.info? t = some i ∧ i.size = ti.size ∧ i.bytes = ti.bytes ∧ i.zero = some z ∧ z.cells.size = ti.size ∧ (∀ C W R ρ, Den C W R ρ ti.zero z) ∧
  ∀ u, ti.rt = some u → ti.size = u.w ∧ 0 < u.w ∧ ti.bytes ≤ 1024 ∧ ∀ C W R ρ, DenL C W R ρ (u.enc u.dflt) z.cells.toList
 z : ti.zero.isAgg = false
structure ErrOk (P : Program) (C : Ctx) : Prop where
 tE : ∃ el i j, P.underlying C.tE = some (.pointer el) ∧ P.info? C.tE = some i ∧ i.comparable = true ∧ P.info? el = some j ∧ j.size ≠ 0
 tAt : ∃ el, P.underlying C.tAt = some (.pointer el)
section
variable {C : Ctx} {W : World} {R : Nat → Prop} {ρ : Nat → Option Value} {P : Program}
theorem run_und {t : Nat} {d : TypeDesc} (h : P.underlying t = some d) : (underlying t).run P W = .ok d W := run_underlying h W
theorem run_inf {t : Nat} {i : TypeInfo} (h : P.info? t = some i) : (typeInfo t).run P W = .ok i W := by simp [typeInfo, h]
theorem run_siz {t : Nat} {i : TypeInfo} (h : P.info? t = some i) : (sizeOf t).run P W = .ok i.size W := by simp [sizeOf, run_inf h]
theorem run_zero {t : Nat} {i : TypeInfo} {z : Value} (h : P.info? t = some i) (hz : i.zero = some z) : (zeroValue t).run P W = .ok z W := by simp [zeroValue, run_inf h, hz]
theorem Den.int_inv {k : IntKind} {n : SI} {v : Value} (h : Den C W R ρ (.int k n) v) : v = .int k n.val ∧ InI k n := by cases h; exact ⟨rfl, ‹_›⟩
theorem Den.bool_inv {b : SB} {v : Value} (h : Den C W R ρ (.bool b) v) : v = .bool b.val := by cases h; rfl
theorem Den.str_inv {s : ByteArray} {v : Value} (h : Den C W R ρ (.str s) v) : v = .string s ∧ s.size ≤ maxLen := by cases h; exact ⟨rfl, ‹_›⟩
theorem notB_val (b : SB) : (notB b).val = !b.val := by cases b <;> rfl
theorem iteB_val (c : Bool) (a b : SB) : (iteB c a b).val = bif c then a.val else b.val := by
 cases a with
 | lit x => cases b with
  | lit y => cases x <;> cases y <;> cases c <;> rfl
  | sym y => cases x <;> cases c <;> simp [iteB, SB.val]
 | sym x => cases b with
  | lit y => cases y <;> cases c <;> simp [iteB, SB.val]
  | sym y => cases c <;> simp [iteB, SB.val]
theorem minB_l (a b : Int) : minB a b ≤ a ∧ minB a b ≤ b := by
 unfold minB; split
 ·rename_i h; have := leB_iff.1 h; omega
 ·rename_i h; have := leB_false h; omega
theorem maxB_l (a b : Int) : a ≤ maxB a b ∧ b ≤ maxB a b := by
 unfold maxB; split
 ·rename_i h; have := leB_iff.1 h; omega
 ·rename_i h; have := leB_false h; omega
theorem iteV_den {c : Bool} {x y : SVal} {v : Value} (h : if c = true then Den C W R ρ x v else Den C W R ρ y v) : Den C W R ρ (iteV c x y) v := by
 unfold iteV
 split
 ·cases c
  ·have := (Den.bool_inv h); subst this; have e := iteB_val false; simp at e; rw [← e]; exact .bool _
  ·have := (Den.bool_inv h); subst this; have e := iteB_val true; simp at e; rename_i a b; rw [← e a b]; exact .bool _
 ·rename_i k a k' b
  split
  ·rename_i hk
   have := kEq_iff.1 hk; subst this
   have m := minB_l (a.lo k) (b.lo k)
   have M := maxB_l (a.hi k) (b.hi k)
   cases c
   ·obtain ⟨rfl, i⟩ := Den.int_inv h
    have := i.lo'; have := i.hi'
    exact .int k (.sym b.val _ _) (.sym i.lo i.hi (by omega) (by omega))
   ·obtain ⟨rfl, i⟩ := Den.int_inv h
    have := i.lo'; have := i.hi'
    exact .int k (.sym a.val _ _) (.sym i.lo i.hi (by omega) (by omega))
  ·exact .any _
 ·cases c <;> exact h
 ·cases c <;> exact h
 ·cases c
  ·exact h
  ·cases h; exact .fine
 ·cases c
  ·cases h; exact .fine
  ·exact h
 ·cases c <;> exact h
 ·exact .any _
theorem pickS_den {c a b r : SVal} {u v : Value} (hp : pickS c a b = some r) (hc : Den C W R ρ c u) (x y : Value) (ha : u = .bool true → Den C W R ρ a x) (hb : u = .bool false → Den C W R ρ b y) :
  ∃ t, u = .bool t ∧ Den C W R ρ r (if t then x else y) := by
 unfold pickS at hp
 split at hp <;> simp at hp
 ·subst hp; have := hc.bool_inv; subst this; exact ⟨true, rfl, ha rfl⟩
 ·subst hp; have := hc.bool_inv; subst this; exact ⟨false, rfl, hb rfl⟩
 ·subst hp; have := hc.bool_inv; subst this
  rename_i c
  refine ⟨c, rfl, iteV_den ?_⟩
  cases c
  ·exact hb rfl
  ·exact ha rfl
theorem ofVal_den (v : Value) : Den C W R ρ (ofVal v) v := by
 unfold ofVal
 split
 ·exact .bool (.lit _)
 ·split
  ·rename_i h
   obtain ⟨a, b⟩ := inK_iff h
   exact .int _ (.lit _) ⟨a, b, Int.le_refl _, Int.le_refl _⟩
  ·exact .any _
 ·split
  ·rename_i h; have := Nat.le_of_ble_eq_true h; exact .str _ (by unfold maxLen; omega)
  ·exact .any _
 ·exact .nilptr
 ·exact .nilslice
 ·exact .nilmap
 ·exact .nilFunc
 ·exact .nilIface
 ·split
  ·rename_i vs _ h
   have : vs = #[] := by cases vs; simp_all
   subst this; exact .tuple [] [] .nil
  ·exact .any _
 ·exact .any _
theorem eqCell_ok {a b : SVal} {u v : Value} {r : Bool} (h : eqCell a b = some r) (ha : Den C W R ρ a u) (hb : Den C W R ρ b v) :
  (∃ k x y, u = .int k x ∧ v = .int k y ∧ r = decide (x = y)) ∨ (∃ x y, u = .bool x ∧ v = .bool y ∧ r = (x == y)) ∨ (∃ x y, u = .string x ∧ v = .string y ∧ r = decide (x = y)) := by
 unfold eqCell at h
 split at h
 ·split at h <;> simp at h
  rename_i hk; have := kEq_iff.1 hk; subst this
  exact .inl ⟨_, _, _, ha.int_inv.1, hb.int_inv.1, h.symm⟩
 ·simp at h; exact .inr (.inl ⟨_, _, ha.bool_inv, hb.bool_inv, h.symm⟩)
 ·simp at h; exact .inr (.inr ⟨_, _, ha.str_inv.1, hb.str_inv.1, h.symm⟩)
 ·cases h
theorem str_eq (a b : ByteArray) : (a.toList == b.toList) = decide (a = b) := by
 rw [Bool.eq_iff_iff]; simp
 constructor
 ·intro h
  have : a.data.toList = b.data.toList := by
   rw [← ByteArray.toList_eq a, ← ByteArray.toList_eq b, h]
  cases a; cases b; simp at this; rw [this]
 ·rintro rfl; rfl
theorem sameAddr_sent {gl : List (Nat × SVal)} (B : Base C gl W R) {n m : Int} (hn : C.has n) (hm : C.has m) : (sameAddr (C.ea n) (C.ea m)).run P W = .ok (decide (n = m)) W := by
 obtain ⟨_, cs, T, h1⟩ := B.sent n hn
 obtain ⟨_, cs', T', h2⟩ := B.sent m hm
 unfold sameAddr
 by_cases hb : (C.ea n).block = (C.ea m).block
 ·have e : (C.ea n == C.ea m) = decide (n = m) := by
   rw [Bool.eq_iff_iff]; simp
   exact ⟨B.inj n m hn hm, fun h => by rw [h]⟩
  simp [hb, e]
 ·have hne : n ≠ m := fun h => hb (by rw [h])
  have f1 : ∀ o, W.frozen? { block := (C.ea n).block, off := o } = false := fun o => by simp [World.frozen?, h1]
  have f2 : ∀ o, W.frozen? { block := (C.ea m).block, off := o } = false := fun o => by simp [World.frozen?, h2]
  have g1 : W.frozen? (C.ea n) = false := by simp [World.frozen?, h1]
  have g2 : W.frozen? (C.ea m) = false := by simp [World.frozen?, h2]
  have s1 : W.shape? (C.ea n).block = some (T, cs.size) := by simp [World.shape?, h1]
  have s2 : W.shape? (C.ea m).block = some (T', cs'.size) := by simp [World.shape?, h2]
  simp [hb, g1, g2, noView, viewAt, s1, s2, mayBeOne, stringish, f1, f2, hne]
theorem ptr_eq {t el : Nat} (ht : P.underlying t = some (.pointer el)) (d : Nat) (x : Option Addr) : (Op.equalIn (d + 1) t (.pointer x) (.pointer none)).run P W = .ok x.isNone W := by
 cases x <;> simp [Op.equalIn, run_und ht]
theorem eqErr {gl : List (Nat × SVal)} (B : Base C gl W R) (EO : ErrOk P C) {t : Nat} {ms : Array (String × Nat)} (ht : P.underlying t = some (.interface ms)) {a b : FErr} {u v : Value} (ha : Den C W R ρ (.err a) u) (hb : Den C W R ρ (.err b) v)
  (h1 : a.isErr = true) (h2 : b.isErr = true) (h3 : a.isPlaced = false ∨ b.isPlaced = false) : (Op.equal t u v).run P W = .ok (decide (a = b)) W := by
 obtain ⟨el, i, j, e1, e2, e3, e4, e5⟩ := EO.tE
 suffices key : ∀ d, (Op.equalIn (d + 2) t u v).run P W = .ok (decide (a = b)) W from key 9998
 intro d
 cases ha with
 | fine => cases h1
 | bare n hn =>
  cases hb with
  | fine => cases h2
  | bare m hm =>
   have e6 : (sizeOf el).run P W = .ok j.size W := run_siz e4
   have := sameAddr_sent (P := P) B hn hm
   have e7 : decide (FErr.bare n = FErr.bare m) = decide (n = m) := by simp
   rw [e7]
   simp [Op.equalIn, run_und ht, run_inf e2, e3, run_und e1, e6, e5, this]
  | placed m p b off => simp [Op.equalIn, run_und ht, B.types]
 | placed n p b off =>
  cases hb with
  | fine => cases h2
  | bare m hm => simp [Op.equalIn, run_und ht, Ne.symm B.types]
  | placed m p' b' off' => simp [FErr.isPlaced] at h3
theorem guard_ok (op : BinOp) (t : Nat) (ox oy : Operand) (u v : Value) (h1 : u = .nilIface → v = .nilIface → isC ox = true ∨ isC oy = true) (h2 : ∀ a b, u = .agg a → v = .agg b → False) :
  (eqGuard op t ox oy u v).run P W = .ok () W := by
 cases op <;> first | rfl | skip
 all_goals
  cases u <;> first | rfl | skip
  ·cases v <;> first | rfl | skip
   rcases h1 rfl rfl with h | h
   ·cases ox <;> first | rfl | (simp [isC] at h)
   ·cases oy <;> first | (cases ox <;> rfl) | (simp [isC] at h)
  ·cases v <;> first | rfl | exact (h2 _ _ rfl rfl).elim
theorem equal_of {t : Nat} {u v : Value} {b : Bool} (h : ∀ n, (Op.equalIn (n + 2) t u v).run P W = .ok b W) : (Op.equal t u v).run P W = .ok b W := h 9998
theorem eq_bool {t : Nat} (ht : P.underlying t = some .bool) (a b : Bool) : (Op.equal t (.bool a) (.bool b)).run P W = .ok (a == b) W := equal_of fun n => by simp [Op.equalIn, run_und ht]
theorem eq_nilnil {t : Nat} {ms : Array (String × Nat)} (ht : P.underlying t = some (.interface ms)) : (Op.equal t .nilIface .nilIface).run P W = .ok true W := equal_of fun n => by simp [Op.equalIn, run_und ht]
theorem eq_ifnil {t : Nat} {ms : Array (String × Nat)} (ht : P.underlying t = some (.interface ms)) (a : Nat) (x : Value) : (Op.equal t (.iface a x) .nilIface).run P W = .ok false W := equal_of fun n => by simp [Op.equalIn, run_und ht]
theorem eq_fnil {t : Nat} {a b : Array Nat} {c : Bool} (ht : P.underlying t = some (.func a b c)) (f : Fn) (x y : Array Value) : (Op.equal t (.func f x y) .nilFunc).run P W = .ok false W := equal_of fun n => by simp [Op.equalIn, run_und ht]
theorem eq_nilf {t : Nat} {a b : Array Nat} {c : Bool} (ht : P.underlying t = some (.func a b c)) : (Op.equal t .nilFunc .nilFunc).run P W = .ok true W := equal_of fun n => by simp [Op.equalIn, run_und ht]
theorem eq_sl {t e : Nat} (ht : P.underlying t = some (.slice e)) (x : Option Addr) (a b : Nat) : (Op.equal t (.slice x a b) (.slice none 0 0)).run P W = .ok x.isNone W := equal_of fun n => by cases x <;> simp [Op.equalIn, run_und ht]
theorem eq_ptr {t el : Nat} (ht : P.underlying t = some (.pointer el)) (x : Option Addr) : (Op.equal t (.pointer x) (.pointer none)).run P W = .ok x.isNone W := equal_of fun n => ptr_eq ht _ _
theorem eqS_ok {gl : List (Nat × SVal)} (B : Base C gl W R) (EO : ErrOk P C) {t : Nat} {d : TypeDesc} {td : TD} (ht : P.underlying t = some d) (hd : TDOk P d td) {c : Bool} {x y : SVal} {u v : Value} (hx : Den C W R ρ x u) (hy : Den C W R ρ y v)
  {b : SB} {p : Option Prop} (h : eqS td c x y = some (b, p)) (hp : ∀ q, p = some q → q) :
  (Op.equal t u v).run P W = .ok b.val W ∧ (u = .nilIface → v = .nilIface → c = true) ∧ (∀ a b, u = .agg a → v = .agg b → False) ∧ (∀ k n, u ≠ .int k n) ∧ (∀ s, u ≠ .string s) ∧
   ((∃ b, u = .bool b) ∨ u = .nilIface ∨ (∃ t w, u = .iface t w) ∨ (∃ a, u = .pointer a ∧ v = .pointer none) ∨ u = .nilFunc ∨ (∃ a b c, u = .func a b c) ∨ (∃ a b c, u = .slice a b c ∧ v = .slice none 0 0)) := by
 unfold eqS at h
 split at h
 ·split at h <;> simp at h
  obtain ⟨rfl, rfl⟩ := h
  have hd : d = .bool := hd
  subst hd
  have := hx.bool_inv; subst this; have := hy.bool_inv; subst this
  exact ⟨eq_bool ht _ _, by simp, by simp, by simp, by simp, .inl ⟨_, rfl⟩⟩
 ·split at h <;> simp at h
  obtain ⟨rfl, rfl⟩ := h
  obtain ⟨ms, rfl⟩ := hd
  cases hx; cases hy
  exact ⟨eq_nilnil ht, by simp, by simp, by simp, by simp, .inr (.inl rfl)⟩
 ·split at h <;> simp at h
  obtain ⟨rfl, rfl⟩ := h
  obtain ⟨ms, rfl⟩ := hd
  cases hy
  cases hx
  ·exact ⟨eq_nilnil ht, by simp, by simp, by simp, by simp, .inr (.inl rfl)⟩
  ·exact ⟨eq_ifnil ht _ _, by simp, by simp, by simp, by simp, .inr (.inr (.inl ⟨_, _, rfl⟩))⟩
  ·exact ⟨eq_ifnil ht _ _, by simp, by simp, by simp, by simp, .inr (.inr (.inl ⟨_, _, rfl⟩))⟩
 ·split at h <;> simp at h
  obtain ⟨rfl, rfl⟩ := h
  obtain ⟨ms, rfl⟩ := hd
  cases hy
  cases hx
  exact ⟨eq_ifnil ht _ _, by simp, by simp, by simp, by simp, .inr (.inr (.inl ⟨_, _, rfl⟩))⟩
 ·split at h <;> simp at h
  obtain ⟨rfl, rfl⟩ := h
  obtain ⟨ms, rfl⟩ := hd
  obtain ⟨⟨q1, q2⟩, q3⟩ := hp _ rfl
  refine ⟨eqErr B EO ht hx hy q1 q2 q3, ?_, ?_, ?_, ?_, ?_⟩
  ·rintro rfl; cases hx; cases q1
  ·rintro a b rfl; cases hx
  ·rintro k n rfl; cases hx
  ·rintro s rfl; cases hx
  ·cases hx
   ·exact .inr (.inl rfl)
   ·exact .inr (.inr (.inl ⟨_, _, rfl⟩))
   ·exact .inr (.inr (.inl ⟨_, _, rfl⟩))
 ·split at h <;> simp at h
  obtain ⟨rfl, rfl⟩ := h
  have hd : d = .slice _ := hd
  subst hd
  cases hx; cases hy
  exact ⟨eq_sl ht _ _ _, by simp, by simp, by simp, by simp, .inr (.inr (.inr (.inr (.inr (.inr ⟨_, _, _, rfl, rfl⟩)))))⟩
 ·split at h <;> simp at h
  obtain ⟨rfl, rfl⟩ := h
  have hd : d = .slice _ := hd
  subst hd
  cases hx; cases hy
  exact ⟨eq_sl ht _ _ _, by simp, by simp, by simp, by simp, .inr (.inr (.inr (.inr (.inr (.inr ⟨_, _, _, rfl, rfl⟩)))))⟩
 ·cases hy
  split at h <;> simp at h
  all_goals
   obtain ⟨rfl, rfl⟩ := h
   have hd : d = .pointer _ := hd
   subst hd
  ·cases hx; exact ⟨eq_ptr ht _, by simp, by simp, by simp, by simp, .inr (.inr (.inr (.inl ⟨_, rfl, rfl⟩)))⟩
  ·cases hx; exact ⟨eq_ptr ht _, by simp, by simp, by simp, by simp, .inr (.inr (.inr (.inl ⟨_, rfl, rfl⟩)))⟩
  ·cases hx; exact ⟨eq_ptr ht _, by simp, by simp, by simp, by simp, .inr (.inr (.inr (.inl ⟨_, rfl, rfl⟩)))⟩
  ·cases hx; exact ⟨eq_ptr ht _, by simp, by simp, by simp, by simp, .inr (.inr (.inr (.inl ⟨_, rfl, rfl⟩)))⟩
  ·cases hx
   ·exact ⟨eq_ptr ht _, by simp, by simp, by simp, by simp, .inr (.inr (.inr (.inl ⟨_, rfl, rfl⟩)))⟩
   ·rename_i e he
    refine ⟨(eq_ptr ht _).trans ?_, by simp, by simp, by simp, by simp, .inr (.inr (.inr (.inl ⟨_, rfl, rfl⟩)))⟩
    simp [SB.val, he]
 ·split at h <;> simp at h
  obtain ⟨rfl, rfl⟩ := h
  obtain ⟨_, _, _, rfl⟩ := hd
  cases hx; cases hy
  exact ⟨eq_fnil ht _ _ _, by simp, by simp, by simp, by simp, .inr (.inr (.inr (.inr (.inr (.inl ⟨_, _, _, rfl⟩)))))⟩
 ·split at h <;> simp at h
  obtain ⟨rfl, rfl⟩ := h
  obtain ⟨_, _, _, rfl⟩ := hd
  cases hx; cases hy
  exact ⟨eq_fnil ht _ _ _, by simp, by simp, by simp, by simp, .inr (.inr (.inr (.inr (.inr (.inl ⟨_, _, _, rfl⟩)))))⟩
 ·split at h <;> simp at h
  obtain ⟨rfl, rfl⟩ := h
  obtain ⟨_, _, _, rfl⟩ := hd
  cases hx; cases hy
  exact ⟨eq_nilf ht, by simp, by simp, by simp, by simp, .inr (.inr (.inr (.inr (.inl rfl))))⟩
 ·cases h
structure CmpOk (P : Program) (t : Nat) : Prop where
 guard : P.eqGuardType P.depth t = false
 held : P.stoodInHeld t = false
 names : ∀ f ∈ (P.fieldsOf t).toList, f.name ≠ "_"
theorem part_at {t : Nat} {d : TypeDesc} (ht : P.underlying t = some d) (hd : isAggD d = false) {cs : Array Value} {off : Nat} {v : Value} (hv : cs[off]? = some v) : (part t cs off).run P W = .ok v W := by
 have : (isAgg t).run P W = .ok false W := by
  unfold isAgg
  simp only [Sem.run_bind, run_und ht, Result.andThen_ok]
  cases d <;> first | rfl | cases hd
 simp [part, this, hv]
theorem eqFld_ok {E : Env} (tabOk : ∀ t ti, find t E.tab = some ti → TiOk P t ti) {ft : Nat} {a b : SVal} {u v : Value} (ha : Den C W R ρ a u) (hb : Den C W R ρ b v) {x : Bool} (h : eqFld E ft a b = some x) (n : Nat) :
  (Op.equalIn (n + 1) ft u v).run P W = .ok x W ∧ ∃ d, P.underlying ft = some d ∧ isAggD d = false := by
 unfold eqFld at h
 split at h
 ·rename_i ti hti
  obtain ⟨⟨d, hd1, hd2⟩, _, _⟩ := tabOk _ _ hti
  split at h
  ·rename_i k0 k x k' y hk0
   rw [hk0] at hd2
   have hd2 : d = .int _ := hd2
   subst hd2
   split at h <;> simp at h
   subst h
   rename_i hk
   have := kEq_iff.1 hk; subst this
   obtain ⟨rfl, _⟩ := ha.int_inv
   obtain ⟨rfl, _⟩ := hb.int_inv
   refine ⟨?_, _, hd1, rfl⟩
   rw [run_equalIn_int W n ft _ _ _ _ hd1]; simp [BEq.beq]
  ·rename_i hk0
   rw [hk0] at hd2
   have hd2 : d = .bool := hd2
   subst hd2
   simp at h
   subst h
   have := ha.bool_inv; subst this
   have := hb.bool_inv; subst this
   exact ⟨run_equalIn_bool' W n ft _ _ hd1, _, hd1, rfl⟩
  ·rename_i hk0
   rw [hk0] at hd2
   have hd2 : d = .string := hd2
   subst hd2
   simp at h
   subst h
   obtain ⟨rfl, _⟩ := ha.str_inv
   obtain ⟨rfl, _⟩ := hb.str_inv
   refine ⟨?_, _, hd1, rfl⟩
   rw [run_equalIn_string W n ft _ _ hd1]
   first | rw [str_eq] | rw [← beq_toListBytes, str_eq]
  ·cases h
 ·cases h
theorem eqFlds_ok {E : Env} (tabOk : ∀ t ti, find t E.tab = some ti → TiOk P t ti) (n : Nat) : ∀ {fields : List Field} {i : Nat} {l l' : List SVal} {us ws : List Value} {p p' : List Value} {x : Bool}, (∀ f ∈ fields, f.name ≠ "_") → p.length = i → p'.length = i → DenL C W R ρ l us → DenL C W R ρ l' ws →
  eqFlds E (fields.map fun f => (f.offset, f.type, P.cellsOf f.type)) i l l' = some x → (Op.eqFields (n + 1) (p ++ us).toArray (p' ++ ws).toArray fields).run P W = .ok x W := by
 intro fields
 induction fields with
 | nil =>
  intro i l l' us ws p p' x _ _ _ hl hl' h
  cases l <;> cases l' <;> simp [eqFlds] at h
  subst h
  simp [Op.eqFields]
 | cons f fs ih =>
  intro i l l' us ws p p' x hn hp hp' hl hl' h
  cases l with
  | nil => simp [eqFlds] at h
  | cons a l =>
   cases l' with
   | nil => simp [eqFlds] at h
   | cons b l' =>
    simp only [List.map_cons, eqFlds] at h
    split at h <;> simp at h
    rename_i y z ho hf hfs
    subst h
    have ho := Nat.eq_of_beq_eq_true ho
    have ha : a.isArr = false := by unfold eqFld at hf; split at hf <;> (try cases hf); split at hf <;> first | rfl | cases hf
    have hb : b.isArr = false := by unfold eqFld at hf; split at hf <;> (try cases hf); split at hf <;> first | rfl | cases hf
    cases hl with
    | arr => cases ha
    | one _ u _ us' _ _ hu hus =>
     cases hl' with
     | arr => cases hb
     | one _ w _ ws' _ _ hw hws =>
      obtain ⟨e1, d, e2, e3⟩ := eqFld_ok tabOk hu hw hf n
      have q1 : (part f.type (p ++ u :: us').toArray f.offset).run P W = .ok u W := part_at e2 e3 (by rw [ho, ← hp]; simp)
      have q2 : (part f.type (p' ++ w :: ws').toArray f.offset).run P W = .ok w W := part_at e2 e3 (by rw [ho, ← hp']; simp)
      have q3 := ih (i := i + 1) (p := p ++ [u]) (p' := p' ++ [w]) (fun g hg => hn g (List.mem_cons_of_mem _ hg)) (by simp [hp]) (by simp [hp']) hus hws hfs
      simp only [List.append_assoc, List.singleton_append] at q3
      rw [Op.eqFields, if_pos (hn f List.mem_cons_self)]
      simp only [Sem.run_bind, q1, q2, e1, Result.andThen_ok, Sem.run_ite]
      cases y
      ·simp
      ·simp [q3]
theorem eqAgg_ok {E : Env} (tabOk : ∀ t ti, find t E.tab = some ti → TiOk P t ti) {t : Nat} (hc : CmpOk P t) {ti : TI} (hti : find t E.tab = some ti) {fs : List (Nat × Nat × Nat)} (hfs : ti.d = .struct fs) {l l' : List SVal} {u v : Value}
  (hx : Den C W R ρ (.agg l) u) (hy : Den C W R ρ (.agg l') v) {b : Bool} (h : eqFlds E fs 0 l l' = some b) :
  ∃ xs ys, u = .agg xs ∧ v = .agg ys ∧ (Op.equalIn 10000 t (.agg xs) (.agg ys)).run P W = .ok b W := by
 obtain ⟨⟨d, hd1, hd2⟩, _, _⟩ := tabOk _ _ hti
 rw [hfs] at hd2
 obtain ⟨fields, rfl, rfl, _⟩ := hd2
 cases hx with
 | agg _ us hus =>
  cases hy with
  | agg _ ws hws =>
   have hf : P.fieldsOf t = fields := by unfold Program.fieldsOf; rw [hd1]
   refine ⟨_, _, rfl, rfl, ?_⟩
   rw [run_equalIn_agg W 9999 t _ _ (by rw [hf]; exact hd1) hc.held, hf]
   exact eqFlds_ok tabOk 9998 (p := []) (p' := []) (by rw [← hf]; exact hc.names) rfl rfl hus hws h
theorem isCb {ox oy : Operand} : (isC ox || isC oy) = true ↔ (isC ox = true ∨ isC oy = true) := by simp
theorem binS_ok {gl : List (Nat × SVal)} (B : Base C gl W R) (EO : ErrOk P C) {E : Env} (tabOk : ∀ t ti, find t E.tab = some ti → TiOk P t ti) (cmpOk : ∀ t, E.cmp.contains t = true → CmpOk P t) {op : BinOp} {t : Nat} {ox oy : Operand} {x y : SVal} {u v : Value}
  (hx : Den C W R ρ x u) (hy : Den C W R ρ y v) {look : Nat → Option Cont} {r : ORes} {l l' : List Nat} (h : (binS E t (isC ox || isC oy) op x y).run look l = .ok (r, l')) (hp : ∀ q, r.vc = some q → q) :
  ∃ z, (do eqGuard op t ox oy u v; binOp op t u v : Sem Value).run P W = .ok z W ∧ Den C W R ρ r.v z ∧ r.ws = [] ∧ r.k = 0 := by
 have go : ∀ {z : Value}, (u = .nilIface → v = .nilIface → isC ox = true ∨ isC oy = true) → (∀ a b, u = .agg a → v = .agg b → False) → (binOp op t u v).run P W = .ok z W →
   (do eqGuard op t ox oy u v; binOp op t u v : Sem Value).run P W = .ok z W := fun h1 h2 h3 => by
  simp only [Sem.run_bind, guard_ok op t ox oy u v h1 h2, Result.andThen_ok, h3]
 unfold binS at h
 split at h
 ·obtain ⟨rfl, i1⟩ := hx.int_inv
  obtain ⟨rfl, i2⟩ := hy.int_inv
  split at h
  ·split at h <;> simp [Acc.run] at h
   obtain ⟨rfl, rfl⟩ := h
   obtain ⟨a, b⟩ := shiftI_ok P W t (by assumption) i1 i2 hp
   exact ⟨_, go (by simp) (by simp) a, .int _ _ b, rfl, rfl⟩
  ·split at h <;> simp [Acc.run] at h
   obtain ⟨rfl, rfl⟩ := h
   obtain ⟨a, b⟩ := shiftI_ok P W t (by assumption) i1 i2 hp
   exact ⟨_, go (by simp) (by simp) a, .int _ _ b, rfl, rfl⟩
  iterate 6
   ·split at h <;> simp [Acc.run] at h
    obtain ⟨rfl, rfl⟩ := h
    rename_i hk _
    have := kEq_iff.1 hk; subst this
    exact ⟨_, go (by simp) (by simp) (cmpI_ok P W t (by assumption) i1 i2), .bool _, rfl, rfl⟩
  ·split at h <;> simp [Acc.run] at h
   obtain ⟨rfl, rfl⟩ := h
   rename_i hk _
   have := kEq_iff.1 hk; subst this
   obtain ⟨a, b⟩ := arithI_ok P W t (by assumption) i1 i2 hp
   exact ⟨_, go (by simp) (by simp) a, .int _ _ b, rfl, rfl⟩
 ·rename_i sa sb
  obtain ⟨rfl, i1⟩ := hx.str_inv
  obtain ⟨rfl, i2⟩ := hy.str_inv
  split at h <;> simp [Acc.run] at h
  ·obtain ⟨rfl, rfl⟩ := h
   have := hp _ rfl
   refine ⟨_, go (by simp) (by simp) ?_, .str _ (by rw [ByteArray.size_append]; exact this), rfl, rfl⟩
   have e : ¬ ((sa.size + sb.size : Nat) : Int) > IntKind.i64.max := fun h => by
    have : IntKind.i64.max = 9223372036854775807 := rfl
    omega
   show (Op.stringOp .add sa sb).run P W = _
   unfold Op.stringOp
   simp only
   rw [if_neg e]; rfl
  ·obtain ⟨rfl, rfl⟩ := h
   refine ⟨_, go (by simp) (by simp) ?_, .bool (.sym _), rfl, rfl⟩
   show Result.ok (Value.bool _) W = _
   rw [str_eq]; rfl
  ·obtain ⟨rfl, rfl⟩ := h
   refine ⟨_, go (by simp) (by simp) ?_, .bool (.sym _), rfl, rfl⟩
   show Result.ok (Value.bool (!_)) W = _
   rw [str_eq]; rfl
 ·split at h
  ·rename_i ti hm hti
   have hcmp := cmpOk _ hm
   split at h
   ·rename_i fs hfs
    split at h <;> simp [Acc.run] at h
    ·obtain ⟨rfl, rfl⟩ := h
     obtain ⟨xs, ys, rfl, rfl, e⟩ := eqAgg_ok tabOk hcmp hti hfs hx hy (by assumption)
     refine ⟨.bool _, ?_, .bool (.sym _), rfl, rfl⟩
     simp only [Sem.run_bind, run_eqGuard_agg W _ t ox oy xs ys hcmp.guard, Result.andThen_ok, run_eql_struct, e]
     rfl
    ·obtain ⟨rfl, rfl⟩ := h
     obtain ⟨xs, ys, rfl, rfl, e⟩ := eqAgg_ok tabOk hcmp hti hfs hx hy (by assumption)
     refine ⟨.bool _, ?_, .bool (.sym _), rfl, rfl⟩
     simp only [Sem.run_bind, run_eqGuard_agg W _ t ox oy xs ys hcmp.guard, Result.andThen_ok, run_neq_struct, e]
     rfl
   ·simp [Acc.run] at h
  ·simp [Acc.run] at h
 ·split at h
  ·rename_i ti hti
   obtain ⟨⟨d, hd1, hd2⟩, _, _⟩ := tabOk _ _ hti
   split at h <;> simp [Acc.run] at h
   ·obtain ⟨rfl, rfl⟩ := h
    obtain ⟨e1, e2, e3, e4, e5, e6⟩ := eqS_ok B EO hd1 hd2 hx hy (by assumption) hp
    refine ⟨_, go (fun h1 h2 => isCb.1 (e2 h1 h2)) e3 (?_ : _ = Result.ok (Value.bool _) W), .bool _, rfl, rfl⟩
    rcases e6 with ⟨b, rfl⟩ | rfl | ⟨_, _, rfl⟩ | ⟨_, rfl, rfl⟩ | rfl | ⟨_, _, _, rfl⟩ | ⟨_, _, _, rfl, rfl⟩ <;> simp [binOp, e1]
   ·obtain ⟨rfl, rfl⟩ := h
    obtain ⟨e1, e2, e3, e4, e5, e6⟩ := eqS_ok B EO hd1 hd2 hx hy (by assumption) hp
    refine ⟨_, go (fun h1 h2 => isCb.1 (e2 h1 h2)) e3 (?_ : _ = Result.ok (Value.bool _) W), .bool _, rfl, rfl⟩
    rw [notB_val]
    rcases e6 with ⟨b, rfl⟩ | rfl | ⟨_, _, rfl⟩ | ⟨_, rfl, rfl⟩ | rfl | ⟨_, _, _, rfl⟩ | ⟨_, _, _, rfl, rfl⟩ <;> simp [binOp, e1]
  ·simp [Acc.run] at h
end
end Go.Sy
