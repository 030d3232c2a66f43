/- Words that the proofs use, part 3. -/
import Derived.Test.YtacmmedhjebfjaaGreatDoorQE2
import Derived.Laws.BitsLemmas
import Derived.Laws.BytesArg
set_option linter.unusedVariables false
set_option linter.unusedSimpArgs false
namespace Go.Sy
inductive Acc (α : Type) where
  | ret (a : α)
  | fail (why : String)
  | look (r : Nat) (k : Option Cont → Acc α)
def Acc.bind {α β : Type} : Acc α → (α → Acc β) → Acc β
  | .ret a, f => f a
  | .fail s, _ => .fail s
  | .look r k, f => .look r fun c => (k c).bind f
instance : Monad Acc where
  pure := Acc.ret
  bind := Acc.bind
def ofOpt {α : Type} (why : String) : Option α → Acc α
  | some a => .ret a
  | none => .fail why
inductive TD where
  | int (k : IntKind) | bool | str
  | ptr (e : Nat) | slice (e : Nat) | arr (n e : Nat) | struct (fs : List (Nat × Nat × Nat))
  | iface | func | map (k v : Nat) | other
structure TI where
  d : TD
  size : Nat
  bytes : Nat
  zero : SVal
  rt : Option RT
structure ORes where
  v : SVal
  ws : List (Nat × Option Cont) := []
  k : Nat := 0
  vc : Option Prop := none
structure Env where
  tab : List (Nat × TI)
  con : List (Nat × (List SVal → Nat → Acc ORes))
  glob : List (Nat × SVal)
  tAt : Nat
  old : List Nat := []
  cmp : List Nat := []
  df : List Deferred := []
  fz : List (Nat × Bool) := []
def find {α : Type} (n : Nat) : List (Nat × α) → Option α
  | [] => none
  | (m, a) :: l => match m.beq n with
    | true => some a
    | false => find n l
def Env.ti (E : Env) (t : Nat) : Acc TI := ofOpt "type" (find t E.tab)
def leB (a b : Int) : Bool := match b - a with | .ofNat _ => true | .negSucc _ => false
def inK (k : IntKind) (lo hi : Int) : Bool := leB (kmin k) lo && leB hi (kmax k)
def mkI (k : IntKind) (n lo hi : Int) : SI := match inK k lo hi with
  | true => .sym n lo hi
  | false => .full (k.wrap n)
def eqI (a b : Int) : Bool := match a - b with | .ofNat 0 => true | _ => false
def maskOf : Int → Option Nat
  | .ofNat 1 => some 1
  | .ofNat 15 => some 4
  | .ofNat 31 => some 5
  | .ofNat 127 => some 7
  | .ofNat 255 => some 8
  | .ofNat 65535 => some 16
  | .ofNat 2147483647 => some 31
  | _ => none
def pow2 : Nat → Int
  | 0 => 1
  | n + 1 => 2 * pow2 n
def cmpI (op : BinOp) (k : IntKind) (a b : SI) : Option SB :=
  match op with
  | .eql => some (match a, b with
    | .lit x, .lit y => .lit (eqI x y)
    | _, _ => match leB (a.hi k + 1) (b.lo k) || leB (b.hi k + 1) (a.lo k) with
      | true => .lit false
      | false => .sym (decide (a.val = b.val)))
  | .neq => some (match a, b with
    | .lit x, .lit y => .lit (!eqI x y)
    | _, _ => match leB (a.hi k + 1) (b.lo k) || leB (b.hi k + 1) (a.lo k) with
      | true => .lit true
      | false => .sym (!decide (a.val = b.val)))
  | .lss => some (match leB (a.hi k + 1) (b.lo k), leB (b.hi k) (a.lo k) with
    | true, _ => .lit true
    | _, true => .lit false
    | _, _ => .sym (decide (a.val < b.val)))
  | .leq => some (match leB (a.hi k) (b.lo k), leB (b.hi k + 1) (a.lo k) with
    | true, _ => .lit true
    | _, true => .lit false
    | _, _ => .sym (decide (a.val ≤ b.val)))
  | .gtr => some (match leB (b.hi k + 1) (a.lo k), leB (a.hi k) (b.lo k) with
    | true, _ => .lit true
    | _, true => .lit false
    | _, _ => .sym (decide (b.val < a.val)))
  | .geq => some (match leB (b.hi k) (a.lo k), leB (a.hi k + 1) (b.lo k) with
    | true, _ => .lit true
    | _, true => .lit false
    | _, _ => .sym (decide (b.val ≤ a.val)))
  | _ => none
def arithI (op : BinOp) (k : IntKind) (a b : SI) : Option (SI × Option Prop) :=
  match op with
  | .add => some (match a, b with
    | .lit x, .lit y => (.lit (k.wrap (x + y)), none)
    | _, _ => (mkI k (a.val + b.val) (a.lo k + b.lo k) (a.hi k + b.hi k), none))
  | .sub => some (match a, b with
    | .lit x, .lit y => (.lit (k.wrap (x - y)), none)
    | _, _ => (mkI k (a.val - b.val) (a.lo k - b.hi k) (a.hi k - b.lo k), none))
  | .mul => some (match a, b with
    | .lit x, .lit y => (.lit (k.wrap (x * y)), none)
    | _, _ => match leB 0 (a.lo k) && leB 0 (b.lo k) with
      | true => (mkI k (a.val * b.val) (a.lo k * b.lo k) (a.hi k * b.hi k), none)
      | false => (.full (k.wrap (a.val * b.val)), none))
  | .quo => some (match b, leB 0 (a.lo k) with
    | .lit (.ofNat (y + 1)), true => (.sym (a.val / (.ofNat (y + 1))) 0 (a.hi k), none)
    | _, _ => (.full (k.wrap (a.val.tdiv b.val)), some (b.val ≠ 0)))
  | .rem => some (match b, leB 0 (a.lo k) with
    | .lit (.ofNat (y + 1)), true => (.sym (a.val % (.ofNat (y + 1))) 0 (.ofNat y), none)
    | _, _ => (.full (a.val.tmod b.val), some (b.val ≠ 0)))
  | .and => some (match b with
    | .lit y => match maskOf y with
      | some j => (.sym (a.val % pow2 j) 0 (pow2 j - 1), none)
      | none => (.full (bits .and k a.val b.val), none)
    | _ => (.full (bits .and k a.val b.val), none))
  | .or => some (.full (bits .or k a.val b.val), none)
  | .xor => some (.full (bits .xor k a.val b.val), none)
  | .andNot => some (.full (bits .andNot k a.val b.val), none)
  | _ => none
def shiftI (op : BinOp) (k : IntKind) (a : SI) (b : SI) : Option (SI × Option Prop) :=
  match op, b with
  | .shl, .lit (.ofNat n) => match Nat.ble n 63, leB 0 (a.lo k) with
    | true, true => some (mkI k (a.val * pow2 n) 0 (a.hi k * pow2 n), none)
    | true, false => some (.full (k.wrap (a.val * pow2 n)), none)
    | _, _ => none
  | .shr, .lit (.ofNat n) => match Nat.ble n k.bits, leB 0 (a.lo k) with
    | true, true => some (.sym (a.val / pow2 n) 0 (a.hi k / pow2 n), none)
    | true, false => some (.full (a.val / pow2 n), none)
    | _, _ => none
  | .shl, y => some (.full (k.wrap (a.val * 2 ^ (min y.val.toNat k.bits))), some (0 ≤ y.val))
  | .shr, y => match leB 0 (a.lo k) with
    | true => some (.full (a.val / 2 ^ (min y.val.toNat k.bits)), some (0 ≤ y.val))
    | false => none
  | _, _ => none
def notB : SB → SB
  | .lit b => .lit (!b)
  | .sym b => .sym (!b)
def iteB (c : Bool) : SB → SB → SB
  | .lit true, .lit true => .lit true
  | .lit false, .lit false => .lit false
  | .lit true, .lit false => .sym c
  | .lit false, .lit true => .sym (!c)
  | .lit true, b => .sym (c || b.val)
  | .lit false, b => .sym (!c && b.val)
  | a, .lit false => .sym (c && a.val)
  | a, .lit true => .sym (!c || a.val)
  | a, b => .sym (bif c then a.val else b.val)
def kEq : IntKind → IntKind → Bool
  | .i8, .i8 | .i16, .i16 | .i32, .i32 | .i64, .i64 | .u8, .u8 | .u16, .u16 | .u32, .u32 | .u64, .u64 => true
  | _, _ => false
def minB (a b : Int) : Int := match leB a b with | true => a | false => b
def maxB (a b : Int) : Int := match leB a b with | true => b | false => a
def iteV (c : Bool) : SVal → SVal → SVal
  | .bool a, .bool b => .bool (iteB c a b)
  | .int k a, .int k' b => match kEq k k' with
    | true => .int k (.sym (bif c then a.val else b.val) (minB (a.lo k) (b.lo k)) (maxB (a.hi k) (b.hi k)))
    | false => .any
  | .str a, .str b => .str (bif c then a else b)
  | .err a, .err b => .err (bif c then a else b)
  | .nilIface, .err b => .err (bif c then .fine else b)
  | .err a, .nilIface => .err (bif c then a else .fine)
  | .nilIface, .nilIface => .nilIface
  | _, _ => .any
def ofCell : Value → SVal
  | .bool b => .bool (.lit b)
  | .int _ n => .any
  | _ => .any
def ofVal : Value → SVal
  | .bool b => .bool (.lit b)
  | .int k n => match inK k n n with | true => .int k (.lit n) | false => .any
  | .string s => match Nat.ble s.size 65536 with | true => .str s | false => .any
  | .pointer none => .nilptr
  | .slice none 0 0 => .nilslice
  | .map none => .nilmap
  | .nilFunc => .nilFunc
  | .nilIface => .nilIface
  | .tuple vs => match vs.toList with | [] => .tuple [] | _ => .any
  | _ => .any
def elems : SVal → Acc ((t : RT) × List t.ty)
  | .ro t l => .ret ⟨t, l⟩
  | .roN t l => .ret ⟨t, l⟩
  | .own r => .look r fun
    | some (.recs t l) => .ret ⟨t, l⟩
    | _ => .fail "own"
  | .view t r k n => .look r fun
    | some (.recs t' l) => match decide (t' = t) with
      | true => .ret ⟨t', (l.drop k).take n⟩
      | false => .fail "view"
    | _ => .fail "view"
  | _ => .fail "elems"
def lenOfS : SVal → Acc SI
  | .nilslice => .ret (.lit 0)
  | .ro t l => .ret (.sym (l.length : Nat) 0 9223372036854775807)
  | .roN t l => .ret (.sym (l.length : Nat) 0 9223372036854775807)
  | .own r => .look r fun
    | some (.recs t l) => .ret (.sym (l.length : Nat) 0 9223372036854775807)
    | some (.row w l) => .ret (.lit ((l.map SVal.width).sum / w : Nat))
    | some (.opn k t l i v) => .ret (.sym (l.length : Nat) 0 9223372036854775807)
    | _ => .fail "len"
  | .view t r k n => .ret (.sym (n : Nat) 0 9223372036854775807)
  | .str s => .ret (.sym (s.size : Nat) 0 9223372036854775807)
  | .arr t n l => .ret (.lit (n : Nat))
  | _ => .fail "len"
def elemAt (t : RT) (l : List t.ty) (i : Int) : List SVal := t.enc (l.getD i.toNat t.dflt)
def sumW (l : List SVal) : Nat := (l.map SVal.width).sum
def indexSl (sz : Nat) (x : SVal) (i : SI) : Acc ORes :=
  match x with
  | .ro t l => match sz.beq t.w with
    | true => .ret { v := .rop (elemAt t l i.val), vc := some (0 ≤ i.val ∧ i.val < (l.length : Nat)) }
    | false => .fail "index"
  | .own r => .look r fun
    | some (.recs t l) => match sz.beq t.w with
      | true => .ret { v := .eptr r t.w i.val 0, vc := some (0 ≤ i.val ∧ i.val < (l.length : Nat)) }
      | false => .fail "index"
    | some (.row w l) => match i, sz.beq w with
      | .lit (.ofNat j), true => .ret { v := .eptr r w j 0, vc := some (j * w + w ≤ sumW l) }
      | _, _ => .fail "row"
    | some (.opn k t l j v) => match sz.beq 1 with
      | true => .ret { v := .eptr r 1 i.val 0, vc := some (0 ≤ i.val ∧ i.val < (l.length : Nat)) }
      | false => .fail "index"
    | _ => .fail "index"
  | .view t r k n => match sz.beq t.w with
    | true => .ret { v := .eptr r t.w ((k : Nat) + i.val) 0, vc := some (0 ≤ i.val ∧ i.val < (n : Nat)) }
    | false => .fail "index"
  | _ => .fail "indexAddr"
def indexAr (m sz : Nat) (x : SVal) (i : SI) : Acc ORes :=
  match x with
  | .rop (.arr t n l :: _) => match sz.beq t.w, m.beq n with
    | true, true => .ret { v := .rop (elemAt t l i.val), vc := some (0 ≤ i.val ∧ i.val < (n : Nat)) }
    | _, _ => .fail "array"
  | .ptr r off => .look r fun
    | some (.cells cs) => match dropW cs off with
      | some (.arr t n l :: _) => match sz.beq t.w, m.beq n with
        | true, true => .ret { v := .aptr r off t.w n i.val 0, vc := some (0 ≤ i.val ∧ i.val < (n : Nat)) }
        | _, _ => .fail "array"
      | _ => .fail "array"
    | _ => .fail "array"
  | _ => .fail "indexAddr"
def atPtr : SVal → Acc (List SVal)
  | .rop l => .ret l
  | .ptr r off => .look r fun
    | some (.cells cs) => ofOpt "off" (dropW cs off)
    | _ => .fail "box"
  | .eptr r w i j => .look r fun
    | some (.recs t l) => match w.beq t.w with
      | true => ofOpt "off" (dropW (elemAt t l i) j)
      | false => .fail "slice"
    | some (.row w' l) => match i, w.beq w' with
      | .ofNat n, true => ofOpt "off" (dropW l (n * w + j))
      | _, _ => .fail "row"
    | _ => .fail "slice"
  | .aptr r off w n i j => .look r fun
    | some (.cells cs) => match dropW cs off with
      | some (.arr t m l :: _) => match w.beq t.w, n.beq m with
        | true, true => ofOpt "off" (dropW (elemAt t l i) j)
        | _, _ => .fail "array"
      | _ => .fail "array"
    | _ => .fail "array"
  | _ => .fail "load"
def valOne : List SVal → Acc SVal
  | [] => .fail "load"
  | s :: _ => match s.isArr with
    | true => .fail "load"
    | false => .ret s
def valOf (ti : TI) (cs : List SVal) : Acc SVal :=
  match ti.d with
  | .struct _ => ofOpt "load" ((takeW cs ti.size).map .agg)
  | .arr _ _ => match cs with
    | .arr t n l :: _ => match ti.size.beq (n * t.w) with
      | true => .ret (.arr t n l)
      | false => .fail "load array"
    | _ => .fail "load array"
  | _ => valOne cs
def storeAtS (p : SVal) (new : List SVal) : Acc (List (Nat × Option Cont)) :=
  match p with
  | .ptr r off => .look r fun
    | some (.cells cs) => match setW cs off new with
      | some cs' => .ret [(r, some (.cells cs'))]
      | none => .fail "store"
    | _ => .fail "store"
  | .eptr r w i j => .look r fun
    | some (.recs (.fmap k t) l) => match new, w.beq 1 && j.beq 0 with
      | [.map q], true => .ret [(r, some (.opn k t l i (.map q)))]
      | _, _ => .fail "store"
    | some (.recs t l) => match w.beq t.w, (setW (elemAt t l i) j new).bind t.dec with
      | true, some x => .ret [(r, some (.recs t (l.set i.toNat x)))]
      | _, _ => .fail "store"
    | _ => .fail "store"
  | .aptr r off w n i j => .look r fun
    | some (.cells cs) => match dropW cs off with
      | some (.arr t m l :: rest) => match w.beq t.w, n.beq m, (setW (elemAt t l i) j new).bind t.dec with
        | true, true, some x => match setW cs off [.arr t m (l.set i.toNat x)] with
          | some cs' => .ret [(r, some (.cells cs'))]
          | none => .fail "store"
        | _, _, _ => .fail "store"
      | _ => .fail "store"
    | _ => .fail "store"
  | _ => .fail "store"
def addOff (p : SVal) (n : Nat) : Acc ORes :=
  match p with
  | .ptr r off => .ret { v := .ptr r (off + n) }
  | .eptr r w i j => .ret { v := .eptr r w i (j + n) }
  | .aptr r off w m i j => .ret { v := .aptr r off w m i (j + n) }
  | .rop l => match dropW l n with
    | some l' => .ret { v := .rop l' }
    | none => .fail "field"
  | .atp e => match n with
    | 0 => .ret { v := .rop [.int .i64 (.full e.pos), .err e.inner], vc := some (e.isPlaced = true) }
    | 1 => .ret { v := .rop [.err e.inner], vc := some (e.isPlaced = true) }
    | _ => .fail "field"
  | _ => .fail "field"
def eqCell : SVal → SVal → Option Bool
  | .int k a, .int k' b => match kEq k k' with | true => some (decide (a.val = b.val)) | false => none
  | .bool a, .bool b => some (a.val == b.val)
  | .str a, .str b => some (decide (a = b))
  | _, _ => none
def eqCells : List SVal → List SVal → Option Bool
  | [], [] => some true
  | [a], [b] => eqCell a b
  | a :: l, b :: l' => match eqCell a b, eqCells l l' with
    | some x, some y => some (x && y)
    | _, _ => none
  | _, _ => none
def eqS (d : TD) (c : Bool) : SVal → SVal → Option (SB × Option Prop)
  | .bool a, .bool b => match d with
    | .bool => some (.sym (a.val == b.val), none)
    | _ => none
  | .nilIface, .nilIface => match d, c with
    | .iface, true => some (.lit true, none)
    | _, _ => none
  | .err e, .nilIface => match d, c with
    | .iface, true => some (.sym (!e.isErr), none)
    | _, _ => none
  | .iface _ _, .nilIface => match d with
    | .iface => some (.lit false, none)
    | _ => none
  | .err a, .err b => match d with
    | .iface => some (.sym (decide (a = b)), some ((a.isErr = true ∧ b.isErr = true) ∧ (a.isPlaced = false ∨ b.isPlaced = false)))
    | _ => none
  | .roN _ _, .nilslice => match d with
    | .slice _ => some (.lit false, none)
    | _ => none
  | .nilslice, .nilslice => match d with
    | .slice _ => some (.lit true, none)
    | _ => none
  | x, .nilptr => match d, x with
    | .ptr _, .nilptr => some (.lit true, none)
    | .ptr _, .ptr _ _ => some (.lit false, none)
    | .ptr _, .eptr _ _ _ _ => some (.lit false, none)
    | .ptr _, .rop _ => some (.lit false, none)
    | .ptr _, .atp e => some (.sym (!e.isPlaced), none)
    | _, _ => none
  | .func _ _, .nilFunc => match d with
    | .func => some (.lit false, none)
    | _ => none
  | .bound _ _, .nilFunc => match d with
    | .func => some (.lit false, none)
    | _ => none
  | .nilFunc, .nilFunc => match d with
    | .func => some (.lit true, none)
    | _ => none
  | _, _ => none
def eqFld (E : Env) (ft : Nat) (a b : SVal) : Option Bool := match find ft E.tab with
  | some ti => match ti.d, a, b with
    | .int _, .int k x, .int k' y => match kEq k k' with | true => some (decide (x.val = y.val)) | false => none
    | .bool, .bool x, .bool y => some (x.val == y.val)
    | .str, .str x, .str y => some (decide (x = y))
    | _, _, _ => none
  | none => none
def eqFlds (E : Env) : List (Nat × Nat × Nat) → Nat → List SVal → List SVal → Option Bool
  | [], _, [], [] => some true
  | (o, ft, _) :: fs, i, a :: l, b :: l' => match o.beq i, eqFld E ft a b, eqFlds E fs (i + 1) l l' with
    | true, some x, some y => some (x && y)
    | _, _, _ => none
  | _, _, _, _ => none
def binS (E : Env) (t : Nat) (c : Bool) (op : BinOp) (x y : SVal) : Acc ORes :=
  match x, y with
  | .int k a, .int k' b =>
    match op with
    | .shl | .shr => match shiftI op k a b with
      | some (n, p) => .ret { v := .int k n, vc := p }
      | none => .fail "shift"
    | .eql | .neq | .lss | .leq | .gtr | .geq => match kEq k k', cmpI op k a b with
      | true, some b => .ret { v := .bool b }
      | _, _ => .fail "cmp"
    | _ => match kEq k k', arithI op k a b with
      | true, some (n, p) => .ret { v := .int k n, vc := p }
      | _, _ => .fail "arith"
  | .str a, .str b => match op with
    | .add => .ret { v := .str (a ++ b), vc := some (a.size + b.size ≤ 9223372036854775807) }
    | .eql => .ret { v := .bool (.sym (decide (a = b))) }
    | .neq => .ret { v := .bool (.sym (!decide (a = b))) }
    | _ => .fail "string"
  | .agg l, .agg l' => match E.cmp.contains t, find t E.tab with
    | true, some ti => match ti.d with
      | .struct fs => match op, eqFlds E fs 0 l l' with
        | .eql, some b => .ret { v := .bool (.sym b) }
        | .neq, some b => .ret { v := .bool (.sym (!b)) }
        | _, _ => .fail "eql: fields"
      | _ => .fail "eql: struct"
    | _, _ => .fail "eql: struct"
  | x, y => match find t E.tab with
    | some ti => match op, eqS ti.d c x y with
      | .eql, some (b, p) => .ret { v := .bool b, vc := p }
      | .neq, some (b, p) => .ret { v := .bool (notB b), vc := p }
      | _, _ => .fail "eql"
    | none => .fail "eql: type"
def isC : Operand → Bool
  | .const _ => true
  | _ => false
def convS (d : TD) (x : SVal) : Acc ORes :=
  match d, x with
  | .int k, .int k' a => match inK k (a.lo k') (a.hi k') with
    | true => .ret { v := .int k (match a with | .lit n => .lit n | a => .sym a.val (a.lo k') (a.hi k')) }
    | false => match a with
      | .lit n => .ret { v := .int k (.lit (k.wrap n)) }
      | a => .ret { v := .int k (.full (k.wrap a.val)) }
  | .str, .str s => .ret { v := .str s }
  | _, _ => .fail "convert"
def SVal.isAgg : SVal → Bool
  | .any => true
  | .tuple _ => true
  | _ => false
def fillC (fs : List (Nat × Nat × Nat)) : List SVal → List (Nat × SVal) → Option (List SVal)
  | cs, [] => some cs
  | cs, (i, v) :: rest => match fs[i]?, v.isAgg with
    | some (off, _, n), false => match setW cs off (cellsOf v), (sumW (cellsOf v)).beq n with
      | some cs', true => fillC fs cs' rest
      | _, _ => none
    | _, _ => none
def buildS (E : Env) (ti : TI) (parts : List (Nat × SVal)) : Acc ORes :=
  match ti.d with
  | .struct fs => match fillC fs (cellsOf ti.zero) parts with
    | some cs => .ret { v := .agg cs }
    | none => .fail "build"
  | .arr _ e => match find e E.tab, parts, ti.zero.isArr with
    | some _, [], true => .ret { v := ti.zero }
    | _, _, _ => .fail "build array"
  | _ => .fail "build"
def inOrder (sz : Nat) : Nat → List (Nat × SVal) → Bool
  | _, [] => true
  | i, (j, v) :: rest => j.beq i && !v.isAgg && (sumW (cellsOf v)).beq sz && inOrder sz (i + 1) rest
def recsOf (t : RT) : List (Nat × SVal) → Option (List t.ty)
  | [] => some []
  | (_, v) :: rest => match t.dec (cellsOf v), recsOf t rest with
    | some x, some l => some (x :: l)
    | _, _ => none
def single : SVal → Bool
  | .any | .agg _ | .arr _ _ _ | .tuple _ => false
  | _ => true
def sparseOk (n : Nat) : List (Nat × SVal) → Bool
  | [] => true
  | (i, v) :: rest => Nat.ble (i + 1) n && single v && sparseOk n rest
def setAll : List SVal → List (Nat × SVal) → List SVal
  | l, [] => l
  | l, (i, v) :: rest => setAll (l.set i v) rest
def buildSliceS (e : TI) (n : Nat) (next : Nat) (parts : List (Nat × SVal)) : Acc ORes :=
  match Nat.ble 1 n && n.beq parts.length && Nat.ble (n * e.size) 16777216 && Nat.ble 1 e.size && inOrder e.size 0 parts with
  | true => match e.rt with
    | some t => match recsOf t parts with
      | some l => .ret { v := .own next, ws := [(next, some (.recs t l))], k := 1 }
      | none => .fail "buildSlice"
    | none => .ret { v := .own next, ws := [(next, some (.row e.size (parts.flatMap fun p => cellsOf p.2)))], k := 1 }
  | false => match n, parts, e.rt with
    | 0, [], some t => .ret { v := .own next, ws := [(next, some (.recs t []))], k := 1 }
    | n, ps, none => match e.size.beq 1 && Nat.ble 1 n && Nat.ble n 16777216 && single e.zero && sparseOk n ps with
      | true => .ret { v := .own next, ws := [(next, some (.row 1 (setAll (List.replicate n e.zero) ps)))], k := 1 }
      | false => .fail "buildSlice"
    | _, _, _ => .fail "buildSlice"
def pieceOf (n : Nat) (lo hi : Option SI) : Nat × Nat × Option Prop :=
  match lo, hi with
  | some a, none => (a.val.toNat, n, some (0 ≤ a.val ∧ a.val ≤ (n : Nat)))
  | none, some b => (0, b.val.toNat, some (0 ≤ b.val ∧ b.val ≤ (n : Nat)))
  | some a, some b => (a.val.toNat, b.val.toNat, some (0 ≤ a.val ∧ a.val ≤ b.val ∧ b.val ≤ (n : Nat)))
  | none, none => (0, n, none)
def pieceL {α : Type} (l : List α) (lo hi : Option SI) : List α :=
  match lo, hi with
  | some a, none => l.drop a.val.toNat
  | none, some b => l.take b.val.toNat
  | some a, some b => (l.take b.val.toNat).drop a.val.toNat
  | none, none => l
def sliceS (sz : Nat) (x : SVal) (lo hi : Option SI) : Acc ORes :=
  match x with
  | .ro t l => match sz.beq t.w, pieceOf l.length lo hi with
    | true, (_, _, p) => .ret { v := .ro t (pieceL l lo hi), vc := p }
    | false, _ => .fail "slice"
  | .own r => .look r fun
    | some (.recs t l) => match sz.beq t.w, pieceOf l.length lo hi with
      | true, (a, b, p) => .ret { v := .view t r a (b - a), vc := p }
      | false, _ => .fail "slice"
    | _ => .fail "slice"
  | .view t r k n => match sz.beq t.w, pieceOf n lo hi with
    | true, (a, b, p) => .ret { v := .view t r (k + a) (b - a), vc := p }
    | false, _ => .fail "slice"
  | .nilslice => match lo, hi with
    | none, none => .ret { v := .nilslice }
    | _, _ => .fail "slice of nil"
  | _ => .fail "slice"
def sliceArr (m sz : Nat) (x : SVal) (lo hi : Option SI) : Acc ORes :=
  match x with
  | .ptr r 0 => .look r fun
    | some (.cells [.arr t n l]) => match sz.beq t.w && m.beq n && Nat.ble n 1048576, pieceOf n lo hi with
      | true, (_, _, p) => .ret { v := .roN t (pieceL l lo hi), ws := [(r, none)], vc := p }
      | false, _ => .fail "slice"
    | _ => .fail "slice"
  | _ => .fail "slice"
def sliceStr (x : SVal) (lo hi : Option SI) : Acc ORes :=
  match x with
  | .str s => match pieceOf s.size lo hi with
    | (a, b, p) => .ret { v := .str (s.extract a b), vc := p }
  | _ => .fail "slice"
def bytesL (b : ByteArray) : List Int := b.data.toList.map fun x => (x.toNat : Int)
def isTxt (E : Env) (t : Nat) : Bool := match find t E.tab with
  | some ti => match ti.d with | .str => true | _ => false
  | none => false
def appendStr (E : Env) (t t' : Nat) (s : SVal) (b : ByteArray) (next : Nat) : Acc ORes := do
  let ti ← E.ti t
  match ti.d, isTxt E t' with
  | .slice e, true => do
    let ei ← E.ti e
    match ei.rt with
    | some .u8 => match s with
      | .nilslice => .ret { v := .own next, ws := [(next, some (.recs .u8 (bytesL b)))], k := 1, vc := some (b.size ≤ 137438953472) }
      | .own r => .look r fun
        | some (.recs .u8 l) => .ret { v := .own next, ws := [(r, none), (next, some (.recs .u8 (l ++ bytesL b)))], k := 1, vc := some (l.length + b.size ≤ 137438953472) }
        | _ => .fail "append"
      | _ => .fail "append"
    | _ => .fail "append"
  | _, _ => .fail "append"
def appendZ (E : Env) (t t' : Nat) (s : SVal) (n : SI) (next : Nat) : Acc ORes := do
  let ti ← E.ti t
  let ti' ← E.ti t'
  match ti.d, ti'.d with
  | .slice e, .int _ => do
    let ei ← E.ti e
    match ei.rt with
    | some u => match s with
      | .nilslice => .ret { v := .own next, ws := [(next, some (.recs u (List.replicate n.val.toNat u.dflt)))], k := 1, vc := some (0 ≤ n.val ∧ n.val ≤ 137438953472) }
      | .own r => .look r fun
        | some (.recs u' l) => match decEq u' u with
          | .isTrue hl => .ret { v := .own next, ws := [(r, none), (next, some (.recs u (hl ▸ l ++ List.replicate n.val.toNat u.dflt)))], k := 1, vc := some (0 ≤ n.val ∧ l.length + n.val.toNat ≤ 137438953472) }
          | .isFalse _ => .fail "append"
        | _ => .fail "append"
      | _ => .fail "append"
    | none => .fail "append"
  | _, _ => .fail "append"
def appendS (E : Env) (t t' : Nat) (s x : SVal) (next : Nat) : Acc ORes := do
  let ti ← E.ti t
  match ti.d, t.beq t' with
  | .slice e, true => do
    let ei ← E.ti e
    match ei.rt with
    | some u => do
      let ⟨u', new⟩ ← elems x
      match decEq u' u with
      | .isTrue hu => match s with
        | .nilslice => .ret { v := .own next, ws := [(next, some (.recs u (hu ▸ new)))], k := 1, vc := some (new.length ≤ 137438953472) }
        | .own r => .look r fun
          | some (.recs u'' l) => match decEq u'' u with
            | .isTrue hl => .ret { v := .own next, ws := [(r, none), (next, some (.recs u (hl ▸ l ++ hu ▸ new)))], k := 1, vc := some (l.length + new.length ≤ 137438953472) }
            | .isFalse _ => .fail "append"
          | _ => .fail "append"
        | _ => .fail "append"
      | .isFalse _ => .fail "append"
    | none => .fail "append"
  | _, _ => .fail "append"
def mapGet {α : Type} [DecidableEq α] : List (α × Int) → α → Int
  | [], _ => 0
  | (a, b) :: m, k => if a = k then b else mapGet m k
def mapPut {α : Type} [DecidableEq α] : List (α × Int) → α → Int → List (α × Int)
  | [], k, v => [(k, v)]
  | (a, b) :: m, k, v => if a = k then (a, v) :: m else (a, b) :: mapPut m k v
def gGet {α β : Type} [DecidableEq α] (d : β) : List (α × β) → α → β
  | [], _ => d
  | (a, b) :: m, k => if a = k then b else gGet d m k
def gHas {α β : Type} [DecidableEq α] : List (α × β) → α → Bool
  | [], _ => false
  | (a, _) :: m, k => if a = k then true else gHas m k
def gPut {α β : Type} [DecidableEq α] : List (α × β) → α → β → List (α × β)
  | [], k, v => [(k, v)]
  | (a, b) :: m, k, v => if a = k then (a, v) :: m else (a, b) :: gPut m k v
def FK.deq : (k : FK) → DecidableEq k.ty
  | .int _ => fun (a b : Int) => inferInstanceAs (Decidable (a = b))
  | .bool => fun (a b : Bool) => inferInstanceAs (Decidable (a = b))
  | .str => fun (a b : ByteArray) => inferInstanceAs (Decidable (a = b))
def si : SVal → Acc SI
  | .int _ n => .ret n
  | _ => .fail "int"
def siOpt : Option SVal → Acc (Option SI)
  | none => .ret none
  | some s => do let n ← si s; .ret (some n)
def maxS (lt : Bool) : SVal → SVal → Acc ORes
  | .int k a, .int k' b => match kEq k k' with
    | true => match lt with
      | true => .ret { v := iteV (decide (a.val < b.val)) (.int k b) (.int k a) }
      | false => .ret { v := iteV (decide (b.val < a.val)) (.int k b) (.int k a) }
    | false => .fail "max"
  | _, _ => .fail "max"
def builtinS (E : Env) (b : Builtin) (ts : List Nat) (args : List SVal) (next : Nat) : Acc ORes :=
  match b, ts, args with
  | .len, [t], [x] => do
    let ti ← E.ti t
    let n ← lenOfS x
    match ti.d, x with
    | _, .arr _ _ _ => .fail "len"
    | .str, .str _ => .ret { v := .int .i64 n }
    | _, .str _ => .fail "len"
    | .slice _, _ => .ret { v := .int .i64 n }
    | _, _ => .fail "len"
  | .append, [t, t'], [s, x] => match x with
    | .str b => appendStr E t t' s b next
    | .int _ n => appendZ E t t' s n next
    | _ => appendS E t t' s x next
  | .max, [_, _], [x, y] => maxS true x y
  | .min, [_, _], [x, y] => maxS false x y
  | _, _, _ => .fail "builtin"
def nilTy (E : Env) (T : Nat) : Option RT := match find T E.tab with
  | some ti => match ti.d with
    | .slice e => match find e E.tab with
      | some tj => tj.rt
      | none => none
    | _ => none
  | none => none
def lookO (E : Env) (t : Nat) (m k : Operand) (ok : Bool) (ev : Operand → SVal) : Acc ORes := do
  let ti ← E.ti t
  match ok, ti.d with
  | false, .map kt vt => do
    let ki ← E.ti kt
    let vi ← E.ti vt
    match ki.d, vi.zero, ev m, ev k with
    | .str, .int .i64 (.lit (.ofNat 0)), .map r, .str s => .look r fun
      | some (.strMap m) => .ret { v := .int .i64 (.full (mapGet m s)) }
      | _ => .fail "lookup"
    | .int .i64, .int .i64 (.lit (.ofNat 0)), .map r, .int .i64 n => .look r fun
      | some (.intMap m) => .ret { v := .int .i64 (.full (mapGet m n.val)) }
      | _ => .fail "lookup"
    | _, _, _, _ => .fail "lookup"
  | _, _ => .fail "lookup"
def updO (E : Env) (t : Nat) (m k x : Operand) (ev : Operand → SVal) : Acc ORes := do
  let ti ← E.ti t
  match ti.d with
  | .map kt vt => do
    let ki ← E.ti kt
    match ki.d, ev m, ev k, ev x with
    | .str, .map r, .str s, .int .i64 x => .look r fun
      | some (.strMap m) => .ret { v := .any, ws := [(r, some (.strMap (mapPut m s x.val)))] }
      | _ => .fail "mapUpdate"
    | .int .i64, .map r, .int .i64 n, .int .i64 x => .look r fun
      | some (.intMap m) => .ret { v := .any, ws := [(r, some (.intMap (mapPut m n.val x.val)))] }
      | _ => .fail "mapUpdate"
    | _, _, _, _ => .fail "mapUpdate"
  | _ => .fail "mapUpdate"
def keyTD : FK → TD → Bool
  | .str, .str => true
  | .int k, .int k' => kEq k k'
  | _, _ => false
def isAggS : SVal → Bool
  | .agg _ => true
  | _ => false
def shapeOk (u : RT) (s : SVal) : Bool := match u.isS with
  | true => isAggS s
  | false => single s
def lookG (ok : Bool) (ki vi : TI) (key : SVal) (fk : FK) (u : RT) (x : List (fk.ty × u.ty)) : Acc ORes :=
  match keyTD fk ki.d && shapeOk u vi.zero, decide (vi.rt = some u), fk.dec key with
  | true, true, some a => match ok with
    | true => .ret { v := .tuple [recV u (@gGet _ _ fk.deq u.dflt x a), .bool (.sym (@gHas _ _ fk.deq x a))] }
    | false => .ret { v := recV u (@gGet _ _ fk.deq u.dflt x a) }
  | _, _, _ => .fail "lookup"
def atPtrV (p : SVal) : Acc (List SVal × Option Prop) :=
  match p with
  | .eptr r w i j => .look r fun
    | some (.opn k t l q x) => match w.beq 1 && j.beq 0 with
      | true => .ret ([x], some (i = q))
      | false => .fail "load"
    | _ => do
      let cs ← atPtr (.eptr r w i j)
      .ret (cs, none)
  | p => do
    let cs ← atPtr p
    .ret (cs, none)
def sop (E : Env) (o : Oper) (ev : Operand → SVal) (next : Nat) : Acc ORes :=
  match o.op with
  | .move x => .ret { v := ev x }
  | .assign x => match ev x with
    | .nilslice => match nilTy E o.type with
      | some t => .ret { v := .own next, ws := [(next, some (.recs t []))], k := 1 }
      | none => .ret { v := .nilslice }
    | v => .ret { v := v }
  | .pick c a b => match ev c with
    | .bool (.lit true) => .ret { v := ev a }
    | .bool (.lit false) => .ret { v := ev b }
    | .bool (.sym c) => .ret { v := iteV c (ev a) (ev b) }
    | _ => .fail "pick"
  | .alloc t => do
    let ti ← E.ti t
    .ret { v := .ptr next 0, ws := [(next, some (.cells (cellsOf ti.zero)))], k := 1 }
  | .box t x => match (ev x).isAgg with
    | true => .fail "box"
    | false => .ret { v := .ptr next 0, ws := [(next, some (.cells (cellsOf (ev x))))], k := 1 }
  | .build t ps => do
    let ti ← E.ti t
    buildS E ti (ps.toList.map fun (i, x) => (i, ev x))
  | .buildSlice t n ps => do
    let ti ← E.ti t
    match ti.d with
    | .slice e => do
      let ei ← E.ti e
      buildSliceS ei n next (ps.toList.map fun (i, x) => (i, ev x))
    | _ => .fail "buildSlice"
  | .load t a => do
    let ti ← E.ti t
    let z ← atPtrV (ev a)
    let v ← valOf ti z.1
    .ret { v := v, vc := z.2 }
  | .store t a x => do
    let ti ← E.ti t
    match (ev x).isAgg with
    | true => .fail "store any"
    | false => match (sumW (cellsOf (ev x))).beq ti.size with
      | true => do
        let ws ← storeAtS (ev a) (cellsOf (ev x))
        .ret { v := .any, ws := ws }
      | false => .fail "store: size"
  | .nilCheck x => match ev x with
    | .ptr r off => .ret { v := .ptr r off }
    | .eptr r w i j => .ret { v := .eptr r w i j }
    | .aptr r off w n i j => .ret { v := .aptr r off w n i j }
    | .rop l => .ret { v := .rop l }
    | .ropO c l => .ret { v := .rop l, vc := some (c = true) }
    | .atp e => .ret { v := .atp e, vc := some (e.isPlaced = true) }
    | .func f c => .ret { v := .func f c }
    | .bound f c => .ret { v := .bound f c }
    | _ => .fail "nilCheck"
  | .binOp op t x y _ => binS E t (isC x || isC y) op (ev x) (ev y)
  | .unOp op _ x => match op, ev x with
    | .not, .bool b => .ret { v := .bool (notB b) }
    | .neg, .int k (.lit n) => .ret { v := .int k (.lit (k.wrap (-n))) }
    | .neg, .int k a => .ret { v := .int k (mkI k (-a.val) (-a.hi k) (-a.lo k)) }
    | _, _ => .fail "unOp"
  | .convert s d x => do
    let si ← E.ti s
    let ti ← E.ti d
    match si.d, ti.d with
    | .slice e, .str => do
      let ei ← E.ti e
      let p ← elems (ev x)
      match ei.d, p with
      | .int .u8, ⟨.u8, l⟩ => .ret { v := .str (strOfNums l), vc := some (l.length ≤ 137438953472) }
      | _, _ => .fail "convert"
    | _, _ => convS ti.d (ev x)
  | .makeInterface t x => do
    let ti ← E.ti t
    match ti.d with
    | .iface => .fail "iface"
    | .other => .fail "iface"
    | _ => .ret { v := .iface t (ev x) }
  | .makeSlice t n c => do
    let ti ← E.ti t
    match ti.d with
    | .slice e => do
      let ei ← E.ti e
      let n ← si (ev n)
      let c ← si (ev c)
      match ei.rt with
      | some u => .ret { v := .own next, ws := [(next, some (.recs u (List.replicate n.val.toNat u.dflt)))], k := 1,
                         vc := some (0 ≤ n.val ∧ n.val ≤ c.val ∧ c.val ≤ 137438953472) }
      | none => .fail "makeSlice"
    | _ => .fail "makeSlice"
  | .slice t x lo hi mx => match mx with
    | none => do
      let ti ← E.ti t
      let lo ← siOpt (lo.map ev)
      let hi ← siOpt (hi.map ev)
      match ti.d with
      | .slice e => do
        let ei ← E.ti e
        sliceS ei.size (ev x) lo hi
      | .str => sliceStr (ev x) lo hi
      | .arr m e => do
        let ei ← E.ti e
        sliceArr m ei.size (ev x) lo hi
      | _ => .fail "slice"
    | some _ => .fail "slice3"
  | .fieldAddr s x f => do
    let ti ← E.ti s
    match ti.d with
    | .struct fs => match fs[f]? with
      | some (off, _, _) => addOff (ev x) off
      | none => .fail "fieldAddr"
    | _ => .fail "fieldAddr"
  | .field s x f => do
    let ti ← E.ti s
    match ti.d, ev x with
    | .struct fs, .agg l => match fs[f]? with
      | some (off, t, _) => do
        let fi ← E.ti t
        match dropW l off with
        | some cs => do
          let v ← valOf fi cs
          .ret { v := v }
        | none => .fail "field"
      | none => .fail "field"
    | _, _ => .fail "field"
  | .indexAddr t x i => do
    let ti ← E.ti t
    match ev i with
    | .int k n => match ti.d with
      | .slice e => do
        let ei ← E.ti e
        indexSl ei.size (ev x) n
      | .arr m e => do
        let ei ← E.ti e
        indexAr m ei.size (ev x) n
      | _ => .fail "indexAddr"
    | _ => .fail "indexAddr"
  | .index t x i => match ev x, ev i with
    | .arr u n l, .int k i => do
      let ti ← E.ti t
      match ti.d with
      | .arr m e => do
        let ei ← E.ti e
        match ei.size.beq u.w with
        | true => match m.beq n with
          | true => do
            let v ← valOf ei (elemAt u l i.val ++ (l.drop (i.val.toNat + 1)).flatMap u.enc)
            .ret { v := v, vc := some (0 ≤ i.val ∧ i.val < (n : Nat)) }
          | false => .fail "index"
        | false => .fail "index"
      | _ => .fail "index"
    | .str s, .int k i => do
      let ti ← E.ti t
      match ti.d with
      | .str => .ret { v := .int .u8 (.sym ((s.data.toList.getD i.val.toNat 0).toNat : Nat) 0 255), vc := some (0 ≤ i.val ∧ i.val < (s.size : Nat)) }
      | _ => .fail "index"
    | _, _ => .fail "index"
  | .extract t i => match ev t with
    | .tuple l => match l[i]? with
      | some v => .ret { v := v }
      | none => .fail "extract"
    | _ => .fail "extract"
  | .lookup t m k ok => match ev m with
    | .rom fk u x => do
      let ti ← E.ti t
      match ti.d with
      | .map kt vt => do
        let ki ← E.ti kt
        let vi ← E.ti vt
        lookG ok ki vi (ev k) fk u (x.getD [])
      | _ => .fail "lookup"
    | .map r => .look r fun
      | some (.gmap fk u x) => do
        let ti ← E.ti t
        match ti.d with
        | .map kt vt => do
          let ki ← E.ti kt
          let vi ← E.ti vt
          lookG ok ki vi (ev k) fk u x
        | _ => .fail "lookup"
      | _ => lookO E t m k ok ev
    | _ => .fail "lookup"
  | .mapUpdate t m k x => match ev m with
    | .map r => .look r fun
      | some (.gmap fk u y) => do
        let ti ← E.ti t
        match ti.d with
        | .map kt vt => do
          let ki ← E.ti kt
          match keyTD fk ki.d && shapeOk u (ev x), fk.dec (ev k), u.dec (cellsOf (ev x)) with
          | true, some a, some z => .ret { v := .any, ws := [(r, some (.gmap fk u (@gPut _ _ fk.deq y a z)))] }
          | _, _, _ => .fail "mapUpdate"
        | _ => .fail "mapUpdate"
      | _ => updO E t m k x ev
    | _ => .fail "mapUpdate"
  | .makeMap t n => do
    let ti ← E.ti t
    match ti.d, n with
    | .map k v, none => do
      let ki ← E.ti k
      let vi ← E.ti v
      match ki.d, vi.zero with
      | .str, .int .i64 (.lit (.ofNat 0)) => .ret { v := .map next, ws := [(next, some (.strMap []))], k := 1 }
      | .int .i64, .int .i64 (.lit (.ofNat 0)) => .ret { v := .map next, ws := [(next, some (.intMap []))], k := 1 }
      | .str, _ => match vi.rt with
        | some u => .ret { v := .map next, ws := [(next, some (.gmap .str u []))], k := 1 }
        | none => .fail "makeMap"
      | .int i, _ => match vi.rt with
        | some u => .ret { v := .map next, ws := [(next, some (.gmap (.int i) u []))], k := 1 }
        | none => .fail "makeMap"
      | _, _ => .fail "makeMap"
    | _, _ => .fail "makeMap"
  | .typeAssert x _ t ok => do
    let ti ← E.ti t
    match ok, ev x, ti.zero with
    | true, .err e, .nilptr => match t.beq E.tAt with
      | true => .ret { v := .tuple [.atp e, .bool (.sym e.isPlaced)] }
      | false => .fail "typeAssert"
    | _, _, _ => .fail "typeAssert"
  | .makeFunc fn first captured => match fn, first.toList with
    | .func f, [] => .ret { v := .func f (captured.toList.map ev) }
    | .func f, x :: l => match captured.toList with
      | [] => .ret { v := .bound f ((x :: l).map ev) }
      | _ => .fail "makeFunc"
    | _, _ => .fail "makeFunc"
  | .call c => match c.callee with
    | .builtin b => builtinS E b c.argTypes.toList (c.args.toList.map ev) next
    | .value f => match ev f with
      | .func f cap => match find f E.con with
        | some k => k (c.args.toList.map ev ++ cap) next
        | none => .fail "contract"
      | .bound f a => match find f E.con with
        | some k => k (a ++ c.args.toList.map ev) next
        | none => .fail "contract"
      | _ => .fail "call"
    | .invoke _ _ => .fail "invoke"
  | _ => .fail "op"
def Acc.run {α : Type} (look : Nat → Option Cont) : Acc α → List Nat → Except String (α × List Nat)
  | .ret a, l => .ok (a, l)
  | .fail s, _ => .error s
  | .look r k, l => (k (look r)).run look (r :: l)
def pickS (c a b : SVal) : Option SVal := match c with
  | .bool (.lit true) => some a
  | .bool (.lit false) => some b
  | .bool (.sym c) => some (iteV c a b)
  | _ => none
end Go.Sy

set_option linter.unusedVariables false
set_option linter.unusedSimpArgs false
namespace Go.Sy
open Go.RowKit
structure Ctx where
 ea : Int → Addr
 tE : Nat
 tAt : Nat
 has : Int → Prop
 fix : Nat → Option Obj
structure Ear where
 f : Int → Addr
 fix : Nat → Option Obj
structure InI (k : IntKind) (n : SI) : Prop where
 lo : kmin k ≤ n.val
 hi : n.val ≤ kmax k
 lo' : n.lo k ≤ n.val
 hi' : n.val ≤ n.hi k
def CellsAt (W : World) (b off : Nat) (vs : List Value) : Prop := ∀ j v, vs[j]? = some v → W.cell? ⟨b, off + j, none⟩ = some v
mutual
inductive Den (C : Ctx) (W : World) (R : Nat → Prop) (ρ : Nat → Option Value) : SVal → Value → Prop where
 | any (v : Value) : Den C W R ρ .any v
 | int (k : IntKind) (n : SI) : InI k n → Den C W R ρ (.int k n) (.int k n.val)
 | bool (b : SB) : Den C W R ρ (.bool b) (.bool b.val)
 | str (s : ByteArray) : s.size ≤ maxLen → Den C W R ρ (.str s) (.string s)
 | nilptr : Den C W R ρ .nilptr (.pointer none)
 | ptr (r off b : Nat) : ρ r = some (.pointer (some ⟨b, 0, none⟩)) → Den C W R ρ (.ptr r off) (.pointer (some ⟨b, off, none⟩))
 | eptr (r w : Nat) (i : Int) (j b n cap : Nat) : ρ r = some (.slice (some ⟨b, 0, none⟩) n cap) → 0 ≤ i → i < n → Den C W R ρ (.eptr r w i j) (.pointer (some ⟨b, i.toNat * w + j, none⟩))
 | aptr (r off w n : Nat) (i : Int) (j b : Nat) : ρ r = some (.pointer (some ⟨b, 0, none⟩)) → 0 ≤ i → i < n → Den C W R ρ (.aptr r off w n i j) (.pointer (some ⟨b, off + i.toNat * w + j, none⟩))
 | rop (l : List SVal) (vs : List Value) (b off : Nat) : R b → DenL C W R ρ l vs → CellsAt W b off vs → Den C W R ρ (.rop l) (.pointer (some ⟨b, off, none⟩))
 | nilslice : Den C W R ρ .nilslice (.slice none 0 0)
 | own (r : Nat) (A : Option Addr) (n cap : Nat) : ρ r = some (.slice A n cap) → Den C W R ρ (.own r) (.slice A n cap)
 | view (t : RT) (r k n : Nat) (A A' : Option Addr) (m cap cap' : Nat) : ρ r = some (.slice A m cap) → k + n ≤ m → n ≤ cap' → cap' ≤ maxLen →
   (0 < n → ∃ b, A = some ⟨b, 0, none⟩ ∧ A' = some ⟨b, k * t.w, none⟩) → (A' = none → cap' = 0) → Den C W R ρ (.view t r k n) (.slice A' n cap')
 | ro (t : RT) (l : List t.ty) (A : Option Addr) (cap : Nat) (vs : List Value) : l.length ≤ cap → cap ≤ maxLen → DenL C W R ρ (l.flatMap t.enc) vs →
   (l ≠ [] → ∃ b off, A = some ⟨b, off, none⟩ ∧ R b ∧ CellsAt W b off vs) → (A = none → cap = 0) → Den C W R ρ (.ro t l) (.slice A l.length cap)
 | roN (t : RT) (l : List t.ty) (a : Addr) (cap : Nat) (vs : List Value) : l.length ≤ cap → cap ≤ maxLen → DenL C W R ρ (l.flatMap t.enc) vs →
   (l ≠ [] → ∃ b off, a = ⟨b, off, none⟩ ∧ R b ∧ CellsAt W b off vs) → Den C W R ρ (.roN t l) (.slice (some a) l.length cap)
 | nilmap : Den C W R ρ .nilmap (.map none)
 | map (r b : Nat) : ρ r = some (.map (some b)) → Den C W R ρ (.map r) (.map (some b))
 | ropT (l : List SVal) (vs : List Value) (b off : Nat) : R b → DenL C W R ρ l vs → CellsAt W b off vs → Den C W R ρ (.ropO true l) (.pointer (some ⟨b, off, none⟩))
 | ropF (l : List SVal) : Den C W R ρ (.ropO false l) (.pointer none)
 | romN (k : FK) (t : RT) : Den C W R ρ (.rom k t none) (.map none)
 | rom (k : FK) (t : RT) (m : List (k.ty × t.ty)) (b : Nat) (es : Array MapEntry) (clock : Nat) : R b → W.heap[b]? = some (.map es clock) → es.toList.map (fun e => e.key) = m.map (fun p => k.val p.1) →
   DenA C W R ρ (m.map fun p => recV t p.2) (es.toList.map fun e => e.val) → Den C W R ρ (.rom k t (some m)) (.map (some b))
 | nilFunc : Den C W R ρ .nilFunc .nilFunc
 | func (f : Nat) (l : List SVal) (vs : List Value) : DenA C W R ρ l vs → Den C W R ρ (.func f l) (.func (.func f) #[] vs.toArray)
 | bound (f : Nat) (l : List SVal) (vs : List Value) : DenA C W R ρ l vs → Den C W R ρ (.bound f l) (.func (.func f) vs.toArray #[])
 | nilIface : Den C W R ρ .nilIface .nilIface
 | iface (t : Nat) (s : SVal) (v : Value) : Den C W R ρ s v → Den C W R ρ (.iface t s) (.iface t v)
 | fine : Den C W R ρ (.err .fine) .nilIface
 | bare (n : Int) : C.has n → Den C W R ρ (.err (.bare n)) (.iface C.tE (.pointer (some (C.ea n))))
 | placed (n p : Int) (b off : Nat) : C.has n → R b → kmin .i64 ≤ p → p ≤ kmax .i64 → CellsAt W b off [.int .i64 p, .iface C.tE (.pointer (some (C.ea n)))] →
   Den C W R ρ (.err (.placed n p)) (.iface C.tAt (.pointer (some ⟨b, off, none⟩)))
 | atp (n p : Int) (b off : Nat) : C.has n → R b → kmin .i64 ≤ p → p ≤ kmax .i64 → CellsAt W b off [.int .i64 p, .iface C.tE (.pointer (some (C.ea n)))] →
   Den C W R ρ (.atp (.placed n p)) (.pointer (some ⟨b, off, none⟩))
 | atnil (e : FErr) : e.isPlaced = false → Den C W R ρ (.atp e) (.pointer none)
 | agg (l : List SVal) (vs : List Value) : DenL C W R ρ l vs → Den C W R ρ (.agg l) (.agg vs.toArray)
 | arr (t : RT) (n : Nat) (xs : List t.ty) (vs : List Value) : xs.length = n → DenL C W R ρ (xs.flatMap t.enc) vs → Den C W R ρ (.arr t n xs) (.agg vs.toArray)
 | tuple (l : List SVal) (vs : List Value) : DenA C W R ρ l vs → Den C W R ρ (.tuple l) (.tuple vs.toArray)
inductive DenL (C : Ctx) (W : World) (R : Nat → Prop) (ρ : Nat → Option Value) : List SVal → List Value → Prop where
 | nil : DenL C W R ρ [] []
 | one (s : SVal) (v : Value) (l : List SVal) (vs : List Value) : s.isArr = false → v.oneCell' = true → Den C W R ρ s v → DenL C W R ρ l vs → DenL C W R ρ (s :: l) (v :: vs)
 | arr (t : RT) (n : Nat) (xs : List t.ty) (us : List Value) (l : List SVal) (vs : List Value) : xs.length = n → DenL C W R ρ (xs.flatMap t.enc) us → DenL C W R ρ l vs →
   DenL C W R ρ (.arr t n xs :: l) (us ++ vs)
inductive DenA (C : Ctx) (W : World) (R : Nat → Prop) (ρ : Nat → Option Value) : List SVal → List Value → Prop where
 | nil : DenA C W R ρ [] []
 | cons (s : SVal) (v : Value) (l : List SVal) (vs : List Value) : Den C W R ρ s v → DenA C W R ρ l vs → DenA C W R ρ (s :: l) (v :: vs)
end
theorem CellsAt.mono {W W' : World} {b off : Nat} {vs : List Value} (h : CellsAt W b off vs) (e : W'.heap[b]? = W.heap[b]?) : CellsAt W' b off vs :=
 fun j v hv => (World.cell?_of_block (w := W) (w' := W') (a := ⟨b, off + j, none⟩) e).trans (h j v hv)
theorem CellsAt.drop {W : World} {b off : Nat} {vs : List Value} (h : CellsAt W b off vs) (k : Nat) : CellsAt W b (off + k) (vs.drop k) := fun j v hv => by
 rw [List.getElem?_drop] at hv
 have := h (k + j) v hv
 rwa [← Nat.add_assoc] at this
theorem CellsAt.left {W : World} {b off : Nat} {vs us : List Value} (h : CellsAt W b off (vs ++ us)) : CellsAt W b off vs := fun j v hv =>
 h j v (by rw [List.getElem?_append_left (List.getElem?_eq_some_iff.1 hv).1]; exact hv)
theorem CellsAt.take {W : World} {b off : Nat} {vs : List Value} (h : CellsAt W b off vs) (k : Nat) : CellsAt W b off (vs.take k) :=
 CellsAt.left (us := vs.drop k) (by rw [List.take_append_drop]; exact h)
section
variable {C : Ctx} {W W' : World} {R R' : Nat → Prop} {ρ ρ' : Nat → Option Value}
mutual
theorem Den.mono (hR : ∀ b, R b → R' b) (hW : ∀ b, R b → W'.heap[b]? = W.heap[b]?) (hρ : ∀ r v, ρ r = some v → ρ' r = some v) : ∀ {s v}, Den C W R ρ s v → Den C W' R' ρ' s v
 | _, _, .any v => .any v
 | _, _, .int k n h => .int k n h
 | _, _, .bool b => .bool b
 | _, _, .str s h => .str s h
 | _, _, .nilptr => .nilptr
 | _, _, .ptr r off b h => .ptr r off b (hρ _ _ h)
 | _, _, .eptr r w i j b n cap h h1 h2 => .eptr r w i j b n cap (hρ _ _ h) h1 h2
 | _, _, .aptr r off w n i j b h h1 h2 => .aptr r off w n i j b (hρ _ _ h) h1 h2
 | _, _, .rop l vs b off h1 h2 h3 => .rop l vs b off (hR _ h1) (DenL.mono hR hW hρ h2) (h3.mono (hW _ h1))
 | _, _, .nilslice => .nilslice
 | _, _, .own r A n cap h => .own r A n cap (hρ _ _ h)
 | _, _, .view t r k n A A' m cap cap' h h1 h2 h3 h4 h5 => .view t r k n A A' m cap cap' (hρ _ _ h) h1 h2 h3 h4 h5
 | _, _, .ro t l A cap vs h1 h2 h3 h4 h5 => .ro t l A cap vs h1 h2 (DenL.mono hR hW hρ h3) (fun hl => let ⟨b, off, e, hb, hc⟩ := h4 hl; ⟨b, off, e, hR _ hb, hc.mono (hW _ hb)⟩) h5
 | _, _, .roN t l A cap vs h1 h2 h3 h4 => .roN t l A cap vs h1 h2 (DenL.mono hR hW hρ h3) (fun hl => let ⟨b, off, e, hb, hc⟩ := h4 hl; ⟨b, off, e, hR _ hb, hc.mono (hW _ hb)⟩)
 | _, _, .nilmap => .nilmap
 | _, _, .map r b h => .map r b (hρ _ _ h)
 | _, _, .ropT l vs b off h1 h2 h3 => .ropT l vs b off (hR _ h1) (DenL.mono hR hW hρ h2) (h3.mono (hW _ h1))
 | _, _, .ropF l => .ropF l
 | _, _, .romN k t => .romN k t
 | _, _, .rom k t m b es cl h1 h2 h3 h4 => .rom k t m b es cl (hR _ h1) (by rw [hW _ h1]; exact h2) h3 (DenA.mono hR hW hρ h4)
 | _, _, .nilFunc => .nilFunc
 | _, _, .func f l vs h => .func f l vs (DenA.mono hR hW hρ h)
 | _, _, .bound f l vs h => .bound f l vs (DenA.mono hR hW hρ h)
 | _, _, .nilIface => .nilIface
 | _, _, .iface t s v h => .iface t s v (Den.mono hR hW hρ h)
 | _, _, .fine => .fine
 | _, _, .bare n h => .bare n h
 | _, _, .placed n p b off h1 h2 h3 h4 h5 => .placed n p b off h1 (hR _ h2) h3 h4 (h5.mono (hW _ h2))
 | _, _, .atp n p b off h1 h2 h3 h4 h5 => .atp n p b off h1 (hR _ h2) h3 h4 (h5.mono (hW _ h2))
 | _, _, .atnil e h => .atnil e h
 | _, _, .agg l vs h => .agg l vs (DenL.mono hR hW hρ h)
 | _, _, .arr t n xs vs h1 h2 => .arr t n xs vs h1 (DenL.mono hR hW hρ h2)
 | _, _, .tuple l vs h => .tuple l vs (DenA.mono hR hW hρ h)
theorem DenL.mono (hR : ∀ b, R b → R' b) (hW : ∀ b, R b → W'.heap[b]? = W.heap[b]?) (hρ : ∀ r v, ρ r = some v → ρ' r = some v) : ∀ {l vs}, DenL C W R ρ l vs → DenL C W' R' ρ' l vs
 | _, _, .nil => .nil
 | _, _, .one s v l vs h1 h2 h3 h4 => .one s v l vs h1 h2 (Den.mono hR hW hρ h3) (DenL.mono hR hW hρ h4)
 | _, _, .arr t n xs us l vs h1 h2 h3 => .arr t n xs us l vs h1 (DenL.mono hR hW hρ h2) (DenL.mono hR hW hρ h3)
theorem DenA.mono (hR : ∀ b, R b → R' b) (hW : ∀ b, R b → W'.heap[b]? = W.heap[b]?) (hρ : ∀ r v, ρ r = some v → ρ' r = some v) : ∀ {l vs}, DenA C W R ρ l vs → DenA C W' R' ρ' l vs
 | _, _, .nil => .nil
 | _, _, .cons s v l vs h1 h2 => .cons s v l vs (Den.mono hR hW hρ h1) (DenA.mono hR hW hρ h2)
end
theorem DenL.app {l l' : List SVal} {vs vs' : List Value} (h : DenL C W R ρ l vs) (h' : DenL C W R ρ l' vs') : DenL C W R ρ (l ++ l') (vs ++ vs') := by
 induction l generalizing vs with
 | nil => cases h; exact h'
 | cons s l ih =>
  cases h with
  | one _ v _ us h1 h2 h3 h4 => exact .one _ _ _ _ h1 h2 h3 (ih h4)
  | arr t n xs us _ us' h1 h2 h3 => rw [List.append_assoc]; exact .arr t n xs us _ _ h1 h2 (ih h3)
theorem DenL.split {l l' : List SVal} {vs : List Value} (h : DenL C W R ρ (l ++ l') vs) : ∃ us us', vs = us ++ us' ∧ DenL C W R ρ l us ∧ DenL C W R ρ l' us' := by
 induction l generalizing vs with
 | nil => exact ⟨[], vs, rfl, .nil, h⟩
 | cons s l ih =>
  cases h with
  | one _ v _ us h1 h2 h3 h4 =>
   obtain ⟨a, b, rfl, ha, hb⟩ := ih h4
   exact ⟨v :: a, b, rfl, .one _ _ _ _ h1 h2 h3 ha, hb⟩
  | arr t n xs us _ us' h1 h2 h3 =>
   obtain ⟨a, b, rfl, ha, hb⟩ := ih h3
   exact ⟨us ++ a, b, by rw [List.append_assoc], .arr t n xs us _ _ h1 h2 ha, hb⟩
theorem DenL.ones : ∀ {l : List SVal} {vs : List Value}, DenL C W R ρ l vs → ∀ u ∈ vs, u.oneCell' = true
 | _, _, .nil, _, h => by cases h
 | _, _, .one s v l vs h1 h2 h3 h4, u, h => by
  cases h with
  | head => exact h2
  | tail _ h => exact DenL.ones h4 u h
 | _, _, .arr t n xs us l vs h1 h2 h3, u, h => by
  rcases List.mem_append.1 h with h | h
  ·exact DenL.ones h2 u h
  ·exact DenL.ones h3 u h
theorem encRec_w : ∀ (k : FK) (ks : List FK) (x : recTy k ks), (encRec k ks x).length = ks.length + 1
 | k, [], x => rfl
 | k, k' :: ks, x => by show (encRec k' ks x.2).length + 1 = _; rw [encRec_w k' ks x.2]; rfl
theorem FK.enc_noarr (k : FK) (x : k.ty) : (k.enc x).isArr = false := by cases k <;> rfl
theorem encRec_noarr : ∀ (k : FK) (ks : List FK) (x : recTy k ks), ∀ s ∈ encRec k ks x, s.isArr = false
 | k, [], x, s, h => by rw [List.mem_singleton.1 h]; exact k.enc_noarr x
 | k, k' :: ks, x, s, h => by
  rcases List.mem_cons.1 h with h | h
  ·rw [h]; exact k.enc_noarr x.1
  ·exact encRec_noarr k' ks x.2 s h
theorem enc_w (t : RT) (x : t.ty) : (t.enc x).length = t.w := by
 cases t <;> first | rfl | exact encRec_w _ _ _
theorem enc_noarr (t : RT) (x : t.ty) : ∀ s ∈ t.enc x, s.isArr = false := by
 cases t <;> first | exact encRec_noarr _ _ _ | simp [RT.enc, In5.enc, SVal.isArr]
theorem flat_w (t : RT) (l : List t.ty) : (l.flatMap t.enc).length = l.length * t.w := by
 induction l with
 | nil => simp
 | cons x l ih => rw [List.flatMap_cons, List.length_append, enc_w, ih, List.length_cons, Nat.succ_mul, Nat.add_comm]
theorem flat_noarr (t : RT) (l : List t.ty) : ∀ s ∈ l.flatMap t.enc, s.isArr = false := by
 intro s hs
 obtain ⟨x, _, hx⟩ := List.mem_flatMap.1 hs
 exact enc_noarr t x s hx
theorem DenL.len_noarr {l : List SVal} {vs : List Value} (h : DenL C W R ρ l vs) (hn : ∀ s ∈ l, s.isArr = false) : vs.length = l.length := by
 induction l generalizing vs with
 | nil => cases h; rfl
 | cons s l ih =>
  cases h with
  | one _ v _ us h1 h2 h3 h4 => simp [ih h4 (fun s hs => hn s (List.mem_cons_of_mem _ hs))]
  | arr t n xs us _ us' h1 h2 h3 => have := hn _ (List.mem_cons_self ..); simp [SVal.isArr] at this
theorem DenL.len {l : List SVal} {vs : List Value} (h : DenL C W R ρ l vs) : vs.length = (l.map SVal.width).sum := by
 induction l generalizing vs with
 | nil => cases h; rfl
 | cons s l ih =>
  cases h with
  | one _ v _ us h1 h2 h3 h4 =>
   have : s.width = 1 := by cases s <;> first | rfl | (simp [SVal.isArr] at h1)
   simp [ih h4, this]; omega
  | arr t n xs us _ us' h1 h2 h3 =>
   have : us.length = n * t.w := by rw [h2.len_noarr (flat_noarr t xs), flat_w, h1]
   simp [ih h3, SVal.width, this]
theorem DenL.elem {t : RT} {l : List t.ty} {vs : List Value} (h : DenL C W R ρ (l.flatMap t.enc) vs) {i : Nat} (hi : i < l.length) :
  DenL C W R ρ (t.enc (l.getD i t.dflt)) ((vs.drop (i * t.w)).take t.w) ∧ ((vs.drop (i * t.w)).take t.w).length = t.w := by
 have e : l = l.take i ++ l.getD i t.dflt :: l.drop (i + 1) := by
  rw [List.getD_eq_getElem?_getD, List.getElem?_eq_getElem hi]; simp
 have h' := h
 rw [e, List.flatMap_append, List.flatMap_cons] at h'
 obtain ⟨a, b, rfl, ha, hb⟩ := h'.split
 obtain ⟨c, d, rfl, hc, hd⟩ := hb.split
 have la : a.length = i * t.w := by rw [ha.len_noarr (flat_noarr t _), flat_w, List.length_take, Nat.min_eq_left (Nat.le_of_lt hi)]
 have lc : c.length = t.w := by rw [hc.len_noarr (enc_noarr t _), enc_w]
 have e2 : ((a ++ (c ++ d)).drop (i * t.w)).take t.w = c := by
  rw [← la, List.drop_left, ← lc, List.take_left]
 rw [e2]
 exact ⟨hc, lc⟩
theorem DenL.sub {t : RT} {l : List t.ty} {vs : List Value} (h : DenL C W R ρ (l.flatMap t.enc) vs) (k n : Nat) :
  DenL C W R ρ (((l.drop k).take n).flatMap t.enc) ((vs.drop (k * t.w)).take (n * t.w)) := by
 have lv : vs.length = l.length * t.w := by rw [h.len_noarr (flat_noarr t l), flat_w]
 by_cases hk : k ≤ l.length
 ·have e : l = l.take k ++ ((l.drop k).take n ++ (l.drop k).drop n) := by rw [List.take_append_drop, List.take_append_drop]
  have h' := h
  rw [e, List.flatMap_append, List.flatMap_append] at h'
  obtain ⟨a, b, rfl, ha, hb⟩ := h'.split
  obtain ⟨c, d, rfl, hc, hd⟩ := hb.split
  have la : a.length = k * t.w := by rw [ha.len_noarr (flat_noarr t _), flat_w, List.length_take, Nat.min_eq_left hk]
  have lc : c.length = ((l.drop k).take n).length * t.w := by rw [hc.len_noarr (flat_noarr t _), flat_w]
  rw [← la, List.drop_left]
  by_cases hn : n ≤ (l.drop k).length
  ·rw [List.length_take, Nat.min_eq_left hn] at lc
   rw [← lc, List.take_left]; exact hc
  ·have e1 : (l.drop k).drop n = [] := List.drop_eq_nil_of_le (by omega)
   rw [e1] at hd
   cases hd
   have e2 : c.take (n * t.w) = c := List.take_of_length_le (by rw [lc, List.length_take]; exact Nat.mul_le_mul_right _ (by omega))
   rw [List.append_nil, e2]; exact hc
 ·have e1 : l.drop k = [] := List.drop_eq_nil_of_le (by omega)
  have e2 : vs.drop (k * t.w) = [] := List.drop_eq_nil_of_le (by rw [lv]; exact Nat.mul_le_mul_right _ (by omega))
  rw [e1, e2]; simp; exact .nil
theorem setL {t : RT} {l : List t.ty} {vs us : List Value} {x : t.ty} (h : DenL C W R ρ (l.flatMap t.enc) vs) {i : Nat} (hi : i < l.length) (hx : DenL C W R ρ (t.enc x) us) :
  DenL C W R ρ ((l.set i x).flatMap t.enc) (vs.take (i * t.w) ++ us ++ vs.drop ((i + 1) * t.w)) := by
 have e : l = l.take i ++ l.getD i t.dflt :: l.drop (i + 1) := by
  rw [List.getD_eq_getElem?_getD, List.getElem?_eq_getElem hi]; simp
 have e2 : l.set i x = l.take i ++ x :: l.drop (i + 1) := List.set_eq_take_append_cons_drop .. |>.trans (by simp [hi])
 have h' := h
 rw [e, List.flatMap_append, List.flatMap_cons] at h'
 obtain ⟨a, b, rfl, ha, hb⟩ := h'.split
 obtain ⟨c, d, rfl, hc, hd⟩ := hb.split
 have la : a.length = i * t.w := by rw [ha.len_noarr (flat_noarr t _), flat_w, List.length_take, Nat.min_eq_left (Nat.le_of_lt hi)]
 have lc : c.length = t.w := by rw [hc.len_noarr (enc_noarr t _), enc_w]
 rw [e2, List.flatMap_append, List.flatMap_cons, ← la, List.take_left, List.append_assoc]
 have e3 : (a ++ (c ++ d)).drop ((i + 1) * t.w) = d := by
  rw [← List.append_assoc, Nat.succ_mul, ← la, ← lc, ← List.length_append, List.drop_left]
 rw [e3]
 exact ha.app (hx.app hd)
theorem DenL.dropW : ∀ {l : List SVal} {off : Nat} {l' : List SVal} {vs : List Value}, DenL C W R ρ l vs → dropW l off = some l' → DenL C W R ρ l' (vs.drop off)
 | l, 0, l', vs, h, e => by
  unfold Sy.dropW at e
  simp_all
 | [], _ + 1, _, _, _, e => by simp [Sy.dropW] at e
 | s :: l, n + 1, l', vs, h, e => by
  simp only [Sy.dropW] at e
  split at e
  ·rename_i hw
   cases h with
   | one _ v _ us h1 h2 h3 h4 =>
    have hw1 : s.width = 1 := by cases s <;> first | rfl | (simp [SVal.isArr] at h1)
    rw [hw1] at e
    simpa using DenL.dropW h4 e
   | arr t m xs us _ us' h1 h2 h3 =>
    have lu : us.length = m * t.w := by rw [h2.len_noarr (flat_noarr t xs), flat_w, h1]
    have := DenL.dropW h3 e
    rw [List.drop_append, List.drop_eq_nil_of_le (by rw [lu]; exact hw), lu]
    simpa [SVal.width] using this
  ·simp at e
termination_by l off => l.length
theorem DenL.takeW : ∀ {l : List SVal} {n : Nat} {l' : List SVal} {vs : List Value}, DenL C W R ρ l vs → takeW l n = some l' → DenL C W R ρ l' (vs.take n) ∧ (vs.take n).length = n
 | l, 0, l', vs, h, e => by
  unfold Sy.takeW at e
  simp_all
  exact .nil
 | [], _ + 1, _, _, _, e => by simp [Sy.takeW] at e
 | s :: l, n + 1, l', vs, h, e => by
  simp only [Sy.takeW] at e
  split at e
  ·rename_i hw
   cases ht : Sy.takeW l (n + 1 - s.width) with
   | none => rw [ht] at e; simp at e
   | some l'' =>
    rw [ht] at e; simp at e; subst e
    cases h with
    | one _ v _ us h1 h2 h3 h4 =>
     have hw1 : s.width = 1 := by cases s <;> first | rfl | (simp [SVal.isArr] at h1)
     rw [hw1] at ht
     obtain ⟨i1, i2⟩ := DenL.takeW h4 ht
     simp only [Nat.add_sub_cancel] at i1 i2
     exact ⟨by rw [List.take_succ_cons]; exact .one _ _ _ _ h1 h2 h3 i1, by rw [List.take_succ_cons]; simp [i2]⟩
    | arr t m xs us _ us' h1 h2 h3 =>
     have lu : us.length = m * t.w := by rw [h2.len_noarr (flat_noarr t xs), flat_w, h1]
     obtain ⟨i1, i2⟩ := DenL.takeW h3 ht
     have hw' : us.length ≤ n + 1 := by rw [lu]; exact hw
     have e1 : SVal.width (.arr t m xs) = us.length := by rw [lu]; rfl
     rw [e1] at i1 i2
     rw [List.take_append, List.take_of_length_le hw']
     exact ⟨.arr t m xs us _ _ h1 h2 i1, by rw [List.length_append, i2]; omega⟩
  ·simp at e
termination_by l n => l.length
theorem DenL.setW : ∀ {l : List SVal} {off : Nat} {new l' : List SVal} {vs us : List Value}, DenL C W R ρ l vs → DenL C W R ρ new us → setW l off new = some l' →
  DenL C W R ρ l' (vs.take off ++ us ++ vs.drop (off + us.length)) ∧ off + us.length ≤ vs.length
 | l, 0, new, l', vs, us, h, hn, e => by
  have e' : (Sy.dropW l (new.map SVal.width).sum).map (new ++ ·) = some l' := by
   unfold Sy.setW at e; exact e
  cases hd : Sy.dropW l (new.map SVal.width).sum with
  | none => rw [hd] at e'; simp at e'
  | some l'' =>
   rw [hd] at e'; simp at e'; subst e'
   have := h.dropW hd
   rw [← hn.len] at this
   refine ⟨by simpa using hn.app this, ?_⟩
   have hl := h.len
   have : ∀ (l : List SVal) (n : Nat) (l' : List SVal), Sy.dropW l n = some l' → n ≤ (l.map SVal.width).sum := by
    intro l
    induction l with
    | nil => intro n l' e; cases n <;> simp [Sy.dropW] at e ⊢
    | cons s l ih =>
     intro n l' e
     cases n with
     | zero => simp
     | succ n =>
      simp only [Sy.dropW] at e
      split at e
      ·rename_i hw
       have := ih _ _ e
       simp; omega
      ·simp at e
   have := this _ _ _ hd
   rw [hn.len]; omega
 | [], _ + 1, _, _, _, _, _, _, e => by simp [Sy.setW] at e
 | s :: l, n + 1, new, l', vs, us, h, hn, e => by
  simp only [Sy.setW] at e
  split at e
  ·rename_i hw
   cases ht : Sy.setW l (n + 1 - s.width) new with
   | none => rw [ht] at e; simp at e
   | some l'' =>
    rw [ht] at e; simp at e; subst e
    cases h with
    | one _ v _ ws h1 h2 h3 h4 =>
     have hw1 : s.width = 1 := by cases s <;> first | rfl | (simp [SVal.isArr] at h1)
     rw [hw1] at ht
     obtain ⟨i1, i2⟩ := DenL.setW h4 hn ht
     simp only [Nat.add_sub_cancel] at i1 i2
     refine ⟨?_, by simp; omega⟩
     have e1 : n + 1 + us.length = (n + us.length) + 1 := by omega
     rw [e1, List.take_succ_cons, List.drop_succ_cons]
     exact .one _ _ _ _ h1 h2 h3 i1
    | arr t m xs as _ ws h1 h2 h3 =>
     have lu : as.length = m * t.w := by rw [h2.len_noarr (flat_noarr t xs), flat_w, h1]
     obtain ⟨i1, i2⟩ := DenL.setW h3 hn ht
     have hw' : as.length ≤ n + 1 := by rw [lu]; exact hw
     have e1 : SVal.width (.arr t m xs) = as.length := by rw [lu]; rfl
     rw [e1] at i1 i2
     refine ⟨?_, by rw [List.length_append]; omega⟩
     rw [List.take_append, List.take_of_length_le hw', List.drop_append, List.drop_eq_nil_of_le (by omega), List.nil_append]
     rw [show n + 1 + us.length - as.length = n + 1 - as.length + us.length by omega, List.append_assoc, List.append_assoc, ← List.append_assoc (List.take _ ws)]
     exact .arr t m xs as _ _ h1 h2 i1
  ·simp at e
termination_by l off => l.length
end
end Go.Sy
