/- Words that the proofs use, part 2. -/
import Derived.Test.YtacmmedhjebfjaaGreatDoorQE1
import Derived.OwnWalk
set_option linter.unusedVariables false
set_option linter.unusedSimpArgs false
namespace Go.Sy
inductive SI where
 | lit (n : Int)
 | full (n : Int)
 | sym (n lo hi : Int)
def SI.val : SI → Int
 | .lit n => n
 | .full n => n
 | .sym n _ _ => n
def kmin : IntKind → Int
 | .i8 => -128 | .i16 => -32768 | .i32 => -2147483648 | .i64 => -9223372036854775808
 | _ => 0
def kmax : IntKind → Int
 | .i8 => 127 | .i16 => 32767 | .i32 => 2147483647 | .i64 => 9223372036854775807
 | .u8 => 255 | .u16 => 65535 | .u32 => 4294967295 | .u64 => 18446744073709551615
def SI.lo (k : IntKind) : SI → Int
 | .lit n => n
 | .full _ => kmin k
 | .sym _ lo _ => lo
def SI.hi (k : IntKind) : SI → Int
 | .lit n => n
 | .full _ => kmax k
 | .sym _ _ hi => hi
inductive SB where
 | lit (b : Bool)
 | sym (b : Bool)
def SB.val : SB → Bool
 | .lit b => b
 | .sym b => b
inductive FErr where
 | fine
 | bare (n : Int)
 | placed (n pos : Int)
 deriving DecidableEq
def FErr.isErr : FErr → Bool
 | .fine => false
 | _ => true
def FErr.isPlaced : FErr → Bool
 | .placed _ _ => true
 | _ => false
def FErr.pos : FErr → Int
 | .placed _ p => p
 | _ => 0
def FErr.inner : FErr → FErr
 | .placed n _ => .bare n
 | _ => .fine
structure In5 where
 op : Int
 a : Int
 b : Int
 c : Int
 imm : Int
 deriving DecidableEq
structure Rel where
 at_ : Int
 kind : Int
 sym : Int
 add : Int
 deriving DecidableEq
structure Sm where
 name : ByteArray
 in_ : Int
 value : Int
 global : Bool
 deriving DecidableEq
structure St where
 at_ : Int
 cls : Int
 i : In5
 deriving DecidableEq
structure Ln where
 i : In5
 name : ByteArray
 sym : ByteArray
 table : Bool
 deriving DecidableEq
structure Ob where
 data : List Int
 code : List Int
 map : List Int
 drels : List Rel
 crels : List Rel
 syms : List Sm
 deriving DecidableEq
inductive FK where
 | int (k : IntKind) | bool | str
 deriving DecidableEq
abbrev FK.ty : FK → Type
 | .int _ => Int
 | .bool => Bool
 | .str => ByteArray
abbrev recTy : FK → List FK → Type
 | k, [] => k.ty
 | k, k' :: ks => k.ty × recTy k' ks
inductive RT where
 | u8 | u32 | i64 | bool | str | instr | rel | sym | site | line | err
 | flat (k : FK) (ks : List FK)
 | slc (t : RT)
 | obj
 | fmap (k : FK) (t : RT)
 deriving DecidableEq
abbrev RT.ty : RT → Type
 | .u8 | .u32 | .i64 => Int
 | .bool => Bool
 | .str => ByteArray
 | .instr => In5
 | .rel => Rel
 | .sym => Sm
 | .site => St
 | .line => Ln
 | .err => FErr
 | .flat k ks => recTy k ks
 | .slc t => List t.ty
 | .obj => Ob
 | .fmap k t => Option (List (k.ty × t.ty))
def RT.w : RT → Nat
 | .u8 | .u32 | .i64 | .bool | .str | .err => 1
 | .slc _ | .fmap _ _ => 1
 | .obj => 6
 | .instr => 5
 | .rel => 4
 | .sym => 4
 | .site => 7
 | .line => 8
 | .flat _ ks => ks.length + 1
def FK.dflt : (k : FK) → k.ty
 | .int _ => (0 : Int)
 | .bool => false
 | .str => ByteArray.empty
def dfltRec : (k : FK) → (ks : List FK) → recTy k ks
 | k, [] => k.dflt
 | k, k' :: ks => (k.dflt, dfltRec k' ks)
def RT.dflt : (t : RT) → t.ty
 | .u8 | .u32 | .i64 => (0 : Int)
 | .bool => false
 | .str => ByteArray.empty
 | .instr => ⟨0, 0, 0, 0, 0⟩
 | .rel => ⟨0, 0, 0, 0⟩
 | .sym => ⟨ByteArray.empty, 0, 0, false⟩
 | .site => ⟨0, 0, ⟨0, 0, 0, 0, 0⟩⟩
 | .line => ⟨⟨0, 0, 0, 0, 0⟩, ByteArray.empty, ByteArray.empty, false⟩
 | .err => .fine
 | .flat k ks => dfltRec k ks
 | .slc _ => []
 | .obj => ⟨[], [], [], [], [], []⟩
 | .fmap _ _ => none
inductive SVal where
 | any
 | int (k : IntKind) (n : SI)
 | bool (b : SB)
 | str (s : ByteArray)
 | nilptr
 | ptr (r off : Nat)
 | eptr (r w : Nat) (i : Int) (j : Nat)
 | aptr (r off w n : Nat) (i : Int) (j : Nat)
 | rop (l : List SVal)
 | nilslice
 | own (r : Nat)
 | view (t : RT) (r : Nat) (k n : Nat)
 | ro (t : RT) (l : List t.ty)
 | roN (t : RT) (l : List t.ty)
 | nilmap
 | map (r : Nat)
 | rom (k : FK) (t : RT) (m : Option (List (k.ty × t.ty)))
 | nilFunc
 | func (f : Nat) (captured : List SVal)
 | bound (f : Nat) (first : List SVal)
 | nilIface
 | iface (t : Nat) (v : SVal)
 | err (e : FErr)
 | atp (e : FErr)
 | ropO (c : Bool) (l : List SVal)
 | agg (l : List SVal)
 | arr (t : RT) (n : Nat) (l : List t.ty)
 | tuple (l : List SVal)
inductive Cont where
 | cells (l : List SVal)
 | recs (t : RT) (l : List t.ty)
 | row (w : Nat) (l : List SVal)
 | strMap (m : List (ByteArray × Int))
 | intMap (m : List (Int × Int))
 | gmap (k : FK) (t : RT) (m : List (k.ty × t.ty))
 | opn (k : FK) (t : RT) (l : List (Option (List (k.ty × t.ty)))) (i : Int) (v : SVal)
def In5.enc (x : In5) : List SVal := [.int .i64 (.full x.op), .int .i64 (.full x.a), .int .i64 (.full x.b), .int .i64 (.full x.c), .int .u32 (.full x.imm)]
def FK.enc : (k : FK) → k.ty → SVal
 | .int k, x => .int k (.full x)
 | .bool, x => .bool (.sym x)
 | .str, x => .str x
def encRec : (k : FK) → (ks : List FK) → recTy k ks → List SVal
 | k, [], x => [k.enc x]
 | k, k' :: ks, x => k.enc x.1 :: encRec k' ks x.2
def RT.enc : (t : RT) → t.ty → List SVal
 | .u8, x => [.int .u8 (.full x)]
 | .u32, x => [.int .u32 (.full x)]
 | .i64, x => [.int .i64 (.full x)]
 | .bool, x => [.bool (.sym x)]
 | .str, x => [.str x]
 | .instr, x => x.enc
 | .rel, x => [.int .i64 (.full x.at_), .int .i64 (.full x.kind), .int .i64 (.full x.sym), .int .i64 (.full x.add)]
 | .sym, x => [.str x.name, .int .i64 (.full x.in_), .int .i64 (.full x.value), .bool (.sym x.global)]
 | .site, x => .int .i64 (.full x.at_) :: .int .i64 (.full x.cls) :: x.i.enc
 | .line, x => x.i.enc ++ [.str x.name, .str x.sym, .bool (.sym x.table)]
 | .err, x => [.err x]
 | .flat k ks, x => encRec k ks x
 | .slc t, x => [.ro t x]
 | .obj, x => [.ro .u32 x.data, .ro .u32 x.code, .ro .u8 x.map, .ro .rel x.drels, .ro .rel x.crels, .ro .sym x.syms]
 | .fmap k t, x => [.rom k t x]
def FK.val : (k : FK) → k.ty → Value
 | .int k, x => .int k x
 | .bool, x => .bool x
 | .str, x => .string x
def RT.isS : RT → Bool
 | .instr | .rel | .sym | .site | .line | .obj => true
 | .flat _ _ => true
 | _ => false
def recV (t : RT) (x : t.ty) : SVal := match t.isS with
 | true => .agg (t.enc x)
 | false => (t.enc x).headD .any
def decIn5 : List SVal → Option In5
 | [.int .i64 a, .int .i64 b, .int .i64 c, .int .i64 d, .int .u32 e] => some ⟨a.val, b.val, c.val, d.val, e.val⟩
 | _ => none
def decInt (k : IntKind) : List SVal → Option Int
 | [.int k' x] => match decide (k' = k) with | true => some x.val | false => none
 | _ => none
def decBool : List SVal → Option Bool
 | [.bool x] => some x.val
 | _ => none
def decStr : List SVal → Option ByteArray
 | [.str x] => some x
 | _ => none
def decRel : List SVal → Option Rel
 | [.int .i64 a, .int .i64 b, .int .i64 c, .int .i64 d] => some ⟨a.val, b.val, c.val, d.val⟩
 | _ => none
def decSm : List SVal → Option Sm
 | [.str a, .int .i64 b, .int .i64 c, .bool d] => some ⟨a, b.val, c.val, d.val⟩
 | _ => none
def decSt : List SVal → Option St
 | .int .i64 a :: .int .i64 b :: l => (decIn5 l).map fun i => ⟨a.val, b.val, i⟩
 | _ => none
def decLn : List SVal → Option Ln
 | a :: b :: c :: d :: e :: [.str f, .str g, .bool h] => (decIn5 [a, b, c, d, e]).map fun i => ⟨i, f, g, h.val⟩
 | _ => none
def decErr : List SVal → Option FErr
 | [.err e] => some e
 | [.nilIface] => some .fine
 | _ => none
def decRo (t : RT) : SVal → Option (List t.ty)
 | .ro t' l => match decEq t' t with | .isTrue h => some (h ▸ l) | .isFalse _ => none
 | .nilslice => some []
 | _ => none
def decSlc (t : RT) : List SVal → Option (List t.ty)
 | [s] => decRo t s
 | _ => none
def decOb : List SVal → Option Ob
 | [a, b, c, d, e, f] => match decRo .u32 a, decRo .u32 b, decRo .u8 c, decRo .rel d, decRo .rel e, decRo .sym f with
  | some a, some b, some c, some d, some e, some f => some ⟨a, b, c, d, e, f⟩
  | _, _, _, _, _, _ => none
 | _ => none
def decRom (k : FK) (t : RT) : List SVal → Option (Option (List (k.ty × t.ty)))
 | [.nilmap] => some none
 | [.rom k' t' m] => match decEq k' k, decEq t' t with | .isTrue h, .isTrue h' => some (h ▸ h' ▸ m) | _, _ => none
 | _ => none
def FK.dec : (k : FK) → SVal → Option k.ty
 | .int k, .int k' x => match decide (k' = k) with | true => some x.val | false => none
 | .bool, .bool x => some x.val
 | .str, .str s => some s
 | _, _ => none
def decRec : (k : FK) → (ks : List FK) → List SVal → Option (recTy k ks)
 | k, [], [a] => k.dec a
 | k, k' :: ks, a :: l => match k.dec a, decRec k' ks l with
  | some x, some y => some (x, y)
  | _, _ => none
 | _, _, _ => none
def RT.dec : (t : RT) → List SVal → Option t.ty
 | .u8 => decInt .u8
 | .u32 => decInt .u32
 | .i64 => decInt .i64
 | .bool => decBool
 | .str => decStr
 | .instr => decIn5
 | .rel => decRel
 | .sym => decSm
 | .site => decSt
 | .line => decLn
 | .err => decErr
 | .flat k ks => decRec k ks
 | .slc t => decSlc t
 | .obj => decOb
 | .fmap k t => decRom k t
def SVal.isArr : SVal → Bool
 | .arr _ _ _ => true
 | _ => false
def SVal.width : SVal → Nat
 | .arr t n _ => n * t.w
 | _ => 1
def cellsOf : SVal → List SVal
 | .agg l => l
 | s => [s]
def dropW : List SVal → Nat → Option (List SVal)
 | l, 0 => some l
 | [], _ + 1 => none
 | s :: l, n + 1 => if s.width ≤ n + 1 then dropW l (n + 1 - s.width) else none
def takeW : List SVal → Nat → Option (List SVal)
 | _, 0 => some []
 | [], _ + 1 => none
 | s :: l, n + 1 => if s.width ≤ n + 1 then (takeW l (n + 1 - s.width)).map (s :: ·) else none
def setW : List SVal → Nat → List SVal → Option (List SVal)
 | l, 0, new => (dropW l (new.map SVal.width).sum).map (new ++ ·)
 | [], _ + 1, _ => none
 | s :: l, n + 1, new => if s.width ≤ n + 1 then (setW l (n + 1 - s.width) new).map (s :: ·) else none
end Go.Sy
