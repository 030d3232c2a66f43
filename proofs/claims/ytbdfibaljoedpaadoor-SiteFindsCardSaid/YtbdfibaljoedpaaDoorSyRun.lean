/- Symbolic runs: regions, code. -/
import Derived.Test.YtbdfibaljoedpaaDoorSyOp
set_option linter.unusedVariables false
set_option linter.unusedSimpArgs false
namespace Go.Sy

structure SState where
  fr : List (Nat × SVal)
  hp : List (Nat × Option Cont)
  next : Nat
  sz : Nat            -- how many slots the frame has

abbrev Key := Option (Nat × Bool)

def keyEq : Key → Key → Bool
  | none, none => true
  | some (i, true), some (j, true) => i.beq j
  | some (i, false), some (j, false) => i.beq j
  | _, _ => false

/-- What an operation of a region has done. -/
structure Rec where
  idx : Nat
  dst : Option Nat
  key : Key
  g : SB
  v : SVal
  ws : List (Nat × Option Cont)
  next : Nat
  k : Nat
  tch : List Nat

def isDst : Option Nat → Nat → Bool
  | some d', d => d'.beq d
  | none, _ => false

/-- A slot that some operations wrote (the last first). -/
def slotOf : List Rec → Nat → Option (Key × SVal)
  | [], _ => none
  | r :: l, d => match isDst r.dst d with
    | true => some (r.key, r.v)
    | false => slotOf l d

/-- Named memory behind some operations (the last first). -/
def contOf (hp : List (Nat × Option Cont)) : List Rec → Nat → Option (Key × Option Cont)
  | [], n => match find n hp with
    | some c => some (none, c)
    | none => none
  | r :: l, n => match find n r.ws with
    | some c => some (r.key, c)
    | none => contOf hp l n

def readable (κ κ' : Key) : Bool := match κ' with
  | none => true
  | κ' => keyEq κ κ'

def evR (E : Env) (fr : List (Nat × SVal)) (recs : List Rec) (κ κx : Key) : Operand → SVal
  | .tmp t => match slotOf recs t with
    | some (κ', v) => match readable κ κ' || readable κx κ' with
      | true => v
      | false => .any
    | none => (find t fr).getD .any
  | .const v => ofVal v
  | .global g => (find g E.glob).getD .any
  | .func f => .func f []

def lookR (hp : List (Nat × Option Cont)) (recs : List Rec) (κ : Key) (r : Nat) : Option Cont := match contOf hp recs r with
  | some (κ', c) => match readable κ κ' with
    | true => c
    | false => none
  | none => none

def andB : SB → SB → SB
  | .lit true, b => b
  | .lit false, _ => .lit false
  | a, .lit true => a
  | _, .lit false => .lit false
  | a, b => .sym (a.val && b.val)

/-- The operation that wrote a slot. -/
def recAt : List Rec → Nat → Option Rec
  | [], _ => none
  | r :: l, i => match r.idx.beq i with
    | true => some r
    | false => recAt l i
def writerOf : List Rec → Nat → Option Nat
  | [], _ => none
  | r :: l, d => match isDst r.dst d with
    | true => some r.idx
    | false => writerOf l d
def keyOf (recs : List Rec) (x : Operand) (b : Bool) : Key := match x with
  | .tmp t => match writerOf recs t with
    | some j => some (j, b)
    | none => none
  | _ => none

/-- Every name that was looked at was known. -/
def allKnown (look : Nat → Option Cont) : List Nat → Bool
  | [] => true
  | r :: l => match look r with
    | some _ => allKnown look l
    | none => false

def memN (r : Nat) : List Nat → Bool
  | [] => false
  | q :: l => q.beq r || memN r l

/-- What is written was looked at, or is fresh. -/
def wsFit (tch : List Nat) (next k : Nat) : List (Nat × Option Cont) → Bool
  | [] => true
  | (r, _) :: l => (memN r tch || (Nat.ble next r && Nat.ble (r + 1) (next + k))) && wsFit tch next k l

/-- An operation is carried out: what it yields, the names that it looked at. -/
def stepR (E : Env) (fr : List (Nat × SVal)) (hp : List (Nat × Option Cont)) (recs : List Rec) (next : Nat) (o : Oper) (κ : Key) : Except String (ORes × List Nat) :=
  match o.op with
  | .pick c a b =>
    match pickS (evR E fr recs κ none c) (evR E fr recs κ (keyOf recs c true) a) (evR E fr recs κ (keyOf recs c false) b) with
    | some v => .ok ({ v := v }, [])
    | none => .error "pick"
  | _ => match (sop E o (evR E fr recs κ none) next).run (lookR hp recs κ) [] with
    | .error s => .error s
    | .ok (r, tch) => match allKnown (lookR hp recs κ) tch && wsFit tch next r.k r.ws with
      | true => .ok (r, tch)
      | false => .error "names"

/-- A guard's truth. -/
def guardOf (recs : List Rec) : Option (Nat × Bool) → Option SB
  | none => some (.lit true)
  | some (j, b) => match recAt recs j with
    | some r => match r.dst, r.g, r.v with
      | none, _, _ => none
      | _, .lit false, _ => some (.lit false)
      | _, _, .bool β => some (andB r.g (match b with | true => β | false => notB β))
      | _, _, _ => none
    | none => none

def vcOf (g : SB) : Option Prop → List Prop → List Prop
  | none, l => l
  | some p, l => match g with
    | .sym g => (g = true → p) :: l
    | .lit _ => p :: l

/-- A slot that the frame has, written for the first time. -/
def dstFit (sz : Nat) (recs : List Rec) : Option Nat → Bool
  | none => true
  | some d => Nat.ble (d + 1) sz && match slotOf recs d with
    | none => true
    | some _ => false

structure RS where
  next : Nat
  recs : List Rec     -- the last first
  vc : List Prop      -- the last first

def runR (E : Env) (fr : List (Nat × SVal)) (hp : List (Nat × Option Cont)) (sz : Nat) : List Oper → Nat → RS → Except String RS
  | [], _, rs => .ok rs
  | o :: rest, i, rs =>
    match dstFit sz rs.recs o.dst with
    | false => .error "dst"
    | true => match guardOf rs.recs o.guard with
      | none => .error "guard"
      | some (.lit false) =>
        runR E fr hp sz rest (i + 1) { rs with recs := { idx := i, dst := o.dst, key := none, g := .lit false, v := .any, ws := [], next := rs.next, k := 0, tch := [] } :: rs.recs }
      | some g =>
        let κ : Key := match g with | .lit _ => none | .sym _ => o.guard
        match stepR E fr hp rs.recs rs.next o κ with
        | .error s => .error s
        | .ok (r, tch) =>
          runR E fr hp sz rest (i + 1) {
            next := rs.next + r.k
            recs := { idx := i, dst := o.dst, key := κ, g := g, v := r.v, ws := r.ws, next := rs.next, k := r.k, tch := tch } :: rs.recs
            vc := vcOf g r.vc rs.vc }

/-! Drawn orders: what clashes is ordered. -/
def bindsB : Ground → Bool
  | .textOnly _ => false
  | .gcOnly _ => false
  | _ => true
def maskAt : List Nat → Nat → Nat → Nat
  | [], _, _ => 0
  | m :: l, n, i => match n.beq (i + 1) with
    | true => m
    | false => maskAt l (n - 1) i
/-- All that stands ahead of each operation (the last first; n of them). -/
def masks : List Oper → Nat → List Nat → List Nat
  | [], _, acc => acc
  | o :: l, n, acc => masks l (n + 1) ((o.after.toList.foldl (fun m e => match bindsB e.ground with | true => Nat.lor m (Nat.lor (Nat.pow 2 e.on) (maskAt acc n e.on)) | false => m) 0) :: acc)
def readsOf (ops : List Oper) (o : Oper) : List Nat :=
  (o.op.operands.toList.filterMap fun | .tmp t => some t | _ => none) ++ match o.guard with
    | some (j, _) => match ops[j]? with
      | some p => match p.dst with | some d => [d] | none => []
      | none => []
    | none => []
def meets (a b : List Nat) : Bool := a.any fun x => memN x b
def memD : Option Nat → List Nat → Bool
  | some d, l => memN d l
  | none, _ => false
def keysN : List (Nat × Option Cont) → List Nat
  | [] => []
  | (r, _) :: l => r :: keysN l
/-- The one has to be told from the other; the later one writes what the earlier one reads. -/
def hard (a b : Rec) (ra rb : List Nat) : Bool :=
  memD a.dst rb || memD b.dst ra || meets (keysN a.ws) b.tch || meets (keysN a.ws) (keysN b.ws)
def soft (a b : Rec) : Bool := meets (keysN b.ws) a.tch
def isNext (sb : Option Nat) (i : Nat) : Bool := match sb with
  | some j => j.beq i
  | none => false
def orderedAll (ops : List Oper) (ms : List Nat) (n : Nat) (sb : Option Nat) : List (Rec × List Nat) → Bool
  | [] => true
  | (b, rb) :: l => l.all (fun (a, ra) => match hard a b ra rb with
      | true => Nat.testBit (maskAt ms n b.idx) a.idx
      | false => match soft a b with
        | true => Nat.testBit (maskAt ms n b.idx) a.idx || isNext sb b.idx
        | false => true) && orderedAll ops ms n sb l
def edgesOk : List Oper → Nat → Bool
  | [], _ => true
  | o :: l, n => o.after.toList.all (fun e => match bindsB e.ground with | true => Nat.ble (e.on + 1) n | false => true) && edgesOk l (n + 1)
/-- The operation that may come ahead of some that read what it writes. -/
def softIdx (ms : List Nat) (n : Nat) : List Rec → Option Nat
  | [] => none
  | b :: l => match l.any (fun a => soft a b && !Nat.testBit (maskAt ms n b.idx) a.idx) with
    | true => some b.idx
    | false => softIdx ms n l
def drawOk (ops : List Oper) (recs : List Rec) : Bool :=
  edgesOk ops 0 && orderedAll ops (masks ops 0 []) ops.length (softIdx (masks ops 0 []) ops.length recs) (recs.map fun r => (r, match ops[r.idx]? with | some o => readsOf ops o | none => []))
def subN (l l' : List Nat) : Bool := match l with
  | [] => true
  | n :: l => memN n l' && subN l l'
def nilB {α : Type} : List α → Bool
  | [] => true
  | _ => false
/-- What an operation yields is the same if another one comes first. -/
def commP (E : Env) (fr : List (Nat × SVal)) (hp : List (Nat × Option Cont)) (l : List Rec) (a : Rec) (o : Oper) (b : Rec) : Prop :=
  match (sop E o (evR E fr l a.key none) a.next).run (fun n => match find n b.ws with | some c => c | none => lookR hp l a.key n) [] with
  | .ok (r, tch) => (subN tch a.tch = true ∧ nilB a.ws = true ∧ nilB r.ws = true ∧ a.k = 0 ∧ r.k = 0) ∧ (a.g.val = true → r.v = a.v ∧ match r.vc with | none => True | some p => p)
  | .error _ => False
def commsAt (E : Env) (fr : List (Nat × SVal)) (hp : List (Nat × Option Cont)) (ops : List Oper) (ms : List Nat) (b : Rec) : List Rec → List Prop
  | [] => []
  | a :: l => (match Nat.ble (a.idx + 1) b.idx && (soft a b && !Nat.testBit (maskAt ms ops.length b.idx) a.idx) with
    | true => match ops[a.idx]? with
      | some o => [commP E fr hp l a o b]
      | none => [False]
    | false => []) ++ commsAt E fr hp ops ms b l
def comms (E : Env) (fr : List (Nat × SVal)) (hp : List (Nat × Option Cont)) (ops : List Oper) (recs : List Rec) : List Prop :=
  match softIdx (masks ops 0 []) ops.length recs with
  | none => []
  | some i => match recAt recs i with
    | some b => commsAt E fr hp ops (masks ops 0 []) b recs
    | none => [False]

def keyed {α : Type} (d a : α) : Key → α
  | none => a
  | some _ => d
/-- Behind the region: what stood under a guard is forgotten. -/
def leaveF (fr : List (Nat × SVal)) : List Rec → List (Nat × SVal)
  | [] => fr
  | r :: l => match r.dst with
    | some d => (d, keyed .any r.v r.key) :: leaveF fr l
    | none => leaveF fr l
def leaveH (hp : List (Nat × Option Cont)) : List Rec → List (Nat × Option Cont)
  | [] => hp
  | r :: l => r.ws.map (fun (n, c) => (n, keyed none c r.key)) ++ leaveH hp l

inductive Exi where
  | normal | ret | exit (id : Nat)

inductive Tr where
  | leaf (e : Exi) (s : SState)
  | ite (b : Bool) (t f : Tr)
  | req (p : Prop) (t : Tr)
  | prop (p : Prop)
  | both (t u : Tr)
  | fail (why : String)

def Tr.sat (Q : Exi → SState → Prop) : Tr → Prop
  | .leaf e s => Q e s
  | .ite b t f => (b = true → t.sat Q) ∧ (b = false → f.sat Q)
  | .req p t => p ∧ (p → t.sat Q)
  | .prop p => p
  | .both t u => t.sat Q ∧ u.sat Q
  | .fail _ => False

def reqs : List Prop → Tr → Tr
  | [], t => t
  | p :: l, t => reqs l (.req p t)

/-- A loop's summary: the state at its head; what becomes of it, behind the loop. -/
structure LSum where
  head : SState
  out : (Exi → SState → Tr) → Tr
  pre : Prop

/-- Is the one number's value the other's, and between the other's bounds? -/
def subI (k : IntKind) (a b : SI) : List Prop := match b with
  | .lit n => [a.val = n]
  | .full n => [a.val = n]
  | .sym n lo hi => match leB lo (a.lo k) && leB (a.hi k) hi with
    | true => [a.val = n]
    | false => [a.val = n, lo ≤ n ∧ n ≤ hi]

/-- Is the name handed over? -/
def rng : List (Nat × Nat) → Nat → Bool
  | [], _ => false
  | (_, q) :: l, r => q.beq r || rng l r
def eqB : Bool → Bool → Bool
  | true, true => true
  | false, false => true
  | _, _ => false

/-- From here on a name stands for a slice that is nil. -/
def nilN : Nat := 1099511627776
def same (q r : Nat) : Bool := match Nat.ble nilN q with
  | true => false
  | false => q.beq r
mutual
/-- What the one says follows from what the other says. σ: the source's names, by the target's. What is not handed over may be read for ever. -/
def sub (tAt : Nat) (look : Nat → Option Cont) (σ : List (Nat × Nat)) : Nat → SVal → SVal → List Prop
  | _, _, .any => []
  | _, .int k a, .int k' b => match kEq k k' with
    | true => subI k a b
    | false => [False]
  | _, .bool a, .bool b => [a.val = b.val]
  | _, .str a, .str b => [a = b]
  | _, .nilptr, .nilptr => []
  | _, .ptr r off, .ptr r' off' => match find r' σ with
    | some q => match same q r && off.beq off' with | true => [] | false => [False]
    | none => [False]
  | n + 1, .ptr r 0, .rop l' => match rng σ r, look r with
    | false, some (.cells l) => subL tAt look σ n l l'
    | _, _ => [False]
  | _, .own r, .own r' => match find r' σ with
    | some q => match same q r with | true => [] | false => [False]
    | none => [False]
  | _, .nilslice, .own r' => match find r' σ with
    | some q => match Nat.ble nilN q with | true => [] | false => [False]
    | none => [False]
  | _, .own r, .ro t l => match rng σ r, look r with
    | false, some (.recs t' l') => match decEq t' t with
      | .isTrue h => [h ▸ l' = l]
      | .isFalse _ => [False]
    | _, _ => [False]
  | _, .view t r k n, .view t' r' k' n' => match find r' σ, decide (t = t') with
    | some q, true => match same q r with | true => [k = k', n = n'] | false => [False]
    | _, _ => [False]
  | _, .ro t l, .ro t' l' => match decEq t t' with
    | .isTrue h => [h ▸ l = l']
    | .isFalse _ => [False]
  | _, .nilslice, .nilslice => []
  | _, .nilslice, .ro t l => [l = []]
  | _, .nilmap, .nilmap => []
  | _, .map r, .map r' => match find r' σ with
    | some q => match same q r with | true => [] | false => [False]
    | none => [False]
  | _, .nilFunc, .nilFunc => []
  | n + 1, .func f c, .func f' c' => match f.beq f' with
    | true => subL tAt look σ n c c'
    | false => [False]
  | _, .nilIface, .nilIface => []
  | _, .err e, .err e' => [e = e']
  | _, .nilIface, .err e => [FErr.fine = e]
  | _, .iface t (.ptr r 0), .err e => match t.beq tAt, rng σ r, look r with
    | true, false, some (.cells [.int .i64 p, .err e']) => [e = match e' with | .bare n => .placed n p.val | _ => .fine, e'.isErr = true, e'.isPlaced = false]
    | _, _, _ => [False]
  | n + 1, .iface t v, .iface t' v' => match t.beq t' with
    | true => sub tAt look σ n v v'
    | false => [False]
  | n + 1, .agg l, .agg l' => subL tAt look σ n l l'
  | n + 1, .tuple l, .tuple l' => subL tAt look σ n l l'
  | n + 1, .rop l, .rop l' => subL tAt look σ n l l'
  | _, .arr t n l, .arr t' n' l' => match decEq t t', n.beq n' with
    | .isTrue h, true => [h ▸ l = l']
    | _, _ => [False]
  | _, .eptr r w i j, .eptr r' w' i' j' => match find r' σ with
    | some q => match same q r && w.beq w' && j.beq j' with | true => [i = i'] | false => [False]
    | none => [False]
  | _, _, _ => [False]
def subL (tAt : Nat) (look : Nat → Option Cont) (σ : List (Nat × Nat)) : Nat → List SVal → List SVal → List Prop
  | _, [], [] => []
  | n + 1, a :: l, b :: l' => match eqB a.isArr b.isArr with
    | true => sub tAt look σ n a b ++ subL tAt look σ n l l'
    | false => [False]
  | _, _, _ => [False]
end

def deep : Nat := 100

def subC (tAt : Nat) (look : Nat → Option Cont) (σ : List (Nat × Nat)) : Option Cont → Option Cont → List Prop
  | _, none => []
  | some (.cells l), some (.cells l') => subL tAt look σ deep l l'
  | some (.recs t l), some (.recs t' l') => match decEq t t' with
    | .isTrue h => [h ▸ l = l']
    | .isFalse _ => [False]
  | some (.row w l), some (.row w' l') => match w.beq w' with
    | true => subL tAt look σ deep l l'
    | false => [False]
  | some (.strMap m), some (.strMap m') => [m = m']
  | some (.intMap m), some (.intMap m') => [m = m']
  | _, _ => [False]

def lookS (hp : List (Nat × Option Cont)) (r : Nat) : Option Cont := (find r hp).getD none

def all : List Prop → Prop
  | [] => True
  | [p] => p
  | p :: l => p ∧ all l

def sndN : List (Nat × Nat) → List Nat
  | [] => []
  | (_, q) :: l => q :: sndN l
def nodupB : List Nat → Bool
  | [] => true
  | r :: l => match memN r l with
    | true => false
    | false => nodupB l
def fstLt (next : Nat) : List (Nat × Nat) → Bool
  | [] => true
  | (r, _) :: l => Nat.ble (r + 1) next && fstLt next l
/-- What was handed in keeps its names. -/
def oldOk (old : List Nat) (σ : List (Nat × Nat)) : Bool := match old with
  | [] => true
  | n :: l => (match find n σ with | some q => same q n | none => false) && oldOk l σ
def nilC : Option Cont → List Prop
  | none => []
  | some (.recs t l) => [l = []]
  | _ => [False]

/-- A state says what another one says: slots, named memory. -/
def subSt (E : Env) (σ : List (Nat × Nat)) (s t : SState) : List Prop :=
  t.fr.flatMap (fun (n, v) => sub E.tAt (lookS s.hp) σ deep ((find n s.fr).getD .any) v) ++
  t.hp.flatMap (fun (r, c) => match find r σ with
    | some q => match Nat.ble nilN q with
      | true => nilC c
      | false => subC E.tAt (lookS s.hp) σ (lookS s.hp q) c
    | none => [False]) ++ match s.sz.beq t.sz && nodupB (sndN σ) && fstLt t.next σ && oldOk E.old σ with | true => [] | false => [False]

/-! Which name is which: found by walking both states. -/
def addN (r' r : Nat) (σ : List (Nat × Nat)) : List (Nat × Nat) := match find r' σ with
  | some _ => σ
  | none => (r', r) :: σ
mutual
def mt : Nat → SVal → SVal → List (Nat × Nat) → List (Nat × Nat)
  | _, .ptr r _, .ptr r' _, σ => addN r' r σ
  | _, .own r, .own r', σ => addN r' r σ
  | _, .nilslice, .own r', σ => addN r' (Nat.add nilN r') σ
  | _, .map r, .map r', σ => addN r' r σ
  | _, .view _ r _ _, .view _ r' _ _, σ => addN r' r σ
  | _, .eptr r _ _ _, .eptr r' _ _ _, σ => addN r' r σ
  | n + 1, .iface _ v, .iface _ v', σ => mt n v v' σ
  | n + 1, .agg l, .agg l', σ => mtL n l l' σ
  | n + 1, .tuple l, .tuple l', σ => mtL n l l' σ
  | n + 1, .rop l, .rop l', σ => mtL n l l' σ
  | n + 1, .func _ l, .func _ l', σ => mtL n l l' σ
  | _, _, _, σ => σ
def mtL : Nat → List SVal → List SVal → List (Nat × Nat) → List (Nat × Nat)
  | n + 1, a :: l, b :: l', σ => mtL n l l' (mt n a b σ)
  | _, _, _, σ => σ
end
def mtF (fr : List (Nat × SVal)) : List (Nat × SVal) → List (Nat × Nat) → List (Nat × Nat)
  | [], σ => σ
  | (n, v) :: l, σ => mtF fr l (mt deep ((find n fr).getD .any) v σ)
def mtC : Option Cont → Option Cont → List (Nat × Nat) → List (Nat × Nat)
  | some (.cells l), some (.cells l'), σ => mtL deep l l' σ
  | some (.row _ l), some (.row _ l'), σ => mtL deep l l' σ
  | _, _, σ => σ
def mtH (hp : List (Nat × Option Cont)) : List (Nat × Option Cont) → List (Nat × Nat) → List (Nat × Nat)
  | [], σ => σ
  | (r, c) :: l, σ => mtH hp l (match find r σ with
    | some q => mtC (lookS hp q) c σ
    | none => σ)
def mtch (old : List Nat) (s t : SState) : List (Nat × Nat) :=
  let σ := mtF s.fr t.fr (old.map fun n => (n, n))
  mtH s.hp t.hp (mtH s.hp t.hp σ)

/-- Where the operations of a loop's body begin. -/
def headId : Code → Nat
  | .region id _ _ => id
  | .seq a _ => headId a
  | .block _ b => headId b
  | _ => 0

/-- A test's slot, behind the test. -/
def SState.known (s : SState) (c : Operand) (b : Bool) : SState := match c with
  | .tmp t => { s with fr := (t, .bool (.lit b)) :: s.fr }
  | _ => s

/-- A cut behind a region: from here on only this is known. -/
def cut (E : Env) (ls : List (Nat × LSum)) (id : Nat) (s : SState) (k : Exi → SState → Tr) : Tr := match find (Nat.add id 1000000) ls with
  | some L => .req (all (subSt E (mtch E.old s L.head) s L.head)) (k .normal L.head)
  | none => k .normal s

def run (E : Env) (ls : List (Nat × LSum)) : Code → SState → (Exi → SState → Tr) → Tr
  | .skip, s, k => k .normal s
  | .label _, s, k => k .normal s
  | .ret, s, k => k .ret s
  | .exit id, s, k => k (.exit id) s
  | .region id ops draw, s, k =>
    match runR E s.fr s.hp s.sz ops.toList 0 { next := s.next, recs := [], vc := [] } with
    | .error why => .fail why
    | .ok rs => match draw with
      | false => reqs rs.vc (cut E ls id { fr := leaveF s.fr rs.recs, hp := leaveH s.hp rs.recs, next := rs.next, sz := s.sz } k)
      | true => match drawOk ops.toList rs.recs with
        | true => reqs (comms E s.fr s.hp ops.toList rs.recs ++ rs.vc) (cut E ls id { fr := leaveF s.fr rs.recs, hp := leaveH s.hp rs.recs, next := rs.next, sz := s.sz } k)
        | false => .fail "draw"
  | .seq a b, s, k => match find (Nat.add (headId b) 2000000) ls with
    | none => run E ls a s fun e s' => match e with
      | .normal => run E ls b s' k
      | e => k e s'
    | some L => .both (run E ls a s fun e s' => match e with
      | .normal => .prop (all (subSt E (mtch E.old s' L.head) s' L.head))
      | e => k e s') (run E ls b L.head k)
  | .cond c a b, s, k => match evR E s.fr [] none none c with
    | .bool (.lit true) => run E ls a s k
    | .bool (.lit false) => run E ls b s k
    | .bool (.sym β) => .ite β (run E ls a (s.known c true) k) (run E ls b (s.known c false) k)
    | _ => .fail "cond"
  | .block id b, s, k => run E ls b s fun e s' => match e with
    | .exit id' => match id'.beq id with
      | true => k .normal s'
      | false => k (.exit id') s'
    | e => k e s'
  | .loop b, s, k => match find (headId b) ls with
    | some L => .req (all (L.pre :: subSt E (mtch E.old s L.head) s L.head)) (L.out k)
    | none => .fail "loop"
  | _, _, _ => .fail "code"

end Go.Sy

namespace Go.Sy
mutual
/-- The names in a value. -/
def names : Nat → SVal → List Nat
  | _, .ptr r _ => [r]
  | _, .eptr r _ _ _ => [r]
  | _, .aptr r _ _ _ _ _ => [r]
  | _, .own r => [r]
  | _, .view _ r _ _ => [r]
  | _, .map r => [r]
  | n + 1, .func _ c => namesL n c
  | n + 1, .iface _ v => names n v
  | n + 1, .agg l => namesL n l
  | n + 1, .tuple l => namesL n l
  | n + 1, .rop l => namesL n l
  | _, _ => []
def namesL : Nat → List SVal → List Nat
  | n + 1, a :: l => names n a ++ namesL n l
  | _, _ => []
end

def namesC : Option Cont → List Nat
  | some (.cells l) => namesL deep l
  | some (.row _ l) => namesL deep l
  | _ => []

/-- All that is reached from some names, each once. -/
def reach (hp : List (Nat × Option Cont)) : Nat → List Nat → List Nat → List Nat
  | 0, _, acc => acc
  | _, [], acc => acc
  | n + 1, r :: l, acc => match memN r acc with
    | true => reach hp n l acc
    | false => reach hp n (namesC (lookS hp r) ++ l) (acc ++ [r])

def resV (E : Env) (s : SState) : ResultVar → Option SVal
  | .tmp t => some ((find t s.fr).getD .any)
  | .cell a t => match find a s.fr, find t E.tab with
    | some (.ptr r 0), some ti => match lookS s.hp r with
      | some (.cells l) => match (valOf ti l).run (lookS s.hp) [] with
        | .ok (v, _) => some v
        | .error _ => none
      | _ => none
    | _, _ => none

def resVs (E : Env) (s : SState) : List ResultVar → Option (List SVal)
  | [] => some []
  | r :: l => match resV E s r, resVs E s l with
    | some v, some vs => some (v :: vs)
    | _, _ => none

def oneOf : List SVal → SVal
  | [v] => v
  | l => .tuple l

/-- A function's end: its results in slot 0; of named memory what these lead to, and what was handed in. -/
def ends (E : Env) (rv : List ResultVar) (e : Exi) (s : SState) : Tr :=
  match e with
  | .exit _ => .fail "exit"
  | _ => match resVs E s rv with
    | some vs =>
      let v := oneOf vs
      .leaf .ret { fr := [(0, v)], hp := (reach s.hp deep (E.old ++ names deep v) []).map fun r => (r, lookS s.hp r), next := s.next, sz := 1 }
    | none => .fail "results"
end Go.Sy
