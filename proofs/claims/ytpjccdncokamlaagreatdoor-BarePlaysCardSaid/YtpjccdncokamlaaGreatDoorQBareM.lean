/- Contracts. -/
import Derived.Test.YtpjccdncokamlaaGreatDoorQCoreM
set_option linter.unusedVariables false
set_option linter.unusedSimpArgs false
namespace Go.Fac
open Go.RowKit Go.Sy
abbrev seenT : RT := .flat (.int .i64) [.int .u32, .int .u32]
abbrev updT : RT := .flat (.int .i64) [.int .u32]
structure Dv where
  keys : List Int
  sec : List Int
  on : Bool
  at_ : Int
  seen : List (Int × Int × Int)
  deriving DecidableEq
def Dv.nul : Dv := ⟨[], List.replicate 16 0, false, 0, []⟩
def dPress (d : Dv) (k : Int) : Dv := if 64 ≤ (d.keys.length : Int) then d else { d with keys := d.keys ++ [k] }
def dPressB (d : Dv) : Bool := !decide (64 ≤ (d.keys.length : Int))
def dIn (d : Dv) : Dv := { d with keys := d.keys.drop 1 }
def dInW (d : Dv) : Int := d.keys.getD 0 0
def dOut (d : Dv) (w : Int) : Dv := { d with seen := d.seen ++ [(1, 0, w)] }
def dPut (d : Dv) (s w : Int) : Dv := { d with sec := d.sec.set (s % 16).toNat w, seen := d.seen ++ [(2, s % 16, w)] }
def dGet (d : Dv) (s : Int) : Int := d.sec.getD (s % 16).toNat 0
def dSet (p : Bool) (d : Dv) (now after : Int) : Dv := { d with on := decide (0 < after), at_ := if p = true ∧ ¬ 0 < after then 0 else IntKind.i64.wrap (now + after) }
def dDue (d : Dv) (now : Int) : Bool := d.on && decide (d.at_ ≤ now)
def dRang (p : Bool) (d : Dv) : Dv := { d with on := false, at_ := if p = true then 0 else d.at_ }
def dEnd (d : Dv) (kind n : Int) : Dv :=
  if kind = 3 then { d with seen := d.seen ++ [(3, 0, n)] } else if kind = 4 then { d with seen := d.seen ++ [(4, n, 0)] } else d
def enterC (c : Cpu) (cause addr : Int) : Cpu := if c.tv = 0 then c else { c with epc := c.pc, eie := c.ie, ie := false, cause := w32 cause, addr := addr, pc := c.tv }
def enterB (c : Cpu) : Bool := !decide (c.tv = 0)
def returnC (c : Cpu) : Cpu := { c with pc := c.epc, ie := c.eie, epc := 0, eie := false }
def waitsW (c : Cpu) (d : Dv) (now : Int) (port : Bool) : Int :=
  if c.ie = false then 0 else if dDue d now = true then 2 else if 0 < (d.keys.length : Int) then 3 else if port = true then 5 else 0
def devC (i : In5) (c : Cpu) (d : Dv) (now : Int) : Cpu :=
  if i.op = 36 then { c with r := c.r.set i.a.toNat (dInW d) } else if i.op = 38 then { c with r := c.r.set i.a.toNat (dGet d (rg c.r i.b)) }
  else if i.op = 40 then { c with r := c.r.set i.a.toNat (w32 now) } else c
def devD (p : Bool) (i : In5) (c : Cpu) (d : Dv) (now : Int) : Dv :=
  if i.op = 35 then dOut d (rg c.r i.a) else if i.op = 36 then dIn d else if i.op = 37 then dPut d (rg c.r i.a) (rg c.r i.b) else if i.op = 39 then dSet p d now (rg c.r i.a) else d
def doIs (op : Int) : Bool := decide (op = 33) || decide (op = 64) || decide (op = 65) || decide (op = 66) || decide (op = 67) || decide (op = 43) || decide (op = 44)
def doC1 (i : In5) (c : Cpu) (d : Dv) (now : Int) : Cpu :=
  if i.op = 33 then { c with tv := rg c.r i.a } else if i.op = 64 then { c with ie := false } else if i.op = 65 then { c with ie := true }
  else if i.op = 67 then { c with ie := decide (rg c.r i.a % 2 = 1) } else if i.op = 66 then { c with r := c.r.set i.a.toNat (if c.ie = true then 3 else 2) }
  else if i.op = 43 then { c with r := c.r.set i.a.toNat c.cause } else if i.op = 44 then { c with r := c.r.set i.a.toNat c.addr } else devC i c d now
def doC0 (i : In5) (len : Int) (c : Cpu) (d : Dv) (now : Int) : Cpu :=
  if i.op = 32 then c else if i.op = 34 then returnC c else { doC1 i c d now with pc := w32 (c.pc + len) }
def doD0 (p : Bool) (i : In5) (c : Cpu) (d : Dv) (now : Int) : Dv :=
  if i.op = 32 then dEnd d 3 (rg c.r i.a) else if i.op = 34 then d else if doIs i.op = true then d else devD p i c d now
def doC (i : In5) (len : Int) (c : Cpu) (d : Dv) (now : Int) : Cpu := hide (doC0 i len c d now)
def doD (p : Bool) (i : In5) (c : Cpu) (d : Dv) (now : Int) : Dv := hide (doD0 p i c d now)
theorem doC_def (i : In5) (len : Int) (c : Cpu) (d : Dv) (now : Int) : doC i len c d now = doC0 i len c d now := hide_eq _
theorem doD_def (p : Bool) (i : In5) (c : Cpu) (d : Dv) (now : Int) : doD p i c d now = doD0 p i c d now := hide_eq _
structure Mc where
  l : List Int
  c : Cpu
  d : Dv
  quota : Int
  now : Int
  over : Bool
  w : List (Int × Int)
  deriving DecidableEq
def updL (l : List Int) (u : Int × Int) : List Int := if enT (rd l (u.1 / 16)) = true then wr l (IntKind.i64.wrap (enF (rd l (u.1 / 16)) * 16 + u.1 % 16)) u.2 else l
def syncL (l : List Int) (us : List (Int × Int)) : List Int := us.foldl updL l
theorem updL_len (l : List Int) (u : Int × Int) : (updL l u).length = l.length := by unfold updL; split; exact wr_len _ _ _; rfl
theorem syncL_len (us : List (Int × Int)) : ∀ l : List Int, (syncL l us).length = l.length := by
  induction us with
  | nil => intro l; rfl
  | cons u us ih => intro l; show (syncL (updL l u) us).length = _; rw [ih, updL_len]
theorem syncL_snoc (l : List Int) (us : List (Int × Int)) (u : Int × Int) : syncL l (us ++ [u]) = updL (syncL l us) u := by unfold syncL; rw [List.foldl_append]; rfl
def updOk (us : List (Int × Int)) : Prop := ∀ u ∈ us, 0 ≤ u.1 ∧ u.1 < 128
def mayB (quota pg w : Int) : Bool := decide (0 ≤ pg) && decide (pg < 128) && enOk w && (!enT w || (decide (17 ≤ enF w) && decide (enF w < quota)))
def syncM (b : Mc) : Mc := { b with l := syncL b.l b.w, w := [] }
def putM0 (b : Mc) (pg w : Int) : Mc :=
  if mayB b.quota pg w = true then (if 16 ≤ (b.w.length : Int) then { b with l := syncL b.l b.w, w := [(pg, w)] } else { b with w := b.w ++ [(pg, w)] }) else b
def putM (b : Mc) (pg w : Int) : Mc := hide (putM0 b pg w)
theorem putM_def (b : Mc) (pg w : Int) : putM b pg w = putM0 b pg w := hide_eq _
def enterM0 (b : Mc) (cause addr : Int) : Mc :=
  if enterB b.c = true then { b with c := enterC b.c cause addr } else { b with over := true, d := dEnd b.d 4 (w32 cause) }
def enterM (b : Mc) (cause addr : Int) : Mc := hide (enterM0 b cause addr)
theorem enterM_def (b : Mc) (cause addr : Int) : enterM b cause addr = enterM0 b cause addr := hide_eq _
def supM0 (p : Bool) (b : Mc) (s : Stp) : Mc :=
  if s.i.op = 41 then (let b' := putM b (rg b.c.r s.i.a) (rg b.c.r s.i.b); { b' with c := { b'.c with pc := w32 (b'.c.pc + s.len) } })
  else if s.i.op = 42 then { syncM b with c := { b.c with pc := w32 (b.c.pc + s.len) } }
  else { b with c := doC s.i s.len b.c b.d b.now, d := doD p s.i b.c b.d b.now, over := decide (s.i.op = 32) }
def supM (p : Bool) (b : Mc) (s : Stp) : Mc := hide (supM0 p b s)
theorem supM_def (p : Bool) (b : Mc) (s : Stp) : supM p b s = supM0 p b s := hide_eq _
def intrM0 (p : Bool) (b : Mc) : Mc :=
  let w := waitsW b.c b.d b.now false
  if w = 0 then b else enterM (if w = 2 then { b with d := dRang p b.d } else b) w 0
def intrM (p : Bool) (b : Mc) : Mc := hide (intrM0 p b)
theorem intrM_def (p : Bool) (b : Mc) : intrM p b = intrM0 p b := hide_eq _
def goM0 (p : Bool) (b : Mc) : Mc :=
  let s := onceS b.l 0 b.c false
  let b' := { b with l := onceL b.l 0 b.c false }
  if s.cause = 0 then { b' with c := onceC b.l 0 b.c false } else if s.cause = 6 then supM p b' s else if s.cause = 7 then enterM b' 4 0 else enterM b' s.cause s.addr
def goM (p : Bool) (b : Mc) : Mc := hide (goM0 p b)
theorem goM_def (p : Bool) (b : Mc) : goM p b = goM0 p b := hide_eq _
def stepM0 (p : Bool) (b : Mc) : Mc :=
  if b.over = true then b
  else let b1 := intrM p b
    let b2 := if b1.over = true then b1 else goM p b1
    { b2 with now := IntKind.i64.wrap (b.now + 1) }
def stepM (p : Bool) (b : Mc) : Mc := hide (stepM0 p b)
theorem stepM_def (p : Bool) (b : Mc) : stepM p b = stepM0 p b := hide_eq _
def nrmD (d : Dv) : Dv := { d with at_ := if d.on = true then d.at_ else 0 }
def nrmM (b : Mc) : Mc := { b with d := nrmD b.d }
theorem nrm_end (d : Dv) (k n : Int) : dEnd (nrmD d) k n = nrmD (dEnd d k n) := by
  unfold dEnd
  split
  · rfl
  · split <;> rfl
theorem nrm_due (d : Dv) (now : Int) : dDue (nrmD d) now = dDue d now := by unfold dDue nrmD; cases d.on <;> simp
theorem nrm_waits (c : Cpu) (d : Dv) (now : Int) (p : Bool) : waitsW c (nrmD d) now p = waitsW c d now p := by unfold waitsW; rw [nrm_due]; rfl
theorem nrm_enter (b : Mc) (k a : Int) : enterM (nrmM b) k a = nrmM (enterM b k a) := by
  rw [enterM_def, enterM_def]; unfold enterM0
  show (if enterB b.c = true then _ else _) = _
  split
  · rfl
  · simp only [nrmM, nrm_end]
theorem nrm_put (b : Mc) (x y : Int) : putM (nrmM b) x y = nrmM (putM b x y) := by
  rw [putM_def, putM_def]; unfold putM0
  show (if mayB b.quota x y = true then (if 16 ≤ (b.w.length : Int) then _ else _) else _) = _
  split
  · split <;> rfl
  · rfl
theorem nrm_doC (i : In5) (len : Int) (c : Cpu) (d : Dv) (now : Int) : doC i len c (nrmD d) now = doC i len c d now := by
  rw [doC_def, doC_def]; rfl
theorem nrm_doD (i : In5) (c : Cpu) (d : Dv) (now : Int) : doD true i c (nrmD d) now = nrmD (doD false i c d now) := by
  rw [doD_def, doD_def]; unfold doD0
  split
  · exact nrm_end _ _ _
  · split
    · rfl
    · split
      · rfl
      · unfold devD
        split
        · rfl
        · split
          · rfl
          · split
            · rfl
            · split
              · unfold dSet nrmD
                by_cases h : 0 < rg c.r i.a <;> simp [h]
              · rfl
theorem nrm_do (b : Mc) (s : Stp) : supM true (nrmM b) s = nrmM (supM false b s) := by
  rw [supM_def, supM_def]; unfold supM0
  split
  · show (let b' := putM (nrmM b) (rg b.c.r s.i.a) (rg b.c.r s.i.b); ({ b' with c := { b'.c with pc := w32 (b'.c.pc + s.len) } } : Mc)) = _
    rw [nrm_put]; rfl
  · split
    · rfl
    · show ({ nrmM b with c := doC s.i s.len b.c (nrmD b.d) b.now, d := doD true s.i b.c (nrmD b.d) b.now, over := decide (s.i.op = 32) } : Mc) = _
      rw [nrm_doC, nrm_doD]; rfl
theorem nrm_intr (b : Mc) : intrM true (nrmM b) = nrmM (intrM false b) := by
  rw [intrM_def, intrM_def]; unfold intrM0
  show (let w := waitsW b.c (nrmD b.d) b.now false; if w = 0 then nrmM b else enterM (if w = 2 then { nrmM b with d := dRang true (nrmD b.d) } else nrmM b) w 0) = _
  rw [nrm_waits]
  simp only
  split
  · rfl
  · rw [← nrm_enter]; congr 1
    split <;> rfl
theorem nrm_go (b : Mc) : goM true (nrmM b) = nrmM (goM false b) := by
  rw [goM_def, goM_def]; unfold goM0
  show (let s := onceS b.l 0 b.c false; let b' : Mc := { nrmM b with l := onceL b.l 0 b.c false }; if s.cause = 0 then ({ b' with c := onceC b.l 0 b.c false } : Mc) else if s.cause = 6 then supM true b' s else if s.cause = 7 then enterM b' 4 0 else enterM b' s.cause s.addr) = _
  have e : ({ nrmM b with l := onceL b.l 0 b.c false } : Mc) = nrmM { b with l := onceL b.l 0 b.c false } := rfl
  rw [e]
  simp only
  split
  · rfl
  · split
    · exact nrm_do _ _
    · split
      · exact nrm_enter _ _ _
      · exact nrm_enter _ _ _
theorem nrm_step (b : Mc) : stepM true (nrmM b) = nrmM (stepM false b) := by
  rw [stepM_def, stepM_def]; unfold stepM0
  show (if b.over = true then _ else _) = _
  split
  · rfl
  · rw [nrm_intr]
    simp only
    show ({ (if (intrM false b).over = true then nrmM (intrM false b) else goM true (nrmM (intrM false b))) with now := IntKind.i64.wrap (b.now + 1) } : Mc) = _
    rw [nrm_go]
    split <;> rfl
def stepN0 (p : Bool) (b : Mc) : Mc := if (intrM p b).over = true then intrM p b else goM p (intrM p b)
def stepN (p : Bool) (b : Mc) : Mc := hide (stepN0 p b)
theorem stepN_def (p : Bool) (b : Mc) : stepN p b = stepN0 p b := hide_eq _
theorem enter_now (b : Mc) (k a : Int) : (enterM b k a).now = b.now := by rw [enterM_def]; unfold enterM0; split <;> rfl
theorem put_now (b : Mc) (x y : Int) : (putM b x y).now = b.now := by rw [putM_def]; unfold putM0; split <;> (try split) <;> rfl
theorem sup_now (p : Bool) (b : Mc) (s : Stp) : (supM p b s).now = b.now := by
  rw [supM_def]; unfold supM0
  split
  · exact put_now b _ _
  · split <;> rfl
theorem intr_now (p : Bool) (b : Mc) : (intrM p b).now = b.now := by
  rw [intrM_def]; unfold intrM0
  simp only
  split
  · rfl
  · rw [enter_now]; split <;> rfl
theorem go_now (p : Bool) (b : Mc) : (goM p b).now = b.now := by
  rw [goM_def]; unfold goM0
  simp only
  split
  · rfl
  · split
    · rw [sup_now]
    · split <;> rw [enter_now]
theorem stepN_now (p : Bool) (b : Mc) : (stepN p b).now = b.now := by
  rw [stepN_def]; unfold stepN0
  split
  · exact intr_now p b
  · rw [go_now, intr_now]
theorem stepM_N (p : Bool) {b : Mc} (h : b.over = false) : stepM p b = { stepN p b with now := IntKind.i64.wrap ((stepN p b).now + 1) } := by
  rw [stepN_now, stepN_def, stepM_def]; unfold stepM0 stepN0
  rw [if_neg (by rw [h]; simp)]
abbrev EqM (a b : Mc) : Prop := a.c.r = b.c.r ∧ a.c.pc = b.c.pc ∧ a.c.ie = b.c.ie ∧ a.c.eie = b.c.eie ∧ a.c.epc = b.c.epc ∧ a.c.tv = b.c.tv ∧ a.c.cause = b.c.cause ∧ a.c.addr = b.c.addr ∧ a.quota = b.quota ∧ a.now = b.now ∧ a.over = b.over ∧ a.d.sec = b.d.sec ∧ a.d.on = b.d.on ∧ a.d.at_ = b.d.at_ ∧ a.l = b.l ∧ a.w = b.w ∧ a.d.keys = b.d.keys ∧ a.d.seen = b.d.seen
abbrev EqMX (a b : Mc) (p : Prop) : Prop := a.c.r = b.c.r ∧ a.c.pc = b.c.pc ∧ a.c.ie = b.c.ie ∧ a.c.eie = b.c.eie ∧ a.c.epc = b.c.epc ∧ a.c.tv = b.c.tv ∧ a.c.cause = b.c.cause ∧ a.c.addr = b.c.addr ∧ a.quota = b.quota ∧ a.now = b.now ∧ a.over = b.over ∧ a.d.sec = b.d.sec ∧ a.d.on = b.d.on ∧ a.d.at_ = b.d.at_ ∧ a.l = b.l ∧ a.w = b.w ∧ a.d.keys = b.d.keys ∧ a.d.seen = b.d.seen ∧ p
abbrev EgM (c : Cpu) (d : Dv) (l : List Int) (q n : Int) (o : Bool) (w : List (Int × Int)) (b : Mc) : Prop := c.r = b.c.r ∧ c.pc = b.c.pc ∧ c.ie = b.c.ie ∧ c.eie = b.c.eie ∧ c.epc = b.c.epc ∧ c.tv = b.c.tv ∧ c.cause = b.c.cause ∧ c.addr = b.c.addr ∧ q = b.quota ∧ n = b.now ∧ o = b.over ∧ d.sec = b.d.sec ∧ d.on = b.d.on ∧ d.at_ = b.d.at_ ∧ l = b.l ∧ w = b.w ∧ d.keys = b.d.keys ∧ d.seen = b.d.seen
abbrev EgMX (c : Cpu) (d : Dv) (l : List Int) (q n : Int) (o : Bool) (w : List (Int × Int)) (b : Mc) (p : Prop) : Prop := c.r = b.c.r ∧ c.pc = b.c.pc ∧ c.ie = b.c.ie ∧ c.eie = b.c.eie ∧ c.epc = b.c.epc ∧ c.tv = b.c.tv ∧ c.cause = b.c.cause ∧ c.addr = b.c.addr ∧ q = b.quota ∧ n = b.now ∧ o = b.over ∧ d.sec = b.d.sec ∧ d.on = b.d.on ∧ d.at_ = b.d.at_ ∧ l = b.l ∧ w = b.w ∧ d.keys = b.d.keys ∧ d.seen = b.d.seen ∧ p
abbrev EqE (a b : Mc) : Prop := a.c.r = b.c.r ∧ a.c.pc = b.c.pc ∧ a.c.ie = b.c.ie ∧ a.c.eie = b.c.eie ∧ a.c.epc = b.c.epc ∧ a.c.tv = b.c.tv ∧ a.c.cause = b.c.cause ∧ a.c.addr = b.c.addr ∧ a.quota = b.quota ∧ a.now = b.now ∧ a.over = b.over ∧ a.d.sec = b.d.sec ∧ a.d.at_ = b.d.at_ ∧ a.d.on = b.d.on ∧ a.l = b.l ∧ a.w = b.w ∧ a.d.keys = b.d.keys ∧ a.d.seen = b.d.seen
abbrev EqEX (a b : Mc) (p : Prop) : Prop := a.c.r = b.c.r ∧ a.c.pc = b.c.pc ∧ a.c.ie = b.c.ie ∧ a.c.eie = b.c.eie ∧ a.c.epc = b.c.epc ∧ a.c.tv = b.c.tv ∧ a.c.cause = b.c.cause ∧ a.c.addr = b.c.addr ∧ a.quota = b.quota ∧ a.now = b.now ∧ a.over = b.over ∧ a.d.sec = b.d.sec ∧ a.d.at_ = b.d.at_ ∧ a.d.on = b.d.on ∧ a.l = b.l ∧ a.w = b.w ∧ a.d.keys = b.d.keys ∧ a.d.seen = b.d.seen ∧ p
abbrev EgE (c : Cpu) (d : Dv) (l : List Int) (q n : Int) (o : Bool) (w : List (Int × Int)) (b : Mc) : Prop := c.r = b.c.r ∧ c.pc = b.c.pc ∧ c.ie = b.c.ie ∧ c.eie = b.c.eie ∧ c.epc = b.c.epc ∧ c.tv = b.c.tv ∧ c.cause = b.c.cause ∧ c.addr = b.c.addr ∧ q = b.quota ∧ n = b.now ∧ o = b.over ∧ d.sec = b.d.sec ∧ d.at_ = b.d.at_ ∧ d.on = b.d.on ∧ l = b.l ∧ w = b.w ∧ d.keys = b.d.keys ∧ d.seen = b.d.seen
abbrev EgEX (c : Cpu) (d : Dv) (l : List Int) (q n : Int) (o : Bool) (w : List (Int × Int)) (b : Mc) (p : Prop) : Prop := c.r = b.c.r ∧ c.pc = b.c.pc ∧ c.ie = b.c.ie ∧ c.eie = b.c.eie ∧ c.epc = b.c.epc ∧ c.tv = b.c.tv ∧ c.cause = b.c.cause ∧ c.addr = b.c.addr ∧ q = b.quota ∧ n = b.now ∧ o = b.over ∧ d.sec = b.d.sec ∧ d.at_ = b.d.at_ ∧ d.on = b.d.on ∧ l = b.l ∧ w = b.w ∧ d.keys = b.d.keys ∧ d.seen = b.d.seen ∧ p
abbrev mcV (l x : List Int) (pc : SI) (ie eie : SB) (epc tv ca ad : SI) (ks sc : List Int) (on : SB) (a : SI) (se : List (Int × Int × Int)) (qu no : SI) (ov : SB) (us : List (Int × Int)) : Mc := ⟨l, ⟨x, pc.val, ie.val, eie.val, epc.val, tv.val, ca.val, ad.val⟩, ⟨ks, sc, on.val, a.val, se⟩, qu.val, no.val, ov.val, us⟩
abbrev dC0 (ks sc : List Int) (on : SB) (at_ : SI) (se : List (Int × Int × Int)) : List Cont := [.cells [.own 1, .arr .u32 16 sc, .bool on, .int .i64 at_, .own 2], .recs .u32 ks, .recs (.flat (.int .i64) [.int .u32, .int .u32]) se]
abbrev rC0 (ks sc : List Int) (on : SB) (at_ : SI) (se : List (Int × Int × Int)) : List Cont := [.cells [.own 1, .own 2, .arr .u32 16 sc, .int .i64 at_, .bool on], .recs .u32 ks, .recs (.flat (.int .i64) [.int .u32, .int .u32]) se]
abbrev dV (ks sc : List Int) (on : SB) (at_ : SI) (se : List (Int × Int × Int)) : Dv := ⟨ks, sc, on.val, at_.val, se⟩
abbrev mC0 (l x : List Int) (pc : SI) (ie eie : SB) (epc tv ca ad : SI) (ks sc : List Int) (on : SB) (at_ : SI) (se : List (Int × Int × Int)) (qu no : SI) (ov : SB) (us : List (Int × Int)) : List Cont := [.cells [.ptr 1 0, .arr .u32 16 x, .int .u32 pc, .bool ie, .bool eie, .int .u32 epc, .int .u32 tv, .int .u32 ca, .int .u32 ad, .ptr 2 0, .int .i64 qu, .int .i64 no, .bool ov, .own 4], .cells [.own 3], .cells [.own 5, .arr .u32 16 sc, .bool on, .int .i64 at_, .own 6], .recs .u32 l, .recs (.flat (.int .i64) [.int .u32]) us, .recs .u32 ks, .recs (.flat (.int .i64) [.int .u32, .int .u32]) se]
abbrev eC0 (l x : List Int) (pc : SI) (ie eie : SB) (epc tv ca ad : SI) (ks sc : List Int) (on : SB) (at_ : SI) (se : List (Int × Int × Int)) (qu no : SI) (ov : SB) (us : List (Int × Int)) : List Cont := [.cells [.ptr 1 0, .arr .u32 16 x, .int .u32 pc, .bool ie, .bool eie, .int .u32 epc, .int .u32 tv, .int .u32 ca, .int .u32 ad, .int .i64 qu, .ptr 2 0, .int .i64 no, .bool ov, .own 4], .cells [.own 3], .cells [.own 5, .own 6, .arr .u32 16 sc, .int .i64 at_, .bool on], .recs .u32 l, .recs (.flat (.int .i64) [.int .u32]) us, .recs .u32 ks, .recs (.flat (.int .i64) [.int .u32, .int .u32]) se]
abbrev mLt (b : Mc) : SVal := .rop [.rop [.ro .u32 b.l], .arr .u32 16 b.c.r, .int .u32 (.full b.c.pc), .bool (.sym b.c.ie), .bool (.sym b.c.eie), .int .u32 (.full b.c.epc), .int .u32 (.full b.c.tv), .int .u32 (.full b.c.cause), .int .u32 (.full b.c.addr), .rop [.ro .u32 b.d.keys, .arr .u32 16 b.d.sec, .bool (.sym b.d.on), .int .i64 (.full b.d.at_), .ro seenT b.d.seen], .int .i64 (.full b.quota), .int .i64 (.full b.now), .bool (.sym b.over), .ro updT b.w]
end Go.Fac

