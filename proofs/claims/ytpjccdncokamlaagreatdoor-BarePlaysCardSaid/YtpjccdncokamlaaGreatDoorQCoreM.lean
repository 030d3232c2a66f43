/- Contracts. -/
import Derived.Test.YtpjccdncokamlaaGreatDoorQMemM
set_option linter.unusedVariables false
set_option linter.unusedSimpArgs false
namespace Go.Fac
open Go.RowKit Go.Sy
theorem hideE (α : Type) : {x : α // True ∧ True} = {x : α // True} := by rw [and_self]
theorem hide_cast {α : Type} {P Q : Prop} (e : P = Q) (h : {x : α // P} = {x : α // Q}) (a : α) (p : P) : (cast h ⟨a, p⟩).1 = a := by
  subst e; rfl
def hide {α : Type} (a : α) : α := (cast (hideE α) ⟨a, trivial, trivial⟩).1
theorem hide_eq {α : Type} (a : α) : hide a = a := hide_cast (and_self True) _ a _
structure Cpu where
  r : List Int
  pc : Int
  ie : Bool
  eie : Bool
  epc : Int
  tv : Int
  cause : Int
  addr : Int
  deriving DecidableEq
abbrev Cpu.enc (c : Cpu) : List SVal := [.arr .u32 16 c.r, .int .u32 (.full c.pc), .bool (.sym c.ie), .bool (.sym c.eie), .int .u32 (.full c.epc), .int .u32 (.full c.tv), .int .u32 (.full c.cause), .int .u32 (.full c.addr)]
structure Stp where
  cause : Int
  addr : Int
  i : In5
  len : Int
  deriving DecidableEq
abbrev Stp.enc (s : Stp) : List SVal := [.int .i64 (.full s.cause), .int .u32 (.full s.addr), .int .i64 (.full s.i.op), .int .i64 (.full s.i.a), .int .i64 (.full s.i.b), .int .i64 (.full s.i.c), .int .u32 (.full s.i.imm), .int .u32 (.full s.len)]
def In5.ok (i : In5) : Bool := wordOk i.op i.a i.b i.c i.imm
def In5.nul : In5 := ⟨0, 0, 0, 0, 0⟩
def rg (r : List Int) (i : Int) : Int := r.getD i.toNat 0
abbrev w32 (n : Int) : Int := IntKind.u32.wrap n
theorem kA_le (op : Int) : kA op = 0 ∨ kA op = 1 := by
  unfold kA; repeat' split
  all_goals simp
theorem kB_le (op : Int) : kB op = 0 ∨ kB op = 1 := by
  unfold kB; repeat' split
  all_goals simp
theorem word_rng {op a b c imm : Int} (h : wordOk op a b c imm = true) : (0 ≤ a ∧ a < 16) ∧ (0 ≤ b ∧ b < 16) ∧ (0 ≤ c ∧ c < 256) ∧ (1 ≤ op ∧ op ≤ 96) := by
  unfold wordOk at h
  simp only [Bool.and_eq_true, Bool.not_eq_true'] at h
  obtain ⟨⟨⟨⟨g1, g2⟩, g3⟩, g4⟩, _⟩ := h
  have h4 := fits_in g4
  have h1 := class_in g1
  unfold fitsM most at g2 g3
  simp only [Bool.and_eq_true, decide_eq_true_eq] at g2 g3
  rcases kA_le op with e | e <;> rw [e] at g2 <;> rcases kB_le op with e' | e' <;> rw [e'] at g3 <;> simp at g2 g3 <;> omega
theorem class_1234 {op a b c imm : Int} (h : wordOk op a b c imm = true) : isaClass op = 1 ∨ isaClass op = 2 ∨ isaClass op = 3 ∨ isaClass op = 4 := by
  unfold wordOk at h
  simp only [Bool.and_eq_true, Bool.not_eq_true'] at h
  have h1 := h.1.1.1.1
  have : isaClass op ≠ 0 := by simpa using h1
  unfold isaClass at this ⊢
  repeat' split
  all_goals simp_all
def aluW (op b c : Int) : Int :=
  if op = 2 then b else if op = 3 then w32 (b + c) else if op = 4 then w32 (b - c) else if op = 5 then bits .and .u32 b c else if op = 6 then bits .or .u32 b c else if op = 7 then bits .xor .u32 b c
  else if op = 8 then w32 (b * 2 ^ min (c % 32).toNat 32) else if op = 9 then b / 2 ^ min (c % 32).toNat 32 else if op = 10 then (if b < c then 1 else 0) else if op = 11 then (if b = c then 1 else 0) else w32 (b * c)
def aluOps (op : Int) : Bool := decide (1 ≤ op ∧ op ≤ 11) || decide (op = 14) || decide (op = 15) || decide (op = 24)
def doOk (i : In5) : Bool := In5.ok i && aluOps i.op
def doR (i : In5) (r : List Int) : List Int :=
  if doOk i = false then List.replicate 16 0 else if i.op = 1 then r else if i.op = 14 ∨ i.op = 15 then r.set i.a.toNat i.imm
  else r.set i.a.toNat (aluW i.op (rg r i.b) (rg r (i.c % 16)))
def tkOk (i : In5) : Bool := In5.ok i && isaJumps i.op
def tkB (i : In5) (r : List Int) : Bool :=
  if tkOk i = false then false else if i.op = 17 ∨ i.op = 20 then decide (rg r i.a = 0) else if i.op = 18 ∨ i.op = 21 then !decide (rg r i.a = 0) else true
def jumpC (c : Cpu) (s : Stp) (tk : Bool) : Cpu :=
  { c with
    pc := if tk = false then w32 (c.pc + s.len) else if s.i.op = 23 then rg c.r s.i.a else if s.i.op = 16 ∨ s.i.op = 17 ∨ s.i.op = 18 then w32 (c.pc + w32 (dispM s.i.c)) else s.i.imm
    r := if s.i.op = 22 then c.r.set 15 (w32 (c.pc + s.len)) else c.r }
def rdOk (l : List Int) (root a : Int) (us : Bool) : Bool := wkOk l root a false us
def rdW (l : List Int) (root a : Int) (us : Bool) : Int := if rdOk l root a us = true then rd l (wkA l root a false us) else 0
def fetchS0 (l : List Int) (root pc : Int) (us : Bool) : Stp :=
  if rdOk l root pc us = false then ⟨1, pc, In5.nul, 0⟩
  else if ofOk (rdW l root pc us) = false then ⟨4, 0, In5.nul, 0⟩
  else if isaTwo (ofF (rdW l root pc us) 0).op = false then ⟨0, 0, ofF (rdW l root pc us) 0, 1⟩
  else if rdOk l root (w32 (pc + 1)) us = false then ⟨1, w32 (pc + 1), In5.nul, 0⟩
  else ⟨0, 0, { ofF (rdW l root pc us) 0 with imm := rdW l root (w32 (pc + 1)) us }, 2⟩
def fetchS (l : List Int) (root pc : Int) (us : Bool) : Stp := hide (fetchS0 l root pc us)
theorem fetchS_def (l : List Int) (root pc : Int) (us : Bool) : fetchS l root pc us = (if rdOk l root pc us = false then ⟨1, pc, In5.nul, 0⟩
  else if ofOk (rdW l root pc us) = false then ⟨4, 0, In5.nul, 0⟩
  else if isaTwo (ofF (rdW l root pc us) 0).op = false then ⟨0, 0, ofF (rdW l root pc us) 0, 1⟩
  else if rdOk l root (w32 (pc + 1)) us = false then ⟨1, w32 (pc + 1), In5.nul, 0⟩
  else ⟨0, 0, { ofF (rdW l root pc us) 0 with imm := rdW l root (w32 (pc + 1)) us }, 2⟩) := hide_eq _
def plainA (c : Cpu) (s : Stp) : Int := w32 (rg c.r s.i.b + w32 s.i.c)
def plainM (i : In5) : Bool := decide (i.op = 12) || decide (i.op = 13)
def plainOk (l : List Int) (root : Int) (c : Cpu) (us : Bool) (s : Stp) : Bool := wkOk l root (plainA c s) (decide (s.i.op = 13)) us
def plainAt (l : List Int) (root : Int) (c : Cpu) (us : Bool) (s : Stp) : Int := wkA l root (plainA c s) (decide (s.i.op = 13)) us
def plainC0 (l : List Int) (root : Int) (c : Cpu) (us : Bool) (s : Stp) : Cpu :=
  if plainM s.i = true then
    if plainOk l root c us s = false then c
    else { c with pc := w32 (c.pc + s.len), r := if s.i.op = 13 then c.r else c.r.set s.i.a.toNat (rd l (plainAt l root c us s)) }
  else if tkOk s.i = true then jumpC c s (tkB s.i c.r)
  else { c with pc := w32 (c.pc + s.len), r := doR s.i c.r }
def plainC (l : List Int) (root : Int) (c : Cpu) (us : Bool) (s : Stp) : Cpu := hide (plainC0 l root c us s)
theorem plainC_def (l : List Int) (root : Int) (c : Cpu) (us : Bool) (s : Stp) : plainC l root c us s = (if plainM s.i = true then
    if plainOk l root c us s = false then c
    else { c with pc := w32 (c.pc + s.len), r := if s.i.op = 13 then c.r else c.r.set s.i.a.toNat (rd l (plainAt l root c us s)) }
  else if tkOk s.i = true then jumpC c s (tkB s.i c.r)
  else { c with pc := w32 (c.pc + s.len), r := doR s.i c.r }) := hide_eq _
def plainS0 (l : List Int) (root : Int) (c : Cpu) (us : Bool) (s : Stp) : Stp :=
  if plainM s.i = true ∧ plainOk l root c us s = false then { s with cause := 1, addr := plainA c s } else s
def plainS (l : List Int) (root : Int) (c : Cpu) (us : Bool) (s : Stp) : Stp := hide (plainS0 l root c us s)
theorem plainS_def (l : List Int) (root : Int) (c : Cpu) (us : Bool) (s : Stp) : plainS l root c us s = (if plainM s.i = true ∧ plainOk l root c us s = false then { s with cause := 1, addr := plainA c s } else s) := hide_eq _
def plainL0 (l : List Int) (root : Int) (c : Cpu) (us : Bool) (s : Stp) : List Int :=
  if s.i.op = 13 ∧ plainOk l root c us s = true then wr l (plainAt l root c us s) (rg c.r s.i.a) else l
def plainL (l : List Int) (root : Int) (c : Cpu) (us : Bool) (s : Stp) : List Int := hide (plainL0 l root c us s)
theorem plainL_def (l : List Int) (root : Int) (c : Cpu) (us : Bool) (s : Stp) : plainL l root c us s = (if s.i.op = 13 ∧ plainOk l root c us s = true then wr l (plainAt l root c us s) (rg c.r s.i.a) else l) := hide_eq _
def onceK (s : Stp) : Int := if s.cause ≠ 0 then 0 else isaClass s.i.op
def onceC0 (l : List Int) (root : Int) (c : Cpu) (us : Bool) : Cpu :=
  let s := fetchS l root c.pc us
  if onceK s = 0 then c else if onceK s = 1 then plainC l root c us s
  else if onceK s = 3 ∧ us = true then { c with pc := w32 (c.pc + s.len), r := if s.i.op = 66 then c.r.set s.i.a.toNat 1 else c.r }
  else c
def onceC (l : List Int) (root : Int) (c : Cpu) (us : Bool) : Cpu := hide (onceC0 l root c us)
theorem onceC_def (l : List Int) (root : Int) (c : Cpu) (us : Bool) : onceC l root c us = (let s := fetchS l root c.pc us
  if onceK s = 0 then c else if onceK s = 1 then plainC l root c us s
  else if onceK s = 3 ∧ us = true then { c with pc := w32 (c.pc + s.len), r := if s.i.op = 66 then c.r.set s.i.a.toNat 1 else c.r }
  else c) := hide_eq _
def onceS0 (l : List Int) (root : Int) (c : Cpu) (us : Bool) : Stp :=
  let s := fetchS l root c.pc us
  if onceK s = 0 then s else if onceK s = 1 then plainS l root c us s
  else if onceK s = 2 then { s with cause := 6 } else if onceK s = 4 then { s with cause := 7 }
  else if us = true then s else { s with cause := 6 }
def onceS (l : List Int) (root : Int) (c : Cpu) (us : Bool) : Stp := hide (onceS0 l root c us)
theorem onceS_def (l : List Int) (root : Int) (c : Cpu) (us : Bool) : onceS l root c us = (let s := fetchS l root c.pc us
  if onceK s = 0 then s else if onceK s = 1 then plainS l root c us s
  else if onceK s = 2 then { s with cause := 6 } else if onceK s = 4 then { s with cause := 7 }
  else if us = true then s else { s with cause := 6 }) := hide_eq _
def onceL0 (l : List Int) (root : Int) (c : Cpu) (us : Bool) : List Int :=
  if onceK (fetchS l root c.pc us) = 1 then plainL l root c us (fetchS l root c.pc us) else l
def onceL (l : List Int) (root : Int) (c : Cpu) (us : Bool) : List Int := hide (onceL0 l root c us)
theorem onceL_def (l : List Int) (root : Int) (c : Cpu) (us : Bool) : onceL l root c us = (if onceK (fetchS l root c.pc us) = 1 then plainL l root c us (fetchS l root c.pc us) else l) := hide_eq _
theorem ofF_ok {w : Int} (h : ofOk w = true) (imm : Int) : In5.ok (ofF w imm) = true := by
  unfold ofF; rw [if_pos h]; exact word_imm h rfl
theorem fetch_ok {l : List Int} {root pc : Int} {us : Bool} (h : (fetchS l root pc us).cause = 0) : In5.ok (fetchS l root pc us).i = true := by
  cases e1 : rdOk l root pc us
  · simp [fetchS_def, e1] at h
  cases e2 : ofOk (rdW l root pc us)
  · simp [fetchS_def, e1, e2] at h
  have k := ofF_ok e2 0
  cases e3 : isaTwo (ofF (rdW l root pc us) 0).op
  · simp [fetchS_def, e1, e2, e3]; exact k
  cases e4 : rdOk l root (w32 (pc + 1)) us
  · simp [fetchS_def, e1, e2, e3, e4] at h
  simp [fetchS_def, e1, e2, e3, e4]
  unfold In5.ok
  rw [ofOk_imm e3]
  unfold In5.ok at k
  rw [ofOk_imm e3] at k
  exact k
end Go.Fac

