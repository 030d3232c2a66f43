/- Contracts. -/
import Derived.Test.YtpjccdncokamlaaGreatDoorQBareM
set_option linter.unusedVariables false
set_option linter.unusedSimpArgs false
namespace Go.Fac
open Go.RowKit Go.Sy
def wrs (f : Nat → Int) (off : Int) (l : List Int) : Nat → List Int
  | 0 => l
  | i + 1 => wr (wrs f off l i) (off + i) (f i)
theorem wrs_len (f : Nat → Int) (off : Int) (l : List Int) : ∀ n, (wrs f off l n).length = l.length
  | 0 => rfl
  | n + 1 => by rw [wrs, wr_len, wrs_len f off l n]
theorem rd_wr {l : List Int} {a w : Int} (h : inM l a = true) (b : Int) : rd (wr l a w) b = if b = a then w else rd l b := by
  have h' := inM_iff.1 h
  unfold wr; rw [if_pos h]
  unfold rd
  by_cases e : b = a
  · subst e
    have : inM (l.set b.toNat w) b = true := inM_iff.2 (by rw [List.length_set]; exact h')
    rw [if_pos this, if_pos rfl, List.getD_eq_getElem?_getD, List.getElem?_set_self (by omega)]; rfl
  · rw [if_neg e]
    have e2 : inM (l.set a.toNat w) b = inM l b := by unfold inM; rw [List.length_set]
    rw [e2]
    split
    · rename_i hb
      have hb := inM_iff.1 hb
      rw [List.getD_eq_getElem?_getD, List.getElem?_set_ne (by omega), ← List.getD_eq_getElem?_getD]
    · rfl
def mem8 (q : Int) (data code : List Int) : List Int :=
  wrs (fun i => code.getD i 0) (16 * q) (wrs (fun i => data.getD i 0) 272 (wrs (fun p => bitsW (q + (p : Int)) true false true) 144 (wrs (fun p => bitsW (17 + (p : Int)) true true true) 16
    (wrs (fun k => bitsW ((k : Int) + 1) true true true) 0 (List.replicate ((q + 16) * 16).toNat 0) 16) (min 3 (q - 17).toNat)) 16) (min data.length 48)) (min code.length 256)
theorem mem8_len (q : Int) (data code : List Int) : (mem8 q data code).length = ((q + 16) * 16).toNat := by
  unfold mem8; simp only [wrs_len, List.length_replicate]
structure Code8 (M : List Int) (code : List Int) : Prop where
  len : M.length = 640
  root : ∀ k : Int, 0 ≤ k → k < 16 → rd M k = (k + 1) * 256 + 7
  tab : ∀ p : Int, 0 ≤ p → p < 16 → rd M (144 + p) = (24 + p) * 256 + 5
  code : ∀ i : Int, 0 ≤ i → i < 256 → rd M (384 + i) = code.getD i.toNat 0
section
variable {M code : List Int}
theorem Code8.frN (h : Code8 M code) : Fac.frN M = 40 := by unfold Fac.frN; rw [h.len]; rfl
theorem Code8.walk (h : Code8 M code) {i : Int} (h0 : 0 ≤ i) (h1 : i < 256) : wkOk M 0 (2048 + i) false false = true ∧ wkA M 0 (2048 + i) false false = 384 + i := by
  have hp : (2048 + i) / 16 = 128 + i / 16 := by omega
  have hq : 0 ≤ i / 16 ∧ i / 16 < 16 := by omega
  have d1 : (128 + i / 16) / 16 = 8 := by omega
  have d2 : (128 + i / 16) % 16 = i / 16 := by omega
  have z : (0 : Int) * 16 + 8 = 8 := rfl
  have r8 : rd M 8 = 2311 := h.root 8 (by decide) (by decide)
  have e1 : entOk M 0 8 = true := by unfold entOk; rw [h.frN, z, r8]; decide
  have w1 : entW M 0 8 = 2311 := by unfold entW; rw [if_pos e1, z, r8]
  have f1 : enF (2311 : Int) = 9 := by decide
  have t := h.tab _ hq.1 hq.2
  have ok : enOk ((24 + i / 16) * 256 + 5) = true := by unfold enOk; simp; right; omega
  have e2 : entOk M 9 (i / 16) = true := by
    unfold entOk; rw [h.frN, show (9 : Int) * 16 + i / 16 = 144 + i / 16 by omega, t]
    have : enT ((24 + i / 16) * 256 + 5) = true := by unfold enT; rw [ok]; simp; omega
    rw [this]; decide
  have w2 : entW M 9 (i / 16) = (24 + i / 16) * 256 + 5 := by unfold entW; rw [if_pos e2, show (9 : Int) * 16 + i / 16 = 144 + i / 16 by omega, t]
  have pk : pgOk M 0 (128 + i / 16) = true := by
    unfold pgOk; rw [d1, d2, w1, f1, e1, e2]; simp; omega
  have pw : pgW M 0 (128 + i / 16) = (24 + i / 16) * 256 + 5 := by unfold pgW; rw [if_pos pk, d1, d2, w1, f1, w2]
  have fr : enF ((24 + i / 16) * 256 + 5) = 24 + i / 16 := by unfold enF; rw [if_pos ok]; omega
  have wk : wkOk M 0 (2048 + i) false false = true := by
    unfold wkOk; rw [hp, pk, pw, fr, h.frN]; simp; omega
  refine ⟨wk, ?_⟩
  unfold wkA; rw [if_pos wk, hp, pw, fr]; omega
theorem Code8.rdW (h : Code8 M code) {i : Int} (h0 : 0 ≤ i) (h1 : i < 256) : rdOk M 0 (2048 + i) false = true ∧ Fac.rdW M 0 (2048 + i) false = code.getD i.toNat 0 := by
  obtain ⟨a, b⟩ := h.walk h0 h1
  refine ⟨a, ?_⟩
  unfold Fac.rdW; rw [if_pos (show rdOk M 0 (2048 + i) false = true from a), b, h.code i h0 h1]
theorem Code8.wr (h : Code8 M code) {a : Int} (ha : 16 ≤ a ∧ a < 144 ∨ 160 ≤ a ∧ a < 384) (w : Int) : Code8 (wr M a w) code := by
  have hi : inM M a = true := inM_iff.2 (by rw [h.len]; omega)
  refine ⟨by rw [wr_len]; exact h.len, fun k h0 h1 => ?_, fun p h0 h1 => ?_, fun i h0 h1 => ?_⟩
  · rw [rd_wr hi, if_neg (by omega)]; exact h.root k h0 h1
  · rw [rd_wr hi, if_neg (by omega)]; exact h.tab p h0 h1
  · rw [rd_wr hi, if_neg (by omega)]; exact h.code i h0 h1
end
section
variable {b : Mc} {s : Stp}
end
def iterM (p : Bool) (b : Mc) : Nat → Mc
  | 0 => b
  | n + 1 => stepM p (iterM p b n)
structure McI (n : Nat) (b : Mc) : Prop where
  seen : b.d.seen.length ≤ n
  keys : b.d.keys.length ≤ 64
  w : b.w.length ≤ 16
  upd : updOk b.w
section
variable {b : Mc} {n : Nat} {p : Bool}
theorem end_seen (d : Dv) (k x : Int) : (dEnd d k x).seen.length ≤ d.seen.length + 1 ∧ (dEnd d k x).keys = d.keys := by
  unfold dEnd; split
  · simp
  · split <;> simp
theorem McI.enter (h : McI n b) (k a : Int) : McI (n + 1) (enterM b k a) ∧ (enterB b.c = true → McI n (enterM b k a) ∧ (enterM b k a).over = b.over) ∧ (enterB b.c = false → (enterM b k a).over = true) := by
  obtain ⟨e1, e2⟩ := end_seen b.d 4 (w32 k)
  rw [enterM_def]; unfold enterM0
  cases hb : enterB b.c
  · rw [if_neg (by simp)]
    exact ⟨⟨by have := h.seen; simp only; omega, by simp only [e2]; exact h.keys, h.w, h.upd⟩, (fun h => by cases h), fun _ => rfl⟩
  · rw [if_pos rfl]
    exact ⟨⟨by have := h.seen; simp only; omega, h.keys, h.w, h.upd⟩, fun _ => ⟨⟨h.seen, h.keys, h.w, h.upd⟩, rfl⟩, fun h => by cases h⟩
theorem McI.intr (h : McI n b) (ho : b.over = false) : McI (n + 1) (intrM p b) ∧ ((intrM p b).over = false → McI n (intrM p b)) := by
  have up : ∀ {m : Nat} {c : Mc}, McI m c → McI (m + 1) c := fun g => ⟨by have := g.seen; omega, g.keys, g.w, g.upd⟩
  rw [intrM_def]; unfold intrM0
  simp only
  split
  · exact ⟨up h, fun _ => h⟩
  · have h' : McI n (if waitsW b.c b.d b.now false = 2 then { b with d := dRang p b.d } else b) := by split; exact ⟨h.seen, h.keys, h.w, h.upd⟩; exact h
    obtain ⟨a1, a2, a3⟩ := h'.enter (waitsW b.c b.d b.now false) 0
    refine ⟨a1, fun hh => ?_⟩
    cases hb : enterB (if waitsW b.c b.d b.now false = 2 then { b with d := dRang p b.d } else b : Mc).c
    · rw [a3 hb] at hh; cases hh
    · exact (a2 hb).1
theorem doD_seen (i : In5) (c : Cpu) (d : Dv) (now : Int) : (doD p i c d now).seen.length ≤ d.seen.length + 1 ∧ (doD p i c d now).keys.length ≤ d.keys.length := by
  rw [doD_def]; unfold doD0
  split
  · obtain ⟨a, e⟩ := end_seen d 3 (rg c.r i.a); exact ⟨a, by rw [e]; exact Nat.le_refl _⟩
  · split
    · exact ⟨by omega, Nat.le_refl _⟩
    · split
      · exact ⟨by omega, Nat.le_refl _⟩
      · unfold devD
        repeat' split
        · unfold dOut; simp
        · unfold dIn; simp
        · unfold dPut; simp
        · unfold dSet; simp
        · exact ⟨by omega, Nat.le_refl _⟩
theorem McI.put (h : McI n b) (x y : Int) : McI n (putM b x y) := by
  rw [putM_def]; unfold putM0
  split
  · rename_i hm
    unfold mayB at hm
    simp only [Bool.and_eq_true, decide_eq_true_eq] at hm
    split
    · exact ⟨h.seen, h.keys, by simp, fun u hu => by simp at hu; subst hu; exact ⟨hm.1.1.1, hm.1.1.2⟩⟩
    · refine ⟨h.seen, h.keys, by simp; omega, fun u hu => ?_⟩
      rcases List.mem_append.1 hu with hu | hu
      · exact h.upd u hu
      · simp at hu; subst hu; exact ⟨hm.1.1.1, hm.1.1.2⟩
  · exact h
theorem McI.do (h : McI n b) (s : Stp) : McI (n + 1) (supM p b s) := by
  rw [supM_def]; unfold supM0
  split
  · have := h.put (rg b.c.r s.i.a) (rg b.c.r s.i.b)
    exact ⟨by have := this.seen; simp; omega, this.keys, this.w, this.upd⟩
  · split
    · exact ⟨by have := h.seen; show b.d.seen.length ≤ _; omega, h.keys, by simp [syncM], fun u hu => by simp [syncM] at hu⟩
    · obtain ⟨a, e⟩ := doD_seen (p := p) s.i b.c b.d b.now
      exact ⟨by have := h.seen; simp; omega, by have := h.keys; simp; omega, h.w, h.upd⟩
theorem McI.go (h : McI n b) : McI (n + 1) (goM p b) := by
  have up : ∀ {m : Nat} {c : Mc}, McI m c → McI (m + 1) c := fun g => ⟨by have := g.seen; omega, g.keys, g.w, g.upd⟩
  have h' : McI n ({ b with l := onceL b.l 0 b.c false } : Mc) := ⟨h.seen, h.keys, h.w, h.upd⟩
  rw [goM_def]; unfold goM0
  simp only
  split
  · exact up ⟨h.seen, h.keys, h.w, h.upd⟩
  · split
    · exact h'.do _
    · split
      · exact (h'.enter _ _).1
      · exact (h'.enter _ _).1
theorem McI.step (h : McI n b) : McI (n + 1) (stepM p b) := by
  have up : ∀ {m : Nat} {c : Mc}, McI m c → McI (m + 1) c := fun g => ⟨by have := g.seen; omega, g.keys, g.w, g.upd⟩
  rw [stepM_def]; unfold stepM0
  split
  · exact up h
  · rename_i ho
    have ho : b.over = false := by simpa using ho
    obtain ⟨a1, a2⟩ := h.intr (p := p) ho
    simp only
    split
    · exact ⟨a1.seen, a1.keys, a1.w, a1.upd⟩
    · rename_i hv
      have := (a2 (by simpa using hv)).go (p := p)
      exact ⟨this.seen, this.keys, this.w, this.upd⟩
theorem McI.iter (h : McI n b) : ∀ k, McI (n + k) (iterM p b k)
  | 0 => h
  | k + 1 => (McI.iter h k).step
end
end Go.Fac
namespace Go.Fac
open Go.RowKit Go.Sy
def onceE (l : List Int) (c : Cpu) : Cpu × Stp × List Int :=
  let s := fetchS0 l 0 c.pc false
  let k := onceK s
  if k = 0 then (c, s, l) else if k = 1 then (plainC0 l 0 c false s, plainS0 l 0 c false s, plainL0 l 0 c false s)
  else if k = 2 then (c, { s with cause := 6 }, l) else if k = 4 then (c, { s with cause := 7 }, l) else (c, { s with cause := 6 }, l)
theorem onceE_is (l : List Int) (c : Cpu) : onceE l c = (onceC l 0 c false, onceS l 0 c false, onceL l 0 c false) := by
  have f : fetchS l 0 c.pc false = fetchS0 l 0 c.pc false := hide_eq _
  have p1 : ∀ s, plainC l 0 c false s = plainC0 l 0 c false s := fun s => hide_eq _
  have p2 : ∀ s, plainS l 0 c false s = plainS0 l 0 c false s := fun s => hide_eq _
  have p3 : ∀ s, plainL l 0 c false s = plainL0 l 0 c false s := fun s => hide_eq _
  unfold onceE
  rw [onceC_def, onceS_def, onceL_def]
  simp only [f, p1, p2, p3]
  generalize fetchS0 l 0 c.pc false = s
  by_cases h0 : onceK s = 0
  · simp [h0]
  · by_cases h1 : onceK s = 1
    · simp [h1]
    · by_cases h2 : onceK s = 2
      · simp [h2]
      · by_cases h4 : onceK s = 4
        · simp [h4]
        · simp [h0, h1, h2, h4]
def doE (p : Bool) (b : Mc) (s : Stp) : Mc :=
  if s.i.op = 41 then (let b' := putM0 b (rg b.c.r s.i.a) (rg b.c.r s.i.b); { b' with c := { b'.c with pc := w32 (b'.c.pc + s.len) } })
  else if s.i.op = 42 then { syncM b with c := { b.c with pc := w32 (b.c.pc + s.len) } }
  else { b with c := doC0 s.i s.len b.c b.d b.now, d := doD0 p s.i b.c b.d b.now, over := decide (s.i.op = 32) }
theorem doE_is (p : Bool) (b : Mc) (s : Stp) : doE p b s = supM p b s := by
  rw [supM_def]; unfold supM0 doE
  rw [putM_def, doC_def, doD_def]
def stepE (p : Bool) (b : Mc) : Mc :=
  if b.over = true then b
  else
    let w := waitsW b.c b.d b.now false
    let b1 := if w = 0 then b else enterM0 (if w = 2 then { b with d := dRang p b.d } else b) w 0
    let b2 := if b1.over = true then b1 else
      let x := onceE b1.l b1.c
      let b' : Mc := { b1 with l := x.2.2 }
      if x.2.1.cause = 0 then { b' with c := x.1 } else if x.2.1.cause = 6 then doE p b' x.2.1 else if x.2.1.cause = 7 then enterM0 b' 4 0 else enterM0 b' x.2.1.cause x.2.1.addr
    { b2 with now := IntKind.i64.wrap (b.now + 1) }
theorem stepE_is (p : Bool) (b : Mc) : stepE p b = stepM p b := by
  have e1 : ∀ (b : Mc) (k a : Int), enterM0 b k a = enterM b k a := fun b k a => (enterM_def b k a).symm
  rw [stepM_def]; unfold stepE stepM0
  rw [intrM_def]; unfold intrM0
  split
  · rfl
  · simp only [e1, goM_def, goM0, onceE_is, doE_is]
end Go.Fac

