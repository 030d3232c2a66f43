/- Contracts that the proofs use. -/
import Derived.Test.YtpjccdncokamlaaDoorQBareP
set_option linter.unusedVariables false
set_option linter.unusedSimpArgs false
namespace Go.Fac
open Go.RowKit Go.Sy
theorem plain_alu {l : List Int} {root : Int} {c : Cpu} {us : Bool} {s : Stp} (hm : plainM s.i = false) (hj : isaJumps s.i.op = false) : plainC l root c us s = { c with pc := w32 (c.pc + s.len), r := doR s.i c.r } ∧ plainS l root c us s = s ∧ plainL l root c us s = l := by
  have hk : tkOk s.i = false := by unfold tkOk; rw [hj, Bool.and_false]
  have h13 : ¬ s.i.op = 13 := by
    intro h; unfold plainM at hm; rw [h] at hm; simp at hm
  simp [plainC_def, plainS_def, plainL_def, hm, hk, h13]
structure St8 (code : List Int) (i : Nat) (on : Bool) (seen : List (Int × Int × Int)) (b : Mc) : Prop where
  mem : Code8 b.l code
  pc : b.c.pc = 2048 + (i : Int)
  ie : b.c.ie = on
  r : b.c.r.length = 16
  over : b.over = false
  keys : b.d.keys = []
  off : b.d.on = false
  seen : b.d.seen = seen
theorem pc1 {i : Nat} (h : i < 256) : w32 (2048 + (i : Int) + 1) = 2048 + ((i + 1 : Nat) : Int) := by show IntKind.u32.wrap _ = _; rw [IntKind.wrap_u32]; omega
theorem pc2 {i : Nat} (h : i < 256) : w32 (2048 + (i : Int) + 2) = 2048 + ((i + 2 : Nat) : Int) := by show IntKind.u32.wrap _ = _; rw [IntKind.wrap_u32]; omega
section
variable {code : List Int} {i : Nat} {on : Bool} {seen : List (Int × Int × Int)} {b : Mc}
theorem St8.quiet (H : St8 code i on seen b) : waitsW b.c b.d b.now false = 0 := by
  unfold waitsW dDue; rw [H.off, H.keys]; cases b.c.ie <;> simp
theorem St8.sup (H : St8 code i on seen b) (hi : i < 256) {x : In5} (ho : ofOk (code.getD i 0) = true) (hx : ofF (code.getD i 0) 0 = x) (ht : isaTwo x.op = false) (hc : isaClass x.op = 2 ∨ isaClass x.op = 3) (h41 : x.op ≠ 41) (h42 : x.op ≠ 42) :
    stepM true b = { b with c := doC x 1 b.c b.d b.now, d := doD true x b.c b.d b.now, over := decide (x.op = 32), now := IntKind.i64.wrap (b.now + 1) } := by
  have F : fetchS b.l 0 b.c.pc false = ⟨0, 0, x, 1⟩ := by rw [H.pc]; exact H.mem.fetch1 hi ho hx ht
  rw [step_go true H.over H.quiet, go_do true F rfl hc, supM_def]
  unfold supM0
  rw [if_neg h41, if_neg h42]
theorem St8.cli (H : St8 code i on seen b) (hi : i < 256) (hw : code.getD i 0 = 1073741824) : St8 code (i + 1) false seen (stepM true b) := by
  rw [H.sup hi (x := ⟨64, 0, 0, 0, 0⟩) (by rw [hw]; decide +kernel) (by rw [hw]; decide +kernel) (by decide) (.inr (by decide)) (by decide) (by decide)]
  refine ⟨H.mem, ?_, ?_, ?_, rfl, ?_, ?_, ?_⟩
  · simp [doC_def, doC0, doC1, H.pc, pc1 hi]
  · simp [doC_def, doC0, doC1]
  · simp [doC_def, doC0, doC1, H.r]
  · simp [doD_def, doD0, doIs, H.keys]
  · simp [doD_def, doD0, doIs, H.off]
  · simp [doD_def, doD0, doIs, H.seen]
theorem St8.sti (H : St8 code i on seen b) (hi : i < 256) (hw : code.getD i 0 = 1090519040) : St8 code (i + 1) true seen (stepM true b) := by
  rw [H.sup hi (x := ⟨65, 0, 0, 0, 0⟩) (by rw [hw]; decide +kernel) (by rw [hw]; decide +kernel) (by decide) (.inr (by decide)) (by decide) (by decide)]
  refine ⟨H.mem, ?_, ?_, ?_, rfl, ?_, ?_, ?_⟩
  · simp [doC_def, doC0, doC1, H.pc, pc1 hi]
  · simp [doC_def, doC0, doC1]
  · simp [doC_def, doC0, doC1, H.r]
  · simp [doD_def, doD0, doIs, H.keys]
  · simp [doD_def, doD0, doIs, H.off]
  · simp [doD_def, doD0, doIs, H.seen]
theorem St8.sst (H : St8 code i on seen b) (hi : i < 256) (hw : code.getD i 0 = 1124139008) : St8 code (i + 1) (decide (rg b.c.r 1 % 2 = 1)) seen (stepM true b) := by
  rw [H.sup hi (x := ⟨67, 1, 0, 0, 0⟩) (by rw [hw]; decide +kernel) (by rw [hw]; decide +kernel) (by decide) (.inr (by decide)) (by decide) (by decide)]
  refine ⟨H.mem, ?_, ?_, ?_, rfl, ?_, ?_, ?_⟩
  · simp [doC_def, doC0, doC1, H.pc, pc1 hi]
  · simp [doC_def, doC0, doC1]
  · simp [doC_def, doC0, doC1, H.r]
  · simp [doD_def, doD0, doIs, H.keys]
  · simp [doD_def, doD0, doIs, H.off]
  · simp [doD_def, doD0, doIs, H.seen]
theorem St8.gst (H : St8 code i on seen b) (hi : i < 256) (hw : code.getD i 0 = 1107427328) : St8 code (i + 1) on seen (stepM true b) ∧ rg (stepM true b).c.r 2 = 2 + b2i on := by
  rw [H.sup hi (x := ⟨66, 2, 0, 0, 0⟩) (by rw [hw]; decide +kernel) (by rw [hw]; decide +kernel) (by decide) (.inr (by decide)) (by decide) (by decide)]
  refine ⟨⟨H.mem, ?_, ?_, ?_, rfl, ?_, ?_, ?_⟩, ?_⟩
  · simp [doC_def, doC0, doC1, H.pc, pc1 hi]
  · simp [doC_def, doC0, doC1, H.ie]
  · simp [doC_def, doC0, doC1, H.r]
  · simp [doD_def, doD0, doIs, H.keys]
  · simp [doD_def, doD0, doIs, H.off]
  · simp [doD_def, doD0, doIs, H.seen]
  · have hl := H.r
    have he := H.ie
    simp only [doC_def, doC0, doC1, rg]
    simp [he]
    rw [List.getElem?_set_self (by rw [hl]; decide)]
    cases on <;> rfl
theorem St8.out (H : St8 code i on seen b) (hi : i < 256) {a : Int} {W : Int} (hw : code.getD i 0 = W) (hW : ofOk W = true ∧ ofF W 0 = ⟨35, a, 0, 0, 0⟩) : St8 code (i + 1) on (seen ++ [(1, 0, rg b.c.r a)]) (stepM true b) ∧ (stepM true b).c.r = b.c.r := by
  rw [H.sup hi (x := ⟨35, a, 0, 0, 0⟩) (by rw [hw]; exact hW.1) (by rw [hw]; exact hW.2) (show isaTwo 35 = false by decide) (.inl (show isaClass 35 = 2 by decide)) (show (35 : Int) ≠ 41 by decide) (show (35 : Int) ≠ 42 by decide)]
  refine ⟨⟨H.mem, ?_, ?_, ?_, rfl, ?_, ?_, ?_⟩, ?_⟩
  · simp [doC_def, doC0, doC1, devC, H.pc, pc1 hi]
  · simp [doC_def, doC0, doC1, devC, H.ie]
  · simp [doC_def, doC0, doC1, devC, H.r]
  · simp [doD_def, doD0, doIs, devD, dOut, H.keys]
  · simp [doD_def, doD0, doIs, devD, dOut, H.off]
  · simp [doD_def, doD0, doIs, devD, dOut, H.seen]
  · simp [doC_def, doC0, doC1, devC]
theorem St8.halt (H : St8 code i on seen b) (hi : i < 256) {a : Int} {W : Int} (hw : code.getD i 0 = W) (hW : ofOk W = true ∧ ofF W 0 = ⟨32, a, 0, 0, 0⟩) : (stepM true b).over = true ∧ (stepM true b).d.seen = seen ++ [(3, 0, rg b.c.r a)] ∧ (stepM true b).now = IntKind.i64.wrap (b.now + 1) := by
  rw [H.sup hi (x := ⟨32, a, 0, 0, 0⟩) (by rw [hw]; exact hW.1) (by rw [hw]; exact hW.2) (show isaTwo 32 = false by decide) (.inl (show isaClass 32 = 2 by decide)) (show (32 : Int) ≠ 41 by decide) (show (32 : Int) ≠ 42 by decide)]
  refine ⟨rfl, ?_, rfl⟩
  simp [doD_def, doD0, dEnd, H.seen]
theorem St8.li (H : St8 code i on seen b) (hi : i < 254) {a : Int} {W : Int} (hw : code.getD i 0 = W) (hW : ofOk W = true ∧ ofF W 0 = ⟨14, a, 0, 0, 0⟩) (ha : 0 ≤ a ∧ a < 16) :
    St8 code (i + 2) on seen (stepM true b) ∧ (stepM true b).c.r = b.c.r.set a.toNat (code.getD (i + 1) 0) ∧ (stepM true b).d = b.d ∧ (stepM true b).l = b.l ∧ (stepM true b).w = b.w := by
  have F : fetchS b.l 0 b.c.pc false = ⟨0, 0, ⟨14, a, 0, 0, code.getD (i + 1) 0⟩, 2⟩ := by
    rw [H.pc]; exact H.mem.fetch2 (i := i) (x := ⟨14, a, 0, 0, 0⟩) (by omega) (by rw [hw]; exact hW.1) (by rw [hw]; exact hW.2) (show isaTwo 14 = true by decide)
  have ok : In5.ok ⟨14, a, 0, 0, code.getD (i + 1) 0⟩ = true := by
    have := fetch_ok (l := b.l) (root := 0) (pc := b.c.pc) (us := false) (by rw [F])
    rw [F] at this; exact this
  obtain ⟨p1, p2, p3⟩ := plain_alu (l := b.l) (root := 0) (c := b.c) (us := false) (s := ⟨0, 0, ⟨14, a, 0, 0, code.getD (i + 1) 0⟩, 2⟩) rfl (show isaJumps 14 = false by decide)
  have hd : doR ⟨14, a, 0, 0, code.getD (i + 1) 0⟩ b.c.r = b.c.r.set a.toNat (code.getD (i + 1) 0) := by
    have : doOk ⟨14, a, 0, 0, code.getD (i + 1) 0⟩ = true := by unfold doOk; rw [ok]; rfl
    unfold doR
    rw [this, if_neg (by simp), if_neg (show ¬ (14 : Int) = 1 by decide), if_pos (show (14 : Int) = 14 ∨ (14 : Int) = 15 by decide)]
  have g := go_plain (b := b) true F rfl (show isaClass 14 = 1 by decide) (by rw [p2])
  rw [step_go true H.over H.quiet, g, p1, p3]
  simp only [hd]
  exact ⟨⟨H.mem, by simp only [H.pc]; exact pc2 (by omega), H.ie, by simp only [List.length_set]; exact H.r, H.over, H.keys, H.off, H.seen⟩, by trivial, by trivial, by trivial, by trivial⟩
theorem St8.nop (H : St8 code i on seen b) (hi : i < 256) (hw : code.getD i 0 = 16777216) : St8 code (i + 1) on seen (stepM true b) := by
  have F : fetchS b.l 0 b.c.pc false = ⟨0, 0, ⟨1, 0, 0, 0, 0⟩, 1⟩ := by
    rw [H.pc]; exact H.mem.fetch1 hi (by rw [hw]; decide +kernel) (by rw [hw]; decide +kernel) (by decide)
  obtain ⟨p1, p2, p3⟩ := plain_alu (l := b.l) (root := 0) (c := b.c) (us := false) (s := ⟨0, 0, ⟨1, 0, 0, 0, 0⟩, 1⟩) rfl (show isaJumps 1 = false by decide)
  have hd : doR ⟨1, 0, 0, 0, 0⟩ b.c.r = b.c.r := by
    have : doOk ⟨1, 0, 0, 0, 0⟩ = true := by decide +kernel
    unfold doR
    rw [this, if_neg (by simp), if_pos rfl]
  have g := go_plain (b := b) true F rfl (show isaClass 1 = 1 by decide) (by rw [p2])
  rw [step_go true H.over H.quiet, g, p1, p3]
  simp only [hd]
  exact ⟨H.mem, by simp only [H.pc]; exact pc1 hi, H.ie, H.r, H.over, H.keys, H.off, H.seen⟩
end
def frS (x : Int) : List Int := (if x % 5 = 0 then [1073741824] else if x % 5 = 1 then [1090519040] else if x % 5 = 2 ∨ x % 5 = 3 then [234946560, IntKind.i64.wrap (x.tdiv 5) % 4, 1124139008] else [16777216]) ++ [1107427328, 587333632]
def onX (on : Bool) (x : Int) : Bool := if x % 5 = 0 then false else if x % 5 = 1 then true else if x % 5 = 2 ∨ x % 5 = 3 then decide (IntKind.i64.wrap (x.tdiv 5) % 4 % 2 = 1) else on
def stX (x : Int) : Nat := if x % 5 = 2 ∨ x % 5 = 3 then 4 else 3
def codeS (l : List Int) : Nat → List Int
  | 0 => []
  | j + 1 => codeS l j ++ frS (l.getD j 0)
def onS (l : List Int) : Nat → Bool
  | 0 => false
  | j + 1 => onX (onS l j) (l.getD j 0)
def wantS (l : List Int) : Nat → List Int
  | 0 => []
  | j + 1 => wantS l j ++ [2 + b2i (onS l (j + 1))]
def stS (l : List Int) : Nat → Nat
  | 0 => 0
  | j + 1 => stS l j + stX (l.getD j 0)
def codeA (l : List Int) : List Int := codeS l l.length ++ [536870912]
def seenO (l : List Int) : List (Int × Int × Int) := l.map fun x => (1, 0, x)
def bare0 (code : List Int) (c : Cpu) : Mc := ⟨mem8 24 [] code, c, Dv.nul, 24, 0, false, []⟩
def cpuAt (pc tv : Int) : Cpu := ⟨List.replicate 16 0, pc, false, false, 0, tv, 0, 0⟩
theorem frS_len (x : Int) : 3 ≤ (frS x).length ∧ (frS x).length ≤ 5 := by
  unfold frS; repeat' split
  all_goals simp
theorem codeS_len (l : List Int) : ∀ j, (codeS l j).length ≤ 5 * j
  | 0 => Nat.le_refl _
  | j + 1 => by have := codeS_len l j; have := frS_len (l.getD j 0); rw [codeS, List.length_append]; omega
theorem codeS_pre (l : List Int) (j : Nat) : ∀ k, ∃ r, codeS l (j + k) = codeS l j ++ r
  | 0 => ⟨[], by simp⟩
  | k + 1 => by
    obtain ⟨r, h⟩ := codeS_pre l j k
    exact ⟨r ++ frS (l.getD (j + k) 0), by rw [show j + (k + 1) = (j + k) + 1 by omega, codeS, h, List.append_assoc]⟩
theorem codeA_at {l : List Int} {j : Nat} (hj : j < l.length) {t : Nat} (ht : t < (frS (l.getD j 0)).length) : (codeA l).getD ((codeS l j).length + t) 0 = (frS (l.getD j 0)).getD t 0 := by
  obtain ⟨r, h⟩ := codeS_pre l (j + 1) (l.length - (j + 1))
  rw [show j + 1 + (l.length - (j + 1)) = l.length by omega] at h
  unfold codeA
  rw [h, codeS, List.append_assoc, List.append_assoc, List.getD_eq_getElem?_getD, List.getElem?_append_right (by omega), show (codeS l j).length + t - (codeS l j).length = t by omega, List.getElem?_append_left ht, ← List.getD_eq_getElem?_getD]
theorem codeA_end (l : List Int) : (codeA l).getD (codeS l l.length).length 0 = 536870912 := by
  unfold codeA; rw [List.getD_eq_getElem?_getD, List.getElem?_append_right (Nat.le_refl _)]; simp
section
variable {code : List Int} {i : Nat} {on : Bool} {seen : List (Int × Int × Int)} {b : Mc}
theorem St8.tail (H : St8 code i on seen b) (hi : i + 2 ≤ 256) (h0 : code.getD i 0 = 1107427328) (h1 : code.getD (i + 1) 0 = 587333632) : St8 code (i + 2) on (seen ++ [(1, 0, 2 + b2i on)]) (iterM true b 2) ∧ (stepM true b).over = false := by
  obtain ⟨g, e⟩ := H.gst (by omega) h0
  have o := (g.out (by omega) (a := 2) h1 ⟨by decide +kernel, by decide +kernel⟩).1
  rw [e] at o
  exact ⟨o, g.over⟩
theorem St8.frag (H : St8 code i on seen b) (x : Int) (hi : i + 5 ≤ 254) (hc : ∀ t, t < (frS x).length → code.getD (i + t) 0 = (frS x).getD t 0) :
    St8 code (i + (frS x).length) (onX on x) (seen ++ [(1, 0, 2 + b2i (onX on x))]) (iterM true b (stX x)) ∧ ∀ j, j < stX x → (iterM true b j).over = false := by
  have one : ∀ {on' : Bool} {W : Int}, stX x = 3 → frS x = [W] ++ [1107427328, 587333632] → onX on x = on' → St8 code (i + 1) on' seen (stepM true b) → St8 code (i + (frS x).length) (onX on x) (seen ++ [(1, 0, 2 + b2i (onX on x))]) (iterM true b (stX x)) ∧ ∀ j, j < stX x → (iterM true b j).over = false := fun {on' W} e1 e2 e3 H1 => by
    have c1 := hc 1 (by rw [e2]; simp)
    have c2 := hc 2 (by rw [e2]; simp)
    rw [e2] at c1 c2
    obtain ⟨a, o⟩ := H1.tail (by omega) (by exact c1) (by exact c2)
    rw [e1, e2, e3]
    refine ⟨a, fun j hj => ?_⟩
    have : j = 0 ∨ j = 1 ∨ j = 2 := by omega
    rcases this with rfl | rfl | rfl
    · exact H.over
    · exact H1.over
    · exact o
  have hm := Int.emod_nonneg x (show (5 : Int) ≠ 0 by decide)
  have hm2 := Int.emod_lt_of_pos x (show (0 : Int) < 5 by decide)
  rcases (show x % 5 = 0 ∨ x % 5 = 1 ∨ (x % 5 = 2 ∨ x % 5 = 3) ∨ x % 5 = 4 by omega) with h | h | h | h
  · have e2 : frS x = [1073741824] ++ [1107427328, 587333632] := by unfold frS; rw [if_pos h]
    have c0 := hc 0 (by rw [e2]; decide)
    rw [e2] at c0
    exact one (by unfold stX; rw [if_neg (by omega)]) e2 (by unfold onX; rw [if_pos h]) (H.cli (by omega) c0)
  · have e2 : frS x = [1090519040] ++ [1107427328, 587333632] := by unfold frS; rw [if_neg (by omega), if_pos h]
    have c0 := hc 0 (by rw [e2]; decide)
    rw [e2] at c0
    exact one (by unfold stX; rw [if_neg (by omega)]) e2 (by unfold onX; rw [if_neg (by omega), if_pos h]) (H.sti (by omega) c0)
  · have e2 : frS x = [234946560, IntKind.i64.wrap (x.tdiv 5) % 4, 1124139008] ++ [1107427328, 587333632] := by unfold frS; rw [if_neg (by omega), if_neg (by omega), if_pos h]
    have e1 : stX x = 4 := by unfold stX; rw [if_pos h]
    have e3 : onX on x = decide (IntKind.i64.wrap (x.tdiv 5) % 4 % 2 = 1) := by unfold onX; rw [if_neg (by omega), if_neg (by omega), if_pos h]
    have c0 := hc 0 (by rw [e2]; simp)
    have c1 := hc 1 (by rw [e2]; simp)
    have c2 := hc 2 (by rw [e2]; simp)
    have c3 := hc 3 (by rw [e2]; simp)
    have c4 := hc 4 (by rw [e2]; simp)
    rw [e2] at c0 c1 c2 c3 c4
    obtain ⟨H1, r1, _⟩ := H.li (by omega) (a := 1) (W := 234946560) (by exact c0) ⟨by decide +kernel, by decide +kernel⟩ (by decide)
    have H2 := H1.sst (by omega) (by exact c2)
    have hr : rg (stepM true b).c.r 1 = IntKind.i64.wrap (x.tdiv 5) % 4 := by
      rw [r1]; unfold rg
      rw [List.getD_eq_getElem?_getD, List.getElem?_set_self (by rw [H.r]; decide)]
      exact c1
    rw [hr] at H2
    obtain ⟨a, o⟩ := H2.tail (by omega) (by exact c3) (by exact c4)
    rw [e1, e2, e3]
    refine ⟨a, fun j hj => ?_⟩
    have : j = 0 ∨ j = 1 ∨ j = 2 ∨ j = 3 := by omega
    rcases this with rfl | rfl | rfl | rfl
    · exact H.over
    · exact H1.over
    · exact H2.over
    · exact o
  · have e2 : frS x = [16777216] ++ [1107427328, 587333632] := by unfold frS; rw [if_neg (by omega), if_neg (by omega), if_neg (by omega)]
    have c0 := hc 0 (by rw [e2]; decide)
    rw [e2] at c0
    exact one (by unfold stX; rw [if_neg (by omega)]) e2 (by unfold onX; rw [if_neg (by omega), if_neg (by omega), if_neg (by omega)]) (H.nop (by omega) c0)
end
theorem st8_0 (code : List Int) (tv : Int) : St8 code 0 false [] (bare0 code (cpuAt 2048 tv)) := ⟨code8 code, rfl, rfl, rfl, rfl, rfl, rfl, rfl⟩
theorem seenO_app (l l' : List Int) : seenO (l ++ l') = seenO l ++ seenO l' := by unfold seenO; simp
theorem runS {l : List Int} (hl : l.length ≤ 30) : ∀ j, j ≤ l.length → St8 (codeA l) (codeS l j).length (onS l j) (seenO (wantS l j)) (iterM true (bare0 (codeA l) (cpuAt 2048 0)) (stS l j)) ∧ ∀ i, i < stS l j → (iterM true (bare0 (codeA l) (cpuAt 2048 0)) i).over = false
  | 0, _ => ⟨st8_0 _ _, fun i hi => by cases hi⟩
  | j + 1, hj => by
    obtain ⟨H, ho⟩ := runS hl j (by omega)
    have hc := codeS_len l j
    obtain ⟨a, o⟩ := H.frag (l.getD j 0) (by omega) fun t ht => codeA_at (by omega) ht
    rw [codeS, onS, wantS, stS, List.length_append, seenO_app, iterM_add]
    refine ⟨a, fun i hi => ?_⟩
    rcases Nat.lt_or_ge i (stS l j) with h | h
    · exact ho i h
    · have := o (i - stS l j) (by omega)
      rwa [← iterM_add, show stS l j + (i - stS l j) = i by omega] at this
def endS (l : List Int) : Nat := stS l l.length + 1
theorem stS_le (l : List Int) : ∀ j, stS l j ≤ 4 * j
  | 0 => Nat.le_refl _
  | j + 1 => by have := stS_le l j; rw [stS]; unfold stX; split <;> omega
theorem wantS_len (l : List Int) : ∀ j, (wantS l j).length = j
  | 0 => rfl
  | j + 1 => by rw [wantS, List.length_append, wantS_len l j]; rfl
theorem status_law {l : List Int} (hl : l.length ≤ 30) : endS l ≤ 121 ∧ (∀ i, i < endS l → (iterM true (bare0 (codeA l) (cpuAt 2048 0)) i).over = false) ∧ (iterM true (bare0 (codeA l) (cpuAt 2048 0)) (endS l)).over = true ∧
    ∃ y, (iterM true (bare0 (codeA l) (cpuAt 2048 0)) (endS l)).d.seen = seenO (wantS l l.length) ++ [(3, 0, y)] := by
  obtain ⟨H, ho⟩ := runS hl l.length (Nat.le_refl _)
  have hc := codeS_len l l.length
  have hs := stS_le l l.length
  obtain ⟨h1, h2, _⟩ := H.halt (by omega) (a := 0) (codeA_end l) ⟨by decide +kernel, by decide +kernel⟩
  refine ⟨by unfold endS; omega, fun i hi => ?_, h1, _, h2⟩
  unfold endS at hi
  rcases Nat.lt_or_ge i (stS l l.length) with h | h
  · exact ho i h
  · rw [show i = stS l l.length by omega]; exact H.over
end Go.Fac

