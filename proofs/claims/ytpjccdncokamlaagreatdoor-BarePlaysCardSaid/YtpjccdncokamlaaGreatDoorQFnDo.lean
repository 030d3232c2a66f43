/- Contracts. -/
import Derived.Test.YtpjccdncokamlaaGreatDoorQFnAlu
set_option linter.unusedVariables false
set_option linter.unusedSimpArgs false
namespace Go.Proofs.YtpjccdncokamlaaGreatDoor
open Go.RowKit Go.Sy Go.Fac
section
variable {ea : Ear} {has : Int → Prop} {gl : List (Nat × SVal)}
def doesL : List Nat := [0, 0, 131, 132, 133, 134, 135, 136, 137, 138, 139, 140, 0, 0, 0, 0, 0, 0, 0, 0, 0, 0, 0, 0, 141]
def doesV (m : Nat) (b c : Int) : SVal := match Nat.beq (doesL.getD m 0) 0 with
  | true => .nilFunc
  | false => .bound (doesL.getD m 0) [.agg [.int .u32 (.full b), .int .u32 (.full c)]]
def rowD (b c : Int) : List SVal := [doesV 0 b c, doesV 1 b c, doesV 2 b c, doesV 3 b c, doesV 4 b c, doesV 5 b c, doesV 6 b c, doesV 7 b c, doesV 8 b c, doesV 9 b c, doesV 10 b c, doesV 11 b c, doesV 12 b c, doesV 13 b c, doesV 14 b c, doesV 15 b c, doesV 16 b c, doesV 17 b c, doesV 18 b c, doesV 19 b c, doesV 20 b c, doesV 21 b c, doesV 22 b c, doesV 23 b c, doesV 24 b c]
abbrev XD (m : Nat) (b c : Int) : Prop := m * 1 + 1 ≤ sumW (rowD b c)
theorem xd {m : Nat} {b c : Int} (h : m < 25) : XD m b c := by
  have : sumW (rowD b c) = 25 := by kernel_rfl
  unfold XD; omega
def runD (gl : List (Nat × SVal)) (b c : Int) (m : Nat) : Prop := Tr.sat (plainQ (doesV m b c)) (run (env gl []) [] (bodyOf Tryz.f119) (start [.agg [.int .u32 (.full b), .int .u32 (.full c)], .int .i64 (.lit (.ofNat m))] 41) (ends (env gl []) Tryz.f119.results.toList))
theorem does0 (gl : List (Nat × SVal)) (b c : Int) : Box (runD gl b c 0) := ⟨(show runD gl b c 0 = (XD 0 b c ∧ (XD 0 b c → True)) by kernel_rfl).mpr ⟨xd (by decide), fun _ => trivial⟩⟩
theorem does1 (gl : List (Nat × SVal)) (b c : Int) : Box (runD gl b c 1) := ⟨(show runD gl b c 1 = (XD 1 b c ∧ (XD 1 b c → True)) by kernel_rfl).mpr ⟨xd (by decide), fun _ => trivial⟩⟩
theorem does2 (gl : List (Nat × SVal)) (b c : Int) : Box (runD gl b c 2) := ⟨(show runD gl b c 2 = (XD 2 b c ∧ (XD 2 b c → b = b ∧ c = c)) by kernel_rfl).mpr ⟨xd (by decide), fun _ => ⟨rfl, rfl⟩⟩⟩
theorem does3 (gl : List (Nat × SVal)) (b c : Int) : Box (runD gl b c 3) := ⟨(show runD gl b c 3 = (XD 3 b c ∧ (XD 3 b c → b = b ∧ c = c)) by kernel_rfl).mpr ⟨xd (by decide), fun _ => ⟨rfl, rfl⟩⟩⟩
theorem does4 (gl : List (Nat × SVal)) (b c : Int) : Box (runD gl b c 4) := ⟨(show runD gl b c 4 = (XD 4 b c ∧ (XD 4 b c → b = b ∧ c = c)) by kernel_rfl).mpr ⟨xd (by decide), fun _ => ⟨rfl, rfl⟩⟩⟩
theorem does5 (gl : List (Nat × SVal)) (b c : Int) : Box (runD gl b c 5) := ⟨(show runD gl b c 5 = (XD 5 b c ∧ (XD 5 b c → b = b ∧ c = c)) by kernel_rfl).mpr ⟨xd (by decide), fun _ => ⟨rfl, rfl⟩⟩⟩
theorem does6 (gl : List (Nat × SVal)) (b c : Int) : Box (runD gl b c 6) := ⟨(show runD gl b c 6 = (XD 6 b c ∧ (XD 6 b c → b = b ∧ c = c)) by kernel_rfl).mpr ⟨xd (by decide), fun _ => ⟨rfl, rfl⟩⟩⟩
theorem does7 (gl : List (Nat × SVal)) (b c : Int) : Box (runD gl b c 7) := ⟨(show runD gl b c 7 = (XD 7 b c ∧ (XD 7 b c → b = b ∧ c = c)) by kernel_rfl).mpr ⟨xd (by decide), fun _ => ⟨rfl, rfl⟩⟩⟩
theorem does8 (gl : List (Nat × SVal)) (b c : Int) : Box (runD gl b c 8) := ⟨(show runD gl b c 8 = (XD 8 b c ∧ (XD 8 b c → b = b ∧ c = c)) by kernel_rfl).mpr ⟨xd (by decide), fun _ => ⟨rfl, rfl⟩⟩⟩
theorem does9 (gl : List (Nat × SVal)) (b c : Int) : Box (runD gl b c 9) := ⟨(show runD gl b c 9 = (XD 9 b c ∧ (XD 9 b c → b = b ∧ c = c)) by kernel_rfl).mpr ⟨xd (by decide), fun _ => ⟨rfl, rfl⟩⟩⟩
theorem does10 (gl : List (Nat × SVal)) (b c : Int) : Box (runD gl b c 10) := ⟨(show runD gl b c 10 = (XD 10 b c ∧ (XD 10 b c → b = b ∧ c = c)) by kernel_rfl).mpr ⟨xd (by decide), fun _ => ⟨rfl, rfl⟩⟩⟩
theorem does11 (gl : List (Nat × SVal)) (b c : Int) : Box (runD gl b c 11) := ⟨(show runD gl b c 11 = (XD 11 b c ∧ (XD 11 b c → b = b ∧ c = c)) by kernel_rfl).mpr ⟨xd (by decide), fun _ => ⟨rfl, rfl⟩⟩⟩
theorem does12 (gl : List (Nat × SVal)) (b c : Int) : Box (runD gl b c 12) := ⟨(show runD gl b c 12 = (XD 12 b c ∧ (XD 12 b c → True)) by kernel_rfl).mpr ⟨xd (by decide), fun _ => trivial⟩⟩
theorem does13 (gl : List (Nat × SVal)) (b c : Int) : Box (runD gl b c 13) := ⟨(show runD gl b c 13 = (XD 13 b c ∧ (XD 13 b c → True)) by kernel_rfl).mpr ⟨xd (by decide), fun _ => trivial⟩⟩
theorem does14 (gl : List (Nat × SVal)) (b c : Int) : Box (runD gl b c 14) := ⟨(show runD gl b c 14 = (XD 14 b c ∧ (XD 14 b c → True)) by kernel_rfl).mpr ⟨xd (by decide), fun _ => trivial⟩⟩
theorem does15 (gl : List (Nat × SVal)) (b c : Int) : Box (runD gl b c 15) := ⟨(show runD gl b c 15 = (XD 15 b c ∧ (XD 15 b c → True)) by kernel_rfl).mpr ⟨xd (by decide), fun _ => trivial⟩⟩
theorem does16 (gl : List (Nat × SVal)) (b c : Int) : Box (runD gl b c 16) := ⟨(show runD gl b c 16 = (XD 16 b c ∧ (XD 16 b c → True)) by kernel_rfl).mpr ⟨xd (by decide), fun _ => trivial⟩⟩
theorem does17 (gl : List (Nat × SVal)) (b c : Int) : Box (runD gl b c 17) := ⟨(show runD gl b c 17 = (XD 17 b c ∧ (XD 17 b c → True)) by kernel_rfl).mpr ⟨xd (by decide), fun _ => trivial⟩⟩
theorem does18 (gl : List (Nat × SVal)) (b c : Int) : Box (runD gl b c 18) := ⟨(show runD gl b c 18 = (XD 18 b c ∧ (XD 18 b c → True)) by kernel_rfl).mpr ⟨xd (by decide), fun _ => trivial⟩⟩
theorem does19 (gl : List (Nat × SVal)) (b c : Int) : Box (runD gl b c 19) := ⟨(show runD gl b c 19 = (XD 19 b c ∧ (XD 19 b c → True)) by kernel_rfl).mpr ⟨xd (by decide), fun _ => trivial⟩⟩
theorem does20 (gl : List (Nat × SVal)) (b c : Int) : Box (runD gl b c 20) := ⟨(show runD gl b c 20 = (XD 20 b c ∧ (XD 20 b c → True)) by kernel_rfl).mpr ⟨xd (by decide), fun _ => trivial⟩⟩
theorem does21 (gl : List (Nat × SVal)) (b c : Int) : Box (runD gl b c 21) := ⟨(show runD gl b c 21 = (XD 21 b c ∧ (XD 21 b c → True)) by kernel_rfl).mpr ⟨xd (by decide), fun _ => trivial⟩⟩
theorem does22 (gl : List (Nat × SVal)) (b c : Int) : Box (runD gl b c 22) := ⟨(show runD gl b c 22 = (XD 22 b c ∧ (XD 22 b c → True)) by kernel_rfl).mpr ⟨xd (by decide), fun _ => trivial⟩⟩
theorem does23 (gl : List (Nat × SVal)) (b c : Int) : Box (runD gl b c 23) := ⟨(show runD gl b c 23 = (XD 23 b c ∧ (XD 23 b c → True)) by kernel_rfl).mpr ⟨xd (by decide), fun _ => trivial⟩⟩
theorem does24 (gl : List (Nat × SVal)) (b c : Int) : Box (runD gl b c 24) := ⟨(show runD gl b c 24 = (XD 24 b c ∧ (XD 24 b c → b = b ∧ c = c)) by kernel_rfl).mpr ⟨xd (by decide), fun _ => ⟨rfl, rfl⟩⟩⟩
theorem upto25 {P : Nat → Prop} (h0 : P 0) (h1 : P 1) (h2 : P 2) (h3 : P 3) (h4 : P 4) (h5 : P 5) (h6 : P 6) (h7 : P 7) (h8 : P 8) (h9 : P 9) (h10 : P 10) (h11 : P 11) (h12 : P 12) (h13 : P 13) (h14 : P 14) (h15 : P 15) (h16 : P 16) (h17 : P 17) (h18 : P 18) (h19 : P 19) (h20 : P 20) (h21 : P 21) (h22 : P 22) (h23 : P 23) (h24 : P 24) : ∀ m, m < 25 → P m
  | 0, _ => h0
  | 1, _ => h1
  | 2, _ => h2
  | 3, _ => h3
  | 4, _ => h4
  | 5, _ => h5
  | 6, _ => h6
  | 7, _ => h7
  | 8, _ => h8
  | 9, _ => h9
  | 10, _ => h10
  | 11, _ => h11
  | 12, _ => h12
  | 13, _ => h13
  | 14, _ => h14
  | 15, _ => h15
  | 16, _ => h16
  | 17, _ => h17
  | 18, _ => h18
  | 19, _ => h19
  | 20, _ => h20
  | 21, _ => h21
  | 22, _ => h22
  | 23, _ => h23
  | 24, _ => h24
  | m + 25, h => absurd h (by omega)
theorem does_ok (gl : List (Nat × SVal)) (b c : Int) : ∀ m, m < 25 → Box (runD gl b c m) :=
  upto25 (P := fun m => Box (runD gl b c m)) (does0 gl b c) (does1 gl b c) (does2 gl b c) (does3 gl b c) (does4 gl b c) (does5 gl b c) (does6 gl b c) (does7 gl b c) (does8 gl b c) (does9 gl b c) (does10 gl b c) (does11 gl b c) (does12 gl b c) (does13 gl b c) (does14 gl b c) (does15 gl b c) (does16 gl b c) (does17 gl b c) (does18 gl b c) (does19 gl b c) (does20 gl b c) (does21 gl b c) (does22 gl b c) (does23 gl b c) (does24 gl b c)
def runE (gl : List (Nat × SVal)) (b c op : Int) : Prop := Tr.sat (plainQ .nilFunc) (run (env gl []) [] (bodyOf Tryz.f119) (start [.agg [.int .u32 (.full b), .int .u32 (.full c)], .int .i64 (.sym op 25 9223372036854775807)] 41) (ends (env gl []) Tryz.f119.results.toList))
theorem does_far (gl : List (Nat × SVal)) (b c op : Int) : runE gl b c op := (show runE gl b c op = True by kernel_rfl).mpr trivial
def runB (gl : List (Nat × SVal)) (b c op : Int) : Prop := Tr.sat (plainQ .nilFunc) (run (env gl []) [] (bodyOf Tryz.f119) (start [.agg [.int .u32 (.full b), .int .u32 (.full c)], .int .i64 (.sym op (-9223372036854775808) (-1))] 41) (ends (env gl []) Tryz.f119.results.toList))
theorem does_low (gl : List (Nat × SVal)) (b c op : Int) : runB gl b c op := (show runB gl b c op = True by kernel_rfl).mpr trivial
def isB (lo hi a b : Int) : Bool := match leB a lo, leB lo a, leB b hi, leB hi b with
  | true, true, true, true => true
  | _, _, _, _ => false
theorem isB_eq {lo hi a b : Int} (h : isB lo hi a b = true) : lo = a ∧ hi = b := by
  unfold isB at h; split at h
  · rename_i h1 h2 h3 h4
    have := leB_iff.1 h1; have := leB_iff.1 h2; have := leB_iff.1 h3; have := leB_iff.1 h4
    omega
  · cases h
def kdoes : List SVal → Nat → Acc ORes := fun a n => match a with
  | [.agg [.int .u32 b, .int .u32 c], .int .i64 (.lit (.ofNat m))] => match Nat.ble (m + 1) 25 with
    | true => .ret { v := doesV m b.val c.val }
    | false => .fail "does"
  | [.agg [.int .u32 b, .int .u32 c], .int .i64 (.sym op lo hi)] => match isB lo hi 25 9223372036854775807 with
    | true => .ret { v := .nilFunc }
    | false => match isB lo hi (-9223372036854775808) (-1) with
      | true => .ret { v := .nilFunc }
      | false => .fail "does"
  | _ => .fail "does"
theorem argdoes (b c : SI) (m : Nat) : (all (subL tAtN none' [] deep [.agg [.int .u32 b, .int .u32 c], .int .i64 (.lit (.ofNat m))] [.agg [.int .u32 (.full b.val), .int .u32 (.full c.val)], .int .i64 (.lit (.ofNat m))])) = (
  SI.val b = SI.val b ∧ SI.val c = SI.val c ∧ Int.ofNat m = Int.ofNat m) := by kernel_rfl
theorem argdoes2 (b c : SI) (op : Int) : (all (subL tAtN none' [] deep [.agg [.int .u32 b, .int .u32 c], .int .i64 (.sym op 25 9223372036854775807)] [.agg [.int .u32 (.full b.val), .int .u32 (.full c.val)], .int .i64 (.sym op 25 9223372036854775807)])) = (
  SI.val b = SI.val b ∧ SI.val c = SI.val c ∧ op = op) := by kernel_rfl
theorem argdoes3 (b c : SI) (op : Int) : (all (subL tAtN none' [] deep [.agg [.int .u32 b, .int .u32 c], .int .i64 (.sym op (-9223372036854775808) (-1))] [.agg [.int .u32 (.full b.val), .int .u32 (.full c.val)], .int .i64 (.sym op (-9223372036854775808) (-1))])) = (
  SI.val b = SI.val b ∧ SI.val c = SI.val c ∧ op = op) := by kernel_rfl
theorem cdoes : Con ea has gl 119 kdoes := by
  refine plain_mk Tryz.func119 41 (con := []) trivial (fun hA hr hv => ?_) (by kernel_rfl) (by kernel_rfl) Tryz.ntmps119
  unfold kdoes at hr; split at hr
  · rename_i b c m
    split at hr
    · rename_i hm
      have hm := Nat.le_of_ble_eq_true hm
      have := ret_ok hr; subst this
      exact ⟨_, [], rfl, rfl, (argdoes b c m).mpr (by simp), rfl, (fun W R ρ0 own0 hown => noSums (by kernel_rfl)), (does_ok gl b.val c.val m hm).h⟩
    · cases hr
  · rename_i b c op lo hi
    split at hr
    · rename_i hl
      obtain ⟨rfl, rfl⟩ := isB_eq hl
      have := ret_ok hr; subst this
      exact ⟨[.agg [.int .u32 (.full b.val), .int .u32 (.full c.val)], .int .i64 (.sym op 25 9223372036854775807)], [], rfl, rfl, (argdoes2 b c op).mpr (by simp), rfl, (fun W R ρ0 own0 hown => noSums (by kernel_rfl)), does_far gl b.val c.val op⟩
    · split at hr
      · rename_i hl
        obtain ⟨rfl, rfl⟩ := isB_eq hl
        have := ret_ok hr; subst this
        exact ⟨[.agg [.int .u32 (.full b.val), .int .u32 (.full c.val)], .int .i64 (.sym op (-9223372036854775808) (-1))], [], rfl, rfl, (argdoes3 b c op).mpr (by simp), rfl, (fun W R ρ0 own0 hown => noSums (by kernel_rfl)), does_low gl b.val c.val op⟩
      · cases hr
  · cases hr
abbrev dcon : List (Nat × (List SVal → Nat → Acc ORes)) := [(115, kWord), (119, kdoes), (131, kpfirst), (132, kpadd), (133, kpsub), (134, kpboth), (135, kpeither), (136, kpunlike), (137, kpup), (138, kpdown), (139, kpless), (140, kpsame), (141, kpmul)]
theorem d32 : RT.dflt RT.u32 = (0 : Int) := rfl
def DN (o a b c m : Int) (r : List Int) (P : Prop) : Prop :=
  ((!wordOk o a b c m) = true → List.replicate (16 : Nat) (0 : RT.ty RT.u32) = doR (In5.mk o a b c m) r ∧ false = doOk (In5.mk o a b c m)) ∧
  ((!wordOk o a b c m) = false → ((0 : Int) ≤ b ∧ b < (↑(16 : Nat) : Int)) ∧ ((0 : Int) ≤ b ∧ b < (↑(16 : Nat) : Int) → (16 : Int) ≠ (0 : Int) ∧ ((16 : Int) ≠ (0 : Int) →
    ((0 : Int) ≤ Int.tmod c (16 : Int) ∧ Int.tmod c (16 : Int) < (↑(16 : Nat) : Int)) ∧ ((0 : Int) ≤ Int.tmod c (16 : Int) ∧ Int.tmod c (16 : Int) < (↑(16 : Nat) : Int) → P))))
def DS (a : Int) (v w : List Int) (d : Bool) : Prop := ((0 : Int) ≤ a ∧ a < (↑(16 : Nat) : Int)) ∧ ((0 : Int) ≤ a ∧ a < (↑(16 : Nat) : Int) → v = w ∧ true = d)
theorem DN.ok {o a b c m : Int} {r : List Int} {P : Prop} (h : wordOk o a b c m = true → 0 ≤ a ∧ a < 16 → c.tmod 16 = c % 16 → P) : DN o a b c m r P := by
  refine ⟨fun g => ?_, fun g => ?_⟩
  · simp at g
    have : doOk (In5.mk o a b c m) = false := by unfold doOk In5.ok; rw [g]; rfl
    simp [doR, this]
  · simp at g
    have q := word_rng g
    have e : c.tmod 16 = c % 16 := Int.tmod_eq_emod_of_nonneg q.2.2.1.1
    refine ⟨⟨q.2.1.1, by omega⟩, fun _ => ⟨by decide, fun _ => ⟨by rw [e]; omega, fun _ => h g ⟨q.1.1, by omega⟩ e⟩⟩⟩
theorem DS.ok {a : Int} {v w : List Int} {d : Bool} (h : 0 ≤ a ∧ a < 16) (e : v = w) (k : d = true) : DS a v w d := ⟨⟨h.1, by omega⟩, fun _ => ⟨e, k.symm⟩⟩
theorem do_no {o a b c m : Int} {r : List Int} (h : aluOps o = false) : List.replicate (16 : Nat) (0 : RT.ty RT.u32) = doR (In5.mk o a b c m) r ∧ false = doOk (In5.mk o a b c m) := by
  have : doOk (In5.mk o a b c m) = false := by unfold doOk; rw [h, Bool.and_false]
  simp [doR, this]
theorem do_is {o a b c m : Int} (g : wordOk o a b c m = true) (h : aluOps o = true) : doOk (In5.mk o a b c m) = true := by
  unfold doOk In5.ok; rw [h, g]; rfl
def runDo (gl : List (Nat × SVal)) (m : Nat) (a b c w : Int) (r : List Int) : Prop := Tr.sat (plainQ (.tuple [.arr .u32 16 (doR ⟨(m : Int), a, b, c, w⟩ r), .bool (.sym (doOk ⟨(m : Int), a, b, c, w⟩))])) (run (env gl dcon) [] (bodyOf Tryz.f105) (start [.agg [.int .i64 (.lit (.ofNat m)), .int .i64 (.full a), .int .i64 (.full b), .int .i64 (.full c), .int .u32 (.full w)], .arr .u32 16 r] Tryz.f105.ntmps) (ends (env gl dcon) Tryz.f105.results.toList))
theorem do0 (gl : List (Nat × SVal)) (a b c w : Int) (r : List Int) : Box (runDo gl 0 a b c w r) := ⟨(show runDo gl 0 a b c w r = DN 0 a b c w r (List.replicate (16 : Nat) (0 : RT.ty RT.u32) = doR (In5.mk 0 a b c w) r ∧ false = doOk (In5.mk 0 a b c w)) by kernel_rfl).mpr (.ok fun g h e => do_no (by decide))⟩
theorem do1 (gl : List (Nat × SVal)) (a b c w : Int) (r : List Int) : Box (runDo gl 1 a b c w r) := ⟨(show runDo gl 1 a b c w r = DN 1 a b c w r (r = doR (In5.mk 1 a b c w) r ∧ true = doOk (In5.mk 1 a b c w)) by kernel_rfl).mpr (.ok fun g h e => by simp [doR, do_is g (by decide)])⟩
theorem do2 (gl : List (Nat × SVal)) (a b c w : Int) (r : List Int) : Box (runDo gl 2 a b c w r) := ⟨(show runDo gl 2 a b c w r = DN 2 a b c w r (DS a (r.set a.toNat (aluW 2 (r.getD b.toNat RT.u32.dflt) (r.getD (c.tmod 16).toNat RT.u32.dflt))) (doR (In5.mk 2 a b c w) r) (doOk (In5.mk 2 a b c w))) by kernel_rfl).mpr (.ok fun g h e => .ok h (by simp [doR, do_is g (by decide), rg, e, d32]) (do_is g (by decide)))⟩
theorem do3 (gl : List (Nat × SVal)) (a b c w : Int) (r : List Int) : Box (runDo gl 3 a b c w r) := ⟨(show runDo gl 3 a b c w r = DN 3 a b c w r (DS a (r.set a.toNat (aluW 3 (r.getD b.toNat RT.u32.dflt) (r.getD (c.tmod 16).toNat RT.u32.dflt))) (doR (In5.mk 3 a b c w) r) (doOk (In5.mk 3 a b c w))) by kernel_rfl).mpr (.ok fun g h e => .ok h (by simp [doR, do_is g (by decide), rg, e, d32]) (do_is g (by decide)))⟩
theorem do4 (gl : List (Nat × SVal)) (a b c w : Int) (r : List Int) : Box (runDo gl 4 a b c w r) := ⟨(show runDo gl 4 a b c w r = DN 4 a b c w r (DS a (r.set a.toNat (aluW 4 (r.getD b.toNat RT.u32.dflt) (r.getD (c.tmod 16).toNat RT.u32.dflt))) (doR (In5.mk 4 a b c w) r) (doOk (In5.mk 4 a b c w))) by kernel_rfl).mpr (.ok fun g h e => .ok h (by simp [doR, do_is g (by decide), rg, e, d32]) (do_is g (by decide)))⟩
theorem do5 (gl : List (Nat × SVal)) (a b c w : Int) (r : List Int) : Box (runDo gl 5 a b c w r) := ⟨(show runDo gl 5 a b c w r = DN 5 a b c w r (DS a (r.set a.toNat (aluW 5 (r.getD b.toNat RT.u32.dflt) (r.getD (c.tmod 16).toNat RT.u32.dflt))) (doR (In5.mk 5 a b c w) r) (doOk (In5.mk 5 a b c w))) by kernel_rfl).mpr (.ok fun g h e => .ok h (by simp [doR, do_is g (by decide), rg, e, d32]) (do_is g (by decide)))⟩
theorem do6 (gl : List (Nat × SVal)) (a b c w : Int) (r : List Int) : Box (runDo gl 6 a b c w r) := ⟨(show runDo gl 6 a b c w r = DN 6 a b c w r (DS a (r.set a.toNat (aluW 6 (r.getD b.toNat RT.u32.dflt) (r.getD (c.tmod 16).toNat RT.u32.dflt))) (doR (In5.mk 6 a b c w) r) (doOk (In5.mk 6 a b c w))) by kernel_rfl).mpr (.ok fun g h e => .ok h (by simp [doR, do_is g (by decide), rg, e, d32]) (do_is g (by decide)))⟩
theorem do7 (gl : List (Nat × SVal)) (a b c w : Int) (r : List Int) : Box (runDo gl 7 a b c w r) := ⟨(show runDo gl 7 a b c w r = DN 7 a b c w r (DS a (r.set a.toNat (aluW 7 (r.getD b.toNat RT.u32.dflt) (r.getD (c.tmod 16).toNat RT.u32.dflt))) (doR (In5.mk 7 a b c w) r) (doOk (In5.mk 7 a b c w))) by kernel_rfl).mpr (.ok fun g h e => .ok h (by simp [doR, do_is g (by decide), rg, e, d32]) (do_is g (by decide)))⟩
theorem do8 (gl : List (Nat × SVal)) (a b c w : Int) (r : List Int) : Box (runDo gl 8 a b c w r) := ⟨(show runDo gl 8 a b c w r = DN 8 a b c w r (DS a (r.set a.toNat (aluW 8 (r.getD b.toNat RT.u32.dflt) (r.getD (c.tmod 16).toNat RT.u32.dflt))) (doR (In5.mk 8 a b c w) r) (doOk (In5.mk 8 a b c w))) by kernel_rfl).mpr (.ok fun g h e => .ok h (by simp [doR, do_is g (by decide), rg, e, d32]) (do_is g (by decide)))⟩
theorem do9 (gl : List (Nat × SVal)) (a b c w : Int) (r : List Int) : Box (runDo gl 9 a b c w r) := ⟨(show runDo gl 9 a b c w r = DN 9 a b c w r (DS a (r.set a.toNat (aluW 9 (r.getD b.toNat RT.u32.dflt) (r.getD (c.tmod 16).toNat RT.u32.dflt))) (doR (In5.mk 9 a b c w) r) (doOk (In5.mk 9 a b c w))) by kernel_rfl).mpr (.ok fun g h e => .ok h (by simp [doR, do_is g (by decide), rg, e, d32]) (do_is g (by decide)))⟩
theorem do10 (gl : List (Nat × SVal)) (a b c w : Int) (r : List Int) : Box (runDo gl 10 a b c w r) := ⟨(show runDo gl 10 a b c w r = DN 10 a b c w r (DS a (r.set a.toNat (aluW 10 (r.getD b.toNat RT.u32.dflt) (r.getD (c.tmod 16).toNat RT.u32.dflt))) (doR (In5.mk 10 a b c w) r) (doOk (In5.mk 10 a b c w))) by kernel_rfl).mpr (.ok fun g h e => .ok h (by simp [doR, do_is g (by decide), rg, e, d32]) (do_is g (by decide)))⟩
theorem do11 (gl : List (Nat × SVal)) (a b c w : Int) (r : List Int) : Box (runDo gl 11 a b c w r) := ⟨(show runDo gl 11 a b c w r = DN 11 a b c w r (DS a (r.set a.toNat (aluW 11 (r.getD b.toNat RT.u32.dflt) (r.getD (c.tmod 16).toNat RT.u32.dflt))) (doR (In5.mk 11 a b c w) r) (doOk (In5.mk 11 a b c w))) by kernel_rfl).mpr (.ok fun g h e => .ok h (by simp [doR, do_is g (by decide), rg, e, d32]) (do_is g (by decide)))⟩
theorem do12 (gl : List (Nat × SVal)) (a b c w : Int) (r : List Int) : Box (runDo gl 12 a b c w r) := ⟨(show runDo gl 12 a b c w r = DN 12 a b c w r (List.replicate (16 : Nat) (0 : RT.ty RT.u32) = doR (In5.mk 12 a b c w) r ∧ false = doOk (In5.mk 12 a b c w)) by kernel_rfl).mpr (.ok fun g h e => do_no (by decide))⟩
theorem do13 (gl : List (Nat × SVal)) (a b c w : Int) (r : List Int) : Box (runDo gl 13 a b c w r) := ⟨(show runDo gl 13 a b c w r = DN 13 a b c w r (List.replicate (16 : Nat) (0 : RT.ty RT.u32) = doR (In5.mk 13 a b c w) r ∧ false = doOk (In5.mk 13 a b c w)) by kernel_rfl).mpr (.ok fun g h e => do_no (by decide))⟩
theorem do14 (gl : List (Nat × SVal)) (a b c w : Int) (r : List Int) : Box (runDo gl 14 a b c w r) := ⟨(show runDo gl 14 a b c w r = DN 14 a b c w r (DS a (r.set a.toNat w) (doR (In5.mk 14 a b c w) r) (doOk (In5.mk 14 a b c w))) by kernel_rfl).mpr (.ok fun g h e => .ok h (by simp [doR, do_is g (by decide)]) (do_is g (by decide)))⟩
theorem do15 (gl : List (Nat × SVal)) (a b c w : Int) (r : List Int) : Box (runDo gl 15 a b c w r) := ⟨(show runDo gl 15 a b c w r = DN 15 a b c w r (DS a (r.set a.toNat w) (doR (In5.mk 15 a b c w) r) (doOk (In5.mk 15 a b c w))) by kernel_rfl).mpr (.ok fun g h e => .ok h (by simp [doR, do_is g (by decide)]) (do_is g (by decide)))⟩
theorem do16 (gl : List (Nat × SVal)) (a b c w : Int) (r : List Int) : Box (runDo gl 16 a b c w r) := ⟨(show runDo gl 16 a b c w r = DN 16 a b c w r (List.replicate (16 : Nat) (0 : RT.ty RT.u32) = doR (In5.mk 16 a b c w) r ∧ false = doOk (In5.mk 16 a b c w)) by kernel_rfl).mpr (.ok fun g h e => do_no (by decide))⟩
theorem do17 (gl : List (Nat × SVal)) (a b c w : Int) (r : List Int) : Box (runDo gl 17 a b c w r) := ⟨(show runDo gl 17 a b c w r = DN 17 a b c w r (List.replicate (16 : Nat) (0 : RT.ty RT.u32) = doR (In5.mk 17 a b c w) r ∧ false = doOk (In5.mk 17 a b c w)) by kernel_rfl).mpr (.ok fun g h e => do_no (by decide))⟩
theorem do18 (gl : List (Nat × SVal)) (a b c w : Int) (r : List Int) : Box (runDo gl 18 a b c w r) := ⟨(show runDo gl 18 a b c w r = DN 18 a b c w r (List.replicate (16 : Nat) (0 : RT.ty RT.u32) = doR (In5.mk 18 a b c w) r ∧ false = doOk (In5.mk 18 a b c w)) by kernel_rfl).mpr (.ok fun g h e => do_no (by decide))⟩
theorem do19 (gl : List (Nat × SVal)) (a b c w : Int) (r : List Int) : Box (runDo gl 19 a b c w r) := ⟨(show runDo gl 19 a b c w r = DN 19 a b c w r (List.replicate (16 : Nat) (0 : RT.ty RT.u32) = doR (In5.mk 19 a b c w) r ∧ false = doOk (In5.mk 19 a b c w)) by kernel_rfl).mpr (.ok fun g h e => do_no (by decide))⟩
theorem do20 (gl : List (Nat × SVal)) (a b c w : Int) (r : List Int) : Box (runDo gl 20 a b c w r) := ⟨(show runDo gl 20 a b c w r = DN 20 a b c w r (List.replicate (16 : Nat) (0 : RT.ty RT.u32) = doR (In5.mk 20 a b c w) r ∧ false = doOk (In5.mk 20 a b c w)) by kernel_rfl).mpr (.ok fun g h e => do_no (by decide))⟩
theorem do21 (gl : List (Nat × SVal)) (a b c w : Int) (r : List Int) : Box (runDo gl 21 a b c w r) := ⟨(show runDo gl 21 a b c w r = DN 21 a b c w r (List.replicate (16 : Nat) (0 : RT.ty RT.u32) = doR (In5.mk 21 a b c w) r ∧ false = doOk (In5.mk 21 a b c w)) by kernel_rfl).mpr (.ok fun g h e => do_no (by decide))⟩
theorem do22 (gl : List (Nat × SVal)) (a b c w : Int) (r : List Int) : Box (runDo gl 22 a b c w r) := ⟨(show runDo gl 22 a b c w r = DN 22 a b c w r (List.replicate (16 : Nat) (0 : RT.ty RT.u32) = doR (In5.mk 22 a b c w) r ∧ false = doOk (In5.mk 22 a b c w)) by kernel_rfl).mpr (.ok fun g h e => do_no (by decide))⟩
theorem do23 (gl : List (Nat × SVal)) (a b c w : Int) (r : List Int) : Box (runDo gl 23 a b c w r) := ⟨(show runDo gl 23 a b c w r = DN 23 a b c w r (List.replicate (16 : Nat) (0 : RT.ty RT.u32) = doR (In5.mk 23 a b c w) r ∧ false = doOk (In5.mk 23 a b c w)) by kernel_rfl).mpr (.ok fun g h e => do_no (by decide))⟩
theorem do24 (gl : List (Nat × SVal)) (a b c w : Int) (r : List Int) : Box (runDo gl 24 a b c w r) := ⟨(show runDo gl 24 a b c w r = DN 24 a b c w r (DS a (r.set a.toNat (aluW 24 (r.getD b.toNat RT.u32.dflt) (r.getD (c.tmod 16).toNat RT.u32.dflt))) (doR (In5.mk 24 a b c w) r) (doOk (In5.mk 24 a b c w))) by kernel_rfl).mpr (.ok fun g h e => .ok h (by simp [doR, do_is g (by decide), rg, e, d32]) (do_is g (by decide)))⟩
theorem doM (gl : List (Nat × SVal)) (a b c w : Int) (r : List Int) : ∀ m, m < 25 → Box (runDo gl m a b c w r) :=
  upto25 (P := fun m => Box (runDo gl m a b c w r)) (do0 gl a b c w r) (do1 gl a b c w r) (do2 gl a b c w r) (do3 gl a b c w r) (do4 gl a b c w r) (do5 gl a b c w r) (do6 gl a b c w r) (do7 gl a b c w r) (do8 gl a b c w r) (do9 gl a b c w r) (do10 gl a b c w r) (do11 gl a b c w r) (do12 gl a b c w r) (do13 gl a b c w r) (do14 gl a b c w r) (do15 gl a b c w r) (do16 gl a b c w r) (do17 gl a b c w r) (do18 gl a b c w r) (do19 gl a b c w r) (do20 gl a b c w r) (do21 gl a b c w r) (do22 gl a b c w r) (do23 gl a b c w r) (do24 gl a b c w r)
def runF (gl : List (Nat × SVal)) (o a b c w : Int) (r : List Int) : Prop := Tr.sat (plainQ (.tuple [.arr .u32 16 (doR ⟨o, a, b, c, w⟩ r), .bool (.sym (doOk ⟨o, a, b, c, w⟩))])) (run (env gl dcon) [] (bodyOf Tryz.f105) (start [.agg [.int .i64 (.sym o 25 9223372036854775807), .int .i64 (.full a), .int .i64 (.full b), .int .i64 (.full c), .int .u32 (.full w)], .arr .u32 16 r] Tryz.f105.ntmps) (ends (env gl dcon) Tryz.f105.results.toList))
def runU (gl : List (Nat × SVal)) (o a b c w : Int) (r : List Int) : Prop := Tr.sat (plainQ (.tuple [.arr .u32 16 (doR ⟨o, a, b, c, w⟩ r), .bool (.sym (doOk ⟨o, a, b, c, w⟩))])) (run (env gl dcon) [] (bodyOf Tryz.f105) (start [.agg [.int .i64 (.sym o (-9223372036854775808) (-1)), .int .i64 (.full a), .int .i64 (.full b), .int .i64 (.full c), .int .u32 (.full w)], .arr .u32 16 r] Tryz.f105.ntmps) (ends (env gl dcon) Tryz.f105.results.toList))
theorem do_far (gl : List (Nat × SVal)) (o a b c w : Int) (r : List Int) (h : 25 ≤ o) : runF gl o a b c w r := (show runF gl o a b c w r = DN o a b c w r (List.replicate (16 : Nat) (0 : RT.ty RT.u32) = doR (In5.mk o a b c w) r ∧ false = doOk (In5.mk o a b c w)) by kernel_rfl).mpr (.ok fun g _ e => do_no (by unfold aluOps; simp; omega))
theorem do_low (gl : List (Nat × SVal)) (o a b c w : Int) (r : List Int) (h : o < 0) : runU gl o a b c w r := (show runU gl o a b c w r = DN o a b c w r (List.replicate (16 : Nat) (0 : RT.ty RT.u32) = doR (In5.mk o a b c w) r ∧ false = doOk (In5.mk o a b c w)) by kernel_rfl).mpr (.ok fun g _ e => do_no (by unfold aluOps; simp; omega))
theorem subI_in {k : IntKind} {a : SI} {n lo hi : Int} (h : a.val = n) (h1 : lo ≤ n) (h2 : n ≤ hi) : all (subI k a (.sym n lo hi)) := by
  show all (match leB lo (a.lo k) && leB (a.hi k) hi with | true => [a.val = n] | false => [a.val = n, lo ≤ n ∧ n ≤ hi])
  split
  · exact h
  · exact ⟨h, h1, h2⟩
def kAluDo : List SVal → Nat → Acc ORes := fun a n => match a with
  | [.agg [.int .i64 o, .int .i64 a, .int .i64 b, .int .i64 c, .int .u32 w], .arr .u32 16 r] => .ret { v := .tuple [.arr .u32 16 (doR ⟨o.val, a.val, b.val, c.val, w.val⟩ r), .bool (.sym (doOk ⟨o.val, a.val, b.val, c.val, w.val⟩))] }
  | _ => .fail "Do"
theorem argAluDo (o a b c w : SI) (r : List Int) (m : Nat) : (all (subL tAtN none' [] deep [.agg [.int .i64 o, .int .i64 a, .int .i64 b, .int .i64 c, .int .u32 w], .arr .u32 16 r] [.agg [.int .i64 (.lit (.ofNat m)), .int .i64 (.full a.val), .int .i64 (.full b.val), .int .i64 (.full c.val), .int .u32 (.full w.val)], .arr .u32 16 r])) = (
  SI.val o = Int.ofNat m ∧ SI.val a = SI.val a ∧ SI.val b = SI.val b ∧ SI.val c = SI.val c ∧ SI.val w = SI.val w ∧ r = r) := by kernel_rfl
theorem argAluDo2 (o a b c w : SI) (r : List Int) (lo hi : Int) (h1 : lo ≤ o.val) (h2 : o.val ≤ hi) : all (subL tAtN none' [] deep [.agg [.int .i64 o, .int .i64 a, .int .i64 b, .int .i64 c, .int .u32 w], .arr .u32 16 r] [.agg [.int .i64 (.sym o.val lo hi), .int .i64 (.full a.val), .int .i64 (.full b.val), .int .i64 (.full c.val), .int .u32 (.full w.val)], .arr .u32 16 r]) := by
  have h0 := subI_in (k := .i64) (a := o) rfl h1 h2
  have e : subL tAtN none' [] deep [.agg [.int .i64 o, .int .i64 a, .int .i64 b, .int .i64 c, .int .u32 w], .arr .u32 16 r] [.agg [.int .i64 (.sym o.val lo hi), .int .i64 (.full a.val), .int .i64 (.full b.val), .int .i64 (.full c.val), .int .u32 (.full w.val)], .arr .u32 16 r] = (subI .i64 o (.sym o.val lo hi) ++ [a.val = a.val, b.val = b.val, c.val = c.val, w.val = w.val]) ++ [r = r] := by kernel_rfl
  rw [e]
  refine all_of fun p hp => ?_
  rcases List.mem_append.1 hp with hp | hp
  · rcases List.mem_append.1 hp with hp | hp
    · exact all_mem h0 p hp
    · simp at hp; exact hp
  · simp at hp; exact hp
set_option maxHeartbeats 4000000 in
theorem cAluDo : Con ea has gl 105 kAluDo := by
  refine plain_mk Tryz.func105 Tryz.f105.ntmps (con := dcon) ⟨cWord, cdoes, cpfirst, cpadd, cpsub, cpboth, cpeither, cpunlike, cpup, cpdown, cpless, cpsame, cpmul, trivial⟩ (fun hA hr hv => ?_) (by kernel_rfl) (by kernel_rfl) Tryz.ntmps105
  unfold kAluDo at hr; split at hr
  · rename_i o a b c w r
    have := ret_ok hr; subst this
    have hin : InI .i64 o := by
      cases hA with
      | cons _ _ _ _ h _ => cases h with | agg _ _ h => cases h with | one _ _ _ _ _ _ h _ => exact h.int_inv.2
    have b1 : -9223372036854775808 ≤ o.val := hin.lo
    have b2 : o.val ≤ 9223372036854775807 := hin.hi
    by_cases h1 : 25 ≤ o.val
    · exact ⟨_, [], rfl, rfl, argAluDo2 o a b c w r 25 9223372036854775807 h1 b2, rfl, (fun W R ρ0 own0 hown => noSums (by kernel_rfl)), do_far gl o.val a.val b.val c.val w.val r h1⟩
    · by_cases h2 : o.val < 0
      · exact ⟨_, [], rfl, rfl, argAluDo2 o a b c w r (-9223372036854775808) (-1) b1 (by omega), rfl, (fun W R ρ0 own0 hown => noSums (by kernel_rfl)), do_low gl o.val a.val b.val c.val w.val r h2⟩
      · obtain ⟨m, hm⟩ := Int.eq_ofNat_of_zero_le (by omega : 0 ≤ o.val)
        rw [hm]
        exact ⟨_, [], rfl, rfl, (argAluDo o a b c w r m).mpr (by simp [hm]), rfl, (fun W R ρ0 own0 hown => noSums (by kernel_rfl)), (doM gl a.val b.val c.val w.val r m (by omega)).h⟩
  · cases hr
end
end Go.Proofs.YtpjccdncokamlaaGreatDoor

