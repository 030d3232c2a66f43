/- Contracts that the proofs use. -/
import Derived.Test.YtceebkojjmmjmaaDoorQFnMk2
set_option linter.unusedVariables false
set_option linter.unusedSimpArgs false
namespace Go.Proofs.YtceebkojjmmjmaaDoor
open Go.RowKit Go.Sy Go.Fac
section
variable {ea : Ear} {has : Int → Prop} {gl : List (Nat × SVal)}
def noneQ (p : Nat → Bool) : Nat → Bool
  | 0 => true
  | n + 1 => noneQ p n && !p n
theorem noneQ_at {p : Nat → Bool} {i n : Nat} (hp : p i = true) (hn : i < n) : noneQ p n = false := by
  induction n with
  | zero => omega
  | succ n ih =>
    rw [noneQ]
    by_cases e : i = n
    · subst e; rw [hp]; simp
    · rw [ih (by omega)]; rfl
theorem noneQ_iff {p : Nat → Bool} {n : Nat} : noneQ p n = true ↔ ∀ i, i < n → p i = false := by
  induction n with
  | zero => simp [noneQ]
  | succ n ih =>
    rw [noneQ, Bool.and_eq_true, ih, Bool.not_eq_true']
    refine ⟨fun ⟨h1, h2⟩ i hi => ?_, fun h => ⟨fun i hi => h i (by omega), h n (by omega)⟩⟩
    by_cases e : i = n
    · rw [e]; exact h2
    · exact h1 i (by omega)
def neP {α : Type} [DecidableEq α] (d : α) (a b : List α) (i : Nat) : Bool := !decide (a.getD i d = b.getD i d)
theorem neP_eq {α : Type} [DecidableEq α] {d : α} {a b : List α} (h : a.length = b.length) : noneQ (neP d a b) a.length = decide (a = b) := by
  rw [Bool.eq_iff_iff, noneQ_iff, decide_eq_true_eq]
  refine ⟨fun hp => List.ext_getElem h fun i h1 h2 => ?_, fun e => by subst e; intro i _; simp [neP]⟩
  have := hp i h1
  simp only [neP, Bool.not_eq_false', decide_eq_true_eq, List.getD_eq_getElem?_getD, List.getElem?_eq_getElem h1, List.getElem?_eq_getElem h2, Option.getD_some] at this
  exact this
theorem relEq (x y : Rel) : (decide (x.at_ = y.at_) && (decide (x.kind = y.kind) && (decide (x.sym = y.sym) && (decide (x.add = y.add) && true)))) = decide (x = y) := by
  cases x; cases y
  rw [Bool.eq_iff_iff]; simp [Rel.mk.injEq]
theorem symEq (x y : Sm) : (decide (x.name = y.name) && (decide (x.in_ = y.in_) && (decide (x.value = y.value) && ((x.global == y.global) && true)))) = decide (x = y) := by
  cases x; cases y
  rw [Bool.eq_iff_iff]; simp [Sm.mk.injEq]
def HeW (a b : List Int) (i : Nat) : SState := { fr := [(0, .ro .u32 a), (1, .ro .u32 b), (12, .int .i64 (.full a.length)), (13, .int .i64 (.sym i 0 1000000))], hp := [], next := 0, sz := 26 }
def XeW (a b : List Int) : SState := { fr := [], hp := [], next := 0, sz := 26 }
def YeW (a b : List Int) : SState := { fr := [(4, .bool (.lit false))], hp := [], next := 0, sz := 26 }
def LeW (a b : List Int) : LSum := ⟨HeW a b 0, fun k => .ite (noneQ (neP RT.u32.dflt a b) a.length) (k (.exit 0) (XeW a b)) (k .ret (YeW a b)), a.length = b.length ∧ a.length ≤ 1000000⟩
theorem beW (gl : List (Nat × SVal)) (a b : List Int) (i : Nat) : (Tr.sat (rnd2 (env gl []) (fun i => noneQ (neP RT.u32.dflt a b) i = true) (a.length) (HeW a b) 0 (noneQ (neP RT.u32.dflt a b) a.length) (XeW a b) (YeW a b) i) (run (env gl []) [] (loopN (bodyOf Tryd.f72) 0) (HeW a b i) .leaf)) = (
  (decide ((↑i : Int) < (↑(List.length a) : Int)) = true → ((0 : Int) ≤ (↑i : Int) ∧ (↑i : Int) < (↑(List.length a) : Int)) ∧ ((0 : Int) ≤ (↑i : Int) ∧ (↑i : Int) < (↑(List.length a) : Int) → ((0 : Int) ≤ (↑i : Int) ∧ (↑i : Int) < (↑(List.length b) : Int)) ∧ ((0 : Int) ≤ (↑i : Int) ∧ (↑i : Int) < (↑(List.length b) : Int) → ((!decide (List.getD a (Int.toNat (↑i : Int)) (RT.dflt RT.u32) = List.getD b (Int.toNat (↑i : Int)) (RT.dflt RT.u32))) = true → noneQ (neP (RT.dflt RT.u32) a b) (List.length a) = false ∧ false = false) ∧ ((!decide (List.getD a (Int.toNat (↑i : Int)) (RT.dflt RT.u32) = List.getD b (Int.toNat (↑i : Int)) (RT.dflt RT.u32))) = false → i < List.length a ∧ noneQ (neP (RT.dflt RT.u32) a b) (i + (1 : Nat)) = true ∧ a = a ∧ b = b ∧ (↑(List.length a) : Int) = (↑(List.length a) : Int) ∧ (↑i : Int) + (1 : Int) = (↑(i + (1 : Nat)) : Int) ∧ (0 : Int) ≤ (↑(i + (1 : Nat)) : Int) ∧ (↑(i + (1 : Nat)) : Int) ≤ (1000000 : Int))))) ∧ (decide ((↑i : Int) < (↑(List.length a) : Int)) = false → Nat.beq (0 : Nat) (0 : Nat) = true ∧ noneQ (neP (RT.dflt RT.u32) a b) (List.length a) = true ∧ True)) := by kernel_rfl
set_option maxHeartbeats 4000000 in
theorem leW (a b : List Int) {W : World} {R own0 : Nat → Prop} {ρ0 : Nat → Option Value} (hown : HownOk (env gl []) own0 ρ0) : LOk Tryd.prog (env gl []) (ctx ea has) gl W R own0 ρ0 (loopN (bodyOf Tryd.f72) 0) (LeW a b) := by
  refine loop2_ok (env_ok (con := []) trivial) hown (ls := fun i => []) (fun i => noSums (by kernel_rfl)) (fun hm i hi hj => (beW gl a b i).mpr ?_) 0 (fun hm => by first | exact Nat.zero_le _ | omega) (fun hm => rfl)
  have hp : neP RT.u32.dflt a b i = !decide (a.getD i RT.u32.dflt = b.getD i RT.u32.dflt) := rfl
  obtain ⟨hm1, hm2⟩ := hm
  skip
  simp only [Int.toNat_natCast, Bool.not_not]
  refine ⟨fun h => ?_, fun h => ?_⟩
  · have h := of_decide_eq_true h
    have hlt : i < a.length := by omega
    refine ⟨by omega, fun _ => ⟨by omega, fun _ => ⟨fun h2 => ⟨noneQ_at (hp.trans h2) hlt, trivial⟩, fun h2 => ?_⟩⟩⟩
    refine ⟨hlt, by rw [noneQ, hj, hp.trans h2]; rfl, ?_⟩
    simp; omega
  · have h := of_decide_eq_false h
    have e : i = a.length := by omega
    subst e
    exact ⟨rfl, hj, trivial⟩
def keW : List SVal → Nat → Acc ORes := fun a n => match a with | [.ro .u32 a, .ro .u32 b] => .ret ({ v := .bool (.sym (decide (a = b))), vc := some (a.length ≤ 1000000) }) | _ => .fail "eW"
theorem argeW (a b : List Int) : (all (subL tAtN none' [] deep [.ro .u32 a, .ro .u32 b] [.ro .u32 a, .ro .u32 b])) = (
  a = a ∧ b = b) := by kernel_rfl
theorem runeW (gl : List (Nat × SVal)) (a : List Int) (b : List Int) : (Tr.sat (plainQ (.bool (.sym (decide (a = b))))) (run (env gl []) [(4, LeW a b)] (bodyOf Tryd.f72) (start [.ro .u32 a, .ro .u32 b] 26) (ends (env gl []) Tryd.f72.results.toList))) = (
  ((!decide ((↑(List.length a) : Int) = (↑(List.length b) : Int))) = true → false = decide (a = b)) ∧ ((!decide ((↑(List.length a) : Int) = (↑(List.length b) : Int))) = false → ((List.length a = List.length b ∧ List.length a ≤ (1000000 : Nat)) ∧ a = a ∧ b = b ∧ (↑(List.length a) : Int) = (↑(List.length a) : Int) ∧ (0 : Int) = (↑(0 : Nat) : Int)) ∧ ((List.length a = List.length b ∧ List.length a ≤ (1000000 : Nat)) ∧ a = a ∧ b = b ∧ (↑(List.length a) : Int) = (↑(List.length a) : Int) ∧ (0 : Int) = (↑(0 : Nat) : Int) → (noneQ (neP (RT.dflt RT.u32) a b) (List.length a) = true → true = decide (a = b)) ∧ (noneQ (neP (RT.dflt RT.u32) a b) (List.length a) = false → false = decide (a = b))))) := by kernel_rfl
set_option maxHeartbeats 4000000 in
theorem ceW : Con ea has gl 72 keW := by
  refine plain_mkB Tryd.func72 26 (con := []) trivial (fun hA hr hv => ?_) (by kernel_rfl) (by kernel_rfl) Tryd.ntmps72
  unfold keW at hr; split at hr
  · rename_i a b
    have := ret_ok hr; subst this
    replace hv := hv _ rfl
    refine ⟨_, [(4, LeW a b)], rfl, rfl, .of (argeW a b) (by simp), rfl, (fun W R ρ0 own0 hown => hl1 (by kernel_rfl) (by kernel_rfl) (leW a b hown)), .of (runeW gl a b) ?_⟩
    clear hr
    refine ⟨fun h => ?_, fun h => ?_⟩
    · have h : ¬ (a.length : Int) = b.length := by simpa using h
      exact (decide_eq_false (fun e => h (by rw [e]))).symm
    · have h : (a.length : Int) = b.length := by simpa using h
      have h : a.length = b.length := by omega
      refine ⟨⟨⟨h, hv⟩, rfl, rfl, rfl, rfl⟩, fun _ => ⟨fun g => ?_, fun g => ?_⟩⟩
      · rw [← neP_eq (d := RT.u32.dflt) h]; exact g.symm
      · rw [← neP_eq (d := RT.u32.dflt) h]; exact g.symm
  · cases hr
def HeB (a b : List Int) (i : Nat) : SState := { fr := [(0, .ro .u8 a), (1, .ro .u8 b), (12, .int .i64 (.full a.length)), (13, .int .i64 (.sym i 0 1000000))], hp := [], next := 0, sz := 26 }
def XeB (a b : List Int) : SState := { fr := [], hp := [], next := 0, sz := 26 }
def YeB (a b : List Int) : SState := { fr := [(4, .bool (.lit false))], hp := [], next := 0, sz := 26 }
def LeB (a b : List Int) : LSum := ⟨HeB a b 0, fun k => .ite (noneQ (neP RT.u8.dflt a b) a.length) (k (.exit 0) (XeB a b)) (k .ret (YeB a b)), a.length = b.length ∧ a.length ≤ 1000000⟩
theorem beB (gl : List (Nat × SVal)) (a b : List Int) (i : Nat) : (Tr.sat (rnd2 (env gl []) (fun i => noneQ (neP RT.u8.dflt a b) i = true) (a.length) (HeB a b) 0 (noneQ (neP RT.u8.dflt a b) a.length) (XeB a b) (YeB a b) i) (run (env gl []) [] (loopN (bodyOf Tryd.f73) 0) (HeB a b i) .leaf)) = (
  (decide ((↑i : Int) < (↑(List.length a) : Int)) = true → ((0 : Int) ≤ (↑i : Int) ∧ (↑i : Int) < (↑(List.length a) : Int)) ∧ ((0 : Int) ≤ (↑i : Int) ∧ (↑i : Int) < (↑(List.length a) : Int) → ((0 : Int) ≤ (↑i : Int) ∧ (↑i : Int) < (↑(List.length b) : Int)) ∧ ((0 : Int) ≤ (↑i : Int) ∧ (↑i : Int) < (↑(List.length b) : Int) → ((!decide (List.getD a (Int.toNat (↑i : Int)) (RT.dflt RT.u8) = List.getD b (Int.toNat (↑i : Int)) (RT.dflt RT.u8))) = true → noneQ (neP (RT.dflt RT.u8) a b) (List.length a) = false ∧ false = false) ∧ ((!decide (List.getD a (Int.toNat (↑i : Int)) (RT.dflt RT.u8) = List.getD b (Int.toNat (↑i : Int)) (RT.dflt RT.u8))) = false → i < List.length a ∧ noneQ (neP (RT.dflt RT.u8) a b) (i + (1 : Nat)) = true ∧ a = a ∧ b = b ∧ (↑(List.length a) : Int) = (↑(List.length a) : Int) ∧ (↑i : Int) + (1 : Int) = (↑(i + (1 : Nat)) : Int) ∧ (0 : Int) ≤ (↑(i + (1 : Nat)) : Int) ∧ (↑(i + (1 : Nat)) : Int) ≤ (1000000 : Int))))) ∧ (decide ((↑i : Int) < (↑(List.length a) : Int)) = false → Nat.beq (0 : Nat) (0 : Nat) = true ∧ noneQ (neP (RT.dflt RT.u8) a b) (List.length a) = true ∧ True)) := by kernel_rfl
set_option maxHeartbeats 4000000 in
theorem leB (a b : List Int) {W : World} {R own0 : Nat → Prop} {ρ0 : Nat → Option Value} (hown : HownOk (env gl []) own0 ρ0) : LOk Tryd.prog (env gl []) (ctx ea has) gl W R own0 ρ0 (loopN (bodyOf Tryd.f73) 0) (LeB a b) := by
  refine loop2_ok (env_ok (con := []) trivial) hown (ls := fun i => []) (fun i => noSums (by kernel_rfl)) (fun hm i hi hj => (beB gl a b i).mpr ?_) 0 (fun hm => by first | exact Nat.zero_le _ | omega) (fun hm => rfl)
  have hp : neP RT.u8.dflt a b i = !decide (a.getD i RT.u8.dflt = b.getD i RT.u8.dflt) := rfl
  obtain ⟨hm1, hm2⟩ := hm
  skip
  simp only [Int.toNat_natCast, Bool.not_not]
  refine ⟨fun h => ?_, fun h => ?_⟩
  · have h := of_decide_eq_true h
    have hlt : i < a.length := by omega
    refine ⟨by omega, fun _ => ⟨by omega, fun _ => ⟨fun h2 => ⟨noneQ_at (hp.trans h2) hlt, trivial⟩, fun h2 => ?_⟩⟩⟩
    refine ⟨hlt, by rw [noneQ, hj, hp.trans h2]; rfl, ?_⟩
    simp; omega
  · have h := of_decide_eq_false h
    have e : i = a.length := by omega
    subst e
    exact ⟨rfl, hj, trivial⟩
def keB : List SVal → Nat → Acc ORes := fun a n => match a with | [.ro .u8 a, .ro .u8 b] => .ret ({ v := .bool (.sym (decide (a = b))), vc := some (a.length ≤ 1000000) }) | _ => .fail "eB"
theorem argeB (a b : List Int) : (all (subL tAtN none' [] deep [.ro .u8 a, .ro .u8 b] [.ro .u8 a, .ro .u8 b])) = (
  a = a ∧ b = b) := by kernel_rfl
theorem runeB (gl : List (Nat × SVal)) (a : List Int) (b : List Int) : (Tr.sat (plainQ (.bool (.sym (decide (a = b))))) (run (env gl []) [(4, LeB a b)] (bodyOf Tryd.f73) (start [.ro .u8 a, .ro .u8 b] 26) (ends (env gl []) Tryd.f73.results.toList))) = (
  ((!decide ((↑(List.length a) : Int) = (↑(List.length b) : Int))) = true → false = decide (a = b)) ∧ ((!decide ((↑(List.length a) : Int) = (↑(List.length b) : Int))) = false → ((List.length a = List.length b ∧ List.length a ≤ (1000000 : Nat)) ∧ a = a ∧ b = b ∧ (↑(List.length a) : Int) = (↑(List.length a) : Int) ∧ (0 : Int) = (↑(0 : Nat) : Int)) ∧ ((List.length a = List.length b ∧ List.length a ≤ (1000000 : Nat)) ∧ a = a ∧ b = b ∧ (↑(List.length a) : Int) = (↑(List.length a) : Int) ∧ (0 : Int) = (↑(0 : Nat) : Int) → (noneQ (neP (RT.dflt RT.u8) a b) (List.length a) = true → true = decide (a = b)) ∧ (noneQ (neP (RT.dflt RT.u8) a b) (List.length a) = false → false = decide (a = b))))) := by kernel_rfl
set_option maxHeartbeats 4000000 in
theorem ceB : Con ea has gl 73 keB := by
  refine plain_mkB Tryd.func73 26 (con := []) trivial (fun hA hr hv => ?_) (by kernel_rfl) (by kernel_rfl) Tryd.ntmps73
  unfold keB at hr; split at hr
  · rename_i a b
    have := ret_ok hr; subst this
    replace hv := hv _ rfl
    refine ⟨_, [(4, LeB a b)], rfl, rfl, .of (argeB a b) (by simp), rfl, (fun W R ρ0 own0 hown => hl1 (by kernel_rfl) (by kernel_rfl) (leB a b hown)), .of (runeB gl a b) ?_⟩
    clear hr
    refine ⟨fun h => ?_, fun h => ?_⟩
    · have h : ¬ (a.length : Int) = b.length := by simpa using h
      exact (decide_eq_false (fun e => h (by rw [e]))).symm
    · have h : (a.length : Int) = b.length := by simpa using h
      have h : a.length = b.length := by omega
      refine ⟨⟨⟨h, hv⟩, rfl, rfl, rfl, rfl⟩, fun _ => ⟨fun g => ?_, fun g => ?_⟩⟩
      · rw [← neP_eq (d := RT.u8.dflt) h]; exact g.symm
      · rw [← neP_eq (d := RT.u8.dflt) h]; exact g.symm
  · cases hr
def HeR (a b : List Rel) (i : Nat) : SState := { fr := [(0, .ro .rel a), (1, .ro .rel b), (12, .int .i64 (.full a.length)), (13, .int .i64 (.sym i 0 1000000))], hp := [], next := 0, sz := 26 }
def XeR (a b : List Rel) : SState := { fr := [], hp := [], next := 0, sz := 26 }
def YeR (a b : List Rel) : SState := { fr := [(4, .bool (.lit false))], hp := [], next := 0, sz := 26 }
def LeR (a b : List Rel) : LSum := ⟨HeR a b 0, fun k => .ite (noneQ (neP RT.rel.dflt a b) a.length) (k (.exit 0) (XeR a b)) (k .ret (YeR a b)), a.length = b.length ∧ a.length ≤ 1000000⟩
theorem beR (gl : List (Nat × SVal)) (a b : List Rel) (i : Nat) : (Tr.sat (rnd2 (env gl []) (fun i => noneQ (neP RT.rel.dflt a b) i = true) (a.length) (HeR a b) 0 (noneQ (neP RT.rel.dflt a b) a.length) (XeR a b) (YeR a b) i) (run (env gl []) [] (loopN (bodyOf Tryd.f74) 0) (HeR a b i) .leaf)) = (
  (decide ((↑i : Int) < (↑(List.length a) : Int)) = true → ((0 : Int) ≤ (↑i : Int) ∧ (↑i : Int) < (↑(List.length a) : Int)) ∧ ((0 : Int) ≤ (↑i : Int) ∧ (↑i : Int) < (↑(List.length a) : Int) → ((0 : Int) ≤ (↑i : Int) ∧ (↑i : Int) < (↑(List.length b) : Int)) ∧ ((0 : Int) ≤ (↑i : Int) ∧ (↑i : Int) < (↑(List.length b) : Int) → ((!(decide ((List.getD a (Int.toNat (↑i : Int)) (RT.dflt RT.rel)).at_ = (List.getD b (Int.toNat (↑i : Int)) (RT.dflt RT.rel)).at_) && (decide ((List.getD a (Int.toNat (↑i : Int)) (RT.dflt RT.rel)).kind = (List.getD b (Int.toNat (↑i : Int)) (RT.dflt RT.rel)).kind) && (decide ((List.getD a (Int.toNat (↑i : Int)) (RT.dflt RT.rel)).sym = (List.getD b (Int.toNat (↑i : Int)) (RT.dflt RT.rel)).sym) && (decide ((List.getD a (Int.toNat (↑i : Int)) (RT.dflt RT.rel)).add = (List.getD b (Int.toNat (↑i : Int)) (RT.dflt RT.rel)).add) && true))))) = true → noneQ (neP (RT.dflt RT.rel) a b) (List.length a) = false ∧ false = false) ∧ ((!(decide ((List.getD a (Int.toNat (↑i : Int)) (RT.dflt RT.rel)).at_ = (List.getD b (Int.toNat (↑i : Int)) (RT.dflt RT.rel)).at_) && (decide ((List.getD a (Int.toNat (↑i : Int)) (RT.dflt RT.rel)).kind = (List.getD b (Int.toNat (↑i : Int)) (RT.dflt RT.rel)).kind) && (decide ((List.getD a (Int.toNat (↑i : Int)) (RT.dflt RT.rel)).sym = (List.getD b (Int.toNat (↑i : Int)) (RT.dflt RT.rel)).sym) && (decide ((List.getD a (Int.toNat (↑i : Int)) (RT.dflt RT.rel)).add = (List.getD b (Int.toNat (↑i : Int)) (RT.dflt RT.rel)).add) && true))))) = false → i < List.length a ∧ noneQ (neP (RT.dflt RT.rel) a b) (i + (1 : Nat)) = true ∧ a = a ∧ b = b ∧ (↑(List.length a) : Int) = (↑(List.length a) : Int) ∧ (↑i : Int) + (1 : Int) = (↑(i + (1 : Nat)) : Int) ∧ (0 : Int) ≤ (↑(i + (1 : Nat)) : Int) ∧ (↑(i + (1 : Nat)) : Int) ≤ (1000000 : Int))))) ∧ (decide ((↑i : Int) < (↑(List.length a) : Int)) = false → Nat.beq (0 : Nat) (0 : Nat) = true ∧ noneQ (neP (RT.dflt RT.rel) a b) (List.length a) = true ∧ True)) := by kernel_rfl
set_option maxHeartbeats 4000000 in
theorem leR (a b : List Rel) {W : World} {R own0 : Nat → Prop} {ρ0 : Nat → Option Value} (hown : HownOk (env gl []) own0 ρ0) : LOk Tryd.prog (env gl []) (ctx ea has) gl W R own0 ρ0 (loopN (bodyOf Tryd.f74) 0) (LeR a b) := by
  refine loop2_ok (env_ok (con := []) trivial) hown (ls := fun i => []) (fun i => noSums (by kernel_rfl)) (fun hm i hi hj => (beR gl a b i).mpr ?_) 0 (fun hm => by first | exact Nat.zero_le _ | omega) (fun hm => rfl)
  have hp : neP RT.rel.dflt a b i = !decide (a.getD i RT.rel.dflt = b.getD i RT.rel.dflt) := rfl
  obtain ⟨hm1, hm2⟩ := hm
  simp only [relEq]
  simp only [Int.toNat_natCast, Bool.not_not]
  refine ⟨fun h => ?_, fun h => ?_⟩
  · have h := of_decide_eq_true h
    have hlt : i < a.length := by omega
    refine ⟨by omega, fun _ => ⟨by omega, fun _ => ⟨fun h2 => ⟨noneQ_at (hp.trans h2) hlt, trivial⟩, fun h2 => ?_⟩⟩⟩
    refine ⟨hlt, by rw [noneQ, hj, hp.trans h2]; rfl, ?_⟩
    simp; omega
  · have h := of_decide_eq_false h
    have e : i = a.length := by omega
    subst e
    exact ⟨rfl, hj, trivial⟩
def keR : List SVal → Nat → Acc ORes := fun a n => match a with | [.ro .rel a, .ro .rel b] => .ret ({ v := .bool (.sym (decide (a = b))), vc := some (a.length ≤ 1000000) }) | _ => .fail "eR"
theorem argeR (a b : List Rel) : (all (subL tAtN none' [] deep [.ro .rel a, .ro .rel b] [.ro .rel a, .ro .rel b])) = (
  a = a ∧ b = b) := by kernel_rfl
theorem runeR (gl : List (Nat × SVal)) (a : List Rel) (b : List Rel) : (Tr.sat (plainQ (.bool (.sym (decide (a = b))))) (run (env gl []) [(4, LeR a b)] (bodyOf Tryd.f74) (start [.ro .rel a, .ro .rel b] 26) (ends (env gl []) Tryd.f74.results.toList))) = (
  ((!decide ((↑(List.length a) : Int) = (↑(List.length b) : Int))) = true → false = decide (a = b)) ∧ ((!decide ((↑(List.length a) : Int) = (↑(List.length b) : Int))) = false → ((List.length a = List.length b ∧ List.length a ≤ (1000000 : Nat)) ∧ a = a ∧ b = b ∧ (↑(List.length a) : Int) = (↑(List.length a) : Int) ∧ (0 : Int) = (↑(0 : Nat) : Int)) ∧ ((List.length a = List.length b ∧ List.length a ≤ (1000000 : Nat)) ∧ a = a ∧ b = b ∧ (↑(List.length a) : Int) = (↑(List.length a) : Int) ∧ (0 : Int) = (↑(0 : Nat) : Int) → (noneQ (neP (RT.dflt RT.rel) a b) (List.length a) = true → true = decide (a = b)) ∧ (noneQ (neP (RT.dflt RT.rel) a b) (List.length a) = false → false = decide (a = b))))) := by kernel_rfl
set_option maxHeartbeats 4000000 in
theorem ceR : Con ea has gl 74 keR := by
  refine plain_mkB Tryd.func74 26 (con := []) trivial (fun hA hr hv => ?_) (by kernel_rfl) (by kernel_rfl) Tryd.ntmps74
  unfold keR at hr; split at hr
  · rename_i a b
    have := ret_ok hr; subst this
    replace hv := hv _ rfl
    refine ⟨_, [(4, LeR a b)], rfl, rfl, .of (argeR a b) (by simp), rfl, (fun W R ρ0 own0 hown => hl1 (by kernel_rfl) (by kernel_rfl) (leR a b hown)), .of (runeR gl a b) ?_⟩
    clear hr
    refine ⟨fun h => ?_, fun h => ?_⟩
    · have h : ¬ (a.length : Int) = b.length := by simpa using h
      exact (decide_eq_false (fun e => h (by rw [e]))).symm
    · have h : (a.length : Int) = b.length := by simpa using h
      have h : a.length = b.length := by omega
      refine ⟨⟨⟨h, hv⟩, rfl, rfl, rfl, rfl⟩, fun _ => ⟨fun g => ?_, fun g => ?_⟩⟩
      · rw [← neP_eq (d := RT.rel.dflt) h]; exact g.symm
      · rw [← neP_eq (d := RT.rel.dflt) h]; exact g.symm
  · cases hr
def HeS (a b : List Sm) (i : Nat) : SState := { fr := [(0, .ro .sym a), (1, .ro .sym b), (12, .int .i64 (.full a.length)), (13, .int .i64 (.sym i 0 1000000))], hp := [], next := 0, sz := 26 }
def XeS (a b : List Sm) : SState := { fr := [], hp := [], next := 0, sz := 26 }
def YeS (a b : List Sm) : SState := { fr := [(4, .bool (.lit false))], hp := [], next := 0, sz := 26 }
def LeS (a b : List Sm) : LSum := ⟨HeS a b 0, fun k => .ite (noneQ (neP RT.sym.dflt a b) a.length) (k (.exit 0) (XeS a b)) (k .ret (YeS a b)), a.length = b.length ∧ a.length ≤ 1000000⟩
theorem beS (gl : List (Nat × SVal)) (a b : List Sm) (i : Nat) : (Tr.sat (rnd2 (env gl []) (fun i => noneQ (neP RT.sym.dflt a b) i = true) (a.length) (HeS a b) 0 (noneQ (neP RT.sym.dflt a b) a.length) (XeS a b) (YeS a b) i) (run (env gl []) [] (loopN (bodyOf Tryd.f75) 0) (HeS a b i) .leaf)) = (
  (decide ((↑i : Int) < (↑(List.length a) : Int)) = true → ((0 : Int) ≤ (↑i : Int) ∧ (↑i : Int) < (↑(List.length a) : Int)) ∧ ((0 : Int) ≤ (↑i : Int) ∧ (↑i : Int) < (↑(List.length a) : Int) → ((0 : Int) ≤ (↑i : Int) ∧ (↑i : Int) < (↑(List.length b) : Int)) ∧ ((0 : Int) ≤ (↑i : Int) ∧ (↑i : Int) < (↑(List.length b) : Int) → ((!(decide ((List.getD a (Int.toNat (↑i : Int)) (RT.dflt RT.sym)).name = (List.getD b (Int.toNat (↑i : Int)) (RT.dflt RT.sym)).name) && (decide ((List.getD a (Int.toNat (↑i : Int)) (RT.dflt RT.sym)).in_ = (List.getD b (Int.toNat (↑i : Int)) (RT.dflt RT.sym)).in_) && (decide ((List.getD a (Int.toNat (↑i : Int)) (RT.dflt RT.sym)).value = (List.getD b (Int.toNat (↑i : Int)) (RT.dflt RT.sym)).value) && ((List.getD a (Int.toNat (↑i : Int)) (RT.dflt RT.sym)).global == (List.getD b (Int.toNat (↑i : Int)) (RT.dflt RT.sym)).global && true))))) = true → noneQ (neP (RT.dflt RT.sym) a b) (List.length a) = false ∧ false = false) ∧ ((!(decide ((List.getD a (Int.toNat (↑i : Int)) (RT.dflt RT.sym)).name = (List.getD b (Int.toNat (↑i : Int)) (RT.dflt RT.sym)).name) && (decide ((List.getD a (Int.toNat (↑i : Int)) (RT.dflt RT.sym)).in_ = (List.getD b (Int.toNat (↑i : Int)) (RT.dflt RT.sym)).in_) && (decide ((List.getD a (Int.toNat (↑i : Int)) (RT.dflt RT.sym)).value = (List.getD b (Int.toNat (↑i : Int)) (RT.dflt RT.sym)).value) && ((List.getD a (Int.toNat (↑i : Int)) (RT.dflt RT.sym)).global == (List.getD b (Int.toNat (↑i : Int)) (RT.dflt RT.sym)).global && true))))) = false → i < List.length a ∧ noneQ (neP (RT.dflt RT.sym) a b) (i + (1 : Nat)) = true ∧ a = a ∧ b = b ∧ (↑(List.length a) : Int) = (↑(List.length a) : Int) ∧ (↑i : Int) + (1 : Int) = (↑(i + (1 : Nat)) : Int) ∧ (0 : Int) ≤ (↑(i + (1 : Nat)) : Int) ∧ (↑(i + (1 : Nat)) : Int) ≤ (1000000 : Int))))) ∧ (decide ((↑i : Int) < (↑(List.length a) : Int)) = false → Nat.beq (0 : Nat) (0 : Nat) = true ∧ noneQ (neP (RT.dflt RT.sym) a b) (List.length a) = true ∧ True)) := by kernel_rfl
set_option maxHeartbeats 4000000 in
theorem leS (a b : List Sm) {W : World} {R own0 : Nat → Prop} {ρ0 : Nat → Option Value} (hown : HownOk (env gl []) own0 ρ0) : LOk Tryd.prog (env gl []) (ctx ea has) gl W R own0 ρ0 (loopN (bodyOf Tryd.f75) 0) (LeS a b) := by
  refine loop2_ok (env_ok (con := []) trivial) hown (ls := fun i => []) (fun i => noSums (by kernel_rfl)) (fun hm i hi hj => (beS gl a b i).mpr ?_) 0 (fun hm => by first | exact Nat.zero_le _ | omega) (fun hm => rfl)
  have hp : neP RT.sym.dflt a b i = !decide (a.getD i RT.sym.dflt = b.getD i RT.sym.dflt) := rfl
  obtain ⟨hm1, hm2⟩ := hm
  simp only [symEq]
  simp only [Int.toNat_natCast, Bool.not_not]
  refine ⟨fun h => ?_, fun h => ?_⟩
  · have h := of_decide_eq_true h
    have hlt : i < a.length := by omega
    refine ⟨by omega, fun _ => ⟨by omega, fun _ => ⟨fun h2 => ⟨noneQ_at (hp.trans h2) hlt, trivial⟩, fun h2 => ?_⟩⟩⟩
    refine ⟨hlt, by rw [noneQ, hj, hp.trans h2]; rfl, ?_⟩
    simp; omega
  · have h := of_decide_eq_false h
    have e : i = a.length := by omega
    subst e
    exact ⟨rfl, hj, trivial⟩
def keS : List SVal → Nat → Acc ORes := fun a n => match a with | [.ro .sym a, .ro .sym b] => .ret ({ v := .bool (.sym (decide (a = b))), vc := some (a.length ≤ 1000000) }) | _ => .fail "eS"
theorem argeS (a b : List Sm) : (all (subL tAtN none' [] deep [.ro .sym a, .ro .sym b] [.ro .sym a, .ro .sym b])) = (
  a = a ∧ b = b) := by kernel_rfl
theorem runeS (gl : List (Nat × SVal)) (a : List Sm) (b : List Sm) : (Tr.sat (plainQ (.bool (.sym (decide (a = b))))) (run (env gl []) [(4, LeS a b)] (bodyOf Tryd.f75) (start [.ro .sym a, .ro .sym b] 26) (ends (env gl []) Tryd.f75.results.toList))) = (
  ((!decide ((↑(List.length a) : Int) = (↑(List.length b) : Int))) = true → false = decide (a = b)) ∧ ((!decide ((↑(List.length a) : Int) = (↑(List.length b) : Int))) = false → ((List.length a = List.length b ∧ List.length a ≤ (1000000 : Nat)) ∧ a = a ∧ b = b ∧ (↑(List.length a) : Int) = (↑(List.length a) : Int) ∧ (0 : Int) = (↑(0 : Nat) : Int)) ∧ ((List.length a = List.length b ∧ List.length a ≤ (1000000 : Nat)) ∧ a = a ∧ b = b ∧ (↑(List.length a) : Int) = (↑(List.length a) : Int) ∧ (0 : Int) = (↑(0 : Nat) : Int) → (noneQ (neP (RT.dflt RT.sym) a b) (List.length a) = true → true = decide (a = b)) ∧ (noneQ (neP (RT.dflt RT.sym) a b) (List.length a) = false → false = decide (a = b))))) := by kernel_rfl
set_option maxHeartbeats 4000000 in
theorem ceS : Con ea has gl 75 keS := by
  refine plain_mkB Tryd.func75 26 (con := []) trivial (fun hA hr hv => ?_) (by kernel_rfl) (by kernel_rfl) Tryd.ntmps75
  unfold keS at hr; split at hr
  · rename_i a b
    have := ret_ok hr; subst this
    replace hv := hv _ rfl
    refine ⟨_, [(4, LeS a b)], rfl, rfl, .of (argeS a b) (by simp), rfl, (fun W R ρ0 own0 hown => hl1 (by kernel_rfl) (by kernel_rfl) (leS a b hown)), .of (runeS gl a b) ?_⟩
    clear hr
    refine ⟨fun h => ?_, fun h => ?_⟩
    · have h : ¬ (a.length : Int) = b.length := by simpa using h
      exact (decide_eq_false (fun e => h (by rw [e]))).symm
    · have h : (a.length : Int) = b.length := by simpa using h
      have h : a.length = b.length := by omega
      refine ⟨⟨⟨h, hv⟩, rfl, rfl, rfl, rfl⟩, fun _ => ⟨fun g => ?_, fun g => ?_⟩⟩
      · rw [← neP_eq (d := RT.sym.dflt) h]; exact g.symm
      · rw [← neP_eq (d := RT.sym.dflt) h]; exact g.symm
  · cases hr
def HfB (a b : List Int) (i : Nat) : SState := { fr := [(0, .ro .u8 a), (1, .ro .u8 b), (5, .int .i64 (.sym i 0 1000000))], hp := [], next := 0, sz := 29 }
def XfB (a b : List Int) : SState := { fr := [], hp := [], next := 0, sz := 29 }
def YfB (a b : List Int) : SState := { fr := [(4, .bool (.lit false))], hp := [], next := 0, sz := 29 }
def LfB (a b : List Int) : LSum := ⟨HfB a b 0, fun k => .ite (noneQ (neP RT.u8.dflt a b) a.length) (k (.exit 0) (XfB a b)) (k .ret (YfB a b)), a.length = b.length ∧ a.length ≤ 1000000⟩
theorem bfB (gl : List (Nat × SVal)) (a b : List Int) (i : Nat) : (Tr.sat (rnd2 (env gl []) (fun i => noneQ (neP RT.u8.dflt a b) i = true) (a.length) (HfB a b) 0 (noneQ (neP RT.u8.dflt a b) a.length) (XfB a b) (YfB a b) i) (run (env gl []) [] (loopN (bodyOf Tryd.f32) 0) (HfB a b i) .leaf)) = (
  (decide ((↑i : Int) < (↑(List.length a) : Int)) = true → ((0 : Int) ≤ (↑i : Int) ∧ (↑i : Int) < (↑(List.length a) : Int)) ∧ ((0 : Int) ≤ (↑i : Int) ∧ (↑i : Int) < (↑(List.length a) : Int) → ((0 : Int) ≤ (↑i : Int) ∧ (↑i : Int) < (↑(List.length b) : Int)) ∧ ((0 : Int) ≤ (↑i : Int) ∧ (↑i : Int) < (↑(List.length b) : Int) → ((!decide (List.getD a (Int.toNat (↑i : Int)) (RT.dflt RT.u8) = List.getD b (Int.toNat (↑i : Int)) (RT.dflt RT.u8))) = true → noneQ (neP (RT.dflt RT.u8) a b) (List.length a) = false ∧ false = false) ∧ ((!decide (List.getD a (Int.toNat (↑i : Int)) (RT.dflt RT.u8) = List.getD b (Int.toNat (↑i : Int)) (RT.dflt RT.u8))) = false → i < List.length a ∧ noneQ (neP (RT.dflt RT.u8) a b) (i + (1 : Nat)) = true ∧ a = a ∧ b = b ∧ (↑i : Int) + (1 : Int) = (↑(i + (1 : Nat)) : Int) ∧ (0 : Int) ≤ (↑(i + (1 : Nat)) : Int) ∧ (↑(i + (1 : Nat)) : Int) ≤ (1000000 : Int))))) ∧ (decide ((↑i : Int) < (↑(List.length a) : Int)) = false → Nat.beq (0 : Nat) (0 : Nat) = true ∧ noneQ (neP (RT.dflt RT.u8) a b) (List.length a) = true ∧ True)) := by kernel_rfl
set_option maxHeartbeats 4000000 in
theorem lfB (a b : List Int) {W : World} {R own0 : Nat → Prop} {ρ0 : Nat → Option Value} (hown : HownOk (env gl []) own0 ρ0) : LOk Tryd.prog (env gl []) (ctx ea has) gl W R own0 ρ0 (loopN (bodyOf Tryd.f32) 0) (LfB a b) := by
  refine loop2_ok (env_ok (con := []) trivial) hown (ls := fun i => []) (fun i => noSums (by kernel_rfl)) (fun hm i hi hj => (bfB gl a b i).mpr ?_) 0 (fun hm => by first | exact Nat.zero_le _ | omega) (fun hm => rfl)
  have hp : neP RT.u8.dflt a b i = !decide (a.getD i RT.u8.dflt = b.getD i RT.u8.dflt) := rfl
  obtain ⟨hm1, hm2⟩ := hm
  skip
  simp only [Int.toNat_natCast, Bool.not_not]
  refine ⟨fun h => ?_, fun h => ?_⟩
  · have h := of_decide_eq_true h
    have hlt : i < a.length := by omega
    refine ⟨by omega, fun _ => ⟨by omega, fun _ => ⟨fun h2 => ⟨noneQ_at (hp.trans h2) hlt, trivial⟩, fun h2 => ?_⟩⟩⟩
    refine ⟨hlt, by rw [noneQ, hj, hp.trans h2]; rfl, ?_⟩
    simp; omega
  · have h := of_decide_eq_false h
    have e : i = a.length := by omega
    subst e
    exact ⟨rfl, hj, trivial⟩
def kfB : List SVal → Nat → Acc ORes := fun a n => match a with | [.ro .u8 a, .ro .u8 b] => .ret ({ v := .bool (.sym (decide (a = b))), vc := some (a.length ≤ 1000000) }) | _ => .fail "fB"
theorem argfB (a b : List Int) : (all (subL tAtN none' [] deep [.ro .u8 a, .ro .u8 b] [.ro .u8 a, .ro .u8 b])) = (
  a = a ∧ b = b) := by kernel_rfl
theorem runfB (gl : List (Nat × SVal)) (a : List Int) (b : List Int) : (Tr.sat (plainQ (.bool (.sym (decide (a = b))))) (run (env gl []) [(4, LfB a b)] (bodyOf Tryd.f32) (start [.ro .u8 a, .ro .u8 b] 29) (ends (env gl []) Tryd.f32.results.toList))) = (
  ((!decide ((↑(List.length a) : Int) = (↑(List.length b) : Int))) = true → false = decide (a = b)) ∧ ((!decide ((↑(List.length a) : Int) = (↑(List.length b) : Int))) = false → ((List.length a = List.length b ∧ List.length a ≤ (1000000 : Nat)) ∧ a = a ∧ b = b ∧ (0 : Int) = (↑(0 : Nat) : Int)) ∧ ((List.length a = List.length b ∧ List.length a ≤ (1000000 : Nat)) ∧ a = a ∧ b = b ∧ (0 : Int) = (↑(0 : Nat) : Int) → (noneQ (neP (RT.dflt RT.u8) a b) (List.length a) = true → true = decide (a = b)) ∧ (noneQ (neP (RT.dflt RT.u8) a b) (List.length a) = false → false = decide (a = b))))) := by kernel_rfl
set_option maxHeartbeats 4000000 in
theorem cfB : Con ea has gl 32 kfB := by
  refine plain_mkB Tryd.func32 29 (con := []) trivial (fun hA hr hv => ?_) (by kernel_rfl) (by kernel_rfl) Tryd.ntmps32
  unfold kfB at hr; split at hr
  · rename_i a b
    have := ret_ok hr; subst this
    replace hv := hv _ rfl
    refine ⟨_, [(4, LfB a b)], rfl, rfl, .of (argfB a b) (by simp), rfl, (fun W R ρ0 own0 hown => hl1 (by kernel_rfl) (by kernel_rfl) (lfB a b hown)), .of (runfB gl a b) ?_⟩
    clear hr
    refine ⟨fun h => ?_, fun h => ?_⟩
    · have h : ¬ (a.length : Int) = b.length := by simpa using h
      exact (decide_eq_false (fun e => h (by rw [e]))).symm
    · have h : (a.length : Int) = b.length := by simpa using h
      have h : a.length = b.length := by omega
      refine ⟨⟨⟨h, hv⟩, rfl, rfl, rfl⟩, fun _ => ⟨fun g => ?_, fun g => ?_⟩⟩
      · rw [← neP_eq (d := RT.u8.dflt) h]; exact g.symm
      · rw [← neP_eq (d := RT.u8.dflt) h]; exact g.symm
  · cases hr
def HfI (a b : List Int) (i : Nat) : SState := { fr := [(0, .ro .i64 a), (1, .ro .i64 b), (5, .int .i64 (.sym i 0 1000000))], hp := [], next := 0, sz := 29 }
def XfI (a b : List Int) : SState := { fr := [], hp := [], next := 0, sz := 29 }
def YfI (a b : List Int) : SState := { fr := [(4, .bool (.lit false))], hp := [], next := 0, sz := 29 }
def LfI (a b : List Int) : LSum := ⟨HfI a b 0, fun k => .ite (noneQ (neP RT.i64.dflt a b) a.length) (k (.exit 0) (XfI a b)) (k .ret (YfI a b)), a.length = b.length ∧ a.length ≤ 1000000⟩
theorem bfI (gl : List (Nat × SVal)) (a b : List Int) (i : Nat) : (Tr.sat (rnd2 (env gl []) (fun i => noneQ (neP RT.i64.dflt a b) i = true) (a.length) (HfI a b) 0 (noneQ (neP RT.i64.dflt a b) a.length) (XfI a b) (YfI a b) i) (run (env gl []) [] (loopN (bodyOf Tryd.f48) 0) (HfI a b i) .leaf)) = (
  (decide ((↑i : Int) < (↑(List.length a) : Int)) = true → ((0 : Int) ≤ (↑i : Int) ∧ (↑i : Int) < (↑(List.length a) : Int)) ∧ ((0 : Int) ≤ (↑i : Int) ∧ (↑i : Int) < (↑(List.length a) : Int) → ((0 : Int) ≤ (↑i : Int) ∧ (↑i : Int) < (↑(List.length b) : Int)) ∧ ((0 : Int) ≤ (↑i : Int) ∧ (↑i : Int) < (↑(List.length b) : Int) → ((!decide (List.getD a (Int.toNat (↑i : Int)) (RT.dflt RT.i64) = List.getD b (Int.toNat (↑i : Int)) (RT.dflt RT.i64))) = true → noneQ (neP (RT.dflt RT.i64) a b) (List.length a) = false ∧ false = false) ∧ ((!decide (List.getD a (Int.toNat (↑i : Int)) (RT.dflt RT.i64) = List.getD b (Int.toNat (↑i : Int)) (RT.dflt RT.i64))) = false → i < List.length a ∧ noneQ (neP (RT.dflt RT.i64) a b) (i + (1 : Nat)) = true ∧ a = a ∧ b = b ∧ (↑i : Int) + (1 : Int) = (↑(i + (1 : Nat)) : Int) ∧ (0 : Int) ≤ (↑(i + (1 : Nat)) : Int) ∧ (↑(i + (1 : Nat)) : Int) ≤ (1000000 : Int))))) ∧ (decide ((↑i : Int) < (↑(List.length a) : Int)) = false → Nat.beq (0 : Nat) (0 : Nat) = true ∧ noneQ (neP (RT.dflt RT.i64) a b) (List.length a) = true ∧ True)) := by kernel_rfl
set_option maxHeartbeats 4000000 in
theorem lfI (a b : List Int) {W : World} {R own0 : Nat → Prop} {ρ0 : Nat → Option Value} (hown : HownOk (env gl []) own0 ρ0) : LOk Tryd.prog (env gl []) (ctx ea has) gl W R own0 ρ0 (loopN (bodyOf Tryd.f48) 0) (LfI a b) := by
  refine loop2_ok (env_ok (con := []) trivial) hown (ls := fun i => []) (fun i => noSums (by kernel_rfl)) (fun hm i hi hj => (bfI gl a b i).mpr ?_) 0 (fun hm => by first | exact Nat.zero_le _ | omega) (fun hm => rfl)
  have hp : neP RT.i64.dflt a b i = !decide (a.getD i RT.i64.dflt = b.getD i RT.i64.dflt) := rfl
  obtain ⟨hm1, hm2⟩ := hm
  skip
  simp only [Int.toNat_natCast, Bool.not_not]
  refine ⟨fun h => ?_, fun h => ?_⟩
  · have h := of_decide_eq_true h
    have hlt : i < a.length := by omega
    refine ⟨by omega, fun _ => ⟨by omega, fun _ => ⟨fun h2 => ⟨noneQ_at (hp.trans h2) hlt, trivial⟩, fun h2 => ?_⟩⟩⟩
    refine ⟨hlt, by rw [noneQ, hj, hp.trans h2]; rfl, ?_⟩
    simp; omega
  · have h := of_decide_eq_false h
    have e : i = a.length := by omega
    subst e
    exact ⟨rfl, hj, trivial⟩
def kfI : List SVal → Nat → Acc ORes := fun a n => match a with | [.ro .i64 a, .ro .i64 b] => .ret ({ v := .bool (.sym (decide (a = b))), vc := some (a.length ≤ 1000000) }) | _ => .fail "fI"
theorem argfI (a b : List Int) : (all (subL tAtN none' [] deep [.ro .i64 a, .ro .i64 b] [.ro .i64 a, .ro .i64 b])) = (
  a = a ∧ b = b) := by kernel_rfl
theorem runfI (gl : List (Nat × SVal)) (a : List Int) (b : List Int) : (Tr.sat (plainQ (.bool (.sym (decide (a = b))))) (run (env gl []) [(4, LfI a b)] (bodyOf Tryd.f48) (start [.ro .i64 a, .ro .i64 b] 29) (ends (env gl []) Tryd.f48.results.toList))) = (
  ((!decide ((↑(List.length a) : Int) = (↑(List.length b) : Int))) = true → false = decide (a = b)) ∧ ((!decide ((↑(List.length a) : Int) = (↑(List.length b) : Int))) = false → ((List.length a = List.length b ∧ List.length a ≤ (1000000 : Nat)) ∧ a = a ∧ b = b ∧ (0 : Int) = (↑(0 : Nat) : Int)) ∧ ((List.length a = List.length b ∧ List.length a ≤ (1000000 : Nat)) ∧ a = a ∧ b = b ∧ (0 : Int) = (↑(0 : Nat) : Int) → (noneQ (neP (RT.dflt RT.i64) a b) (List.length a) = true → true = decide (a = b)) ∧ (noneQ (neP (RT.dflt RT.i64) a b) (List.length a) = false → false = decide (a = b))))) := by kernel_rfl
set_option maxHeartbeats 4000000 in
theorem cfI : Con ea has gl 48 kfI := by
  refine plain_mkB Tryd.func48 29 (con := []) trivial (fun hA hr hv => ?_) (by kernel_rfl) (by kernel_rfl) Tryd.ntmps48
  unfold kfI at hr; split at hr
  · rename_i a b
    have := ret_ok hr; subst this
    replace hv := hv _ rfl
    refine ⟨_, [(4, LfI a b)], rfl, rfl, .of (argfI a b) (by simp), rfl, (fun W R ρ0 own0 hown => hl1 (by kernel_rfl) (by kernel_rfl) (lfI a b hown)), .of (runfI gl a b) ?_⟩
    clear hr
    refine ⟨fun h => ?_, fun h => ?_⟩
    · have h : ¬ (a.length : Int) = b.length := by simpa using h
      exact (decide_eq_false (fun e => h (by rw [e]))).symm
    · have h : (a.length : Int) = b.length := by simpa using h
      have h : a.length = b.length := by omega
      refine ⟨⟨⟨h, hv⟩, rfl, rfl, rfl⟩, fun _ => ⟨fun g => ?_, fun g => ?_⟩⟩
      · rw [← neP_eq (d := RT.i64.dflt) h]; exact g.symm
      · rw [← neP_eq (d := RT.i64.dflt) h]; exact g.symm
  · cases hr
def HfT (a b : List ByteArray) (i : Nat) : SState := { fr := [(0, .ro .str a), (1, .ro .str b), (5, .int .i64 (.sym i 0 1000000))], hp := [], next := 0, sz := 29 }
def XfT (a b : List ByteArray) : SState := { fr := [], hp := [], next := 0, sz := 29 }
def YfT (a b : List ByteArray) : SState := { fr := [(4, .bool (.lit false))], hp := [], next := 0, sz := 29 }
def LfT (a b : List ByteArray) : LSum := ⟨HfT a b 0, fun k => .ite (noneQ (neP RT.str.dflt a b) a.length) (k (.exit 0) (XfT a b)) (k .ret (YfT a b)), a.length = b.length ∧ a.length ≤ 1000000⟩
theorem bfT (gl : List (Nat × SVal)) (a b : List ByteArray) (i : Nat) : (Tr.sat (rnd2 (env gl []) (fun i => noneQ (neP RT.str.dflt a b) i = true) (a.length) (HfT a b) 0 (noneQ (neP RT.str.dflt a b) a.length) (XfT a b) (YfT a b) i) (run (env gl []) [] (loopN (bodyOf Tryd.f46) 0) (HfT a b i) .leaf)) = (
  (decide ((↑i : Int) < (↑(List.length a) : Int)) = true → ((0 : Int) ≤ (↑i : Int) ∧ (↑i : Int) < (↑(List.length a) : Int)) ∧ ((0 : Int) ≤ (↑i : Int) ∧ (↑i : Int) < (↑(List.length a) : Int) → ((0 : Int) ≤ (↑i : Int) ∧ (↑i : Int) < (↑(List.length b) : Int)) ∧ ((0 : Int) ≤ (↑i : Int) ∧ (↑i : Int) < (↑(List.length b) : Int) → ((!decide (List.getD a (Int.toNat (↑i : Int)) (RT.dflt RT.str) = List.getD b (Int.toNat (↑i : Int)) (RT.dflt RT.str))) = true → noneQ (neP (RT.dflt RT.str) a b) (List.length a) = false ∧ false = false) ∧ ((!decide (List.getD a (Int.toNat (↑i : Int)) (RT.dflt RT.str) = List.getD b (Int.toNat (↑i : Int)) (RT.dflt RT.str))) = false → i < List.length a ∧ noneQ (neP (RT.dflt RT.str) a b) (i + (1 : Nat)) = true ∧ a = a ∧ b = b ∧ (↑i : Int) + (1 : Int) = (↑(i + (1 : Nat)) : Int) ∧ (0 : Int) ≤ (↑(i + (1 : Nat)) : Int) ∧ (↑(i + (1 : Nat)) : Int) ≤ (1000000 : Int))))) ∧ (decide ((↑i : Int) < (↑(List.length a) : Int)) = false → Nat.beq (0 : Nat) (0 : Nat) = true ∧ noneQ (neP (RT.dflt RT.str) a b) (List.length a) = true ∧ True)) := by kernel_rfl
set_option maxHeartbeats 4000000 in
theorem lfT (a b : List ByteArray) {W : World} {R own0 : Nat → Prop} {ρ0 : Nat → Option Value} (hown : HownOk (env gl []) own0 ρ0) : LOk Tryd.prog (env gl []) (ctx ea has) gl W R own0 ρ0 (loopN (bodyOf Tryd.f46) 0) (LfT a b) := by
  refine loop2_ok (env_ok (con := []) trivial) hown (ls := fun i => []) (fun i => noSums (by kernel_rfl)) (fun hm i hi hj => (bfT gl a b i).mpr ?_) 0 (fun hm => by first | exact Nat.zero_le _ | omega) (fun hm => rfl)
  have hp : neP RT.str.dflt a b i = !decide (a.getD i RT.str.dflt = b.getD i RT.str.dflt) := rfl
  obtain ⟨hm1, hm2⟩ := hm
  skip
  simp only [Int.toNat_natCast, Bool.not_not]
  refine ⟨fun h => ?_, fun h => ?_⟩
  · have h := of_decide_eq_true h
    have hlt : i < a.length := by omega
    refine ⟨by omega, fun _ => ⟨by omega, fun _ => ⟨fun h2 => ⟨noneQ_at (hp.trans h2) hlt, trivial⟩, fun h2 => ?_⟩⟩⟩
    refine ⟨hlt, by rw [noneQ, hj, hp.trans h2]; rfl, ?_⟩
    simp; omega
  · have h := of_decide_eq_false h
    have e : i = a.length := by omega
    subst e
    exact ⟨rfl, hj, trivial⟩
def kfT : List SVal → Nat → Acc ORes := fun a n => match a with | [.ro .str a, .ro .str b] => .ret ({ v := .bool (.sym (decide (a = b))), vc := some (a.length ≤ 1000000) }) | _ => .fail "fT"
theorem argfT (a b : List ByteArray) : (all (subL tAtN none' [] deep [.ro .str a, .ro .str b] [.ro .str a, .ro .str b])) = (
  a = a ∧ b = b) := by kernel_rfl
theorem runfT (gl : List (Nat × SVal)) (a : List ByteArray) (b : List ByteArray) : (Tr.sat (plainQ (.bool (.sym (decide (a = b))))) (run (env gl []) [(4, LfT a b)] (bodyOf Tryd.f46) (start [.ro .str a, .ro .str b] 29) (ends (env gl []) Tryd.f46.results.toList))) = (
  ((!decide ((↑(List.length a) : Int) = (↑(List.length b) : Int))) = true → false = decide (a = b)) ∧ ((!decide ((↑(List.length a) : Int) = (↑(List.length b) : Int))) = false → ((List.length a = List.length b ∧ List.length a ≤ (1000000 : Nat)) ∧ a = a ∧ b = b ∧ (0 : Int) = (↑(0 : Nat) : Int)) ∧ ((List.length a = List.length b ∧ List.length a ≤ (1000000 : Nat)) ∧ a = a ∧ b = b ∧ (0 : Int) = (↑(0 : Nat) : Int) → (noneQ (neP (RT.dflt RT.str) a b) (List.length a) = true → true = decide (a = b)) ∧ (noneQ (neP (RT.dflt RT.str) a b) (List.length a) = false → false = decide (a = b))))) := by kernel_rfl
set_option maxHeartbeats 4000000 in
theorem cfT : Con ea has gl 46 kfT := by
  refine plain_mkB Tryd.func46 29 (con := []) trivial (fun hA hr hv => ?_) (by kernel_rfl) (by kernel_rfl) Tryd.ntmps46
  unfold kfT at hr; split at hr
  · rename_i a b
    have := ret_ok hr; subst this
    replace hv := hv _ rfl
    refine ⟨_, [(4, LfT a b)], rfl, rfl, .of (argfT a b) (by simp), rfl, (fun W R ρ0 own0 hown => hl1 (by kernel_rfl) (by kernel_rfl) (lfT a b hown)), .of (runfT gl a b) ?_⟩
    clear hr
    refine ⟨fun h => ?_, fun h => ?_⟩
    · have h : ¬ (a.length : Int) = b.length := by simpa using h
      exact (decide_eq_false (fun e => h (by rw [e]))).symm
    · have h : (a.length : Int) = b.length := by simpa using h
      have h : a.length = b.length := by omega
      refine ⟨⟨⟨h, hv⟩, rfl, rfl, rfl⟩, fun _ => ⟨fun g => ?_, fun g => ?_⟩⟩
      · rw [← neP_eq (d := RT.str.dflt) h]; exact g.symm
      · rw [← neP_eq (d := RT.str.dflt) h]; exact g.symm
  · cases hr
def sameOb (d c m : List Int) (dr cr : List Rel) (sy : List Sm) (d' c' m' : List Int) (dr' cr' : List Rel) (sy' : List Sm) : Bool :=
  decide (d = d') && decide (c = c') && decide (m = m') && decide (dr = dr') && decide (cr = cr') && decide (sy = sy')
def lenOb (d c m : List Int) (dr cr : List Rel) (sy : List Sm) : Prop := d.length ≤ 1000000 ∧ c.length ≤ 1000000 ∧ m.length ≤ 1000000 ∧ dr.length ≤ 1000000 ∧ cr.length ≤ 1000000 ∧ sy.length ≤ 1000000
def shOb : Shp := .agg [.ro .u32, .ro .u32, .ro .u8, .ro .rel, .ro .rel, .ro .sym]
def kSame : List SVal → Nat → Acc ORes := fun a n => match a with | [.agg [.ro .u32 d, .ro .u32 c, .ro .u8 m, .ro .rel dr, .ro .rel cr, .ro .sym sy], .agg [.ro .u32 d', .ro .u32 c', .ro .u8 m', .ro .rel dr', .ro .rel cr', .ro .sym sy']] => .ret ({ v := .bool (.sym (sameOb d c m dr cr sy d' c' m' dr' cr' sy')), vc := some (lenOb d c m dr cr sy) }) | _ => .fail "Same"
theorem argSame (d c m : List Int) (dr cr : List Rel) (sy : List Sm) (d' c' m' : List Int) (dr' cr' : List Rel) (sy' : List Sm) : (all (subL tAtN none' [] deep [.agg [.ro .u32 d, .ro .u32 c, .ro .u8 m, .ro .rel dr, .ro .rel cr, .ro .sym sy], .agg [.ro .u32 d', .ro .u32 c', .ro .u8 m', .ro .rel dr', .ro .rel cr', .ro .sym sy']] [.agg [.ro .u32 d, .ro .u32 c, .ro .u8 m, .ro .rel dr, .ro .rel cr, .ro .sym sy], .agg [.ro .u32 d', .ro .u32 c', .ro .u8 m', .ro .rel dr', .ro .rel cr', .ro .sym sy']])) = (
  d = d ∧ c = c ∧ m = m ∧ dr = dr ∧ cr = cr ∧ sy = sy ∧ d' = d' ∧ c' = c' ∧ m' = m' ∧ dr' = dr' ∧ cr' = cr' ∧ sy' = sy') := by kernel_rfl
theorem runSame (gl : List (Nat × SVal)) (d : List Int) (c : List Int) (m : List Int) (dr : List Rel) (cr : List Rel) (sy : List Sm) (d' : List Int) (c' : List Int) (m' : List Int) (dr' : List Rel) (cr' : List Rel) (sy' : List Sm) : (Tr.sat (plainQ (.bool (.sym (sameOb d c m dr cr sy d' c' m' dr' cr' sy')))) (run (env gl [(72, keW), (73, keB), (74, keR), (75, keS)]) [] (bodyOf Tryd.f35) (start [.agg [.ro .u32 d, .ro .u32 c, .ro .u8 m, .ro .rel dr, .ro .rel cr, .ro .sym sy], .agg [.ro .u32 d', .ro .u32 c', .ro .u8 m', .ro .rel dr', .ro .rel cr', .ro .sym sy']] 45) (ends (env gl [(72, keW), (73, keB), (74, keR), (75, keS)]) Tryd.f35.results.toList))) = (
  List.length d ≤ (1000000 : Nat) ∧ (List.length d ≤ (1000000 : Nat) → (decide (d = d') = true → List.length c ≤ (1000000 : Nat)) ∧ ((decide (d = d') = true → List.length c ≤ (1000000 : Nat)) → ((decide (d = d') && decide (c = c')) = true → List.length m ≤ (1000000 : Nat)) ∧ (((decide (d = d') && decide (c = c')) = true → List.length m ≤ (1000000 : Nat)) → ((decide (d = d') && decide (c = c') && decide (m = m')) = true → List.length dr ≤ (1000000 : Nat)) ∧ (((decide (d = d') && decide (c = c') && decide (m = m')) = true → List.length dr ≤ (1000000 : Nat)) → ((decide (d = d') && decide (c = c') && decide (m = m') && decide (dr = dr')) = true → List.length cr ≤ (1000000 : Nat)) ∧ (((decide (d = d') && decide (c = c') && decide (m = m') && decide (dr = dr')) = true → List.length cr ≤ (1000000 : Nat)) → ((decide (d = d') && decide (c = c') && decide (m = m') && decide (dr = dr') && decide (cr = cr')) = true → List.length sy ≤ (1000000 : Nat)) ∧ (((decide (d = d') && decide (c = c') && decide (m = m') && decide (dr = dr') && decide (cr = cr')) = true → List.length sy ≤ (1000000 : Nat)) → (decide (d = d') && decide (c = c') && decide (m = m') && decide (dr = dr') && decide (cr = cr') && decide (sy = sy')) = sameOb d c m dr cr sy d' c' m' dr' cr' sy'))))))) := by kernel_rfl
set_option maxHeartbeats 4000000 in
theorem cSame : Con ea has gl 35 kSame := by
  refine plain_mkB Tryd.func35 45 (con := [(72, keW), (73, keB), (74, keR), (75, keS)]) ⟨ceW, ceB, ceR, ceS, trivial⟩ (fun hA hr hv => ?_) (by kernel_rfl) (by kernel_rfl) Tryd.ntmps35
  unfold kSame at hr; split at hr
  · rename_i d c m dr cr sy d' c' m' dr' cr' sy'
    have := ret_ok hr; subst this
    replace hv := hv _ rfl
    refine ⟨_, [], rfl, rfl, .of (argSame d c m dr cr sy d' c' m' dr' cr' sy') (by simp), rfl, (fun W R ρ0 own0 hown => noSums (by kernel_rfl)), .of (runSame gl d c m dr cr sy d' c' m' dr' cr' sy') ?_⟩
    clear hr
    obtain ⟨h1, h2, h3, h4, h5, h6⟩ := hv
    exact ⟨h1, fun _ => ⟨fun _ => h2, fun _ => ⟨fun _ => h3, fun _ => ⟨fun _ => h4, fun _ => ⟨fun _ => h5, fun _ => ⟨fun _ => h6, fun _ => rfl⟩⟩⟩⟩⟩⟩
  · cases hr
abbrev kCloneB := kClone .u8
theorem runCloneB0 (gl : List (Nat × SVal)) : (Tr.sat (newQ (env gl []) (.own 0) [(0, .recs .u8 [])] 1) (run (env gl []) [] (bodyOf Tryd.f88) (start [.nilslice] 8) (ends (env gl []) Tryd.f88.results.toList))) = (
  @List.nil (RT.ty RT.u8) = @List.nil (RT.ty RT.u8)) := by kernel_rfl
theorem runCloneB1 (gl : List (Nat × SVal)) (l : List Int) : (Tr.sat (newQ (env gl []) (.own 0) [(0, .recs .u8 l)] 1) (run (env gl []) [] (bodyOf Tryd.f88) (start [.roN .u8 l] 8) (ends (env gl []) Tryd.f88.results.toList))) = (
  List.length (@List.nil (RT.ty RT.u8)) + List.length l ≤ (137438953472 : Nat) ∧ (List.length (@List.nil (RT.ty RT.u8)) + List.length l ≤ (137438953472 : Nat) → @List.nil (RT.ty RT.u8) ++ l = l)) := by kernel_rfl
theorem cCloneB : Con ea has gl 88 (kClone .u8) := by
  refine clone_mk Tryd.func88 8 ?_ ?_ (by kernel_rfl) (by kernel_rfl) (by kernel_rfl) Tryd.ntmps88 rfl
  · have := runCloneB0 gl; exact this.mpr rfl
  · intro l hl; exact (runCloneB1 gl l).mpr ⟨by simpa using hl, fun _ => rfl⟩
abbrev kSameB := bor [shOb, shOb] kSame
theorem cSameB : Con ea has gl 35 kSameB := bor_ok cSame _
end
end Go.Proofs.YtceebkojjmmjmaaDoor

