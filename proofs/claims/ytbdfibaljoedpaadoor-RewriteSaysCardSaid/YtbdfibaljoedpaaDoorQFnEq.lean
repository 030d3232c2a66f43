/- Contracts that the proofs use. -/
import Derived.Test.YtbdfibaljoedpaaDoorQFnMk2
set_option linter.unusedVariables false
set_option linter.unusedSimpArgs false
namespace Go.Proofs.YtbdfibaljoedpaaDoor
open Go.RowKit Go.Sy Go.Fac
section
variable {ea : Int → Addr} {has : Int → Prop} {gl : List (Nat × SVal)}
def noneQ (p : Nat → Bool) : Nat → Bool
  | 0 => true
  | n + 1 => noneQ p n && !p n
theorem noneQ_at {p : Nat → Bool} {i n : Nat} (hp : p i = true) (hn : i < n) : noneQ p n = false := by
  induction n with
  | zero => omega
  | succ n ih =>
    rw [noneQ]
    by_cases e : i = n
    · subst e; rw [hp]; simp
    · rw [ih (by omega)]; rfl
theorem noneQ_iff {p : Nat → Bool} {n : Nat} : noneQ p n = true ↔ ∀ i, i < n → p i = false := by
  induction n with
  | zero => simp [noneQ]
  | succ n ih =>
    rw [noneQ, Bool.and_eq_true, ih, Bool.not_eq_true']
    refine ⟨fun ⟨h1, h2⟩ i hi => ?_, fun h => ⟨fun i hi => h i (by omega), h n (by omega)⟩⟩
    by_cases e : i = n
    · rw [e]; exact h2
    · exact h1 i (by omega)
def neP {α : Type} [DecidableEq α] (d : α) (a b : List α) (i : Nat) : Bool := !decide (a.getD i d = b.getD i d)
theorem neP_eq {α : Type} [DecidableEq α] {d : α} {a b : List α} (h : a.length = b.length) : noneQ (neP d a b) a.length = decide (a = b) := by
  rw [Bool.eq_iff_iff, noneQ_iff, decide_eq_true_eq]
  refine ⟨fun hp => List.ext_getElem h fun i h1 h2 => ?_, fun e => by subst e; intro i _; simp [neP]⟩
  have := hp i h1
  simp only [neP, Bool.not_eq_false', decide_eq_true_eq, List.getD_eq_getElem?_getD, List.getElem?_eq_getElem h1, List.getElem?_eq_getElem h2, Option.getD_some] at this
  exact this
theorem relEq (x y : Rel) : (decide (x.at_ = y.at_) && (decide (x.kind = y.kind) && (decide (x.sym = y.sym) && (decide (x.add = y.add) && true)))) = decide (x = y) := by
  cases x; cases y
  rw [Bool.eq_iff_iff]; simp [Rel.mk.injEq]
theorem symEq (x y : Sm) : (decide (x.name = y.name) && (decide (x.in_ = y.in_) && (decide (x.value = y.value) && ((x.global == y.global) && true)))) = decide (x = y) := by
  cases x; cases y
  rw [Bool.eq_iff_iff]; simp [Sm.mk.injEq]
def HeW (a b : List Int) (i : Nat) : SState := { fr := [(0, .ro .u32 a), (1, .ro .u32 b), (12, .int .i64 (.full a.length)), (13, .int .i64 (.sym i 0 1000000))], hp := [], next := 0, sz := 26 }
def XeW (a b : List Int) : SState := { fr := [], hp := [], next := 0, sz := 26 }
def YeW (a b : List Int) : SState := { fr := [(4, .bool (.lit false))], hp := [], next := 0, sz := 26 }
def LeW (a b : List Int) : LSum := ⟨HeW a b 0, fun k => .ite (noneQ (neP RT.u32.dflt a b) a.length) (k (.exit 0) (XeW a b)) (k .ret (YeW a b)), a.length = b.length ∧ a.length ≤ 1000000⟩
theorem beW (gl : List (Nat × SVal)) (a b : List Int) (i : Nat) : (Tr.sat (rnd2 (env gl []) (fun i => noneQ (neP RT.u32.dflt a b) i = true) (a.length) (HeW a b) 0 (noneQ (neP RT.u32.dflt a b) a.length) (XeW a b) (YeW a b) i) (run (env gl []) [] (loopN (bodyOf Tryd.f72) 0) (HeW a b i) .leaf)) = (
  (decide ((↑i : Int) < (↑(List.length a) : Int)) = true → ((0 : Int) ≤ (↑i : Int) ∧ (↑i : Int) < (↑(List.length a) : Int)) ∧ ((0 : Int) ≤ (↑i : Int) ∧ (↑i : Int) < (↑(List.length a) : Int) → ((0 : Int) ≤ (↑i : Int) ∧ (↑i : Int) < (↑(List.length b) : Int)) ∧ ((0 : Int) ≤ (↑i : Int) ∧ (↑i : Int) < (↑(List.length b) : Int) → ((!decide (List.getD a (Int.toNat (↑i : Int)) (RT.dflt RT.u32) = List.getD b (Int.toNat (↑i : Int)) (RT.dflt RT.u32))) = true → noneQ (neP (RT.dflt RT.u32) a b) (List.length a) = false ∧ false = false) ∧ ((!decide (List.getD a (Int.toNat (↑i : Int)) (RT.dflt RT.u32) = List.getD b (Int.toNat (↑i : Int)) (RT.dflt RT.u32))) = false → i < List.length a ∧ noneQ (neP (RT.dflt RT.u32) a b) (i + (1 : Nat)) = true ∧ a = a ∧ b = b ∧ (↑(List.length a) : Int) = (↑(List.length a) : Int) ∧ (↑i : Int) + (1 : Int) = (↑(i + (1 : Nat)) : Int) ∧ (0 : Int) ≤ (↑(i + (1 : Nat)) : Int) ∧ (↑(i + (1 : Nat)) : Int) ≤ (1000000 : Int))))) ∧ (decide ((↑i : Int) < (↑(List.length a) : Int)) = false → Nat.beq (0 : Nat) (0 : Nat) = true ∧ noneQ (neP (RT.dflt RT.u32) a b) (List.length a) = true ∧ True)) := by kernel_rfl
set_option maxHeartbeats 4000000 in
theorem leW (a b : List Int) {W : World} {R own0 : Nat → Prop} {ρ0 : Nat → Option Value} (hown : HownOk (env gl []) own0 ρ0) : LOk Tryd.prog (env gl []) (ctx ea has) gl W R own0 ρ0 (loopN (bodyOf Tryd.f72) 0) (LeW a b) := by
  refine loop2_ok (env_ok (con := []) trivial) hown (ls := fun i => []) (fun i => noLoops (by kernel_rfl)) (fun hm i hi hj => (beW gl a b i).mpr ?_) 0 (fun hm => by first | exact Nat.zero_le _ | omega) (fun hm => rfl)
  have hp : neP RT.u32.dflt a b i = !decide (a.getD i RT.u32.dflt = b.getD i RT.u32.dflt) := rfl
  obtain ⟨hm1, hm2⟩ := hm
  skip
  simp only [Int.toNat_natCast, Bool.not_not]
  refine ⟨fun h => ?_, fun h => ?_⟩
  · have h := of_decide_eq_true h
    have hlt : i < a.length := by omega
    refine ⟨by omega, fun _ => ⟨by omega, fun _ => ⟨fun h2 => ⟨noneQ_at (hp.trans h2) hlt, trivial⟩, fun h2 => ?_⟩⟩⟩
    refine ⟨hlt, by rw [noneQ, hj, hp.trans h2]; rfl, ?_⟩
    simp; omega
  · have h := of_decide_eq_false h
    have e : i = a.length := by omega
    subst e
    exact ⟨rfl, hj, trivial⟩
def keW : List SVal → Nat → Acc ORes := fun a n => match a with | [.ro .u32 a, .ro .u32 b] => .ret ({ v := .bool (.sym (decide (a = b))), vc := some (a.length ≤ 1000000) }) | _ => .fail "eW"
theorem argeW (a b : List Int) : (all (subL 134 none' [] deep [.ro .u32 a, .ro .u32 b] [.ro .u32 a, .ro .u32 b])) = (
  a = a ∧ b = b) := by kernel_rfl
theorem runeW (gl : List (Nat × SVal)) (a b : List Int) : (Tr.sat (plainQ (.bool (.sym (decide (a = b))))) (run (env gl []) [(4, LeW a b)] (bodyOf Tryd.f72) (start [.ro .u32 a, .ro .u32 b] 26) (ends (env gl []) Tryd.f72.results.toList))) = (
  ((!decide ((↑(List.length a) : Int) = (↑(List.length b) : Int))) = true → false = decide (a = b)) ∧ ((!decide ((↑(List.length a) : Int) = (↑(List.length b) : Int))) = false → ((List.length a = List.length b ∧ List.length a ≤ (1000000 : Nat)) ∧ a = a ∧ b = b ∧ (↑(List.length a) : Int) = (↑(List.length a) : Int) ∧ (0 : Int) = (↑(0 : Nat) : Int)) ∧ ((List.length a = List.length b ∧ List.length a ≤ (1000000 : Nat)) ∧ a = a ∧ b = b ∧ (↑(List.length a) : Int) = (↑(List.length a) : Int) ∧ (0 : Int) = (↑(0 : Nat) : Int) → (noneQ (neP (RT.dflt RT.u32) a b) (List.length a) = true → true = decide (a = b)) ∧ (noneQ (neP (RT.dflt RT.u32) a b) (List.length a) = false → false = decide (a = b))))) := by kernel_rfl
set_option maxHeartbeats 4000000 in
theorem ceW : Con ea has gl 72 keW := by
  refine plain_mk Tryd.func72 26 (con := []) trivial (fun hA hr hv => ?_) (by kernel_rfl) (by kernel_rfl) Tryd.ntmps72
  unfold keW at hr; split at hr
  · rename_i a b
    have := ret_ok hr; subst this
    replace hv := hv _ rfl
    refine ⟨_, [(4, LeW a b)], rfl, rfl, (argeW a b).mpr (by simp), rfl, (fun W R ρ0 own0 hown => hl1 (by kernel_rfl) (by kernel_rfl) (leW a b hown)), (runeW gl a b).mpr ?_⟩
    clear hr
    refine ⟨fun h => ?_, fun h => ?_⟩
    · have h : ¬ (a.length : Int) = b.length := by simpa using h
      exact (decide_eq_false (fun e => h (by rw [e]))).symm
    · have h : (a.length : Int) = b.length := by simpa using h
      have h : a.length = b.length := by omega
      refine ⟨⟨⟨h, hv⟩, rfl, rfl, rfl, rfl⟩, fun _ => ⟨fun g => ?_, fun g => ?_⟩⟩
      · rw [← neP_eq (d := RT.u32.dflt) h]; exact g.symm
      · rw [← neP_eq (d := RT.u32.dflt) h]; exact g.symm
  · cases hr
def HeB (a b : List Int) (i : Nat) : SState := { fr := [(0, .ro .u8 a), (1, .ro .u8 b), (12, .int .i64 (.full a.length)), (13, .int .i64 (.sym i 0 1000000))], hp := [], next := 0, sz := 26 }
def XeB (a b : List Int) : SState := { fr := [], hp := [], next := 0, sz := 26 }
def YeB (a b : List Int) : SState := { fr := [(4, .bool (.lit false))], hp := [], next := 0, sz := 26 }
def LeB (a b : List Int) : LSum := ⟨HeB a b 0, fun k => .ite (noneQ (neP RT.u8.dflt a b) a.length) (k (.exit 0) (XeB a b)) (k .ret (YeB a b)), a.length = b.length ∧ a.length ≤ 1000000⟩
theorem beB (gl : List (Nat × SVal)) (a b : List Int) (i : Nat) : (Tr.sat (rnd2 (env gl []) (fun i => noneQ (neP RT.u8.dflt a b) i = true) (a.length) (HeB a b) 0 (noneQ (neP RT.u8.dflt a b) a.length) (XeB a b) (YeB a b) i) (run (env gl []) [] (loopN (bodyOf Tryd.f73) 0) (HeB a b i) .leaf)) = (
  (decide ((↑i : Int) < (↑(List.length a) : Int)) = true → ((0 : Int) ≤ (↑i : Int) ∧ (↑i : Int) < (↑(List.length a) : Int)) ∧ ((0 : Int) ≤ (↑i : Int) ∧ (↑i : Int) < (↑(List.length a) : Int) → ((0 : Int) ≤ (↑i : Int) ∧ (↑i : Int) < (↑(List.length b) : Int)) ∧ ((0 : Int) ≤ (↑i : Int) ∧ (↑i : Int) < (↑(List.length b) : Int) → ((!decide (List.getD a (Int.toNat (↑i : Int)) (RT.dflt RT.u8) = List.getD b (Int.toNat (↑i : Int)) (RT.dflt RT.u8))) = true → noneQ (neP (RT.dflt RT.u8) a b) (List.length a) = false ∧ false = false) ∧ ((!decide (List.getD a (Int.toNat (↑i : Int)) (RT.dflt RT.u8) = List.getD b (Int.toNat (↑i : Int)) (RT.dflt RT.u8))) = false → i < List.length a ∧ noneQ (neP (RT.dflt RT.u8) a b) (i + (1 : Nat)) = true ∧ a = a ∧ b = b ∧ (↑(List.length a) : Int) = (↑(List.length a) : Int) ∧ (↑i : Int) + (1 : Int) = (↑(i + (1 : Nat)) : Int) ∧ (0 : Int) ≤ (↑(i + (1 : Nat)) : Int) ∧ (↑(i + (1 : Nat)) : Int) ≤ (1000000 : Int))))) ∧ (decide ((↑i : Int) < (↑(List.length a) : Int)) = false → Nat.beq (0 : Nat) (0 : Nat) = true ∧ noneQ (neP (RT.dflt RT.u8) a b) (List.length a) = true ∧ True)) := by kernel_rfl
set_option maxHeartbeats 4000000 in
theorem leB (a b : List Int) {W : World} {R own0 : Nat → Prop} {ρ0 : Nat → Option Value} (hown : HownOk (env gl []) own0 ρ0) : LOk Tryd.prog (env gl []) (ctx ea has) gl W R own0 ρ0 (loopN (bodyOf Tryd.f73) 0) (LeB a b) := by
  refine loop2_ok (env_ok (con := []) trivial) hown (ls := fun i => []) (fun i => noLoops (by kernel_rfl)) (fun hm i hi hj => (beB gl a b i).mpr ?_) 0 (fun hm => by first | exact Nat.zero_le _ | omega) (fun hm => rfl)
  have hp : neP RT.u8.dflt a b i = !decide (a.getD i RT.u8.dflt = b.getD i RT.u8.dflt) := rfl
  obtain ⟨hm1, hm2⟩ := hm
  skip
  simp only [Int.toNat_natCast, Bool.not_not]
  refine ⟨fun h => ?_, fun h => ?_⟩
  · have h := of_decide_eq_true h
    have hlt : i < a.length := by omega
    refine ⟨by omega, fun _ => ⟨by omega, fun _ => ⟨fun h2 => ⟨noneQ_at (hp.trans h2) hlt, trivial⟩, fun h2 => ?_⟩⟩⟩
    refine ⟨hlt, by rw [noneQ, hj, hp.trans h2]; rfl, ?_⟩
    simp; omega
  · have h := of_decide_eq_false h
    have e : i = a.length := by omega
    subst e
    exact ⟨rfl, hj, trivial⟩
def keB : List SVal → Nat → Acc ORes := fun a n => match a with | [.ro .u8 a, .ro .u8 b] => .ret ({ v := .bool (.sym (decide (a = b))), vc := some (a.length ≤ 1000000) }) | _ => .fail "eB"
theorem argeB (a b : List Int) : (all (subL 134 none' [] deep [.ro .u8 a, .ro .u8 b] [.ro .u8 a, .ro .u8 b])) = (
  a = a ∧ b = b) := by kernel_rfl
theorem runeB (gl : List (Nat × SVal)) (a b : List Int) : (Tr.sat (plainQ (.bool (.sym (decide (a = b))))) (run (env gl []) [(4, LeB a b)] (bodyOf Tryd.f73) (start [.ro .u8 a, .ro .u8 b] 26) (ends (env gl []) Tryd.f73.results.toList))) = (
  ((!decide ((↑(List.length a) : Int) = (↑(List.length b) : Int))) = true → false = decide (a = b)) ∧ ((!decide ((↑(List.length a) : Int) = (↑(List.length b) : Int))) = false → ((List.length a = List.length b ∧ List.length a ≤ (1000000 : Nat)) ∧ a = a ∧ b = b ∧ (↑(List.length a) : Int) = (↑(List.length a) : Int) ∧ (0 : Int) = (↑(0 : Nat) : Int)) ∧ ((List.length a = List.length b ∧ List.length a ≤ (1000000 : Nat)) ∧ a = a ∧ b = b ∧ (↑(List.length a) : Int) = (↑(List.length a) : Int) ∧ (0 : Int) = (↑(0 : Nat) : Int) → (noneQ (neP (RT.dflt RT.u8) a b) (List.length a) = true → true = decide (a = b)) ∧ (noneQ (neP (RT.dflt RT.u8) a b) (List.length a) = false → false = decide (a = b))))) := by kernel_rfl
set_option maxHeartbeats 4000000 in
theorem ceB : Con ea has gl 73 keB := by
  refine plain_mk Tryd.func73 26 (con := []) trivial (fun hA hr hv => ?_) (by kernel_rfl) (by kernel_rfl) Tryd.ntmps73
  unfold keB at hr; split at hr
  · rename_i a b
    have := ret_ok hr; subst this
    replace hv := hv _ rfl
    refine ⟨_, [(4, LeB a b)], rfl, rfl, (argeB a b).mpr (by simp), rfl, (fun W R ρ0 own0 hown => hl1 (by kernel_rfl) (by kernel_rfl) (leB a b hown)), (runeB gl a b).mpr ?_⟩
    clear hr
    refine ⟨fun h => ?_, fun h => ?_⟩
    · have h : ¬ (a.length : Int) = b.length := by simpa using h
      exact (decide_eq_false (fun e => h (by rw [e]))).symm
    · have h : (a.length : Int) = b.length := by simpa using h
      have h : a.length = b.length := by omega
      refine ⟨⟨⟨h, hv⟩, rfl, rfl, rfl, rfl⟩, fun _ => ⟨fun g => ?_, fun g => ?_⟩⟩
      · rw [← neP_eq (d := RT.u8.dflt) h]; exact g.symm
      · rw [← neP_eq (d := RT.u8.dflt) h]; exact g.symm
  · cases hr
def HeR (a b : List Rel) (i : Nat) : SState := { fr := [(0, .ro .rel a), (1, .ro .rel b), (12, .int .i64 (.full a.length)), (13, .int .i64 (.sym i 0 1000000))], hp := [], next := 0, sz := 26 }
def XeR (a b : List Rel) : SState := { fr := [], hp := [], next := 0, sz := 26 }
def YeR (a b : List Rel) : SState := { fr := [(4, .bool (.lit false))], hp := [], next := 0, sz := 26 }
def LeR (a b : List Rel) : LSum := ⟨HeR a b 0, fun k => .ite (noneQ (neP RT.rel.dflt a b) a.length) (k (.exit 0) (XeR a b)) (k .ret (YeR a b)), a.length = b.length ∧ a.length ≤ 1000000⟩
theorem beR (gl : List (Nat × SVal)) (a b : List Rel) (i : Nat) : (Tr.sat (rnd2 (env gl []) (fun i => noneQ (neP RT.rel.dflt a b) i = true) (a.length) (HeR a b) 0 (noneQ (neP RT.rel.dflt a b) a.length) (XeR a b) (YeR a b) i) (run (env gl []) [] (loopN (bodyOf Tryd.f74) 0) (HeR a b i) .leaf)) = (
  (decide ((↑i : Int) < (↑(List.length a) : Int)) = true → ((0 : Int) ≤ (↑i : Int) ∧ (↑i : Int) < (↑(List.length a) : Int)) ∧ ((0 : Int) ≤ (↑i : Int) ∧ (↑i : Int) < (↑(List.length a) : Int) → ((0 : Int) ≤ (↑i : Int) ∧ (↑i : Int) < (↑(List.length b) : Int)) ∧ ((0 : Int) ≤ (↑i : Int) ∧ (↑i : Int) < (↑(List.length b) : Int) → ((!(decide ((List.getD a (Int.toNat (↑i : Int)) (RT.dflt RT.rel)).at_ = (List.getD b (Int.toNat (↑i : Int)) (RT.dflt RT.rel)).at_) && (decide ((List.getD a (Int.toNat (↑i : Int)) (RT.dflt RT.rel)).kind = (List.getD b (Int.toNat (↑i : Int)) (RT.dflt RT.rel)).kind) && (decide ((List.getD a (Int.toNat (↑i : Int)) (RT.dflt RT.rel)).sym = (List.getD b (Int.toNat (↑i : Int)) (RT.dflt RT.rel)).sym) && (decide ((List.getD a (Int.toNat (↑i : Int)) (RT.dflt RT.rel)).add = (List.getD b (Int.toNat (↑i : Int)) (RT.dflt RT.rel)).add) && true))))) = true → noneQ (neP (RT.dflt RT.rel) a b) (List.length a) = false ∧ false = false) ∧ ((!(decide ((List.getD a (Int.toNat (↑i : Int)) (RT.dflt RT.rel)).at_ = (List.getD b (Int.toNat (↑i : Int)) (RT.dflt RT.rel)).at_) && (decide ((List.getD a (Int.toNat (↑i : Int)) (RT.dflt RT.rel)).kind = (List.getD b (Int.toNat (↑i : Int)) (RT.dflt RT.rel)).kind) && (decide ((List.getD a (Int.toNat (↑i : Int)) (RT.dflt RT.rel)).sym = (List.getD b (Int.toNat (↑i : Int)) (RT.dflt RT.rel)).sym) && (decide ((List.getD a (Int.toNat (↑i : Int)) (RT.dflt RT.rel)).add = (List.getD b (Int.toNat (↑i : Int)) (RT.dflt RT.rel)).add) && true))))) = false → i < List.length a ∧ noneQ (neP (RT.dflt RT.rel) a b) (i + (1 : Nat)) = true ∧ a = a ∧ b = b ∧ (↑(List.length a) : Int) = (↑(List.length a) : Int) ∧ (↑i : Int) + (1 : Int) = (↑(i + (1 : Nat)) : Int) ∧ (0 : Int) ≤ (↑(i + (1 : Nat)) : Int) ∧ (↑(i + (1 : Nat)) : Int) ≤ (1000000 : Int))))) ∧ (decide ((↑i : Int) < (↑(List.length a) : Int)) = false → Nat.beq (0 : Nat) (0 : Nat) = true ∧ noneQ (neP (RT.dflt RT.rel) a b) (List.length a) = true ∧ True)) := by kernel_rfl
set_option maxHeartbeats 4000000 in
theorem leR (a b : List Rel) {W : World} {R own0 : Nat → Prop} {ρ0 : Nat → Option Value} (hown : HownOk (env gl []) own0 ρ0) : LOk Tryd.prog (env gl []) (ctx ea has) gl W R own0 ρ0 (loopN (bodyOf Tryd.f74) 0) (LeR a b) := by
  refine loop2_ok (env_ok (con := []) trivial) hown (ls := fun i => []) (fun i => noLoops (by kernel_rfl)) (fun hm i hi hj => (beR gl a b i).mpr ?_) 0 (fun hm => by first | exact Nat.zero_le _ | omega) (fun hm => rfl)
  have hp : neP RT.rel.dflt a b i = !decide (a.getD i RT.rel.dflt = b.getD i RT.rel.dflt) := rfl
  obtain ⟨hm1, hm2⟩ := hm
  simp only [relEq]
  simp only [Int.toNat_natCast, Bool.not_not]
  refine ⟨fun h => ?_, fun h => ?_⟩
  · have h := of_decide_eq_true h
    have hlt : i < a.length := by omega
    refine ⟨by omega, fun _ => ⟨by omega, fun _ => ⟨fun h2 => ⟨noneQ_at (hp.trans h2) hlt, trivial⟩, fun h2 => ?_⟩⟩⟩
    refine ⟨hlt, by rw [noneQ, hj, hp.trans h2]; rfl, ?_⟩
    simp; omega
  · have h := of_decide_eq_false h
    have e : i = a.length := by omega
    subst e
    exact ⟨rfl, hj, trivial⟩
def keR : List SVal → Nat → Acc ORes := fun a n => match a with | [.ro .rel a, .ro .rel b] => .ret ({ v := .bool (.sym (decide (a = b))), vc := some (a.length ≤ 1000000) }) | _ => .fail "eR"
theorem argeR (a b : List Rel) : (all (subL 134 none' [] deep [.ro .rel a, .ro .rel b] [.ro .rel a, .ro .rel b])) = (
  a = a ∧ b = b) := by kernel_rfl
theorem runeR (gl : List (Nat × SVal)) (a b : List Rel) : (Tr.sat (plainQ (.bool (.sym (decide (a = b))))) (run (env gl []) [(4, LeR a b)] (bodyOf Tryd.f74) (start [.ro .rel a, .ro .rel b] 26) (ends (env gl []) Tryd.f74.results.toList))) = (
  ((!decide ((↑(List.length a) : Int) = (↑(List.length b) : Int))) = true → false = decide (a = b)) ∧ ((!decide ((↑(List.length a) : Int) = (↑(List.length b) : Int))) = false → ((List.length a = List.length b ∧ List.length a ≤ (1000000 : Nat)) ∧ a = a ∧ b = b ∧ (↑(List.length a) : Int) = (↑(List.length a) : Int) ∧ (0 : Int) = (↑(0 : Nat) : Int)) ∧ ((List.length a = List.length b ∧ List.length a ≤ (1000000 : Nat)) ∧ a = a ∧ b = b ∧ (↑(List.length a) : Int) = (↑(List.length a) : Int) ∧ (0 : Int) = (↑(0 : Nat) : Int) → (noneQ (neP (RT.dflt RT.rel) a b) (List.length a) = true → true = decide (a = b)) ∧ (noneQ (neP (RT.dflt RT.rel) a b) (List.length a) = false → false = decide (a = b))))) := by kernel_rfl
set_option maxHeartbeats 4000000 in
theorem ceR : Con ea has gl 74 keR := by
  refine plain_mk Tryd.func74 26 (con := []) trivial (fun hA hr hv => ?_) (by kernel_rfl) (by kernel_rfl) Tryd.ntmps74
  unfold keR at hr; split at hr
  · rename_i a b
    have := ret_ok hr; subst this
    replace hv := hv _ rfl
    refine ⟨_, [(4, LeR a b)], rfl, rfl, (argeR a b).mpr (by simp), rfl, (fun W R ρ0 own0 hown => hl1 (by kernel_rfl) (by kernel_rfl) (leR a b hown)), (runeR gl a b).mpr ?_⟩
    clear hr
    refine ⟨fun h => ?_, fun h => ?_⟩
    · have h : ¬ (a.length : Int) = b.length := by simpa using h
      exact (decide_eq_false (fun e => h (by rw [e]))).symm
    · have h : (a.length : Int) = b.length := by simpa using h
      have h : a.length = b.length := by omega
      refine ⟨⟨⟨h, hv⟩, rfl, rfl, rfl, rfl⟩, fun _ => ⟨fun g => ?_, fun g => ?_⟩⟩
      · rw [← neP_eq (d := RT.rel.dflt) h]; exact g.symm
      · rw [← neP_eq (d := RT.rel.dflt) h]; exact g.symm
  · cases hr
def HeS (a b : List Sm) (i : Nat) : SState := { fr := [(0, .ro .sym a), (1, .ro .sym b), (12, .int .i64 (.full a.length)), (13, .int .i64 (.sym i 0 1000000))], hp := [], next := 0, sz := 26 }
def XeS (a b : List Sm) : SState := { fr := [], hp := [], next := 0, sz := 26 }
def YeS (a b : List Sm) : SState := { fr := [(4, .bool (.lit false))], hp := [], next := 0, sz := 26 }
def LeS (a b : List Sm) : LSum := ⟨HeS a b 0, fun k => .ite (noneQ (neP RT.sym.dflt a b) a.length) (k (.exit 0) (XeS a b)) (k .ret (YeS a b)), a.length = b.length ∧ a.length ≤ 1000000⟩
theorem beS (gl : List (Nat × SVal)) (a b : List Sm) (i : Nat) : (Tr.sat (rnd2 (env gl []) (fun i => noneQ (neP RT.sym.dflt a b) i = true) (a.length) (HeS a b) 0 (noneQ (neP RT.sym.dflt a b) a.length) (XeS a b) (YeS a b) i) (run (env gl []) [] (loopN (bodyOf Tryd.f75) 0) (HeS a b i) .leaf)) = (
  (decide ((↑i : Int) < (↑(List.length a) : Int)) = true → ((0 : Int) ≤ (↑i : Int) ∧ (↑i : Int) < (↑(List.length a) : Int)) ∧ ((0 : Int) ≤ (↑i : Int) ∧ (↑i : Int) < (↑(List.length a) : Int) → ((0 : Int) ≤ (↑i : Int) ∧ (↑i : Int) < (↑(List.length b) : Int)) ∧ ((0 : Int) ≤ (↑i : Int) ∧ (↑i : Int) < (↑(List.length b) : Int) → ((!(decide ((List.getD a (Int.toNat (↑i : Int)) (RT.dflt RT.sym)).name = (List.getD b (Int.toNat (↑i : Int)) (RT.dflt RT.sym)).name) && (decide ((List.getD a (Int.toNat (↑i : Int)) (RT.dflt RT.sym)).in_ = (List.getD b (Int.toNat (↑i : Int)) (RT.dflt RT.sym)).in_) && (decide ((List.getD a (Int.toNat (↑i : Int)) (RT.dflt RT.sym)).value = (List.getD b (Int.toNat (↑i : Int)) (RT.dflt RT.sym)).value) && ((List.getD a (Int.toNat (↑i : Int)) (RT.dflt RT.sym)).global == (List.getD b (Int.toNat (↑i : Int)) (RT.dflt RT.sym)).global && true))))) = true → noneQ (neP (RT.dflt RT.sym) a b) (List.length a) = false ∧ false = false) ∧ ((!(decide ((List.getD a (Int.toNat (↑i : Int)) (RT.dflt RT.sym)).name = (List.getD b (Int.toNat (↑i : Int)) (RT.dflt RT.sym)).name) && (decide ((List.getD a (Int.toNat (↑i : Int)) (RT.dflt RT.sym)).in_ = (List.getD b (Int.toNat (↑i : Int)) (RT.dflt RT.sym)).in_) && (decide ((List.getD a (Int.toNat (↑i : Int)) (RT.dflt RT.sym)).value = (List.getD b (Int.toNat (↑i : Int)) (RT.dflt RT.sym)).value) && ((List.getD a (Int.toNat (↑i : Int)) (RT.dflt RT.sym)).global == (List.getD b (Int.toNat (↑i : Int)) (RT.dflt RT.sym)).global && true))))) = false → i < List.length a ∧ noneQ (neP (RT.dflt RT.sym) a b) (i + (1 : Nat)) = true ∧ a = a ∧ b = b ∧ (↑(List.length a) : Int) = (↑(List.length a) : Int) ∧ (↑i : Int) + (1 : Int) = (↑(i + (1 : Nat)) : Int) ∧ (0 : Int) ≤ (↑(i + (1 : Nat)) : Int) ∧ (↑(i + (1 : Nat)) : Int) ≤ (1000000 : Int))))) ∧ (decide ((↑i : Int) < (↑(List.length a) : Int)) = false → Nat.beq (0 : Nat) (0 : Nat) = true ∧ noneQ (neP (RT.dflt RT.sym) a b) (List.length a) = true ∧ True)) := by kernel_rfl
set_option maxHeartbeats 4000000 in
theorem leS (a b : List Sm) {W : World} {R own0 : Nat → Prop} {ρ0 : Nat → Option Value} (hown : HownOk (env gl []) own0 ρ0) : LOk Tryd.prog (env gl []) (ctx ea has) gl W R own0 ρ0 (loopN (bodyOf Tryd.f75) 0) (LeS a b) := by
  refine loop2_ok (env_ok (con := []) trivial) hown (ls := fun i => []) (fun i => noLoops (by kernel_rfl)) (fun hm i hi hj => (beS gl a b i).mpr ?_) 0 (fun hm => by first | exact Nat.zero_le _ | omega) (fun hm => rfl)
  have hp : neP RT.sym.dflt a b i = !decide (a.getD i RT.sym.dflt = b.getD i RT.sym.dflt) := rfl
  obtain ⟨hm1, hm2⟩ := hm
  simp only [symEq]
  simp only [Int.toNat_natCast, Bool.not_not]
  refine ⟨fun h => ?_, fun h => ?_⟩
  · have h := of_decide_eq_true h
    have hlt : i < a.length := by omega
    refine ⟨by omega, fun _ => ⟨by omega, fun _ => ⟨fun h2 => ⟨noneQ_at (hp.trans h2) hlt, trivial⟩, fun h2 => ?_⟩⟩⟩
    refine ⟨hlt, by rw [noneQ, hj, hp.trans h2]; rfl, ?_⟩
    simp; omega
  · have h := of_decide_eq_false h
    have e : i = a.length := by omega
    subst e
    exact ⟨rfl, hj, trivial⟩
def keS : List SVal → Nat → Acc ORes := fun a n => match a with | [.ro .sym a, .ro .sym b] => .ret ({ v := .bool (.sym (decide (a = b))), vc := some (a.length ≤ 1000000) }) | _ => .fail "eS"
theorem argeS (a b : List Sm) : (all (subL 134 none' [] deep [.ro .sym a, .ro .sym b] [.ro .sym a, .ro .sym b])) = (
  a = a ∧ b = b) := by kernel_rfl
theorem runeS (gl : List (Nat × SVal)) (a b : List Sm) : (Tr.sat (plainQ (.bool (.sym (decide (a = b))))) (run (env gl []) [(4, LeS a b)] (bodyOf Tryd.f75) (start [.ro .sym a, .ro .sym b] 26) (ends (env gl []) Tryd.f75.results.toList))) = (
  ((!decide ((↑(List.length a) : Int) = (↑(List.length b) : Int))) = true → false = decide (a = b)) ∧ ((!decide ((↑(List.length a) : Int) = (↑(List.length b) : Int))) = false → ((List.length a = List.length b ∧ List.length a ≤ (1000000 : Nat)) ∧ a = a ∧ b = b ∧ (↑(List.length a) : Int) = (↑(List.length a) : Int) ∧ (0 : Int) = (↑(0 : Nat) : Int)) ∧ ((List.length a = List.length b ∧ List.length a ≤ (1000000 : Nat)) ∧ a = a ∧ b = b ∧ (↑(List.length a) : Int) = (↑(List.length a) : Int) ∧ (0 : Int) = (↑(0 : Nat) : Int) → (noneQ (neP (RT.dflt RT.sym) a b) (List.length a) = true → true = decide (a = b)) ∧ (noneQ (neP (RT.dflt RT.sym) a b) (List.length a) = false → false = decide (a = b))))) := by kernel_rfl
set_option maxHeartbeats 4000000 in
theorem ceS : Con ea has gl 75 keS := by
  refine plain_mk Tryd.func75 26 (con := []) trivial (fun hA hr hv => ?_) (by kernel_rfl) (by kernel_rfl) Tryd.ntmps75
  unfold keS at hr; split at hr
  · rename_i a b
    have := ret_ok hr; subst this
    replace hv := hv _ rfl
    refine ⟨_, [(4, LeS a b)], rfl, rfl, (argeS a b).mpr (by simp), rfl, (fun W R ρ0 own0 hown => hl1 (by kernel_rfl) (by kernel_rfl) (leS a b hown)), (runeS gl a b).mpr ?_⟩
    clear hr
    refine ⟨fun h => ?_, fun h => ?_⟩
    · have h : ¬ (a.length : Int) = b.length := by simpa using h
      exact (decide_eq_false (fun e => h (by rw [e]))).symm
    · have h : (a.length : Int) = b.length := by simpa using h
      have h : a.length = b.length := by omega
      refine ⟨⟨⟨h, hv⟩, rfl, rfl, rfl, rfl⟩, fun _ => ⟨fun g => ?_, fun g => ?_⟩⟩
      · rw [← neP_eq (d := RT.sym.dflt) h]; exact g.symm
      · rw [← neP_eq (d := RT.sym.dflt) h]; exact g.symm
  · cases hr
def kSameReloc : List SVal → Nat → Acc ORes := fun a n => match a with | [.agg [.int .i64 a, .int .i64 b, .int .i64 c, .int .i64 d], .agg [.int .i64 e, .int .i64 f, .int .i64 g, .int .i64 h]] => .ret ({ v := .bool (.sym (decide (a.val = e.val) && (decide (b.val = f.val) && (decide (c.val = g.val) && (decide (d.val = h.val) && true))))) }) | _ => .fail "SameReloc"
theorem argSameReloc (a b c d e f g h : SI) : (all (subL 134 none' [] deep [.agg [.int .i64 a, .int .i64 b, .int .i64 c, .int .i64 d], .agg [.int .i64 e, .int .i64 f, .int .i64 g, .int .i64 h]] [.agg [.int .i64 (.full a.val), .int .i64 (.full b.val), .int .i64 (.full c.val), .int .i64 (.full d.val)], .agg [.int .i64 (.full e.val), .int .i64 (.full f.val), .int .i64 (.full g.val), .int .i64 (.full h.val)]])) = (
  SI.val a = SI.val a ∧ SI.val b = SI.val b ∧ SI.val c = SI.val c ∧ SI.val d = SI.val d ∧ SI.val e = SI.val e ∧ SI.val f = SI.val f ∧ SI.val g = SI.val g ∧ SI.val h = SI.val h) := by kernel_rfl
theorem runSameReloc (gl : List (Nat × SVal)) (a b c d e f g h : SI) : (Tr.sat (plainQ (.bool (.sym (decide (a.val = e.val) && (decide (b.val = f.val) && (decide (c.val = g.val) && (decide (d.val = h.val) && true))))))) (run (env gl []) [] (bodyOf Tryd.f78) (start [.agg [.int .i64 (.full a.val), .int .i64 (.full b.val), .int .i64 (.full c.val), .int .i64 (.full d.val)], .agg [.int .i64 (.full e.val), .int .i64 (.full f.val), .int .i64 (.full g.val), .int .i64 (.full h.val)]] 31) (ends (env gl []) Tryd.f78.results.toList))) = (
  (decide (SI.val a = SI.val e) && decide (SI.val b = SI.val f) && decide (SI.val c = SI.val g) && decide (SI.val d = SI.val h)) = (decide (SI.val a = SI.val e) && (decide (SI.val b = SI.val f) && (decide (SI.val c = SI.val g) && (decide (SI.val d = SI.val h) && true))))) := by kernel_rfl
set_option maxHeartbeats 4000000 in
theorem cSameReloc : Con ea has gl 78 kSameReloc := by
  refine plain_mk Tryd.func78 31 (con := []) trivial (fun hA hr hv => ?_) (by kernel_rfl) (by kernel_rfl) Tryd.ntmps78
  unfold kSameReloc at hr; split at hr
  · rename_i a b c d e f g h
    have := ret_ok hr; subst this
    refine ⟨_, [], rfl, rfl, (argSameReloc a b c d e f g h).mpr (by simp), rfl, (fun W R ρ0 own0 hown => noLoops (by kernel_rfl)), (runSameReloc gl a b c d e f g h).mpr ?_⟩
    clear hr
    simp [Bool.and_assoc]
  · cases hr
def kSameSym : List SVal → Nat → Acc ORes := fun a n => match a with | [.agg [.str a, .int .i64 b, .int .i64 c, .bool d], .agg [.str e, .int .i64 f, .int .i64 g, .bool h]] => .ret ({ v := .bool (.sym (decide (a = e) && (decide (b.val = f.val) && (decide (c.val = g.val) && ((d.val == h.val) && true))))) }) | _ => .fail "SameSym"
theorem argSameSym (a : ByteArray) (b c : SI) (d : SB) (e : ByteArray) (f g : SI) (h : SB) : (all (subL 134 none' [] deep [.agg [.str a, .int .i64 b, .int .i64 c, .bool d], .agg [.str e, .int .i64 f, .int .i64 g, .bool h]] [.agg [.str a, .int .i64 (.full b.val), .int .i64 (.full c.val), .bool (.sym d.val)], .agg [.str e, .int .i64 (.full f.val), .int .i64 (.full g.val), .bool (.sym h.val)]])) = (
  a = a ∧ SI.val b = SI.val b ∧ SI.val c = SI.val c ∧ SB.val d = SB.val d ∧ e = e ∧ SI.val f = SI.val f ∧ SI.val g = SI.val g ∧ SB.val h = SB.val h) := by kernel_rfl
theorem runSameSym (gl : List (Nat × SVal)) (a : ByteArray) (b c : SI) (d : SB) (e : ByteArray) (f g : SI) (h : SB) : (Tr.sat (plainQ (.bool (.sym (decide (a = e) && (decide (b.val = f.val) && (decide (c.val = g.val) && ((d.val == h.val) && true))))))) (run (env gl []) [] (bodyOf Tryd.f103) (start [.agg [.str a, .int .i64 (.full b.val), .int .i64 (.full c.val), .bool (.sym d.val)], .agg [.str e, .int .i64 (.full f.val), .int .i64 (.full g.val), .bool (.sym h.val)]] 31) (ends (env gl []) Tryd.f103.results.toList))) = (
  (decide (a = e) && decide (SI.val b = SI.val f) && decide (SI.val c = SI.val g) && SB.val d == SB.val h) = (decide (a = e) && (decide (SI.val b = SI.val f) && (decide (SI.val c = SI.val g) && (SB.val d == SB.val h && true))))) := by kernel_rfl
set_option maxHeartbeats 4000000 in
theorem cSameSym : Con ea has gl 103 kSameSym := by
  refine plain_mk Tryd.func103 31 (con := []) trivial (fun hA hr hv => ?_) (by kernel_rfl) (by kernel_rfl) Tryd.ntmps103
  unfold kSameSym at hr; split at hr
  · rename_i a b c d e f g h
    have := ret_ok hr; subst this
    refine ⟨_, [], rfl, rfl, (argSameSym a b c d e f g h).mpr (by simp), rfl, (fun W R ρ0 own0 hown => noLoops (by kernel_rfl)), (runSameSym gl a b c d e f g h).mpr ?_⟩
    clear hr
    simp [Bool.and_assoc]
  · cases hr
def HfW (a b : List Int) (i : Nat) : SState := { fr := [(0, .ro .u32 a), (1, .ro .u32 b), (5, .int .i64 (.sym i 0 1000000))], hp := [], next := 0, sz := 29 }
def XfW (a b : List Int) : SState := { fr := [], hp := [], next := 0, sz := 29 }
def YfW (a b : List Int) : SState := { fr := [(4, .bool (.lit false))], hp := [], next := 0, sz := 29 }
def LfW (a b : List Int) : LSum := ⟨HfW a b 0, fun k => .ite (noneQ (neP RT.u32.dflt a b) a.length) (k (.exit 0) (XfW a b)) (k .ret (YfW a b)), a.length = b.length ∧ a.length ≤ 1000000⟩
theorem bfW (gl : List (Nat × SVal)) (a b : List Int) (i : Nat) : (Tr.sat (rnd2 (env gl []) (fun i => noneQ (neP RT.u32.dflt a b) i = true) (a.length) (HfW a b) 0 (noneQ (neP RT.u32.dflt a b) a.length) (XfW a b) (YfW a b) i) (run (env gl []) [] (loopN (bodyOf Tryd.f36) 0) (HfW a b i) .leaf)) = (
  (decide ((↑i : Int) < (↑(List.length a) : Int)) = true → ((0 : Int) ≤ (↑i : Int) ∧ (↑i : Int) < (↑(List.length a) : Int)) ∧ ((0 : Int) ≤ (↑i : Int) ∧ (↑i : Int) < (↑(List.length a) : Int) → ((0 : Int) ≤ (↑i : Int) ∧ (↑i : Int) < (↑(List.length b) : Int)) ∧ ((0 : Int) ≤ (↑i : Int) ∧ (↑i : Int) < (↑(List.length b) : Int) → ((!decide (List.getD a (Int.toNat (↑i : Int)) (RT.dflt RT.u32) = List.getD b (Int.toNat (↑i : Int)) (RT.dflt RT.u32))) = true → noneQ (neP (RT.dflt RT.u32) a b) (List.length a) = false ∧ false = false) ∧ ((!decide (List.getD a (Int.toNat (↑i : Int)) (RT.dflt RT.u32) = List.getD b (Int.toNat (↑i : Int)) (RT.dflt RT.u32))) = false → i < List.length a ∧ noneQ (neP (RT.dflt RT.u32) a b) (i + (1 : Nat)) = true ∧ a = a ∧ b = b ∧ (↑i : Int) + (1 : Int) = (↑(i + (1 : Nat)) : Int) ∧ (0 : Int) ≤ (↑(i + (1 : Nat)) : Int) ∧ (↑(i + (1 : Nat)) : Int) ≤ (1000000 : Int))))) ∧ (decide ((↑i : Int) < (↑(List.length a) : Int)) = false → Nat.beq (0 : Nat) (0 : Nat) = true ∧ noneQ (neP (RT.dflt RT.u32) a b) (List.length a) = true ∧ True)) := by kernel_rfl
set_option maxHeartbeats 4000000 in
theorem lfW (a b : List Int) {W : World} {R own0 : Nat → Prop} {ρ0 : Nat → Option Value} (hown : HownOk (env gl []) own0 ρ0) : LOk Tryd.prog (env gl []) (ctx ea has) gl W R own0 ρ0 (loopN (bodyOf Tryd.f36) 0) (LfW a b) := by
  refine loop2_ok (env_ok (con := []) trivial) hown (ls := fun i => []) (fun i => noLoops (by kernel_rfl)) (fun hm i hi hj => (bfW gl a b i).mpr ?_) 0 (fun hm => by first | exact Nat.zero_le _ | omega) (fun hm => rfl)
  have hp : neP RT.u32.dflt a b i = !decide (a.getD i RT.u32.dflt = b.getD i RT.u32.dflt) := rfl
  obtain ⟨hm1, hm2⟩ := hm
  skip
  simp only [Int.toNat_natCast, Bool.not_not]
  refine ⟨fun h => ?_, fun h => ?_⟩
  · have h := of_decide_eq_true h
    have hlt : i < a.length := by omega
    refine ⟨by omega, fun _ => ⟨by omega, fun _ => ⟨fun h2 => ⟨noneQ_at (hp.trans h2) hlt, trivial⟩, fun h2 => ?_⟩⟩⟩
    refine ⟨hlt, by rw [noneQ, hj, hp.trans h2]; rfl, ?_⟩
    simp; omega
  · have h := of_decide_eq_false h
    have e : i = a.length := by omega
    subst e
    exact ⟨rfl, hj, trivial⟩
def kfW : List SVal → Nat → Acc ORes := fun a n => match a with | [.ro .u32 a, .ro .u32 b] => .ret ({ v := .bool (.sym (decide (a = b))), vc := some (a.length ≤ 1000000) }) | _ => .fail "fW"
theorem argfW (a b : List Int) : (all (subL 134 none' [] deep [.ro .u32 a, .ro .u32 b] [.ro .u32 a, .ro .u32 b])) = (
  a = a ∧ b = b) := by kernel_rfl
theorem runfW (gl : List (Nat × SVal)) (a b : List Int) : (Tr.sat (plainQ (.bool (.sym (decide (a = b))))) (run (env gl []) [(4, LfW a b)] (bodyOf Tryd.f36) (start [.ro .u32 a, .ro .u32 b] 29) (ends (env gl []) Tryd.f36.results.toList))) = (
  ((!decide ((↑(List.length a) : Int) = (↑(List.length b) : Int))) = true → false = decide (a = b)) ∧ ((!decide ((↑(List.length a) : Int) = (↑(List.length b) : Int))) = false → ((List.length a = List.length b ∧ List.length a ≤ (1000000 : Nat)) ∧ a = a ∧ b = b ∧ (0 : Int) = (↑(0 : Nat) : Int)) ∧ ((List.length a = List.length b ∧ List.length a ≤ (1000000 : Nat)) ∧ a = a ∧ b = b ∧ (0 : Int) = (↑(0 : Nat) : Int) → (noneQ (neP (RT.dflt RT.u32) a b) (List.length a) = true → true = decide (a = b)) ∧ (noneQ (neP (RT.dflt RT.u32) a b) (List.length a) = false → false = decide (a = b))))) := by kernel_rfl
set_option maxHeartbeats 4000000 in
theorem cfW : Con ea has gl 36 kfW := by
  refine plain_mk Tryd.func36 29 (con := []) trivial (fun hA hr hv => ?_) (by kernel_rfl) (by kernel_rfl) Tryd.ntmps36
  unfold kfW at hr; split at hr
  · rename_i a b
    have := ret_ok hr; subst this
    replace hv := hv _ rfl
    refine ⟨_, [(4, LfW a b)], rfl, rfl, (argfW a b).mpr (by simp), rfl, (fun W R ρ0 own0 hown => hl1 (by kernel_rfl) (by kernel_rfl) (lfW a b hown)), (runfW gl a b).mpr ?_⟩
    clear hr
    refine ⟨fun h => ?_, fun h => ?_⟩
    · have h : ¬ (a.length : Int) = b.length := by simpa using h
      exact (decide_eq_false (fun e => h (by rw [e]))).symm
    · have h : (a.length : Int) = b.length := by simpa using h
      have h : a.length = b.length := by omega
      refine ⟨⟨⟨h, hv⟩, rfl, rfl, rfl⟩, fun _ => ⟨fun g => ?_, fun g => ?_⟩⟩
      · rw [← neP_eq (d := RT.u32.dflt) h]; exact g.symm
      · rw [← neP_eq (d := RT.u32.dflt) h]; exact g.symm
  · cases hr
def HfB (a b : List Int) (i : Nat) : SState := { fr := [(0, .ro .u8 a), (1, .ro .u8 b), (5, .int .i64 (.sym i 0 1000000))], hp := [], next := 0, sz := 29 }
def XfB (a b : List Int) : SState := { fr := [], hp := [], next := 0, sz := 29 }
def YfB (a b : List Int) : SState := { fr := [(4, .bool (.lit false))], hp := [], next := 0, sz := 29 }
def LfB (a b : List Int) : LSum := ⟨HfB a b 0, fun k => .ite (noneQ (neP RT.u8.dflt a b) a.length) (k (.exit 0) (XfB a b)) (k .ret (YfB a b)), a.length = b.length ∧ a.length ≤ 1000000⟩
theorem bfB (gl : List (Nat × SVal)) (a b : List Int) (i : Nat) : (Tr.sat (rnd2 (env gl []) (fun i => noneQ (neP RT.u8.dflt a b) i = true) (a.length) (HfB a b) 0 (noneQ (neP RT.u8.dflt a b) a.length) (XfB a b) (YfB a b) i) (run (env gl []) [] (loopN (bodyOf Tryd.f46) 0) (HfB a b i) .leaf)) = (
  (decide ((↑i : Int) < (↑(List.length a) : Int)) = true → ((0 : Int) ≤ (↑i : Int) ∧ (↑i : Int) < (↑(List.length a) : Int)) ∧ ((0 : Int) ≤ (↑i : Int) ∧ (↑i : Int) < (↑(List.length a) : Int) → ((0 : Int) ≤ (↑i : Int) ∧ (↑i : Int) < (↑(List.length b) : Int)) ∧ ((0 : Int) ≤ (↑i : Int) ∧ (↑i : Int) < (↑(List.length b) : Int) → ((!decide (List.getD a (Int.toNat (↑i : Int)) (RT.dflt RT.u8) = List.getD b (Int.toNat (↑i : Int)) (RT.dflt RT.u8))) = true → noneQ (neP (RT.dflt RT.u8) a b) (List.length a) = false ∧ false = false) ∧ ((!decide (List.getD a (Int.toNat (↑i : Int)) (RT.dflt RT.u8) = List.getD b (Int.toNat (↑i : Int)) (RT.dflt RT.u8))) = false → i < List.length a ∧ noneQ (neP (RT.dflt RT.u8) a b) (i + (1 : Nat)) = true ∧ a = a ∧ b = b ∧ (↑i : Int) + (1 : Int) = (↑(i + (1 : Nat)) : Int) ∧ (0 : Int) ≤ (↑(i + (1 : Nat)) : Int) ∧ (↑(i + (1 : Nat)) : Int) ≤ (1000000 : Int))))) ∧ (decide ((↑i : Int) < (↑(List.length a) : Int)) = false → Nat.beq (0 : Nat) (0 : Nat) = true ∧ noneQ (neP (RT.dflt RT.u8) a b) (List.length a) = true ∧ True)) := by kernel_rfl
set_option maxHeartbeats 4000000 in
theorem lfB (a b : List Int) {W : World} {R own0 : Nat → Prop} {ρ0 : Nat → Option Value} (hown : HownOk (env gl []) own0 ρ0) : LOk Tryd.prog (env gl []) (ctx ea has) gl W R own0 ρ0 (loopN (bodyOf Tryd.f46) 0) (LfB a b) := by
  refine loop2_ok (env_ok (con := []) trivial) hown (ls := fun i => []) (fun i => noLoops (by kernel_rfl)) (fun hm i hi hj => (bfB gl a b i).mpr ?_) 0 (fun hm => by first | exact Nat.zero_le _ | omega) (fun hm => rfl)
  have hp : neP RT.u8.dflt a b i = !decide (a.getD i RT.u8.dflt = b.getD i RT.u8.dflt) := rfl
  obtain ⟨hm1, hm2⟩ := hm
  skip
  simp only [Int.toNat_natCast, Bool.not_not]
  refine ⟨fun h => ?_, fun h => ?_⟩
  · have h := of_decide_eq_true h
    have hlt : i < a.length := by omega
    refine ⟨by omega, fun _ => ⟨by omega, fun _ => ⟨fun h2 => ⟨noneQ_at (hp.trans h2) hlt, trivial⟩, fun h2 => ?_⟩⟩⟩
    refine ⟨hlt, by rw [noneQ, hj, hp.trans h2]; rfl, ?_⟩
    simp; omega
  · have h := of_decide_eq_false h
    have e : i = a.length := by omega
    subst e
    exact ⟨rfl, hj, trivial⟩
def kfB : List SVal → Nat → Acc ORes := fun a n => match a with | [.ro .u8 a, .ro .u8 b] => .ret ({ v := .bool (.sym (decide (a = b))), vc := some (a.length ≤ 1000000) }) | _ => .fail "fB"
theorem argfB (a b : List Int) : (all (subL 134 none' [] deep [.ro .u8 a, .ro .u8 b] [.ro .u8 a, .ro .u8 b])) = (
  a = a ∧ b = b) := by kernel_rfl
theorem runfB (gl : List (Nat × SVal)) (a b : List Int) : (Tr.sat (plainQ (.bool (.sym (decide (a = b))))) (run (env gl []) [(4, LfB a b)] (bodyOf Tryd.f46) (start [.ro .u8 a, .ro .u8 b] 29) (ends (env gl []) Tryd.f46.results.toList))) = (
  ((!decide ((↑(List.length a) : Int) = (↑(List.length b) : Int))) = true → false = decide (a = b)) ∧ ((!decide ((↑(List.length a) : Int) = (↑(List.length b) : Int))) = false → ((List.length a = List.length b ∧ List.length a ≤ (1000000 : Nat)) ∧ a = a ∧ b = b ∧ (0 : Int) = (↑(0 : Nat) : Int)) ∧ ((List.length a = List.length b ∧ List.length a ≤ (1000000 : Nat)) ∧ a = a ∧ b = b ∧ (0 : Int) = (↑(0 : Nat) : Int) → (noneQ (neP (RT.dflt RT.u8) a b) (List.length a) = true → true = decide (a = b)) ∧ (noneQ (neP (RT.dflt RT.u8) a b) (List.length a) = false → false = decide (a = b))))) := by kernel_rfl
set_option maxHeartbeats 4000000 in
theorem cfB : Con ea has gl 46 kfB := by
  refine plain_mk Tryd.func46 29 (con := []) trivial (fun hA hr hv => ?_) (by kernel_rfl) (by kernel_rfl) Tryd.ntmps46
  unfold kfB at hr; split at hr
  · rename_i a b
    have := ret_ok hr; subst this
    replace hv := hv _ rfl
    refine ⟨_, [(4, LfB a b)], rfl, rfl, (argfB a b).mpr (by simp), rfl, (fun W R ρ0 own0 hown => hl1 (by kernel_rfl) (by kernel_rfl) (lfB a b hown)), (runfB gl a b).mpr ?_⟩
    clear hr
    refine ⟨fun h => ?_, fun h => ?_⟩
    · have h : ¬ (a.length : Int) = b.length := by simpa using h
      exact (decide_eq_false (fun e => h (by rw [e]))).symm
    · have h : (a.length : Int) = b.length := by simpa using h
      have h : a.length = b.length := by omega
      refine ⟨⟨⟨h, hv⟩, rfl, rfl, rfl⟩, fun _ => ⟨fun g => ?_, fun g => ?_⟩⟩
      · rw [← neP_eq (d := RT.u8.dflt) h]; exact g.symm
      · rw [← neP_eq (d := RT.u8.dflt) h]; exact g.symm
  · cases hr
def HfR (a b : List Rel) (i : Nat) : SState := { fr := [(0, .ro .rel a), (1, .ro .rel b), (5, .int .i64 (.sym i 0 1000000))], hp := [], next := 0, sz := 29 }
def XfR (a b : List Rel) : SState := { fr := [], hp := [], next := 0, sz := 29 }
def YfR (a b : List Rel) : SState := { fr := [(4, .bool (.lit false))], hp := [], next := 0, sz := 29 }
def LfR (a b : List Rel) : LSum := ⟨HfR a b 0, fun k => .ite (noneQ (neP RT.rel.dflt a b) a.length) (k (.exit 0) (XfR a b)) (k .ret (YfR a b)), a.length = b.length ∧ a.length ≤ 1000000⟩
theorem bfR (gl : List (Nat × SVal)) (a b : List Rel) (i : Nat) : (Tr.sat (rnd2 (env gl [(78, kSameReloc)]) (fun i => noneQ (neP RT.rel.dflt a b) i = true) (a.length) (HfR a b) 0 (noneQ (neP RT.rel.dflt a b) a.length) (XfR a b) (YfR a b) i) (run (env gl [(78, kSameReloc)]) [] (loopN (bodyOf Tryd.f37) 0) (HfR a b i) .leaf)) = (
  (decide ((↑i : Int) < (↑(List.length a) : Int)) = true → ((0 : Int) ≤ (↑i : Int) ∧ (↑i : Int) < (↑(List.length a) : Int)) ∧ ((0 : Int) ≤ (↑i : Int) ∧ (↑i : Int) < (↑(List.length a) : Int) → ((0 : Int) ≤ (↑i : Int) ∧ (↑i : Int) < (↑(List.length b) : Int)) ∧ ((0 : Int) ≤ (↑i : Int) ∧ (↑i : Int) < (↑(List.length b) : Int) → ((!(decide ((List.getD a (Int.toNat (↑i : Int)) (RT.dflt RT.rel)).at_ = (List.getD b (Int.toNat (↑i : Int)) (RT.dflt RT.rel)).at_) && (decide ((List.getD a (Int.toNat (↑i : Int)) (RT.dflt RT.rel)).kind = (List.getD b (Int.toNat (↑i : Int)) (RT.dflt RT.rel)).kind) && (decide ((List.getD a (Int.toNat (↑i : Int)) (RT.dflt RT.rel)).sym = (List.getD b (Int.toNat (↑i : Int)) (RT.dflt RT.rel)).sym) && (decide ((List.getD a (Int.toNat (↑i : Int)) (RT.dflt RT.rel)).add = (List.getD b (Int.toNat (↑i : Int)) (RT.dflt RT.rel)).add) && true))))) = true → noneQ (neP (RT.dflt RT.rel) a b) (List.length a) = false ∧ false = false) ∧ ((!(decide ((List.getD a (Int.toNat (↑i : Int)) (RT.dflt RT.rel)).at_ = (List.getD b (Int.toNat (↑i : Int)) (RT.dflt RT.rel)).at_) && (decide ((List.getD a (Int.toNat (↑i : Int)) (RT.dflt RT.rel)).kind = (List.getD b (Int.toNat (↑i : Int)) (RT.dflt RT.rel)).kind) && (decide ((List.getD a (Int.toNat (↑i : Int)) (RT.dflt RT.rel)).sym = (List.getD b (Int.toNat (↑i : Int)) (RT.dflt RT.rel)).sym) && (decide ((List.getD a (Int.toNat (↑i : Int)) (RT.dflt RT.rel)).add = (List.getD b (Int.toNat (↑i : Int)) (RT.dflt RT.rel)).add) && true))))) = false → i < List.length a ∧ noneQ (neP (RT.dflt RT.rel) a b) (i + (1 : Nat)) = true ∧ a = a ∧ b = b ∧ (↑i : Int) + (1 : Int) = (↑(i + (1 : Nat)) : Int) ∧ (0 : Int) ≤ (↑(i + (1 : Nat)) : Int) ∧ (↑(i + (1 : Nat)) : Int) ≤ (1000000 : Int))))) ∧ (decide ((↑i : Int) < (↑(List.length a) : Int)) = false → Nat.beq (0 : Nat) (0 : Nat) = true ∧ noneQ (neP (RT.dflt RT.rel) a b) (List.length a) = true ∧ True)) := by kernel_rfl
set_option maxHeartbeats 4000000 in
theorem lfR (a b : List Rel) {W : World} {R own0 : Nat → Prop} {ρ0 : Nat → Option Value} (hown : HownOk (env gl [(78, kSameReloc)]) own0 ρ0) : LOk Tryd.prog (env gl [(78, kSameReloc)]) (ctx ea has) gl W R own0 ρ0 (loopN (bodyOf Tryd.f37) 0) (LfR a b) := by
  refine loop2_ok (env_ok (con := [(78, kSameReloc)]) ⟨cSameReloc, trivial⟩) hown (ls := fun i => []) (fun i => noLoops (by kernel_rfl)) (fun hm i hi hj => (bfR gl a b i).mpr ?_) 0 (fun hm => by first | exact Nat.zero_le _ | omega) (fun hm => rfl)
  have hp : neP RT.rel.dflt a b i = !decide (a.getD i RT.rel.dflt = b.getD i RT.rel.dflt) := rfl
  obtain ⟨hm1, hm2⟩ := hm
  simp only [relEq]
  simp only [Int.toNat_natCast, Bool.not_not]
  refine ⟨fun h => ?_, fun h => ?_⟩
  · have h := of_decide_eq_true h
    have hlt : i < a.length := by omega
    refine ⟨by omega, fun _ => ⟨by omega, fun _ => ⟨fun h2 => ⟨noneQ_at (hp.trans h2) hlt, trivial⟩, fun h2 => ?_⟩⟩⟩
    refine ⟨hlt, by rw [noneQ, hj, hp.trans h2]; rfl, ?_⟩
    simp; omega
  · have h := of_decide_eq_false h
    have e : i = a.length := by omega
    subst e
    exact ⟨rfl, hj, trivial⟩
def kfR : List SVal → Nat → Acc ORes := fun a n => match a with | [.ro .rel a, .ro .rel b] => .ret ({ v := .bool (.sym (decide (a = b))), vc := some (a.length ≤ 1000000) }) | _ => .fail "fR"
theorem argfR (a b : List Rel) : (all (subL 134 none' [] deep [.ro .rel a, .ro .rel b] [.ro .rel a, .ro .rel b])) = (
  a = a ∧ b = b) := by kernel_rfl
theorem runfR (gl : List (Nat × SVal)) (a b : List Rel) : (Tr.sat (plainQ (.bool (.sym (decide (a = b))))) (run (env gl [(78, kSameReloc)]) [(4, LfR a b)] (bodyOf Tryd.f37) (start [.ro .rel a, .ro .rel b] 29) (ends (env gl [(78, kSameReloc)]) Tryd.f37.results.toList))) = (
  ((!decide ((↑(List.length a) : Int) = (↑(List.length b) : Int))) = true → false = decide (a = b)) ∧ ((!decide ((↑(List.length a) : Int) = (↑(List.length b) : Int))) = false → ((List.length a = List.length b ∧ List.length a ≤ (1000000 : Nat)) ∧ a = a ∧ b = b ∧ (0 : Int) = (↑(0 : Nat) : Int)) ∧ ((List.length a = List.length b ∧ List.length a ≤ (1000000 : Nat)) ∧ a = a ∧ b = b ∧ (0 : Int) = (↑(0 : Nat) : Int) → (noneQ (neP (RT.dflt RT.rel) a b) (List.length a) = true → true = decide (a = b)) ∧ (noneQ (neP (RT.dflt RT.rel) a b) (List.length a) = false → false = decide (a = b))))) := by kernel_rfl
set_option maxHeartbeats 4000000 in
theorem cfR : Con ea has gl 37 kfR := by
  refine plain_mk Tryd.func37 29 (con := [(78, kSameReloc)]) ⟨cSameReloc, trivial⟩ (fun hA hr hv => ?_) (by kernel_rfl) (by kernel_rfl) Tryd.ntmps37
  unfold kfR at hr; split at hr
  · rename_i a b
    have := ret_ok hr; subst this
    replace hv := hv _ rfl
    refine ⟨_, [(4, LfR a b)], rfl, rfl, (argfR a b).mpr (by simp), rfl, (fun W R ρ0 own0 hown => hl1 (by kernel_rfl) (by kernel_rfl) (lfR a b hown)), (runfR gl a b).mpr ?_⟩
    clear hr
    refine ⟨fun h => ?_, fun h => ?_⟩
    · have h : ¬ (a.length : Int) = b.length := by simpa using h
      exact (decide_eq_false (fun e => h (by rw [e]))).symm
    · have h : (a.length : Int) = b.length := by simpa using h
      have h : a.length = b.length := by omega
      refine ⟨⟨⟨h, hv⟩, rfl, rfl, rfl⟩, fun _ => ⟨fun g => ?_, fun g => ?_⟩⟩
      · rw [← neP_eq (d := RT.rel.dflt) h]; exact g.symm
      · rw [← neP_eq (d := RT.rel.dflt) h]; exact g.symm
  · cases hr
def HfS (a b : List Sm) (i : Nat) : SState := { fr := [(0, .ro .sym a), (1, .ro .sym b), (5, .int .i64 (.sym i 0 1000000))], hp := [], next := 0, sz := 29 }
def XfS (a b : List Sm) : SState := { fr := [], hp := [], next := 0, sz := 29 }
def YfS (a b : List Sm) : SState := { fr := [(4, .bool (.lit false))], hp := [], next := 0, sz := 29 }
def LfS (a b : List Sm) : LSum := ⟨HfS a b 0, fun k => .ite (noneQ (neP RT.sym.dflt a b) a.length) (k (.exit 0) (XfS a b)) (k .ret (YfS a b)), a.length = b.length ∧ a.length ≤ 1000000⟩
theorem bfS (gl : List (Nat × SVal)) (a b : List Sm) (i : Nat) : (Tr.sat (rnd2 (env gl [(103, kSameSym)]) (fun i => noneQ (neP RT.sym.dflt a b) i = true) (a.length) (HfS a b) 0 (noneQ (neP RT.sym.dflt a b) a.length) (XfS a b) (YfS a b) i) (run (env gl [(103, kSameSym)]) [] (loopN (bodyOf Tryd.f76) 0) (HfS a b i) .leaf)) = (
  (decide ((↑i : Int) < (↑(List.length a) : Int)) = true → ((0 : Int) ≤ (↑i : Int) ∧ (↑i : Int) < (↑(List.length a) : Int)) ∧ ((0 : Int) ≤ (↑i : Int) ∧ (↑i : Int) < (↑(List.length a) : Int) → ((0 : Int) ≤ (↑i : Int) ∧ (↑i : Int) < (↑(List.length b) : Int)) ∧ ((0 : Int) ≤ (↑i : Int) ∧ (↑i : Int) < (↑(List.length b) : Int) → ((!(decide ((List.getD a (Int.toNat (↑i : Int)) (RT.dflt RT.sym)).name = (List.getD b (Int.toNat (↑i : Int)) (RT.dflt RT.sym)).name) && (decide ((List.getD a (Int.toNat (↑i : Int)) (RT.dflt RT.sym)).in_ = (List.getD b (Int.toNat (↑i : Int)) (RT.dflt RT.sym)).in_) && (decide ((List.getD a (Int.toNat (↑i : Int)) (RT.dflt RT.sym)).value = (List.getD b (Int.toNat (↑i : Int)) (RT.dflt RT.sym)).value) && ((List.getD a (Int.toNat (↑i : Int)) (RT.dflt RT.sym)).global == (List.getD b (Int.toNat (↑i : Int)) (RT.dflt RT.sym)).global && true))))) = true → noneQ (neP (RT.dflt RT.sym) a b) (List.length a) = false ∧ false = false) ∧ ((!(decide ((List.getD a (Int.toNat (↑i : Int)) (RT.dflt RT.sym)).name = (List.getD b (Int.toNat (↑i : Int)) (RT.dflt RT.sym)).name) && (decide ((List.getD a (Int.toNat (↑i : Int)) (RT.dflt RT.sym)).in_ = (List.getD b (Int.toNat (↑i : Int)) (RT.dflt RT.sym)).in_) && (decide ((List.getD a (Int.toNat (↑i : Int)) (RT.dflt RT.sym)).value = (List.getD b (Int.toNat (↑i : Int)) (RT.dflt RT.sym)).value) && ((List.getD a (Int.toNat (↑i : Int)) (RT.dflt RT.sym)).global == (List.getD b (Int.toNat (↑i : Int)) (RT.dflt RT.sym)).global && true))))) = false → i < List.length a ∧ noneQ (neP (RT.dflt RT.sym) a b) (i + (1 : Nat)) = true ∧ a = a ∧ b = b ∧ (↑i : Int) + (1 : Int) = (↑(i + (1 : Nat)) : Int) ∧ (0 : Int) ≤ (↑(i + (1 : Nat)) : Int) ∧ (↑(i + (1 : Nat)) : Int) ≤ (1000000 : Int))))) ∧ (decide ((↑i : Int) < (↑(List.length a) : Int)) = false → Nat.beq (0 : Nat) (0 : Nat) = true ∧ noneQ (neP (RT.dflt RT.sym) a b) (List.length a) = true ∧ True)) := by kernel_rfl
set_option maxHeartbeats 4000000 in
theorem lfS (a b : List Sm) {W : World} {R own0 : Nat → Prop} {ρ0 : Nat → Option Value} (hown : HownOk (env gl [(103, kSameSym)]) own0 ρ0) : LOk Tryd.prog (env gl [(103, kSameSym)]) (ctx ea has) gl W R own0 ρ0 (loopN (bodyOf Tryd.f76) 0) (LfS a b) := by
  refine loop2_ok (env_ok (con := [(103, kSameSym)]) ⟨cSameSym, trivial⟩) hown (ls := fun i => []) (fun i => noLoops (by kernel_rfl)) (fun hm i hi hj => (bfS gl a b i).mpr ?_) 0 (fun hm => by first | exact Nat.zero_le _ | omega) (fun hm => rfl)
  have hp : neP RT.sym.dflt a b i = !decide (a.getD i RT.sym.dflt = b.getD i RT.sym.dflt) := rfl
  obtain ⟨hm1, hm2⟩ := hm
  simp only [symEq]
  simp only [Int.toNat_natCast, Bool.not_not]
  refine ⟨fun h => ?_, fun h => ?_⟩
  · have h := of_decide_eq_true h
    have hlt : i < a.length := by omega
    refine ⟨by omega, fun _ => ⟨by omega, fun _ => ⟨fun h2 => ⟨noneQ_at (hp.trans h2) hlt, trivial⟩, fun h2 => ?_⟩⟩⟩
    refine ⟨hlt, by rw [noneQ, hj, hp.trans h2]; rfl, ?_⟩
    simp; omega
  · have h := of_decide_eq_false h
    have e : i = a.length := by omega
    subst e
    exact ⟨rfl, hj, trivial⟩
def kfS : List SVal → Nat → Acc ORes := fun a n => match a with | [.ro .sym a, .ro .sym b] => .ret ({ v := .bool (.sym (decide (a = b))), vc := some (a.length ≤ 1000000) }) | _ => .fail "fS"
theorem argfS (a b : List Sm) : (all (subL 134 none' [] deep [.ro .sym a, .ro .sym b] [.ro .sym a, .ro .sym b])) = (
  a = a ∧ b = b) := by kernel_rfl
theorem runfS (gl : List (Nat × SVal)) (a b : List Sm) : (Tr.sat (plainQ (.bool (.sym (decide (a = b))))) (run (env gl [(103, kSameSym)]) [(4, LfS a b)] (bodyOf Tryd.f76) (start [.ro .sym a, .ro .sym b] 29) (ends (env gl [(103, kSameSym)]) Tryd.f76.results.toList))) = (
  ((!decide ((↑(List.length a) : Int) = (↑(List.length b) : Int))) = true → false = decide (a = b)) ∧ ((!decide ((↑(List.length a) : Int) = (↑(List.length b) : Int))) = false → ((List.length a = List.length b ∧ List.length a ≤ (1000000 : Nat)) ∧ a = a ∧ b = b ∧ (0 : Int) = (↑(0 : Nat) : Int)) ∧ ((List.length a = List.length b ∧ List.length a ≤ (1000000 : Nat)) ∧ a = a ∧ b = b ∧ (0 : Int) = (↑(0 : Nat) : Int) → (noneQ (neP (RT.dflt RT.sym) a b) (List.length a) = true → true = decide (a = b)) ∧ (noneQ (neP (RT.dflt RT.sym) a b) (List.length a) = false → false = decide (a = b))))) := by kernel_rfl
set_option maxHeartbeats 4000000 in
theorem cfS : Con ea has gl 76 kfS := by
  refine plain_mk Tryd.func76 29 (con := [(103, kSameSym)]) ⟨cSameSym, trivial⟩ (fun hA hr hv => ?_) (by kernel_rfl) (by kernel_rfl) Tryd.ntmps76
  unfold kfS at hr; split at hr
  · rename_i a b
    have := ret_ok hr; subst this
    replace hv := hv _ rfl
    refine ⟨_, [(4, LfS a b)], rfl, rfl, (argfS a b).mpr (by simp), rfl, (fun W R ρ0 own0 hown => hl1 (by kernel_rfl) (by kernel_rfl) (lfS a b hown)), (runfS gl a b).mpr ?_⟩
    clear hr
    refine ⟨fun h => ?_, fun h => ?_⟩
    · have h : ¬ (a.length : Int) = b.length := by simpa using h
      exact (decide_eq_false (fun e => h (by rw [e]))).symm
    · have h : (a.length : Int) = b.length := by simpa using h
      have h : a.length = b.length := by omega
      refine ⟨⟨⟨h, hv⟩, rfl, rfl, rfl⟩, fun _ => ⟨fun g => ?_, fun g => ?_⟩⟩
      · rw [← neP_eq (d := RT.sym.dflt) h]; exact g.symm
      · rw [← neP_eq (d := RT.sym.dflt) h]; exact g.symm
  · cases hr
def HfI (a b : List Int) (i : Nat) : SState := { fr := [(0, .ro .i64 a), (1, .ro .i64 b), (5, .int .i64 (.sym i 0 1000000))], hp := [], next := 0, sz := 29 }
def XfI (a b : List Int) : SState := { fr := [], hp := [], next := 0, sz := 29 }
def YfI (a b : List Int) : SState := { fr := [(4, .bool (.lit false))], hp := [], next := 0, sz := 29 }
def LfI (a b : List Int) : LSum := ⟨HfI a b 0, fun k => .ite (noneQ (neP RT.i64.dflt a b) a.length) (k (.exit 0) (XfI a b)) (k .ret (YfI a b)), a.length = b.length ∧ a.length ≤ 1000000⟩
theorem bfI (gl : List (Nat × SVal)) (a b : List Int) (i : Nat) : (Tr.sat (rnd2 (env gl []) (fun i => noneQ (neP RT.i64.dflt a b) i = true) (a.length) (HfI a b) 0 (noneQ (neP RT.i64.dflt a b) a.length) (XfI a b) (YfI a b) i) (run (env gl []) [] (loopN (bodyOf Tryd.f43) 0) (HfI a b i) .leaf)) = (
  (decide ((↑i : Int) < (↑(List.length a) : Int)) = true → ((0 : Int) ≤ (↑i : Int) ∧ (↑i : Int) < (↑(List.length a) : Int)) ∧ ((0 : Int) ≤ (↑i : Int) ∧ (↑i : Int) < (↑(List.length a) : Int) → ((0 : Int) ≤ (↑i : Int) ∧ (↑i : Int) < (↑(List.length b) : Int)) ∧ ((0 : Int) ≤ (↑i : Int) ∧ (↑i : Int) < (↑(List.length b) : Int) → ((!decide (List.getD a (Int.toNat (↑i : Int)) (RT.dflt RT.i64) = List.getD b (Int.toNat (↑i : Int)) (RT.dflt RT.i64))) = true → noneQ (neP (RT.dflt RT.i64) a b) (List.length a) = false ∧ false = false) ∧ ((!decide (List.getD a (Int.toNat (↑i : Int)) (RT.dflt RT.i64) = List.getD b (Int.toNat (↑i : Int)) (RT.dflt RT.i64))) = false → i < List.length a ∧ noneQ (neP (RT.dflt RT.i64) a b) (i + (1 : Nat)) = true ∧ a = a ∧ b = b ∧ (↑i : Int) + (1 : Int) = (↑(i + (1 : Nat)) : Int) ∧ (0 : Int) ≤ (↑(i + (1 : Nat)) : Int) ∧ (↑(i + (1 : Nat)) : Int) ≤ (1000000 : Int))))) ∧ (decide ((↑i : Int) < (↑(List.length a) : Int)) = false → Nat.beq (0 : Nat) (0 : Nat) = true ∧ noneQ (neP (RT.dflt RT.i64) a b) (List.length a) = true ∧ True)) := by kernel_rfl
set_option maxHeartbeats 4000000 in
theorem lfI (a b : List Int) {W : World} {R own0 : Nat → Prop} {ρ0 : Nat → Option Value} (hown : HownOk (env gl []) own0 ρ0) : LOk Tryd.prog (env gl []) (ctx ea has) gl W R own0 ρ0 (loopN (bodyOf Tryd.f43) 0) (LfI a b) := by
  refine loop2_ok (env_ok (con := []) trivial) hown (ls := fun i => []) (fun i => noLoops (by kernel_rfl)) (fun hm i hi hj => (bfI gl a b i).mpr ?_) 0 (fun hm => by first | exact Nat.zero_le _ | omega) (fun hm => rfl)
  have hp : neP RT.i64.dflt a b i = !decide (a.getD i RT.i64.dflt = b.getD i RT.i64.dflt) := rfl
  obtain ⟨hm1, hm2⟩ := hm
  skip
  simp only [Int.toNat_natCast, Bool.not_not]
  refine ⟨fun h => ?_, fun h => ?_⟩
  · have h := of_decide_eq_true h
    have hlt : i < a.length := by omega
    refine ⟨by omega, fun _ => ⟨by omega, fun _ => ⟨fun h2 => ⟨noneQ_at (hp.trans h2) hlt, trivial⟩, fun h2 => ?_⟩⟩⟩
    refine ⟨hlt, by rw [noneQ, hj, hp.trans h2]; rfl, ?_⟩
    simp; omega
  · have h := of_decide_eq_false h
    have e : i = a.length := by omega
    subst e
    exact ⟨rfl, hj, trivial⟩
def kfI : List SVal → Nat → Acc ORes := fun a n => match a with | [.ro .i64 a, .ro .i64 b] => .ret ({ v := .bool (.sym (decide (a = b))), vc := some (a.length ≤ 1000000) }) | _ => .fail "fI"
theorem argfI (a b : List Int) : (all (subL 134 none' [] deep [.ro .i64 a, .ro .i64 b] [.ro .i64 a, .ro .i64 b])) = (
  a = a ∧ b = b) := by kernel_rfl
theorem runfI (gl : List (Nat × SVal)) (a b : List Int) : (Tr.sat (plainQ (.bool (.sym (decide (a = b))))) (run (env gl []) [(4, LfI a b)] (bodyOf Tryd.f43) (start [.ro .i64 a, .ro .i64 b] 29) (ends (env gl []) Tryd.f43.results.toList))) = (
  ((!decide ((↑(List.length a) : Int) = (↑(List.length b) : Int))) = true → false = decide (a = b)) ∧ ((!decide ((↑(List.length a) : Int) = (↑(List.length b) : Int))) = false → ((List.length a = List.length b ∧ List.length a ≤ (1000000 : Nat)) ∧ a = a ∧ b = b ∧ (0 : Int) = (↑(0 : Nat) : Int)) ∧ ((List.length a = List.length b ∧ List.length a ≤ (1000000 : Nat)) ∧ a = a ∧ b = b ∧ (0 : Int) = (↑(0 : Nat) : Int) → (noneQ (neP (RT.dflt RT.i64) a b) (List.length a) = true → true = decide (a = b)) ∧ (noneQ (neP (RT.dflt RT.i64) a b) (List.length a) = false → false = decide (a = b))))) := by kernel_rfl
set_option maxHeartbeats 4000000 in
theorem cfI : Con ea has gl 43 kfI := by
  refine plain_mk Tryd.func43 29 (con := []) trivial (fun hA hr hv => ?_) (by kernel_rfl) (by kernel_rfl) Tryd.ntmps43
  unfold kfI at hr; split at hr
  · rename_i a b
    have := ret_ok hr; subst this
    replace hv := hv _ rfl
    refine ⟨_, [(4, LfI a b)], rfl, rfl, (argfI a b).mpr (by simp), rfl, (fun W R ρ0 own0 hown => hl1 (by kernel_rfl) (by kernel_rfl) (lfI a b hown)), (runfI gl a b).mpr ?_⟩
    clear hr
    refine ⟨fun h => ?_, fun h => ?_⟩
    · have h : ¬ (a.length : Int) = b.length := by simpa using h
      exact (decide_eq_false (fun e => h (by rw [e]))).symm
    · have h : (a.length : Int) = b.length := by simpa using h
      have h : a.length = b.length := by omega
      refine ⟨⟨⟨h, hv⟩, rfl, rfl, rfl⟩, fun _ => ⟨fun g => ?_, fun g => ?_⟩⟩
      · rw [← neP_eq (d := RT.i64.dflt) h]; exact g.symm
      · rw [← neP_eq (d := RT.i64.dflt) h]; exact g.symm
  · cases hr
def HfT (a b : List ByteArray) (i : Nat) : SState := { fr := [(0, .ro .str a), (1, .ro .str b), (5, .int .i64 (.sym i 0 1000000))], hp := [], next := 0, sz := 29 }
def XfT (a b : List ByteArray) : SState := { fr := [], hp := [], next := 0, sz := 29 }
def YfT (a b : List ByteArray) : SState := { fr := [(4, .bool (.lit false))], hp := [], next := 0, sz := 29 }
def LfT (a b : List ByteArray) : LSum := ⟨HfT a b 0, fun k => .ite (noneQ (neP RT.str.dflt a b) a.length) (k (.exit 0) (XfT a b)) (k .ret (YfT a b)), a.length = b.length ∧ a.length ≤ 1000000⟩
theorem bfT (gl : List (Nat × SVal)) (a b : List ByteArray) (i : Nat) : (Tr.sat (rnd2 (env gl []) (fun i => noneQ (neP RT.str.dflt a b) i = true) (a.length) (HfT a b) 0 (noneQ (neP RT.str.dflt a b) a.length) (XfT a b) (YfT a b) i) (run (env gl []) [] (loopN (bodyOf Tryd.f52) 0) (HfT a b i) .leaf)) = (
  (decide ((↑i : Int) < (↑(List.length a) : Int)) = true → ((0 : Int) ≤ (↑i : Int) ∧ (↑i : Int) < (↑(List.length a) : Int)) ∧ ((0 : Int) ≤ (↑i : Int) ∧ (↑i : Int) < (↑(List.length a) : Int) → ((0 : Int) ≤ (↑i : Int) ∧ (↑i : Int) < (↑(List.length b) : Int)) ∧ ((0 : Int) ≤ (↑i : Int) ∧ (↑i : Int) < (↑(List.length b) : Int) → ((!decide (List.getD a (Int.toNat (↑i : Int)) (RT.dflt RT.str) = List.getD b (Int.toNat (↑i : Int)) (RT.dflt RT.str))) = true → noneQ (neP (RT.dflt RT.str) a b) (List.length a) = false ∧ false = false) ∧ ((!decide (List.getD a (Int.toNat (↑i : Int)) (RT.dflt RT.str) = List.getD b (Int.toNat (↑i : Int)) (RT.dflt RT.str))) = false → i < List.length a ∧ noneQ (neP (RT.dflt RT.str) a b) (i + (1 : Nat)) = true ∧ a = a ∧ b = b ∧ (↑i : Int) + (1 : Int) = (↑(i + (1 : Nat)) : Int) ∧ (0 : Int) ≤ (↑(i + (1 : Nat)) : Int) ∧ (↑(i + (1 : Nat)) : Int) ≤ (1000000 : Int))))) ∧ (decide ((↑i : Int) < (↑(List.length a) : Int)) = false → Nat.beq (0 : Nat) (0 : Nat) = true ∧ noneQ (neP (RT.dflt RT.str) a b) (List.length a) = true ∧ True)) := by kernel_rfl
set_option maxHeartbeats 4000000 in
theorem lfT (a b : List ByteArray) {W : World} {R own0 : Nat → Prop} {ρ0 : Nat → Option Value} (hown : HownOk (env gl []) own0 ρ0) : LOk Tryd.prog (env gl []) (ctx ea has) gl W R own0 ρ0 (loopN (bodyOf Tryd.f52) 0) (LfT a b) := by
  refine loop2_ok (env_ok (con := []) trivial) hown (ls := fun i => []) (fun i => noLoops (by kernel_rfl)) (fun hm i hi hj => (bfT gl a b i).mpr ?_) 0 (fun hm => by first | exact Nat.zero_le _ | omega) (fun hm => rfl)
  have hp : neP RT.str.dflt a b i = !decide (a.getD i RT.str.dflt = b.getD i RT.str.dflt) := rfl
  obtain ⟨hm1, hm2⟩ := hm
  skip
  simp only [Int.toNat_natCast, Bool.not_not]
  refine ⟨fun h => ?_, fun h => ?_⟩
  · have h := of_decide_eq_true h
    have hlt : i < a.length := by omega
    refine ⟨by omega, fun _ => ⟨by omega, fun _ => ⟨fun h2 => ⟨noneQ_at (hp.trans h2) hlt, trivial⟩, fun h2 => ?_⟩⟩⟩
    refine ⟨hlt, by rw [noneQ, hj, hp.trans h2]; rfl, ?_⟩
    simp; omega
  · have h := of_decide_eq_false h
    have e : i = a.length := by omega
    subst e
    exact ⟨rfl, hj, trivial⟩
def kfT : List SVal → Nat → Acc ORes := fun a n => match a with | [.ro .str a, .ro .str b] => .ret ({ v := .bool (.sym (decide (a = b))), vc := some (a.length ≤ 1000000) }) | _ => .fail "fT"
theorem argfT (a b : List ByteArray) : (all (subL 134 none' [] deep [.ro .str a, .ro .str b] [.ro .str a, .ro .str b])) = (
  a = a ∧ b = b) := by kernel_rfl
theorem runfT (gl : List (Nat × SVal)) (a b : List ByteArray) : (Tr.sat (plainQ (.bool (.sym (decide (a = b))))) (run (env gl []) [(4, LfT a b)] (bodyOf Tryd.f52) (start [.ro .str a, .ro .str b] 29) (ends (env gl []) Tryd.f52.results.toList))) = (
  ((!decide ((↑(List.length a) : Int) = (↑(List.length b) : Int))) = true → false = decide (a = b)) ∧ ((!decide ((↑(List.length a) : Int) = (↑(List.length b) : Int))) = false → ((List.length a = List.length b ∧ List.length a ≤ (1000000 : Nat)) ∧ a = a ∧ b = b ∧ (0 : Int) = (↑(0 : Nat) : Int)) ∧ ((List.length a = List.length b ∧ List.length a ≤ (1000000 : Nat)) ∧ a = a ∧ b = b ∧ (0 : Int) = (↑(0 : Nat) : Int) → (noneQ (neP (RT.dflt RT.str) a b) (List.length a) = true → true = decide (a = b)) ∧ (noneQ (neP (RT.dflt RT.str) a b) (List.length a) = false → false = decide (a = b))))) := by kernel_rfl
set_option maxHeartbeats 4000000 in
theorem cfT : Con ea has gl 52 kfT := by
  refine plain_mk Tryd.func52 29 (con := []) trivial (fun hA hr hv => ?_) (by kernel_rfl) (by kernel_rfl) Tryd.ntmps52
  unfold kfT at hr; split at hr
  · rename_i a b
    have := ret_ok hr; subst this
    replace hv := hv _ rfl
    refine ⟨_, [(4, LfT a b)], rfl, rfl, (argfT a b).mpr (by simp), rfl, (fun W R ρ0 own0 hown => hl1 (by kernel_rfl) (by kernel_rfl) (lfT a b hown)), (runfT gl a b).mpr ?_⟩
    clear hr
    refine ⟨fun h => ?_, fun h => ?_⟩
    · have h : ¬ (a.length : Int) = b.length := by simpa using h
      exact (decide_eq_false (fun e => h (by rw [e]))).symm
    · have h : (a.length : Int) = b.length := by simpa using h
      have h : a.length = b.length := by omega
      refine ⟨⟨⟨h, hv⟩, rfl, rfl, rfl⟩, fun _ => ⟨fun g => ?_, fun g => ?_⟩⟩
      · rw [← neP_eq (d := RT.str.dflt) h]; exact g.symm
      · rw [← neP_eq (d := RT.str.dflt) h]; exact g.symm
  · cases hr
def sameOb (d c m : List Int) (dr cr : List Rel) (sy : List Sm) (d' c' m' : List Int) (dr' cr' : List Rel) (sy' : List Sm) : Bool :=
  decide (d = d') && decide (c = c') && decide (m = m') && decide (dr = dr') && decide (cr = cr') && decide (sy = sy')
def lenOb (d c m : List Int) (dr cr : List Rel) (sy : List Sm) : Prop := d.length ≤ 1000000 ∧ c.length ≤ 1000000 ∧ m.length ≤ 1000000 ∧ dr.length ≤ 1000000 ∧ cr.length ≤ 1000000 ∧ sy.length ≤ 1000000
def shOb : Shp := .agg [.ro .u32, .ro .u32, .ro .u8, .ro .rel, .ro .rel, .ro .sym]
def kSame : List SVal → Nat → Acc ORes := fun a n => match a with | [.agg [.ro .u32 d, .ro .u32 c, .ro .u8 m, .ro .rel dr, .ro .rel cr, .ro .sym sy], .agg [.ro .u32 d', .ro .u32 c', .ro .u8 m', .ro .rel dr', .ro .rel cr', .ro .sym sy']] => .ret ({ v := .bool (.sym (sameOb d c m dr cr sy d' c' m' dr' cr' sy')), vc := some (lenOb d c m dr cr sy) }) | _ => .fail "Same"
theorem argSame (d c m : List Int) (dr cr : List Rel) (sy : List Sm) (d' c' m' : List Int) (dr' cr' : List Rel) (sy' : List Sm) : (all (subL 134 none' [] deep [.agg [.ro .u32 d, .ro .u32 c, .ro .u8 m, .ro .rel dr, .ro .rel cr, .ro .sym sy], .agg [.ro .u32 d', .ro .u32 c', .ro .u8 m', .ro .rel dr', .ro .rel cr', .ro .sym sy']] [.agg [.ro .u32 d, .ro .u32 c, .ro .u8 m, .ro .rel dr, .ro .rel cr, .ro .sym sy], .agg [.ro .u32 d', .ro .u32 c', .ro .u8 m', .ro .rel dr', .ro .rel cr', .ro .sym sy']])) = (
  d = d ∧ c = c ∧ m = m ∧ dr = dr ∧ cr = cr ∧ sy = sy ∧ d' = d' ∧ c' = c' ∧ m' = m' ∧ dr' = dr' ∧ cr' = cr' ∧ sy' = sy') := by kernel_rfl
theorem runSame (gl : List (Nat × SVal)) (d c m : List Int) (dr cr : List Rel) (sy : List Sm) (d' c' m' : List Int) (dr' cr' : List Rel) (sy' : List Sm) : (Tr.sat (plainQ (.bool (.sym (sameOb d c m dr cr sy d' c' m' dr' cr' sy')))) (run (env gl [(72, keW), (73, keB), (74, keR), (75, keS)]) [] (bodyOf Tryd.f30) (start [.agg [.ro .u32 d, .ro .u32 c, .ro .u8 m, .ro .rel dr, .ro .rel cr, .ro .sym sy], .agg [.ro .u32 d', .ro .u32 c', .ro .u8 m', .ro .rel dr', .ro .rel cr', .ro .sym sy']] 45) (ends (env gl [(72, keW), (73, keB), (74, keR), (75, keS)]) Tryd.f30.results.toList))) = (
  List.length d ≤ (1000000 : Nat) ∧ (List.length d ≤ (1000000 : Nat) → (decide (d = d') = true → List.length c ≤ (1000000 : Nat)) ∧ ((decide (d = d') = true → List.length c ≤ (1000000 : Nat)) → ((decide (d = d') && decide (c = c')) = true → List.length m ≤ (1000000 : Nat)) ∧ (((decide (d = d') && decide (c = c')) = true → List.length m ≤ (1000000 : Nat)) → ((decide (d = d') && decide (c = c') && decide (m = m')) = true → List.length dr ≤ (1000000 : Nat)) ∧ (((decide (d = d') && decide (c = c') && decide (m = m')) = true → List.length dr ≤ (1000000 : Nat)) → ((decide (d = d') && decide (c = c') && decide (m = m') && decide (dr = dr')) = true → List.length cr ≤ (1000000 : Nat)) ∧ (((decide (d = d') && decide (c = c') && decide (m = m') && decide (dr = dr')) = true → List.length cr ≤ (1000000 : Nat)) → ((decide (d = d') && decide (c = c') && decide (m = m') && decide (dr = dr') && decide (cr = cr')) = true → List.length sy ≤ (1000000 : Nat)) ∧ (((decide (d = d') && decide (c = c') && decide (m = m') && decide (dr = dr') && decide (cr = cr')) = true → List.length sy ≤ (1000000 : Nat)) → (decide (d = d') && decide (c = c') && decide (m = m') && decide (dr = dr') && decide (cr = cr') && decide (sy = sy')) = sameOb d c m dr cr sy d' c' m' dr' cr' sy'))))))) := by kernel_rfl
set_option maxHeartbeats 4000000 in
theorem cSame : Con ea has gl 30 kSame := by
  refine plain_mk Tryd.func30 45 (con := [(72, keW), (73, keB), (74, keR), (75, keS)]) ⟨ceW, ceB, ceR, ceS, trivial⟩ (fun hA hr hv => ?_) (by kernel_rfl) (by kernel_rfl) Tryd.ntmps30
  unfold kSame at hr; split at hr
  · rename_i d c m dr cr sy d' c' m' dr' cr' sy'
    have := ret_ok hr; subst this
    replace hv := hv _ rfl
    refine ⟨_, [], rfl, rfl, (argSame d c m dr cr sy d' c' m' dr' cr' sy').mpr (by simp), rfl, (fun W R ρ0 own0 hown => noLoops (by kernel_rfl)), (runSame gl d c m dr cr sy d' c' m' dr' cr' sy').mpr ?_⟩
    clear hr
    obtain ⟨h1, h2, h3, h4, h5, h6⟩ := hv
    exact ⟨h1, fun _ => ⟨fun _ => h2, fun _ => ⟨fun _ => h3, fun _ => ⟨fun _ => h4, fun _ => ⟨fun _ => h5, fun _ => ⟨fun _ => h6, fun _ => rfl⟩⟩⟩⟩⟩⟩
  · cases hr
def kSameObject : List SVal → Nat → Acc ORes := fun a n => match a with | [.agg [.ro .u32 d, .ro .u32 c, .ro .u8 m, .ro .rel dr, .ro .rel cr, .ro .sym sy], .agg [.ro .u32 d', .ro .u32 c', .ro .u8 m', .ro .rel dr', .ro .rel cr', .ro .sym sy']] => .ret ({ v := .bool (.sym (sameOb d c m dr cr sy d' c' m' dr' cr' sy')), vc := some (lenOb d c m dr cr sy) }) | _ => .fail "SameObject"
theorem argSameObject (d c m : List Int) (dr cr : List Rel) (sy : List Sm) (d' c' m' : List Int) (dr' cr' : List Rel) (sy' : List Sm) : (all (subL 134 none' [] deep [.agg [.ro .u32 d, .ro .u32 c, .ro .u8 m, .ro .rel dr, .ro .rel cr, .ro .sym sy], .agg [.ro .u32 d', .ro .u32 c', .ro .u8 m', .ro .rel dr', .ro .rel cr', .ro .sym sy']] [.agg [.ro .u32 d, .ro .u32 c, .ro .u8 m, .ro .rel dr, .ro .rel cr, .ro .sym sy], .agg [.ro .u32 d', .ro .u32 c', .ro .u8 m', .ro .rel dr', .ro .rel cr', .ro .sym sy']])) = (
  d = d ∧ c = c ∧ m = m ∧ dr = dr ∧ cr = cr ∧ sy = sy ∧ d' = d' ∧ c' = c' ∧ m' = m' ∧ dr' = dr' ∧ cr' = cr' ∧ sy' = sy') := by kernel_rfl
theorem runSameObject (gl : List (Nat × SVal)) (d c m : List Int) (dr cr : List Rel) (sy : List Sm) (d' c' m' : List Int) (dr' cr' : List Rel) (sy' : List Sm) : (Tr.sat (plainQ (.bool (.sym (sameOb d c m dr cr sy d' c' m' dr' cr' sy')))) (run (env gl [(36, kfW), (46, kfB), (37, kfR), (76, kfS)]) [] (bodyOf Tryd.f31) (start [.agg [.ro .u32 d, .ro .u32 c, .ro .u8 m, .ro .rel dr, .ro .rel cr, .ro .sym sy], .agg [.ro .u32 d', .ro .u32 c', .ro .u8 m', .ro .rel dr', .ro .rel cr', .ro .sym sy']] 45) (ends (env gl [(36, kfW), (46, kfB), (37, kfR), (76, kfS)]) Tryd.f31.results.toList))) = (
  List.length d ≤ (1000000 : Nat) ∧ (List.length d ≤ (1000000 : Nat) → (decide (d = d') = true → List.length c ≤ (1000000 : Nat)) ∧ ((decide (d = d') = true → List.length c ≤ (1000000 : Nat)) → ((decide (d = d') && decide (c = c')) = true → List.length m ≤ (1000000 : Nat)) ∧ (((decide (d = d') && decide (c = c')) = true → List.length m ≤ (1000000 : Nat)) → ((decide (d = d') && decide (c = c') && decide (m = m')) = true → List.length dr ≤ (1000000 : Nat)) ∧ (((decide (d = d') && decide (c = c') && decide (m = m')) = true → List.length dr ≤ (1000000 : Nat)) → ((decide (d = d') && decide (c = c') && decide (m = m') && decide (dr = dr')) = true → List.length cr ≤ (1000000 : Nat)) ∧ (((decide (d = d') && decide (c = c') && decide (m = m') && decide (dr = dr')) = true → List.length cr ≤ (1000000 : Nat)) → ((decide (d = d') && decide (c = c') && decide (m = m') && decide (dr = dr') && decide (cr = cr')) = true → List.length sy ≤ (1000000 : Nat)) ∧ (((decide (d = d') && decide (c = c') && decide (m = m') && decide (dr = dr') && decide (cr = cr')) = true → List.length sy ≤ (1000000 : Nat)) → (decide (d = d') && decide (c = c') && decide (m = m') && decide (dr = dr') && decide (cr = cr') && decide (sy = sy')) = sameOb d c m dr cr sy d' c' m' dr' cr' sy'))))))) := by kernel_rfl
set_option maxHeartbeats 4000000 in
theorem cSameObject : Con ea has gl 31 kSameObject := by
  refine plain_mk Tryd.func31 45 (con := [(36, kfW), (46, kfB), (37, kfR), (76, kfS)]) ⟨cfW, cfB, cfR, cfS, trivial⟩ (fun hA hr hv => ?_) (by kernel_rfl) (by kernel_rfl) Tryd.ntmps31
  unfold kSameObject at hr; split at hr
  · rename_i d c m dr cr sy d' c' m' dr' cr' sy'
    have := ret_ok hr; subst this
    replace hv := hv _ rfl
    refine ⟨_, [], rfl, rfl, (argSameObject d c m dr cr sy d' c' m' dr' cr' sy').mpr (by simp), rfl, (fun W R ρ0 own0 hown => noLoops (by kernel_rfl)), (runSameObject gl d c m dr cr sy d' c' m' dr' cr' sy').mpr ?_⟩
    clear hr
    obtain ⟨h1, h2, h3, h4, h5, h6⟩ := hv
    exact ⟨h1, fun _ => ⟨fun _ => h2, fun _ => ⟨fun _ => h3, fun _ => ⟨fun _ => h4, fun _ => ⟨fun _ => h5, fun _ => ⟨fun _ => h6, fun _ => rfl⟩⟩⟩⟩⟩⟩
  · cases hr
abbrev kCloneW := kClone .u32
theorem runCloneW0 (gl : List (Nat × SVal)) : (Tr.sat (newQ (env gl []) (.own 0) [(0, .recs .u32 [])] 1) (run (env gl []) [] (bodyOf Tryd.f68) (start [.nilslice] 8) (ends (env gl []) Tryd.f68.results.toList))) = (
  @List.nil (RT.ty RT.u32) = @List.nil (RT.ty RT.u32)) := by kernel_rfl
theorem runCloneW1 (gl : List (Nat × SVal)) (l : List Int) : (Tr.sat (newQ (env gl []) (.own 0) [(0, .recs .u32 l)] 1) (run (env gl []) [] (bodyOf Tryd.f68) (start [.roN .u32 l] 8) (ends (env gl []) Tryd.f68.results.toList))) = (
  List.length (@List.nil (RT.ty RT.u32)) + List.length l ≤ (137438953472 : Nat) ∧ (List.length (@List.nil (RT.ty RT.u32)) + List.length l ≤ (137438953472 : Nat) → @List.nil (RT.ty RT.u32) ++ l = l)) := by kernel_rfl
theorem cCloneW : Con ea has gl 68 (kClone .u32) := by
  refine clone_mk Tryd.func68 8 ?_ ?_ (by kernel_rfl) (by kernel_rfl) (by kernel_rfl) Tryd.ntmps68 rfl
  · have := runCloneW0 gl; exact this.mpr rfl
  · intro l hl; exact (runCloneW1 gl l).mpr ⟨by simpa using hl, fun _ => rfl⟩
abbrev kCloneB := kClone .u8
theorem runCloneB0 (gl : List (Nat × SVal)) : (Tr.sat (newQ (env gl []) (.own 0) [(0, .recs .u8 [])] 1) (run (env gl []) [] (bodyOf Tryd.f69) (start [.nilslice] 8) (ends (env gl []) Tryd.f69.results.toList))) = (
  @List.nil (RT.ty RT.u8) = @List.nil (RT.ty RT.u8)) := by kernel_rfl
theorem runCloneB1 (gl : List (Nat × SVal)) (l : List Int) : (Tr.sat (newQ (env gl []) (.own 0) [(0, .recs .u8 l)] 1) (run (env gl []) [] (bodyOf Tryd.f69) (start [.roN .u8 l] 8) (ends (env gl []) Tryd.f69.results.toList))) = (
  List.length (@List.nil (RT.ty RT.u8)) + List.length l ≤ (137438953472 : Nat) ∧ (List.length (@List.nil (RT.ty RT.u8)) + List.length l ≤ (137438953472 : Nat) → @List.nil (RT.ty RT.u8) ++ l = l)) := by kernel_rfl
theorem cCloneB : Con ea has gl 69 (kClone .u8) := by
  refine clone_mk Tryd.func69 8 ?_ ?_ (by kernel_rfl) (by kernel_rfl) (by kernel_rfl) Tryd.ntmps69 rfl
  · have := runCloneB0 gl; exact this.mpr rfl
  · intro l hl; exact (runCloneB1 gl l).mpr ⟨by simpa using hl, fun _ => rfl⟩
abbrev kCloneR := kClone .rel
theorem runCloneR0 (gl : List (Nat × SVal)) : (Tr.sat (newQ (env gl []) (.own 0) [(0, .recs .rel [])] 1) (run (env gl []) [] (bodyOf Tryd.f70) (start [.nilslice] 8) (ends (env gl []) Tryd.f70.results.toList))) = (
  @List.nil (RT.ty RT.rel) = @List.nil (RT.ty RT.rel)) := by kernel_rfl
theorem runCloneR1 (gl : List (Nat × SVal)) (l : List Rel) : (Tr.sat (newQ (env gl []) (.own 0) [(0, .recs .rel l)] 1) (run (env gl []) [] (bodyOf Tryd.f70) (start [.roN .rel l] 8) (ends (env gl []) Tryd.f70.results.toList))) = (
  List.length (@List.nil (RT.ty RT.rel)) + List.length l ≤ (137438953472 : Nat) ∧ (List.length (@List.nil (RT.ty RT.rel)) + List.length l ≤ (137438953472 : Nat) → @List.nil (RT.ty RT.rel) ++ l = l)) := by kernel_rfl
theorem cCloneR : Con ea has gl 70 (kClone .rel) := by
  refine clone_mk Tryd.func70 8 ?_ ?_ (by kernel_rfl) (by kernel_rfl) (by kernel_rfl) Tryd.ntmps70 rfl
  · have := runCloneR0 gl; exact this.mpr rfl
  · intro l hl; exact (runCloneR1 gl l).mpr ⟨by simpa using hl, fun _ => rfl⟩
abbrev kCloneS := kClone .sym
theorem runCloneS0 (gl : List (Nat × SVal)) : (Tr.sat (newQ (env gl []) (.own 0) [(0, .recs .sym [])] 1) (run (env gl []) [] (bodyOf Tryd.f71) (start [.nilslice] 8) (ends (env gl []) Tryd.f71.results.toList))) = (
  @List.nil (RT.ty RT.sym) = @List.nil (RT.ty RT.sym)) := by kernel_rfl
theorem runCloneS1 (gl : List (Nat × SVal)) (l : List Sm) : (Tr.sat (newQ (env gl []) (.own 0) [(0, .recs .sym l)] 1) (run (env gl []) [] (bodyOf Tryd.f71) (start [.roN .sym l] 8) (ends (env gl []) Tryd.f71.results.toList))) = (
  List.length (@List.nil (RT.ty RT.sym)) + List.length l ≤ (137438953472 : Nat) ∧ (List.length (@List.nil (RT.ty RT.sym)) + List.length l ≤ (137438953472 : Nat) → @List.nil (RT.ty RT.sym) ++ l = l)) := by kernel_rfl
theorem cCloneS : Con ea has gl 71 (kClone .sym) := by
  refine clone_mk Tryd.func71 8 ?_ ?_ (by kernel_rfl) (by kernel_rfl) (by kernel_rfl) Tryd.ntmps71 rfl
  · have := runCloneS0 gl; exact this.mpr rfl
  · intro l hl; exact (runCloneS1 gl l).mpr ⟨by simpa using hl, fun _ => rfl⟩
def kCloneO : List SVal → Nat → Acc ORes := fun a n => match a with | [.agg [.ro .u32 d, .ro .u32 c, .ro .u8 m, .ro .rel dr, .ro .rel cr, .ro .sym sy]] => .ret (newR n (.agg [.own 0, .own 1, .own 2, .own 3, .own 4, .own 5]) ([(0, .recs .u32 d), (1, .recs .u32 c), (2, .recs .u8 m), (3, .recs .rel dr), (4, .recs .rel cr), (5, .recs .sym sy)]) 6 (some (lenOb d c m dr cr sy))) | _ => .fail "CloneO"
theorem argCloneO (d c m : List Int) (dr cr : List Rel) (sy : List Sm) : (all (subL 134 none' [] deep [.agg [.ro .u32 d, .ro .u32 c, .ro .u8 m, .ro .rel dr, .ro .rel cr, .ro .sym sy]] [.agg [.ro .u32 d, .ro .u32 c, .ro .u8 m, .ro .rel dr, .ro .rel cr, .ro .sym sy]])) = (
  d = d ∧ c = c ∧ m = m ∧ dr = dr ∧ cr = cr ∧ sy = sy) := by kernel_rfl
theorem runCloneO (gl : List (Nat × SVal)) (d c m : List Int) (dr cr : List Rel) (sy : List Sm) : (Tr.sat (newQ (env gl [(68, kCloneW), (69, kCloneB), (70, kCloneR), (71, kCloneS)]) (.agg [.own 0, .own 1, .own 2, .own 3, .own 4, .own 5]) ([(0, .recs .u32 d), (1, .recs .u32 c), (2, .recs .u8 m), (3, .recs .rel dr), (4, .recs .rel cr), (5, .recs .sym sy)]) 6) (run (env gl [(68, kCloneW), (69, kCloneB), (70, kCloneR), (71, kCloneS)]) [] (bodyOf Tryd.f29) (start [.agg [.ro .u32 d, .ro .u32 c, .ro .u8 m, .ro .rel dr, .ro .rel cr, .ro .sym sy]] 22) (ends (env gl [(68, kCloneW), (69, kCloneB), (70, kCloneR), (71, kCloneS)]) Tryd.f29.results.toList))) = (
  List.length d ≤ (137438953472 : Nat) ∧ (List.length d ≤ (137438953472 : Nat) → List.length c ≤ (137438953472 : Nat) ∧ (List.length c ≤ (137438953472 : Nat) → List.length m ≤ (137438953472 : Nat) ∧ (List.length m ≤ (137438953472 : Nat) → List.length dr ≤ (137438953472 : Nat) ∧ (List.length dr ≤ (137438953472 : Nat) → List.length cr ≤ (137438953472 : Nat) ∧ (List.length cr ≤ (137438953472 : Nat) → List.length sy ≤ (137438953472 : Nat) ∧ (List.length sy ≤ (137438953472 : Nat) → d = d ∧ c = c ∧ m = m ∧ dr = dr ∧ cr = cr ∧ sy = sy))))))) := by kernel_rfl
set_option maxHeartbeats 4000000 in
theorem cCloneO : Con ea has gl 29 kCloneO := by
  refine new_mk Tryd.func29 22 (con := [(68, kCloneW), (69, kCloneB), (70, kCloneR), (71, kCloneS)]) ⟨cCloneW, cCloneB, cCloneR, cCloneS, trivial⟩ (fun hA hr hv => ?_) (by kernel_rfl) (by kernel_rfl) Tryd.ntmps29
  unfold kCloneO at hr; split at hr
  · rename_i d c m dr cr sy
    have := ret_ok hr; subst this
    replace hv := hv _ rfl
    refine ⟨_, [], _, _, _, ⟨rfl, rfl, rfl⟩, (argCloneO d c m dr cr sy).mpr (by simp), rfl, rfl, (fun W R ρ0 own0 hown => noLoops (by kernel_rfl)), (runCloneO gl d c m dr cr sy).mpr ?_⟩
    clear hr
    obtain ⟨h1, h2, h3, h4, h5, h6⟩ := hv
    have up : ∀ n : Nat, n ≤ 1000000 → n ≤ 137438953472 := fun _ h => Nat.le_trans h (by decide)
    exact ⟨up _ h1, fun _ => ⟨up _ h2, fun _ => ⟨up _ h3, fun _ => ⟨up _ h4, fun _ => ⟨up _ h5, fun _ => ⟨up _ h6, fun _ => ⟨rfl, rfl, rfl, rfl, rfl, rfl⟩⟩⟩⟩⟩⟩⟩
  · cases hr
abbrev kSameB := bor [shOb, shOb] kSame
theorem cSameB : Con ea has gl 30 kSameB := bor_ok cSame _
abbrev kSameObB := bor [shOb, shOb] kSameObject
theorem cSameObB : Con ea has gl 31 kSameObB := bor_ok cSameObject _
end
end Go.Proofs.YtbdfibaljoedpaaDoor

