/- Part 17 of the proof of ObjWrong: words and contracts that the last text uses. -/
import Derived.Test.YtbdfibaljoedpaaDoorQ16ObjWrong
set_option linter.unusedVariables false
set_option linter.unusedSimpArgs false
namespace Go.Proofs.YtbdfibaljoedpaaDoor
open Go.RowKit Go.Sy Go.Fac
section
variable {ea : Int → Addr} {has : Int → Prop} {gl : List (Nat × SVal)}
def noneQ (p : Nat → Bool) : Nat → Bool
  | 0 => true
  | n + 1 => noneQ p n && !p n
theorem noneQ_at {p : Nat → Bool} {i n : Nat} (hp : p i = true) (hn : i < n) : noneQ p n = false := by
  induction n with
  | zero => omega
  | succ n ih =>
    rw [noneQ]
    by_cases e : i = n
    · subst e; rw [hp]; simp
    · rw [ih (by omega)]; rfl
theorem noneQ_iff {p : Nat → Bool} {n : Nat} : noneQ p n = true ↔ ∀ i, i < n → p i = false := by
  induction n with
  | zero => simp [noneQ]
  | succ n ih =>
    rw [noneQ, Bool.and_eq_true, ih, Bool.not_eq_true']
    refine ⟨fun ⟨h1, h2⟩ i hi => ?_, fun h => ⟨fun i hi => h i (by omega), h n (by omega)⟩⟩
    by_cases e : i = n
    · rw [e]; exact h2
    · exact h1 i (by omega)
def neP {α : Type} [DecidableEq α] (d : α) (a b : List α) (i : Nat) : Bool := !decide (a.getD i d = b.getD i d)
theorem neP_eq {α : Type} [DecidableEq α] {d : α} {a b : List α} (h : a.length = b.length) : noneQ (neP d a b) a.length = decide (a = b) := by
  rw [Bool.eq_iff_iff, noneQ_iff, decide_eq_true_eq]
  refine ⟨fun hp => List.ext_getElem h fun i h1 h2 => ?_, fun e => by subst e; intro i _; simp [neP]⟩
  have := hp i h1
  simp only [neP, Bool.not_eq_false', decide_eq_true_eq, List.getD_eq_getElem?_getD, List.getElem?_eq_getElem h1, List.getElem?_eq_getElem h2, Option.getD_some] at this
  exact this
theorem relEq (x y : Rel) : (decide (x.at_ = y.at_) && (decide (x.kind = y.kind) && (decide (x.sym = y.sym) && (decide (x.add = y.add) && true)))) = decide (x = y) := by
  cases x; cases y
  rw [Bool.eq_iff_iff]; simp [Rel.mk.injEq]
theorem symEq (x y : Sm) : (decide (x.name = y.name) && (decide (x.in_ = y.in_) && (decide (x.value = y.value) && ((x.global == y.global) && true)))) = decide (x = y) := by
  cases x; cases y
  rw [Bool.eq_iff_iff]; simp [Sm.mk.injEq]
def HeW (a b : List Int) (i : Nat) : SState := { fr := [(0, .ro .u32 a), (1, .ro .u32 b), (12, .int .i64 (.full a.length)), (13, .int .i64 (.sym i 0 1000000))], hp := [], next := 0, sz := 26 }
def XeW (a b : List Int) : SState := { fr := [], hp := [], next := 0, sz := 26 }
def YeW (a b : List Int) : SState := { fr := [(4, .bool (.lit false))], hp := [], next := 0, sz := 26 }
def LeW (a b : List Int) : LSum := ⟨HeW a b 0, fun k => .ite (noneQ (neP RT.u32.dflt a b) a.length) (k (.exit 0) (XeW a b)) (k .ret (YeW a b)), a.length = b.length ∧ a.length ≤ 1000000⟩
theorem beW (gl : List (Nat × SVal)) (a b : List Int) (i : Nat) : (Tr.sat (rnd2 (env gl []) (fun i => noneQ (neP RT.u32.dflt a b) i = true) (a.length) (HeW a b) 0 (noneQ (neP RT.u32.dflt a b) a.length) (XeW a b) (YeW a b) i) (run (env gl []) [] (loopN (bodyOf Tryd.f72) 0) (HeW a b i) .leaf)) = (
  (decide ((↑i : Int) < (↑(List.length a) : Int)) = true → ((0 : Int) ≤ (↑i : Int) ∧ (↑i : Int) < (↑(List.length a) : Int)) ∧ ((0 : Int) ≤ (↑i : Int) ∧ (↑i : Int) < (↑(List.length a) : Int) → ((0 : Int) ≤ (↑i : Int) ∧ (↑i : Int) < (↑(List.length b) : Int)) ∧ ((0 : Int) ≤ (↑i : Int) ∧ (↑i : Int) < (↑(List.length b) : Int) → ((!decide (List.getD a (Int.toNat (↑i : Int)) (RT.dflt RT.u32) = List.getD b (Int.toNat (↑i : Int)) (RT.dflt RT.u32))) = true → noneQ (neP (RT.dflt RT.u32) a b) (List.length a) = false ∧ false = false) ∧ ((!decide (List.getD a (Int.toNat (↑i : Int)) (RT.dflt RT.u32) = List.getD b (Int.toNat (↑i : Int)) (RT.dflt RT.u32))) = false → i < List.length a ∧ noneQ (neP (RT.dflt RT.u32) a b) (i + (1 : Nat)) = true ∧ a = a ∧ b = b ∧ (↑(List.length a) : Int) = (↑(List.length a) : Int) ∧ (↑i : Int) + (1 : Int) = (↑(i + (1 : Nat)) : Int) ∧ (0 : Int) ≤ (↑(i + (1 : Nat)) : Int) ∧ (↑(i + (1 : Nat)) : Int) ≤ (1000000 : Int))))) ∧ (decide ((↑i : Int) < (↑(List.length a) : Int)) = false → Nat.beq (0 : Nat) (0 : Nat) = true ∧ noneQ (neP (RT.dflt RT.u32) a b) (List.length a) = true ∧ True)) := by kernel_rfl
set_option maxHeartbeats 4000000 in
theorem leW (a b : List Int) {W : World} {R own0 : Nat → Prop} {ρ0 : Nat → Option Value} (hown : HownOk (env gl []) own0 ρ0) : LOk Tryd.prog (env gl []) (ctx ea has) gl W R own0 ρ0 (loopN (bodyOf Tryd.f72) 0) (LeW a b) := by
  refine loop2_ok (env_ok (con := []) trivial) hown (ls := fun i => []) (fun i => noLoops (by kernel_rfl)) (fun hm i hi hj => (beW gl a b i).mpr ?_) 0 (fun hm => by first | exact Nat.zero_le _ | omega) (fun hm => rfl)
  have hp : neP RT.u32.dflt a b i = !decide (a.getD i RT.u32.dflt = b.getD i RT.u32.dflt) := rfl
  obtain ⟨hm1, hm2⟩ := hm
  skip
  simp only [Int.toNat_natCast, Bool.not_not]
  refine ⟨fun h => ?_, fun h => ?_⟩
  · have h := of_decide_eq_true h
    have hlt : i < a.length := by omega
    refine ⟨by omega, fun _ => ⟨by omega, fun _ => ⟨fun h2 => ⟨noneQ_at (hp.trans h2) hlt, trivial⟩, fun h2 => ?_⟩⟩⟩
    refine ⟨hlt, by rw [noneQ, hj, hp.trans h2]; rfl, ?_⟩
    simp; omega
  · have h := of_decide_eq_false h
    have e : i = a.length := by omega
    subst e
    exact ⟨rfl, hj, trivial⟩
def keW : List SVal → Nat → Acc ORes := fun a n => match a with | [.ro .u32 a, .ro .u32 b] => .ret ({ v := .bool (.sym (decide (a = b))), vc := some (a.length ≤ 1000000) }) | _ => .fail "eW"
theorem argeW (a b : List Int) : (all (subL 134 none' [] deep [.ro .u32 a, .ro .u32 b] [.ro .u32 a, .ro .u32 b])) = (
  a = a ∧ b = b) := by kernel_rfl
theorem runeW (gl : List (Nat × SVal)) (a b : List Int) : (Tr.sat (plainQ (.bool (.sym (decide (a = b))))) (run (env gl []) [(4, LeW a b)] (bodyOf Tryd.f72) (start [.ro .u32 a, .ro .u32 b] 26) (ends (env gl []) Tryd.f72.results.toList))) = (
  ((!decide ((↑(List.length a) : Int) = (↑(List.length b) : Int))) = true → false = decide (a = b)) ∧ ((!decide ((↑(List.length a) : Int) = (↑(List.length b) : Int))) = false → ((List.length a = List.length b ∧ List.length a ≤ (1000000 : Nat)) ∧ a = a ∧ b = b ∧ (↑(List.length a) : Int) = (↑(List.length a) : Int) ∧ (0 : Int) = (↑(0 : Nat) : Int)) ∧ ((List.length a = List.length b ∧ List.length a ≤ (1000000 : Nat)) ∧ a = a ∧ b = b ∧ (↑(List.length a) : Int) = (↑(List.length a) : Int) ∧ (0 : Int) = (↑(0 : Nat) : Int) → (noneQ (neP (RT.dflt RT.u32) a b) (List.length a) = true → true = decide (a = b)) ∧ (noneQ (neP (RT.dflt RT.u32) a b) (List.length a) = false → false = decide (a = b))))) := by kernel_rfl
set_option maxHeartbeats 4000000 in
theorem ceW : Con ea has gl 72 keW := by
  refine plain_mk Tryd.func72 26 (con := []) trivial (fun hA hr hv => ?_) (by kernel_rfl) (by kernel_rfl) Tryd.ntmps72
  unfold keW at hr; split at hr
  · rename_i a b
    have := ret_ok hr; subst this
    replace hv := hv _ rfl
    refine ⟨_, [(4, LeW a b)], rfl, rfl, (argeW a b).mpr (by simp), rfl, (fun W R ρ0 own0 hown => hl1 (by kernel_rfl) (by kernel_rfl) (leW a b hown)), (runeW gl a b).mpr ?_⟩
    clear hr
    refine ⟨fun h => ?_, fun h => ?_⟩
    · have h : ¬ (a.length : Int) = b.length := by simpa using h
      exact (decide_eq_false (fun e => h (by rw [e]))).symm
    · have h : (a.length : Int) = b.length := by simpa using h
      have h : a.length = b.length := by omega
      refine ⟨⟨⟨h, hv⟩, rfl, rfl, rfl, rfl⟩, fun _ => ⟨fun g => ?_, fun g => ?_⟩⟩
      · rw [← neP_eq (d := RT.u32.dflt) h]; exact g.symm
      · rw [← neP_eq (d := RT.u32.dflt) h]; exact g.symm
  · cases hr
def HeB (a b : List Int) (i : Nat) : SState := { fr := [(0, .ro .u8 a), (1, .ro .u8 b), (12, .int .i64 (.full a.length)), (13, .int .i64 (.sym i 0 1000000))], hp := [], next := 0, sz := 26 }
def XeB (a b : List Int) : SState := { fr := [], hp := [], next := 0, sz := 26 }
def YeB (a b : List Int) : SState := { fr := [(4, .bool (.lit false))], hp := [], next := 0, sz := 26 }
def LeB (a b : List Int) : LSum := ⟨HeB a b 0, fun k => .ite (noneQ (neP RT.u8.dflt a b) a.length) (k (.exit 0) (XeB a b)) (k .ret (YeB a b)), a.length = b.length ∧ a.length ≤ 1000000⟩
theorem beB (gl : List (Nat × SVal)) (a b : List Int) (i : Nat) : (Tr.sat (rnd2 (env gl []) (fun i => noneQ (neP RT.u8.dflt a b) i = true) (a.length) (HeB a b) 0 (noneQ (neP RT.u8.dflt a b) a.length) (XeB a b) (YeB a b) i) (run (env gl []) [] (loopN (bodyOf Tryd.f73) 0) (HeB a b i) .leaf)) = (
  (decide ((↑i : Int) < (↑(List.length a) : Int)) = true → ((0 : Int) ≤ (↑i : Int) ∧ (↑i : Int) < (↑(List.length a) : Int)) ∧ ((0 : Int) ≤ (↑i : Int) ∧ (↑i : Int) < (↑(List.length a) : Int) → ((0 : Int) ≤ (↑i : Int) ∧ (↑i : Int) < (↑(List.length b) : Int)) ∧ ((0 : Int) ≤ (↑i : Int) ∧ (↑i : Int) < (↑(List.length b) : Int) → ((!decide (List.getD a (Int.toNat (↑i : Int)) (RT.dflt RT.u8) = List.getD b (Int.toNat (↑i : Int)) (RT.dflt RT.u8))) = true → noneQ (neP (RT.dflt RT.u8) a b) (List.length a) = false ∧ false = false) ∧ ((!decide (List.getD a (Int.toNat (↑i : Int)) (RT.dflt RT.u8) = List.getD b (Int.toNat (↑i : Int)) (RT.dflt RT.u8))) = false → i < List.length a ∧ noneQ (neP (RT.dflt RT.u8) a b) (i + (1 : Nat)) = true ∧ a = a ∧ b = b ∧ (↑(List.length a) : Int) = (↑(List.length a) : Int) ∧ (↑i : Int) + (1 : Int) = (↑(i + (1 : Nat)) : Int) ∧ (0 : Int) ≤ (↑(i + (1 : Nat)) : Int) ∧ (↑(i + (1 : Nat)) : Int) ≤ (1000000 : Int))))) ∧ (decide ((↑i : Int) < (↑(List.length a) : Int)) = false → Nat.beq (0 : Nat) (0 : Nat) = true ∧ noneQ (neP (RT.dflt RT.u8) a b) (List.length a) = true ∧ True)) := by kernel_rfl
set_option maxHeartbeats 4000000 in
theorem leB (a b : List Int) {W : World} {R own0 : Nat → Prop} {ρ0 : Nat → Option Value} (hown : HownOk (env gl []) own0 ρ0) : LOk Tryd.prog (env gl []) (ctx ea has) gl W R own0 ρ0 (loopN (bodyOf Tryd.f73) 0) (LeB a b) := by
  refine loop2_ok (env_ok (con := []) trivial) hown (ls := fun i => []) (fun i => noLoops (by kernel_rfl)) (fun hm i hi hj => (beB gl a b i).mpr ?_) 0 (fun hm => by first | exact Nat.zero_le _ | omega) (fun hm => rfl)
  have hp : neP RT.u8.dflt a b i = !decide (a.getD i RT.u8.dflt = b.getD i RT.u8.dflt) := rfl
  obtain ⟨hm1, hm2⟩ := hm
  skip
  simp only [Int.toNat_natCast, Bool.not_not]
  refine ⟨fun h => ?_, fun h => ?_⟩
  · have h := of_decide_eq_true h
    have hlt : i < a.length := by omega
    refine ⟨by omega, fun _ => ⟨by omega, fun _ => ⟨fun h2 => ⟨noneQ_at (hp.trans h2) hlt, trivial⟩, fun h2 => ?_⟩⟩⟩
    refine ⟨hlt, by rw [noneQ, hj, hp.trans h2]; rfl, ?_⟩
    simp; omega
  · have h := of_decide_eq_false h
    have e : i = a.length := by omega
    subst e
    exact ⟨rfl, hj, trivial⟩
def keB : List SVal → Nat → Acc ORes := fun a n => match a with | [.ro .u8 a, .ro .u8 b] => .ret ({ v := .bool (.sym (decide (a = b))), vc := some (a.length ≤ 1000000) }) | _ => .fail "eB"
theorem argeB (a b : List Int) : (all (subL 134 none' [] deep [.ro .u8 a, .ro .u8 b] [.ro .u8 a, .ro .u8 b])) = (
  a = a ∧ b = b) := by kernel_rfl
theorem runeB (gl : List (Nat × SVal)) (a b : List Int) : (Tr.sat (plainQ (.bool (.sym (decide (a = b))))) (run (env gl []) [(4, LeB a b)] (bodyOf Tryd.f73) (start [.ro .u8 a, .ro .u8 b] 26) (ends (env gl []) Tryd.f73.results.toList))) = (
  ((!decide ((↑(List.length a) : Int) = (↑(List.length b) : Int))) = true → false = decide (a = b)) ∧ ((!decide ((↑(List.length a) : Int) = (↑(List.length b) : Int))) = false → ((List.length a = List.length b ∧ List.length a ≤ (1000000 : Nat)) ∧ a = a ∧ b = b ∧ (↑(List.length a) : Int) = (↑(List.length a) : Int) ∧ (0 : Int) = (↑(0 : Nat) : Int)) ∧ ((List.length a = List.length b ∧ List.length a ≤ (1000000 : Nat)) ∧ a = a ∧ b = b ∧ (↑(List.length a) : Int) = (↑(List.length a) : Int) ∧ (0 : Int) = (↑(0 : Nat) : Int) → (noneQ (neP (RT.dflt RT.u8) a b) (List.length a) = true → true = decide (a = b)) ∧ (noneQ (neP (RT.dflt RT.u8) a b) (List.length a) = false → false = decide (a = b))))) := by kernel_rfl
set_option maxHeartbeats 4000000 in
theorem ceB : Con ea has gl 73 keB := by
  refine plain_mk Tryd.func73 26 (con := []) trivial (fun hA hr hv => ?_) (by kernel_rfl) (by kernel_rfl) Tryd.ntmps73
  unfold keB at hr; split at hr
  · rename_i a b
    have := ret_ok hr; subst this
    replace hv := hv _ rfl
    refine ⟨_, [(4, LeB a b)], rfl, rfl, (argeB a b).mpr (by simp), rfl, (fun W R ρ0 own0 hown => hl1 (by kernel_rfl) (by kernel_rfl) (leB a b hown)), (runeB gl a b).mpr ?_⟩
    clear hr
    refine ⟨fun h => ?_, fun h => ?_⟩
    · have h : ¬ (a.length : Int) = b.length := by simpa using h
      exact (decide_eq_false (fun e => h (by rw [e]))).symm
    · have h : (a.length : Int) = b.length := by simpa using h
      have h : a.length = b.length := by omega
      refine ⟨⟨⟨h, hv⟩, rfl, rfl, rfl, rfl⟩, fun _ => ⟨fun g => ?_, fun g => ?_⟩⟩
      · rw [← neP_eq (d := RT.u8.dflt) h]; exact g.symm
      · rw [← neP_eq (d := RT.u8.dflt) h]; exact g.symm
  · cases hr
def HeR (a b : List Rel) (i : Nat) : SState := { fr := [(0, .ro .rel a), (1, .ro .rel b), (12, .int .i64 (.full a.length)), (13, .int .i64 (.sym i 0 1000000))], hp := [], next := 0, sz := 26 }
def XeR (a b : List Rel) : SState := { fr := [], hp := [], next := 0, sz := 26 }
def YeR (a b : List Rel) : SState := { fr := [(4, .bool (.lit false))], hp := [], next := 0, sz := 26 }
def LeR (a b : List Rel) : LSum := ⟨HeR a b 0, fun k => .ite (noneQ (neP RT.rel.dflt a b) a.length) (k (.exit 0) (XeR a b)) (k .ret (YeR a b)), a.length = b.length ∧ a.length ≤ 1000000⟩
theorem beR (gl : List (Nat × SVal)) (a b : List Rel) (i : Nat) : (Tr.sat (rnd2 (env gl []) (fun i => noneQ (neP RT.rel.dflt a b) i = true) (a.length) (HeR a b) 0 (noneQ (neP RT.rel.dflt a b) a.length) (XeR a b) (YeR a b) i) (run (env gl []) [] (loopN (bodyOf Tryd.f74) 0) (HeR a b i) .leaf)) = (
  (decide ((↑i : Int) < (↑(List.length a) : Int)) = true → ((0 : Int) ≤ (↑i : Int) ∧ (↑i : Int) < (↑(List.length a) : Int)) ∧ ((0 : Int) ≤ (↑i : Int) ∧ (↑i : Int) < (↑(List.length a) : Int) → ((0 : Int) ≤ (↑i : Int) ∧ (↑i : Int) < (↑(List.length b) : Int)) ∧ ((0 : Int) ≤ (↑i : Int) ∧ (↑i : Int) < (↑(List.length b) : Int) → ((!(decide ((List.getD a (Int.toNat (↑i : Int)) (RT.dflt RT.rel)).at_ = (List.getD b (Int.toNat (↑i : Int)) (RT.dflt RT.rel)).at_) && (decide ((List.getD a (Int.toNat (↑i : Int)) (RT.dflt RT.rel)).kind = (List.getD b (Int.toNat (↑i : Int)) (RT.dflt RT.rel)).kind) && (decide ((List.getD a (Int.toNat (↑i : Int)) (RT.dflt RT.rel)).sym = (List.getD b (Int.toNat (↑i : Int)) (RT.dflt RT.rel)).sym) && (decide ((List.getD a (Int.toNat (↑i : Int)) (RT.dflt RT.rel)).add = (List.getD b (Int.toNat (↑i : Int)) (RT.dflt RT.rel)).add) && true))))) = true → noneQ (neP (RT.dflt RT.rel) a b) (List.length a) = false ∧ false = false) ∧ ((!(decide ((List.getD a (Int.toNat (↑i : Int)) (RT.dflt RT.rel)).at_ = (List.getD b (Int.toNat (↑i : Int)) (RT.dflt RT.rel)).at_) && (decide ((List.getD a (Int.toNat (↑i : Int)) (RT.dflt RT.rel)).kind = (List.getD b (Int.toNat (↑i : Int)) (RT.dflt RT.rel)).kind) && (decide ((List.getD a (Int.toNat (↑i : Int)) (RT.dflt RT.rel)).sym = (List.getD b (Int.toNat (↑i : Int)) (RT.dflt RT.rel)).sym) && (decide ((List.getD a (Int.toNat (↑i : Int)) (RT.dflt RT.rel)).add = (List.getD b (Int.toNat (↑i : Int)) (RT.dflt RT.rel)).add) && true))))) = false → i < List.length a ∧ noneQ (neP (RT.dflt RT.rel) a b) (i + (1 : Nat)) = true ∧ a = a ∧ b = b ∧ (↑(List.length a) : Int) = (↑(List.length a) : Int) ∧ (↑i : Int) + (1 : Int) = (↑(i + (1 : Nat)) : Int) ∧ (0 : Int) ≤ (↑(i + (1 : Nat)) : Int) ∧ (↑(i + (1 : Nat)) : Int) ≤ (1000000 : Int))))) ∧ (decide ((↑i : Int) < (↑(List.length a) : Int)) = false → Nat.beq (0 : Nat) (0 : Nat) = true ∧ noneQ (neP (RT.dflt RT.rel) a b) (List.length a) = true ∧ True)) := by kernel_rfl
set_option maxHeartbeats 4000000 in
theorem leR (a b : List Rel) {W : World} {R own0 : Nat → Prop} {ρ0 : Nat → Option Value} (hown : HownOk (env gl []) own0 ρ0) : LOk Tryd.prog (env gl []) (ctx ea has) gl W R own0 ρ0 (loopN (bodyOf Tryd.f74) 0) (LeR a b) := by
  refine loop2_ok (env_ok (con := []) trivial) hown (ls := fun i => []) (fun i => noLoops (by kernel_rfl)) (fun hm i hi hj => (beR gl a b i).mpr ?_) 0 (fun hm => by first | exact Nat.zero_le _ | omega) (fun hm => rfl)
  have hp : neP RT.rel.dflt a b i = !decide (a.getD i RT.rel.dflt = b.getD i RT.rel.dflt) := rfl
  obtain ⟨hm1, hm2⟩ := hm
  simp only [relEq]
  simp only [Int.toNat_natCast, Bool.not_not]
  refine ⟨fun h => ?_, fun h => ?_⟩
  · have h := of_decide_eq_true h
    have hlt : i < a.length := by omega
    refine ⟨by omega, fun _ => ⟨by omega, fun _ => ⟨fun h2 => ⟨noneQ_at (hp.trans h2) hlt, trivial⟩, fun h2 => ?_⟩⟩⟩
    refine ⟨hlt, by rw [noneQ, hj, hp.trans h2]; rfl, ?_⟩
    simp; omega
  · have h := of_decide_eq_false h
    have e : i = a.length := by omega
    subst e
    exact ⟨rfl, hj, trivial⟩
def keR : List SVal → Nat → Acc ORes := fun a n => match a with | [.ro .rel a, .ro .rel b] => .ret ({ v := .bool (.sym (decide (a = b))), vc := some (a.length ≤ 1000000) }) | _ => .fail "eR"
theorem argeR (a b : List Rel) : (all (subL 134 none' [] deep [.ro .rel a, .ro .rel b] [.ro .rel a, .ro .rel b])) = (
  a = a ∧ b = b) := by kernel_rfl
theorem runeR (gl : List (Nat × SVal)) (a b : List Rel) : (Tr.sat (plainQ (.bool (.sym (decide (a = b))))) (run (env gl []) [(4, LeR a b)] (bodyOf Tryd.f74) (start [.ro .rel a, .ro .rel b] 26) (ends (env gl []) Tryd.f74.results.toList))) = (
  ((!decide ((↑(List.length a) : Int) = (↑(List.length b) : Int))) = true → false = decide (a = b)) ∧ ((!decide ((↑(List.length a) : Int) = (↑(List.length b) : Int))) = false → ((List.length a = List.length b ∧ List.length a ≤ (1000000 : Nat)) ∧ a = a ∧ b = b ∧ (↑(List.length a) : Int) = (↑(List.length a) : Int) ∧ (0 : Int) = (↑(0 : Nat) : Int)) ∧ ((List.length a = List.length b ∧ List.length a ≤ (1000000 : Nat)) ∧ a = a ∧ b = b ∧ (↑(List.length a) : Int) = (↑(List.length a) : Int) ∧ (0 : Int) = (↑(0 : Nat) : Int) → (noneQ (neP (RT.dflt RT.rel) a b) (List.length a) = true → true = decide (a = b)) ∧ (noneQ (neP (RT.dflt RT.rel) a b) (List.length a) = false → false = decide (a = b))))) := by kernel_rfl
set_option maxHeartbeats 4000000 in
theorem ceR : Con ea has gl 74 keR := by
  refine plain_mk Tryd.func74 26 (con := []) trivial (fun hA hr hv => ?_) (by kernel_rfl) (by kernel_rfl) Tryd.ntmps74
  unfold keR at hr; split at hr
  · rename_i a b
    have := ret_ok hr; subst this
    replace hv := hv _ rfl
    refine ⟨_, [(4, LeR a b)], rfl, rfl, (argeR a b).mpr (by simp), rfl, (fun W R ρ0 own0 hown => hl1 (by kernel_rfl) (by kernel_rfl) (leR a b hown)), (runeR gl a b).mpr ?_⟩
    clear hr
    refine ⟨fun h => ?_, fun h => ?_⟩
    · have h : ¬ (a.length : Int) = b.length := by simpa using h
      exact (decide_eq_false (fun e => h (by rw [e]))).symm
    · have h : (a.length : Int) = b.length := by simpa using h
      have h : a.length = b.length := by omega
      refine ⟨⟨⟨h, hv⟩, rfl, rfl, rfl, rfl⟩, fun _ => ⟨fun g => ?_, fun g => ?_⟩⟩
      · rw [← neP_eq (d := RT.rel.dflt) h]; exact g.symm
      · rw [← neP_eq (d := RT.rel.dflt) h]; exact g.symm
  · cases hr
def HeS (a b : List Sm) (i : Nat) : SState := { fr := [(0, .ro .sym a), (1, .ro .sym b), (12, .int .i64 (.full a.length)), (13, .int .i64 (.sym i 0 1000000))], hp := [], next := 0, sz := 26 }
def XeS (a b : List Sm) : SState := { fr := [], hp := [], next := 0, sz := 26 }
def YeS (a b : List Sm) : SState := { fr := [(4, .bool (.lit false))], hp := [], next := 0, sz := 26 }
def LeS (a b : List Sm) : LSum := ⟨HeS a b 0, fun k => .ite (noneQ (neP RT.sym.dflt a b) a.length) (k (.exit 0) (XeS a b)) (k .ret (YeS a b)), a.length = b.length ∧ a.length ≤ 1000000⟩
theorem beS (gl : List (Nat × SVal)) (a b : List Sm) (i : Nat) : (Tr.sat (rnd2 (env gl []) (fun i => noneQ (neP RT.sym.dflt a b) i = true) (a.length) (HeS a b) 0 (noneQ (neP RT.sym.dflt a b) a.length) (XeS a b) (YeS a b) i) (run (env gl []) [] (loopN (bodyOf Tryd.f75) 0) (HeS a b i) .leaf)) = (
  (decide ((↑i : Int) < (↑(List.length a) : Int)) = true → ((0 : Int) ≤ (↑i : Int) ∧ (↑i : Int) < (↑(List.length a) : Int)) ∧ ((0 : Int) ≤ (↑i : Int) ∧ (↑i : Int) < (↑(List.length a) : Int) → ((0 : Int) ≤ (↑i : Int) ∧ (↑i : Int) < (↑(List.length b) : Int)) ∧ ((0 : Int) ≤ (↑i : Int) ∧ (↑i : Int) < (↑(List.length b) : Int) → ((!(decide ((List.getD a (Int.toNat (↑i : Int)) (RT.dflt RT.sym)).name = (List.getD b (Int.toNat (↑i : Int)) (RT.dflt RT.sym)).name) && (decide ((List.getD a (Int.toNat (↑i : Int)) (RT.dflt RT.sym)).in_ = (List.getD b (Int.toNat (↑i : Int)) (RT.dflt RT.sym)).in_) && (decide ((List.getD a (Int.toNat (↑i : Int)) (RT.dflt RT.sym)).value = (List.getD b (Int.toNat (↑i : Int)) (RT.dflt RT.sym)).value) && ((List.getD a (Int.toNat (↑i : Int)) (RT.dflt RT.sym)).global == (List.getD b (Int.toNat (↑i : Int)) (RT.dflt RT.sym)).global && true))))) = true → noneQ (neP (RT.dflt RT.sym) a b) (List.length a) = false ∧ false = false) ∧ ((!(decide ((List.getD a (Int.toNat (↑i : Int)) (RT.dflt RT.sym)).name = (List.getD b (Int.toNat (↑i : Int)) (RT.dflt RT.sym)).name) && (decide ((List.getD a (Int.toNat (↑i : Int)) (RT.dflt RT.sym)).in_ = (List.getD b (Int.toNat (↑i : Int)) (RT.dflt RT.sym)).in_) && (decide ((List.getD a (Int.toNat (↑i : Int)) (RT.dflt RT.sym)).value = (List.getD b (Int.toNat (↑i : Int)) (RT.dflt RT.sym)).value) && ((List.getD a (Int.toNat (↑i : Int)) (RT.dflt RT.sym)).global == (List.getD b (Int.toNat (↑i : Int)) (RT.dflt RT.sym)).global && true))))) = false → i < List.length a ∧ noneQ (neP (RT.dflt RT.sym) a b) (i + (1 : Nat)) = true ∧ a = a ∧ b = b ∧ (↑(List.length a) : Int) = (↑(List.length a) : Int) ∧ (↑i : Int) + (1 : Int) = (↑(i + (1 : Nat)) : Int) ∧ (0 : Int) ≤ (↑(i + (1 : Nat)) : Int) ∧ (↑(i + (1 : Nat)) : Int) ≤ (1000000 : Int))))) ∧ (decide ((↑i : Int) < (↑(List.length a) : Int)) = false → Nat.beq (0 : Nat) (0 : Nat) = true ∧ noneQ (neP (RT.dflt RT.sym) a b) (List.length a) = true ∧ True)) := by kernel_rfl
set_option maxHeartbeats 4000000 in
theorem leS (a b : List Sm) {W : World} {R own0 : Nat → Prop} {ρ0 : Nat → Option Value} (hown : HownOk (env gl []) own0 ρ0) : LOk Tryd.prog (env gl []) (ctx ea has) gl W R own0 ρ0 (loopN (bodyOf Tryd.f75) 0) (LeS a b) := by
  refine loop2_ok (env_ok (con := []) trivial) hown (ls := fun i => []) (fun i => noLoops (by kernel_rfl)) (fun hm i hi hj => (beS gl a b i).mpr ?_) 0 (fun hm => by first | exact Nat.zero_le _ | omega) (fun hm => rfl)
  have hp : neP RT.sym.dflt a b i = !decide (a.getD i RT.sym.dflt = b.getD i RT.sym.dflt) := rfl
  obtain ⟨hm1, hm2⟩ := hm
  simp only [symEq]
  simp only [Int.toNat_natCast, Bool.not_not]
  refine ⟨fun h => ?_, fun h => ?_⟩
  · have h := of_decide_eq_true h
    have hlt : i < a.length := by omega
    refine ⟨by omega, fun _ => ⟨by omega, fun _ => ⟨fun h2 => ⟨noneQ_at (hp.trans h2) hlt, trivial⟩, fun h2 => ?_⟩⟩⟩
    refine ⟨hlt, by rw [noneQ, hj, hp.trans h2]; rfl, ?_⟩
    simp; omega
  · have h := of_decide_eq_false h
    have e : i = a.length := by omega
    subst e
    exact ⟨rfl, hj, trivial⟩
def keS : List SVal → Nat → Acc ORes := fun a n => match a with | [.ro .sym a, .ro .sym b] => .ret ({ v := .bool (.sym (decide (a = b))), vc := some (a.length ≤ 1000000) }) | _ => .fail "eS"
theorem argeS (a b : List Sm) : (all (subL 134 none' [] deep [.ro .sym a, .ro .sym b] [.ro .sym a, .ro .sym b])) = (
  a = a ∧ b = b) := by kernel_rfl
theorem runeS (gl : List (Nat × SVal)) (a b : List Sm) : (Tr.sat (plainQ (.bool (.sym (decide (a = b))))) (run (env gl []) [(4, LeS a b)] (bodyOf Tryd.f75) (start [.ro .sym a, .ro .sym b] 26) (ends (env gl []) Tryd.f75.results.toList))) = (
  ((!decide ((↑(List.length a) : Int) = (↑(List.length b) : Int))) = true → false = decide (a = b)) ∧ ((!decide ((↑(List.length a) : Int) = (↑(List.length b) : Int))) = false → ((List.length a = List.length b ∧ List.length a ≤ (1000000 : Nat)) ∧ a = a ∧ b = b ∧ (↑(List.length a) : Int) = (↑(List.length a) : Int) ∧ (0 : Int) = (↑(0 : Nat) : Int)) ∧ ((List.length a = List.length b ∧ List.length a ≤ (1000000 : Nat)) ∧ a = a ∧ b = b ∧ (↑(List.length a) : Int) = (↑(List.length a) : Int) ∧ (0 : Int) = (↑(0 : Nat) : Int) → (noneQ (neP (RT.dflt RT.sym) a b) (List.length a) = true → true = decide (a = b)) ∧ (noneQ (neP (RT.dflt RT.sym) a b) (List.length a) = false → false = decide (a = b))))) := by kernel_rfl
set_option maxHeartbeats 4000000 in
theorem ceS : Con ea has gl 75 keS := by
  refine plain_mk Tryd.func75 26 (con := []) trivial (fun hA hr hv => ?_) (by kernel_rfl) (by kernel_rfl) Tryd.ntmps75
  unfold keS at hr; split at hr
  · rename_i a b
    have := ret_ok hr; subst this
    replace hv := hv _ rfl
    refine ⟨_, [(4, LeS a b)], rfl, rfl, (argeS a b).mpr (by simp), rfl, (fun W R ρ0 own0 hown => hl1 (by kernel_rfl) (by kernel_rfl) (leS a b hown)), (runeS gl a b).mpr ?_⟩
    clear hr
    refine ⟨fun h => ?_, fun h => ?_⟩
    · have h : ¬ (a.length : Int) = b.length := by simpa using h
      exact (decide_eq_false (fun e => h (by rw [e]))).symm
    · have h : (a.length : Int) = b.length := by simpa using h
      have h : a.length = b.length := by omega
      refine ⟨⟨⟨h, hv⟩, rfl, rfl, rfl, rfl⟩, fun _ => ⟨fun g => ?_, fun g => ?_⟩⟩
      · rw [← neP_eq (d := RT.sym.dflt) h]; exact g.symm
      · rw [← neP_eq (d := RT.sym.dflt) h]; exact g.symm
  · cases hr
def kSameReloc : List SVal → Nat → Acc ORes := fun a n => match a with | [.agg [.int .i64 a, .int .i64 b, .int .i64 c, .int .i64 d], .agg [.int .i64 e, .int .i64 f, .int .i64 g, .int .i64 h]] => .ret ({ v := .bool (.sym (decide (a.val = e.val) && (decide (b.val = f.val) && (decide (c.val = g.val) && (decide (d.val = h.val) && true))))) }) | _ => .fail "SameReloc"
theorem argSameReloc (a b c d e f g h : SI) : (all (subL 134 none' [] deep [.agg [.int .i64 a, .int .i64 b, .int .i64 c, .int .i64 d], .agg [.int .i64 e, .int .i64 f, .int .i64 g, .int .i64 h]] [.agg [.int .i64 (.full a.val), .int .i64 (.full b.val), .int .i64 (.full c.val), .int .i64 (.full d.val)], .agg [.int .i64 (.full e.val), .int .i64 (.full f.val), .int .i64 (.full g.val), .int .i64 (.full h.val)]])) = (
  SI.val a = SI.val a ∧ SI.val b = SI.val b ∧ SI.val c = SI.val c ∧ SI.val d = SI.val d ∧ SI.val e = SI.val e ∧ SI.val f = SI.val f ∧ SI.val g = SI.val g ∧ SI.val h = SI.val h) := by kernel_rfl
theorem runSameReloc (gl : List (Nat × SVal)) (a b c d e f g h : SI) : (Tr.sat (plainQ (.bool (.sym (decide (a.val = e.val) && (decide (b.val = f.val) && (decide (c.val = g.val) && (decide (d.val = h.val) && true))))))) (run (env gl []) [] (bodyOf Tryd.f78) (start [.agg [.int .i64 (.full a.val), .int .i64 (.full b.val), .int .i64 (.full c.val), .int .i64 (.full d.val)], .agg [.int .i64 (.full e.val), .int .i64 (.full f.val), .int .i64 (.full g.val), .int .i64 (.full h.val)]] 31) (ends (env gl []) Tryd.f78.results.toList))) = (
  (decide (SI.val a = SI.val e) && decide (SI.val b = SI.val f) && decide (SI.val c = SI.val g) && decide (SI.val d = SI.val h)) = (decide (SI.val a = SI.val e) && (decide (SI.val b = SI.val f) && (decide (SI.val c = SI.val g) && (decide (SI.val d = SI.val h) && true))))) := by kernel_rfl
set_option maxHeartbeats 4000000 in
theorem cSameReloc : Con ea has gl 78 kSameReloc := by
  refine plain_mk Tryd.func78 31 (con := []) trivial (fun hA hr hv => ?_) (by kernel_rfl) (by kernel_rfl) Tryd.ntmps78
  unfold kSameReloc at hr; split at hr
  · rename_i a b c d e f g h
    have := ret_ok hr; subst this
    refine ⟨_, [], rfl, rfl, (argSameReloc a b c d e f g h).mpr (by simp), rfl, (fun W R ρ0 own0 hown => noLoops (by kernel_rfl)), (runSameReloc gl a b c d e f g h).mpr ?_⟩
    clear hr
    simp [Bool.and_assoc]
  · cases hr
def kSameSym : List SVal → Nat → Acc ORes := fun a n => match a with | [.agg [.str a, .int .i64 b, .int .i64 c, .bool d], .agg [.str e, .int .i64 f, .int .i64 g, .bool h]] => .ret ({ v := .bool (.sym (decide (a = e) && (decide (b.val = f.val) && (decide (c.val = g.val) && ((d.val == h.val) && true))))) }) | _ => .fail "SameSym"
theorem argSameSym (a : ByteArray) (b c : SI) (d : SB) (e : ByteArray) (f g : SI) (h : SB) : (all (subL 134 none' [] deep [.agg [.str a, .int .i64 b, .int .i64 c, .bool d], .agg [.str e, .int .i64 f, .int .i64 g, .bool h]] [.agg [.str a, .int .i64 (.full b.val), .int .i64 (.full c.val), .bool (.sym d.val)], .agg [.str e, .int .i64 (.full f.val), .int .i64 (.full g.val), .bool (.sym h.val)]])) = (
  a = a ∧ SI.val b = SI.val b ∧ SI.val c = SI.val c ∧ SB.val d = SB.val d ∧ e = e ∧ SI.val f = SI.val f ∧ SI.val g = SI.val g ∧ SB.val h = SB.val h) := by kernel_rfl
theorem runSameSym (gl : List (Nat × SVal)) (a : ByteArray) (b c : SI) (d : SB) (e : ByteArray) (f g : SI) (h : SB) : (Tr.sat (plainQ (.bool (.sym (decide (a = e) && (decide (b.val = f.val) && (decide (c.val = g.val) && ((d.val == h.val) && true))))))) (run (env gl []) [] (bodyOf Tryd.f103) (start [.agg [.str a, .int .i64 (.full b.val), .int .i64 (.full c.val), .bool (.sym d.val)], .agg [.str e, .int .i64 (.full f.val), .int .i64 (.full g.val), .bool (.sym h.val)]] 31) (ends (env gl []) Tryd.f103.results.toList))) = (
  (decide (a = e) && decide (SI.val b = SI.val f) && decide (SI.val c = SI.val g) && SB.val d == SB.val h) = (decide (a = e) && (decide (SI.val b = SI.val f) && (decide (SI.val c = SI.val g) && (SB.val d == SB.val h && true))))) := by kernel_rfl
set_option maxHeartbeats 4000000 in
theorem cSameSym : Con ea has gl 103 kSameSym := by
  refine plain_mk Tryd.func103 31 (con := []) trivial (fun hA hr hv => ?_) (by kernel_rfl) (by kernel_rfl) Tryd.ntmps103
  unfold kSameSym at hr; split at hr
  · rename_i a b c d e f g h
    have := ret_ok hr; subst this
    refine ⟨_, [], rfl, rfl, (argSameSym a b c d e f g h).mpr (by simp), rfl, (fun W R ρ0 own0 hown => noLoops (by kernel_rfl)), (runSameSym gl a b c d e f g h).mpr ?_⟩
    clear hr
    simp [Bool.and_assoc]
  · cases hr
def HfW (a b : List Int) (i : Nat) : SState := { fr := [(0, .ro .u32 a), (1, .ro .u32 b), (5, .int .i64 (.sym i 0 1000000))], hp := [], next := 0, sz := 29 }
def XfW (a b : List Int) : SState := { fr := [], hp := [], next := 0, sz := 29 }
def YfW (a b : List Int) : SState := { fr := [(4, .bool (.lit false))], hp := [], next := 0, sz := 29 }
def LfW (a b : List Int) : LSum := ⟨HfW a b 0, fun k => .ite (noneQ (neP RT.u32.dflt a b) a.length) (k (.exit 0) (XfW a b)) (k .ret (YfW a b)), a.length = b.length ∧ a.length ≤ 1000000⟩
theorem bfW (gl : List (Nat × SVal)) (a b : List Int) (i : Nat) : (Tr.sat (rnd2 (env gl []) (fun i => noneQ (neP RT.u32.dflt a b) i = true) (a.length) (HfW a b) 0 (noneQ (neP RT.u32.dflt a b) a.length) (XfW a b) (YfW a b) i) (run (env gl []) [] (loopN (bodyOf Tryd.f36) 0) (HfW a b i) .leaf)) = (
  (decide ((↑i : Int) < (↑(List.length a) : Int)) = true → ((0 : Int) ≤ (↑i : Int) ∧ (↑i : Int) < (↑(List.length a) : Int)) ∧ ((0 : Int) ≤ (↑i : Int) ∧ (↑i : Int) < (↑(List.length a) : Int) → ((0 : Int) ≤ (↑i : Int) ∧ (↑i : Int) < (↑(List.length b) : Int)) ∧ ((0 : Int) ≤ (↑i : Int) ∧ (↑i : Int) < (↑(List.length b) : Int) → ((!decide (List.getD a (Int.toNat (↑i : Int)) (RT.dflt RT.u32) = List.getD b (Int.toNat (↑i : Int)) (RT.dflt RT.u32))) = true → noneQ (neP (RT.dflt RT.u32) a b) (List.length a) = false ∧ false = false) ∧ ((!decide (List.getD a (Int.toNat (↑i : Int)) (RT.dflt RT.u32) = List.getD b (Int.toNat (↑i : Int)) (RT.dflt RT.u32))) = false → i < List.length a ∧ noneQ (neP (RT.dflt RT.u32) a b) (i + (1 : Nat)) = true ∧ a = a ∧ b = b ∧ (↑i : Int) + (1 : Int) = (↑(i + (1 : Nat)) : Int) ∧ (0 : Int) ≤ (↑(i + (1 : Nat)) : Int) ∧ (↑(i + (1 : Nat)) : Int) ≤ (1000000 : Int))))) ∧ (decide ((↑i : Int) < (↑(List.length a) : Int)) = false → Nat.beq (0 : Nat) (0 : Nat) = true ∧ noneQ (neP (RT.dflt RT.u32) a b) (List.length a) = true ∧ True)) := by kernel_rfl
set_option maxHeartbeats 4000000 in
theorem lfW (a b : List Int) {W : World} {R own0 : Nat → Prop} {ρ0 : Nat → Option Value} (hown : HownOk (env gl []) own0 ρ0) : LOk Tryd.prog (env gl []) (ctx ea has) gl W R own0 ρ0 (loopN (bodyOf Tryd.f36) 0) (LfW a b) := by
  refine loop2_ok (env_ok (con := []) trivial) hown (ls := fun i => []) (fun i => noLoops (by kernel_rfl)) (fun hm i hi hj => (bfW gl a b i).mpr ?_) 0 (fun hm => by first | exact Nat.zero_le _ | omega) (fun hm => rfl)
  have hp : neP RT.u32.dflt a b i = !decide (a.getD i RT.u32.dflt = b.getD i RT.u32.dflt) := rfl
  obtain ⟨hm1, hm2⟩ := hm
  skip
  simp only [Int.toNat_natCast, Bool.not_not]
  refine ⟨fun h => ?_, fun h => ?_⟩
  · have h := of_decide_eq_true h
    have hlt : i < a.length := by omega
    refine ⟨by omega, fun _ => ⟨by omega, fun _ => ⟨fun h2 => ⟨noneQ_at (hp.trans h2) hlt, trivial⟩, fun h2 => ?_⟩⟩⟩
    refine ⟨hlt, by rw [noneQ, hj, hp.trans h2]; rfl, ?_⟩
    simp; omega
  · have h := of_decide_eq_false h
    have e : i = a.length := by omega
    subst e
    exact ⟨rfl, hj, trivial⟩
def kfW : List SVal → Nat → Acc ORes := fun a n => match a with | [.ro .u32 a, .ro .u32 b] => .ret ({ v := .bool (.sym (decide (a = b))), vc := some (a.length ≤ 1000000) }) | _ => .fail "fW"
theorem argfW (a b : List Int) : (all (subL 134 none' [] deep [.ro .u32 a, .ro .u32 b] [.ro .u32 a, .ro .u32 b])) = (
  a = a ∧ b = b) := by kernel_rfl
theorem runfW (gl : List (Nat × SVal)) (a b : List Int) : (Tr.sat (plainQ (.bool (.sym (decide (a = b))))) (run (env gl []) [(4, LfW a b)] (bodyOf Tryd.f36) (start [.ro .u32 a, .ro .u32 b] 29) (ends (env gl []) Tryd.f36.results.toList))) = (
  ((!decide ((↑(List.length a) : Int) = (↑(List.length b) : Int))) = true → false = decide (a = b)) ∧ ((!decide ((↑(List.length a) : Int) = (↑(List.length b) : Int))) = false → ((List.length a = List.length b ∧ List.length a ≤ (1000000 : Nat)) ∧ a = a ∧ b = b ∧ (0 : Int) = (↑(0 : Nat) : Int)) ∧ ((List.length a = List.length b ∧ List.length a ≤ (1000000 : Nat)) ∧ a = a ∧ b = b ∧ (0 : Int) = (↑(0 : Nat) : Int) → (noneQ (neP (RT.dflt RT.u32) a b) (List.length a) = true → true = decide (a = b)) ∧ (noneQ (neP (RT.dflt RT.u32) a b) (List.length a) = false → false = decide (a = b))))) := by kernel_rfl
set_option maxHeartbeats 4000000 in
theorem cfW : Con ea has gl 36 kfW := by
  refine plain_mk Tryd.func36 29 (con := []) trivial (fun hA hr hv => ?_) (by kernel_rfl) (by kernel_rfl) Tryd.ntmps36
  unfold kfW at hr; split at hr
  · rename_i a b
    have := ret_ok hr; subst this
    replace hv := hv _ rfl
    refine ⟨_, [(4, LfW a b)], rfl, rfl, (argfW a b).mpr (by simp), rfl, (fun W R ρ0 own0 hown => hl1 (by kernel_rfl) (by kernel_rfl) (lfW a b hown)), (runfW gl a b).mpr ?_⟩
    clear hr
    refine ⟨fun h => ?_, fun h => ?_⟩
    · have h : ¬ (a.length : Int) = b.length := by simpa using h
      exact (decide_eq_false (fun e => h (by rw [e]))).symm
    · have h : (a.length : Int) = b.length := by simpa using h
      have h : a.length = b.length := by omega
      refine ⟨⟨⟨h, hv⟩, rfl, rfl, rfl⟩, fun _ => ⟨fun g => ?_, fun g => ?_⟩⟩
      · rw [← neP_eq (d := RT.u32.dflt) h]; exact g.symm
      · rw [← neP_eq (d := RT.u32.dflt) h]; exact g.symm
  · cases hr
def HfB (a b : List Int) (i : Nat) : SState := { fr := [(0, .ro .u8 a), (1, .ro .u8 b), (5, .int .i64 (.sym i 0 1000000))], hp := [], next := 0, sz := 29 }
def XfB (a b : List Int) : SState := { fr := [], hp := [], next := 0, sz := 29 }
def YfB (a b : List Int) : SState := { fr := [(4, .bool (.lit false))], hp := [], next := 0, sz := 29 }
def LfB (a b : List Int) : LSum := ⟨HfB a b 0, fun k => .ite (noneQ (neP RT.u8.dflt a b) a.length) (k (.exit 0) (XfB a b)) (k .ret (YfB a b)), a.length = b.length ∧ a.length ≤ 1000000⟩
theorem bfB (gl : List (Nat × SVal)) (a b : List Int) (i : Nat) : (Tr.sat (rnd2 (env gl []) (fun i => noneQ (neP RT.u8.dflt a b) i = true) (a.length) (HfB a b) 0 (noneQ (neP RT.u8.dflt a b) a.length) (XfB a b) (YfB a b) i) (run (env gl []) [] (loopN (bodyOf Tryd.f46) 0) (HfB a b i) .leaf)) = (
  (decide ((↑i : Int) < (↑(List.length a) : Int)) = true → ((0 : Int) ≤ (↑i : Int) ∧ (↑i : Int) < (↑(List.length a) : Int)) ∧ ((0 : Int) ≤ (↑i : Int) ∧ (↑i : Int) < (↑(List.length a) : Int) → ((0 : Int) ≤ (↑i : Int) ∧ (↑i : Int) < (↑(List.length b) : Int)) ∧ ((0 : Int) ≤ (↑i : Int) ∧ (↑i : Int) < (↑(List.length b) : Int) → ((!decide (List.getD a (Int.toNat (↑i : Int)) (RT.dflt RT.u8) = List.getD b (Int.toNat (↑i : Int)) (RT.dflt RT.u8))) = true → noneQ (neP (RT.dflt RT.u8) a b) (List.length a) = false ∧ false = false) ∧ ((!decide (List.getD a (Int.toNat (↑i : Int)) (RT.dflt RT.u8) = List.getD b (Int.toNat (↑i : Int)) (RT.dflt RT.u8))) = false → i < List.length a ∧ noneQ (neP (RT.dflt RT.u8) a b) (i + (1 : Nat)) = true ∧ a = a ∧ b = b ∧ (↑i : Int) + (1 : Int) = (↑(i + (1 : Nat)) : Int) ∧ (0 : Int) ≤ (↑(i + (1 : Nat)) : Int) ∧ (↑(i + (1 : Nat)) : Int) ≤ (1000000 : Int))))) ∧ (decide ((↑i : Int) < (↑(List.length a) : Int)) = false → Nat.beq (0 : Nat) (0 : Nat) = true ∧ noneQ (neP (RT.dflt RT.u8) a b) (List.length a) = true ∧ True)) := by kernel_rfl
set_option maxHeartbeats 4000000 in
theorem lfB (a b : List Int) {W : World} {R own0 : Nat → Prop} {ρ0 : Nat → Option Value} (hown : HownOk (env gl []) own0 ρ0) : LOk Tryd.prog (env gl []) (ctx ea has) gl W R own0 ρ0 (loopN (bodyOf Tryd.f46) 0) (LfB a b) := by
  refine loop2_ok (env_ok (con := []) trivial) hown (ls := fun i => []) (fun i => noLoops (by kernel_rfl)) (fun hm i hi hj => (bfB gl a b i).mpr ?_) 0 (fun hm => by first | exact Nat.zero_le _ | omega) (fun hm => rfl)
  have hp : neP RT.u8.dflt a b i = !decide (a.getD i RT.u8.dflt = b.getD i RT.u8.dflt) := rfl
  obtain ⟨hm1, hm2⟩ := hm
  skip
  simp only [Int.toNat_natCast, Bool.not_not]
  refine ⟨fun h => ?_, fun h => ?_⟩
  · have h := of_decide_eq_true h
    have hlt : i < a.length := by omega
    refine ⟨by omega, fun _ => ⟨by omega, fun _ => ⟨fun h2 => ⟨noneQ_at (hp.trans h2) hlt, trivial⟩, fun h2 => ?_⟩⟩⟩
    refine ⟨hlt, by rw [noneQ, hj, hp.trans h2]; rfl, ?_⟩
    simp; omega
  · have h := of_decide_eq_false h
    have e : i = a.length := by omega
    subst e
    exact ⟨rfl, hj, trivial⟩
def kfB : List SVal → Nat → Acc ORes := fun a n => match a with | [.ro .u8 a, .ro .u8 b] => .ret ({ v := .bool (.sym (decide (a = b))), vc := some (a.length ≤ 1000000) }) | _ => .fail "fB"
theorem argfB (a b : List Int) : (all (subL 134 none' [] deep [.ro .u8 a, .ro .u8 b] [.ro .u8 a, .ro .u8 b])) = (
  a = a ∧ b = b) := by kernel_rfl
theorem runfB (gl : List (Nat × SVal)) (a b : List Int) : (Tr.sat (plainQ (.bool (.sym (decide (a = b))))) (run (env gl []) [(4, LfB a b)] (bodyOf Tryd.f46) (start [.ro .u8 a, .ro .u8 b] 29) (ends (env gl []) Tryd.f46.results.toList))) = (
  ((!decide ((↑(List.length a) : Int) = (↑(List.length b) : Int))) = true → false = decide (a = b)) ∧ ((!decide ((↑(List.length a) : Int) = (↑(List.length b) : Int))) = false → ((List.length a = List.length b ∧ List.length a ≤ (1000000 : Nat)) ∧ a = a ∧ b = b ∧ (0 : Int) = (↑(0 : Nat) : Int)) ∧ ((List.length a = List.length b ∧ List.length a ≤ (1000000 : Nat)) ∧ a = a ∧ b = b ∧ (0 : Int) = (↑(0 : Nat) : Int) → (noneQ (neP (RT.dflt RT.u8) a b) (List.length a) = true → true = decide (a = b)) ∧ (noneQ (neP (RT.dflt RT.u8) a b) (List.length a) = false → false = decide (a = b))))) := by kernel_rfl
set_option maxHeartbeats 4000000 in
theorem cfB : Con ea has gl 46 kfB := by
  refine plain_mk Tryd.func46 29 (con := []) trivial (fun hA hr hv => ?_) (by kernel_rfl) (by kernel_rfl) Tryd.ntmps46
  unfold kfB at hr; split at hr
  · rename_i a b
    have := ret_ok hr; subst this
    replace hv := hv _ rfl
    refine ⟨_, [(4, LfB a b)], rfl, rfl, (argfB a b).mpr (by simp), rfl, (fun W R ρ0 own0 hown => hl1 (by kernel_rfl) (by kernel_rfl) (lfB a b hown)), (runfB gl a b).mpr ?_⟩
    clear hr
    refine ⟨fun h => ?_, fun h => ?_⟩
    · have h : ¬ (a.length : Int) = b.length := by simpa using h
      exact (decide_eq_false (fun e => h (by rw [e]))).symm
    · have h : (a.length : Int) = b.length := by simpa using h
      have h : a.length = b.length := by omega
      refine ⟨⟨⟨h, hv⟩, rfl, rfl, rfl⟩, fun _ => ⟨fun g => ?_, fun g => ?_⟩⟩
      · rw [← neP_eq (d := RT.u8.dflt) h]; exact g.symm
      · rw [← neP_eq (d := RT.u8.dflt) h]; exact g.symm
  · cases hr
def HfR (a b : List Rel) (i : Nat) : SState := { fr := [(0, .ro .rel a), (1, .ro .rel b), (5, .int .i64 (.sym i 0 1000000))], hp := [], next := 0, sz := 29 }
def XfR (a b : List Rel) : SState := { fr := [], hp := [], next := 0, sz := 29 }
def YfR (a b : List Rel) : SState := { fr := [(4, .bool (.lit false))], hp := [], next := 0, sz := 29 }
def LfR (a b : List Rel) : LSum := ⟨HfR a b 0, fun k => .ite (noneQ (neP RT.rel.dflt a b) a.length) (k (.exit 0) (XfR a b)) (k .ret (YfR a b)), a.length = b.length ∧ a.length ≤ 1000000⟩
theorem bfR (gl : List (Nat × SVal)) (a b : List Rel) (i : Nat) : (Tr.sat (rnd2 (env gl [(78, kSameReloc)]) (fun i => noneQ (neP RT.rel.dflt a b) i = true) (a.length) (HfR a b) 0 (noneQ (neP RT.rel.dflt a b) a.length) (XfR a b) (YfR a b) i) (run (env gl [(78, kSameReloc)]) [] (loopN (bodyOf Tryd.f37) 0) (HfR a b i) .leaf)) = (
  (decide ((↑i : Int) < (↑(List.length a) : Int)) = true → ((0 : Int) ≤ (↑i : Int) ∧ (↑i : Int) < (↑(List.length a) : Int)) ∧ ((0 : Int) ≤ (↑i : Int) ∧ (↑i : Int) < (↑(List.length a) : Int) → ((0 : Int) ≤ (↑i : Int) ∧ (↑i : Int) < (↑(List.length b) : Int)) ∧ ((0 : Int) ≤ (↑i : Int) ∧ (↑i : Int) < (↑(List.length b) : Int) → ((!(decide ((List.getD a (Int.toNat (↑i : Int)) (RT.dflt RT.rel)).at_ = (List.getD b (Int.toNat (↑i : Int)) (RT.dflt RT.rel)).at_) && (decide ((List.getD a (Int.toNat (↑i : Int)) (RT.dflt RT.rel)).kind = (List.getD b (Int.toNat (↑i : Int)) (RT.dflt RT.rel)).kind) && (decide ((List.getD a (Int.toNat (↑i : Int)) (RT.dflt RT.rel)).sym = (List.getD b (Int.toNat (↑i : Int)) (RT.dflt RT.rel)).sym) && (decide ((List.getD a (Int.toNat (↑i : Int)) (RT.dflt RT.rel)).add = (List.getD b (Int.toNat (↑i : Int)) (RT.dflt RT.rel)).add) && true))))) = true → noneQ (neP (RT.dflt RT.rel) a b) (List.length a) = false ∧ false = false) ∧ ((!(decide ((List.getD a (Int.toNat (↑i : Int)) (RT.dflt RT.rel)).at_ = (List.getD b (Int.toNat (↑i : Int)) (RT.dflt RT.rel)).at_) && (decide ((List.getD a (Int.toNat (↑i : Int)) (RT.dflt RT.rel)).kind = (List.getD b (Int.toNat (↑i : Int)) (RT.dflt RT.rel)).kind) && (decide ((List.getD a (Int.toNat (↑i : Int)) (RT.dflt RT.rel)).sym = (List.getD b (Int.toNat (↑i : Int)) (RT.dflt RT.rel)).sym) && (decide ((List.getD a (Int.toNat (↑i : Int)) (RT.dflt RT.rel)).add = (List.getD b (Int.toNat (↑i : Int)) (RT.dflt RT.rel)).add) && true))))) = false → i < List.length a ∧ noneQ (neP (RT.dflt RT.rel) a b) (i + (1 : Nat)) = true ∧ a = a ∧ b = b ∧ (↑i : Int) + (1 : Int) = (↑(i + (1 : Nat)) : Int) ∧ (0 : Int) ≤ (↑(i + (1 : Nat)) : Int) ∧ (↑(i + (1 : Nat)) : Int) ≤ (1000000 : Int))))) ∧ (decide ((↑i : Int) < (↑(List.length a) : Int)) = false → Nat.beq (0 : Nat) (0 : Nat) = true ∧ noneQ (neP (RT.dflt RT.rel) a b) (List.length a) = true ∧ True)) := by kernel_rfl
set_option maxHeartbeats 4000000 in
theorem lfR (a b : List Rel) {W : World} {R own0 : Nat → Prop} {ρ0 : Nat → Option Value} (hown : HownOk (env gl [(78, kSameReloc)]) own0 ρ0) : LOk Tryd.prog (env gl [(78, kSameReloc)]) (ctx ea has) gl W R own0 ρ0 (loopN (bodyOf Tryd.f37) 0) (LfR a b) := by
  refine loop2_ok (env_ok (con := [(78, kSameReloc)]) ⟨cSameReloc, trivial⟩) hown (ls := fun i => []) (fun i => noLoops (by kernel_rfl)) (fun hm i hi hj => (bfR gl a b i).mpr ?_) 0 (fun hm => by first | exact Nat.zero_le _ | omega) (fun hm => rfl)
  have hp : neP RT.rel.dflt a b i = !decide (a.getD i RT.rel.dflt = b.getD i RT.rel.dflt) := rfl
  obtain ⟨hm1, hm2⟩ := hm
  simp only [relEq]
  simp only [Int.toNat_natCast, Bool.not_not]
  refine ⟨fun h => ?_, fun h => ?_⟩
  · have h := of_decide_eq_true h
    have hlt : i < a.length := by omega
    refine ⟨by omega, fun _ => ⟨by omega, fun _ => ⟨fun h2 => ⟨noneQ_at (hp.trans h2) hlt, trivial⟩, fun h2 => ?_⟩⟩⟩
    refine ⟨hlt, by rw [noneQ, hj, hp.trans h2]; rfl, ?_⟩
    simp; omega
  · have h := of_decide_eq_false h
    have e : i = a.length := by omega
    subst e
    exact ⟨rfl, hj, trivial⟩
def kfR : List SVal → Nat → Acc ORes := fun a n => match a with | [.ro .rel a, .ro .rel b] => .ret ({ v := .bool (.sym (decide (a = b))), vc := some (a.length ≤ 1000000) }) | _ => .fail "fR"
theorem argfR (a b : List Rel) : (all (subL 134 none' [] deep [.ro .rel a, .ro .rel b] [.ro .rel a, .ro .rel b])) = (
  a = a ∧ b = b) := by kernel_rfl
theorem runfR (gl : List (Nat × SVal)) (a b : List Rel) : (Tr.sat (plainQ (.bool (.sym (decide (a = b))))) (run (env gl [(78, kSameReloc)]) [(4, LfR a b)] (bodyOf Tryd.f37) (start [.ro .rel a, .ro .rel b] 29) (ends (env gl [(78, kSameReloc)]) Tryd.f37.results.toList))) = (
  ((!decide ((↑(List.length a) : Int) = (↑(List.length b) : Int))) = true → false = decide (a = b)) ∧ ((!decide ((↑(List.length a) : Int) = (↑(List.length b) : Int))) = false → ((List.length a = List.length b ∧ List.length a ≤ (1000000 : Nat)) ∧ a = a ∧ b = b ∧ (0 : Int) = (↑(0 : Nat) : Int)) ∧ ((List.length a = List.length b ∧ List.length a ≤ (1000000 : Nat)) ∧ a = a ∧ b = b ∧ (0 : Int) = (↑(0 : Nat) : Int) → (noneQ (neP (RT.dflt RT.rel) a b) (List.length a) = true → true = decide (a = b)) ∧ (noneQ (neP (RT.dflt RT.rel) a b) (List.length a) = false → false = decide (a = b))))) := by kernel_rfl
set_option maxHeartbeats 4000000 in
theorem cfR : Con ea has gl 37 kfR := by
  refine plain_mk Tryd.func37 29 (con := [(78, kSameReloc)]) ⟨cSameReloc, trivial⟩ (fun hA hr hv => ?_) (by kernel_rfl) (by kernel_rfl) Tryd.ntmps37
  unfold kfR at hr; split at hr
  · rename_i a b
    have := ret_ok hr; subst this
    replace hv := hv _ rfl
    refine ⟨_, [(4, LfR a b)], rfl, rfl, (argfR a b).mpr (by simp), rfl, (fun W R ρ0 own0 hown => hl1 (by kernel_rfl) (by kernel_rfl) (lfR a b hown)), (runfR gl a b).mpr ?_⟩
    clear hr
    refine ⟨fun h => ?_, fun h => ?_⟩
    · have h : ¬ (a.length : Int) = b.length := by simpa using h
      exact (decide_eq_false (fun e => h (by rw [e]))).symm
    · have h : (a.length : Int) = b.length := by simpa using h
      have h : a.length = b.length := by omega
      refine ⟨⟨⟨h, hv⟩, rfl, rfl, rfl⟩, fun _ => ⟨fun g => ?_, fun g => ?_⟩⟩
      · rw [← neP_eq (d := RT.rel.dflt) h]; exact g.symm
      · rw [← neP_eq (d := RT.rel.dflt) h]; exact g.symm
  · cases hr
def HfS (a b : List Sm) (i : Nat) : SState := { fr := [(0, .ro .sym a), (1, .ro .sym b), (5, .int .i64 (.sym i 0 1000000))], hp := [], next := 0, sz := 29 }
def XfS (a b : List Sm) : SState := { fr := [], hp := [], next := 0, sz := 29 }
def YfS (a b : List Sm) : SState := { fr := [(4, .bool (.lit false))], hp := [], next := 0, sz := 29 }
def LfS (a b : List Sm) : LSum := ⟨HfS a b 0, fun k => .ite (noneQ (neP RT.sym.dflt a b) a.length) (k (.exit 0) (XfS a b)) (k .ret (YfS a b)), a.length = b.length ∧ a.length ≤ 1000000⟩
theorem bfS (gl : List (Nat × SVal)) (a b : List Sm) (i : Nat) : (Tr.sat (rnd2 (env gl [(103, kSameSym)]) (fun i => noneQ (neP RT.sym.dflt a b) i = true) (a.length) (HfS a b) 0 (noneQ (neP RT.sym.dflt a b) a.length) (XfS a b) (YfS a b) i) (run (env gl [(103, kSameSym)]) [] (loopN (bodyOf Tryd.f76) 0) (HfS a b i) .leaf)) = (
  (decide ((↑i : Int) < (↑(List.length a) : Int)) = true → ((0 : Int) ≤ (↑i : Int) ∧ (↑i : Int) < (↑(List.length a) : Int)) ∧ ((0 : Int) ≤ (↑i : Int) ∧ (↑i : Int) < (↑(List.length a) : Int) → ((0 : Int) ≤ (↑i : Int) ∧ (↑i : Int) < (↑(List.length b) : Int)) ∧ ((0 : Int) ≤ (↑i : Int) ∧ (↑i : Int) < (↑(List.length b) : Int) → ((!(decide ((List.getD a (Int.toNat (↑i : Int)) (RT.dflt RT.sym)).name = (List.getD b (Int.toNat (↑i : Int)) (RT.dflt RT.sym)).name) && (decide ((List.getD a (Int.toNat (↑i : Int)) (RT.dflt RT.sym)).in_ = (List.getD b (Int.toNat (↑i : Int)) (RT.dflt RT.sym)).in_) && (decide ((List.getD a (Int.toNat (↑i : Int)) (RT.dflt RT.sym)).value = (List.getD b (Int.toNat (↑i : Int)) (RT.dflt RT.sym)).value) && ((List.getD a (Int.toNat (↑i : Int)) (RT.dflt RT.sym)).global == (List.getD b (Int.toNat (↑i : Int)) (RT.dflt RT.sym)).global && true))))) = true → noneQ (neP (RT.dflt RT.sym) a b) (List.length a) = false ∧ false = false) ∧ ((!(decide ((List.getD a (Int.toNat (↑i : Int)) (RT.dflt RT.sym)).name = (List.getD b (Int.toNat (↑i : Int)) (RT.dflt RT.sym)).name) && (decide ((List.getD a (Int.toNat (↑i : Int)) (RT.dflt RT.sym)).in_ = (List.getD b (Int.toNat (↑i : Int)) (RT.dflt RT.sym)).in_) && (decide ((List.getD a (Int.toNat (↑i : Int)) (RT.dflt RT.sym)).value = (List.getD b (Int.toNat (↑i : Int)) (RT.dflt RT.sym)).value) && ((List.getD a (Int.toNat (↑i : Int)) (RT.dflt RT.sym)).global == (List.getD b (Int.toNat (↑i : Int)) (RT.dflt RT.sym)).global && true))))) = false → i < List.length a ∧ noneQ (neP (RT.dflt RT.sym) a b) (i + (1 : Nat)) = true ∧ a = a ∧ b = b ∧ (↑i : Int) + (1 : Int) = (↑(i + (1 : Nat)) : Int) ∧ (0 : Int) ≤ (↑(i + (1 : Nat)) : Int) ∧ (↑(i + (1 : Nat)) : Int) ≤ (1000000 : Int))))) ∧ (decide ((↑i : Int) < (↑(List.length a) : Int)) = false → Nat.beq (0 : Nat) (0 : Nat) = true ∧ noneQ (neP (RT.dflt RT.sym) a b) (List.length a) = true ∧ True)) := by kernel_rfl
set_option maxHeartbeats 4000000 in
theorem lfS (a b : List Sm) {W : World} {R own0 : Nat → Prop} {ρ0 : Nat → Option Value} (hown : HownOk (env gl [(103, kSameSym)]) own0 ρ0) : LOk Tryd.prog (env gl [(103, kSameSym)]) (ctx ea has) gl W R own0 ρ0 (loopN (bodyOf Tryd.f76) 0) (LfS a b) := by
  refine loop2_ok (env_ok (con := [(103, kSameSym)]) ⟨cSameSym, trivial⟩) hown (ls := fun i => []) (fun i => noLoops (by kernel_rfl)) (fun hm i hi hj => (bfS gl a b i).mpr ?_) 0 (fun hm => by first | exact Nat.zero_le _ | omega) (fun hm => rfl)
  have hp : neP RT.sym.dflt a b i = !decide (a.getD i RT.sym.dflt = b.getD i RT.sym.dflt) := rfl
  obtain ⟨hm1, hm2⟩ := hm
  simp only [symEq]
  simp only [Int.toNat_natCast, Bool.not_not]
  refine ⟨fun h => ?_, fun h => ?_⟩
  · have h := of_decide_eq_true h
    have hlt : i < a.length := by omega
    refine ⟨by omega, fun _ => ⟨by omega, fun _ => ⟨fun h2 => ⟨noneQ_at (hp.trans h2) hlt, trivial⟩, fun h2 => ?_⟩⟩⟩
    refine ⟨hlt, by rw [noneQ, hj, hp.trans h2]; rfl, ?_⟩
    simp; omega
  · have h := of_decide_eq_false h
    have e : i = a.length := by omega
    subst e
    exact ⟨rfl, hj, trivial⟩
def kfS : List SVal → Nat → Acc ORes := fun a n => match a with | [.ro .sym a, .ro .sym b] => .ret ({ v := .bool (.sym (decide (a = b))), vc := some (a.length ≤ 1000000) }) | _ => .fail "fS"
theorem argfS (a b : List Sm) : (all (subL 134 none' [] deep [.ro .sym a, .ro .sym b] [.ro .sym a, .ro .sym b])) = (
  a = a ∧ b = b) := by kernel_rfl
theorem runfS (gl : List (Nat × SVal)) (a b : List Sm) : (Tr.sat (plainQ (.bool (.sym (decide (a = b))))) (run (env gl [(103, kSameSym)]) [(4, LfS a b)] (bodyOf Tryd.f76) (start [.ro .sym a, .ro .sym b] 29) (ends (env gl [(103, kSameSym)]) Tryd.f76.results.toList))) = (
  ((!decide ((↑(List.length a) : Int) = (↑(List.length b) : Int))) = true → false = decide (a = b)) ∧ ((!decide ((↑(List.length a) : Int) = (↑(List.length b) : Int))) = false → ((List.length a = List.length b ∧ List.length a ≤ (1000000 : Nat)) ∧ a = a ∧ b = b ∧ (0 : Int) = (↑(0 : Nat) : Int)) ∧ ((List.length a = List.length b ∧ List.length a ≤ (1000000 : Nat)) ∧ a = a ∧ b = b ∧ (0 : Int) = (↑(0 : Nat) : Int) → (noneQ (neP (RT.dflt RT.sym) a b) (List.length a) = true → true = decide (a = b)) ∧ (noneQ (neP (RT.dflt RT.sym) a b) (List.length a) = false → false = decide (a = b))))) := by kernel_rfl
set_option maxHeartbeats 4000000 in
theorem cfS : Con ea has gl 76 kfS := by
  refine plain_mk Tryd.func76 29 (con := [(103, kSameSym)]) ⟨cSameSym, trivial⟩ (fun hA hr hv => ?_) (by kernel_rfl) (by kernel_rfl) Tryd.ntmps76
  unfold kfS at hr; split at hr
  · rename_i a b
    have := ret_ok hr; subst this
    replace hv := hv _ rfl
    refine ⟨_, [(4, LfS a b)], rfl, rfl, (argfS a b).mpr (by simp), rfl, (fun W R ρ0 own0 hown => hl1 (by kernel_rfl) (by kernel_rfl) (lfS a b hown)), (runfS gl a b).mpr ?_⟩
    clear hr
    refine ⟨fun h => ?_, fun h => ?_⟩
    · have h : ¬ (a.length : Int) = b.length := by simpa using h
      exact (decide_eq_false (fun e => h (by rw [e]))).symm
    · have h : (a.length : Int) = b.length := by simpa using h
      have h : a.length = b.length := by omega
      refine ⟨⟨⟨h, hv⟩, rfl, rfl, rfl⟩, fun _ => ⟨fun g => ?_, fun g => ?_⟩⟩
      · rw [← neP_eq (d := RT.sym.dflt) h]; exact g.symm
      · rw [← neP_eq (d := RT.sym.dflt) h]; exact g.symm
  · cases hr
def HfI (a b : List Int) (i : Nat) : SState := { fr := [(0, .ro .i64 a), (1, .ro .i64 b), (5, .int .i64 (.sym i 0 1000000))], hp := [], next := 0, sz := 29 }
def XfI (a b : List Int) : SState := { fr := [], hp := [], next := 0, sz := 29 }
def YfI (a b : List Int) : SState := { fr := [(4, .bool (.lit false))], hp := [], next := 0, sz := 29 }
def LfI (a b : List Int) : LSum := ⟨HfI a b 0, fun k => .ite (noneQ (neP RT.i64.dflt a b) a.length) (k (.exit 0) (XfI a b)) (k .ret (YfI a b)), a.length = b.length ∧ a.length ≤ 1000000⟩
theorem bfI (gl : List (Nat × SVal)) (a b : List Int) (i : Nat) : (Tr.sat (rnd2 (env gl []) (fun i => noneQ (neP RT.i64.dflt a b) i = true) (a.length) (HfI a b) 0 (noneQ (neP RT.i64.dflt a b) a.length) (XfI a b) (YfI a b) i) (run (env gl []) [] (loopN (bodyOf Tryd.f43) 0) (HfI a b i) .leaf)) = (
  (decide ((↑i : Int) < (↑(List.length a) : Int)) = true → ((0 : Int) ≤ (↑i : Int) ∧ (↑i : Int) < (↑(List.length a) : Int)) ∧ ((0 : Int) ≤ (↑i : Int) ∧ (↑i : Int) < (↑(List.length a) : Int) → ((0 : Int) ≤ (↑i : Int) ∧ (↑i : Int) < (↑(List.length b) : Int)) ∧ ((0 : Int) ≤ (↑i : Int) ∧ (↑i : Int) < (↑(List.length b) : Int) → ((!decide (List.getD a (Int.toNat (↑i : Int)) (RT.dflt RT.i64) = List.getD b (Int.toNat (↑i : Int)) (RT.dflt RT.i64))) = true → noneQ (neP (RT.dflt RT.i64) a b) (List.length a) = false ∧ false = false) ∧ ((!decide (List.getD a (Int.toNat (↑i : Int)) (RT.dflt RT.i64) = List.getD b (Int.toNat (↑i : Int)) (RT.dflt RT.i64))) = false → i < List.length a ∧ noneQ (neP (RT.dflt RT.i64) a b) (i + (1 : Nat)) = true ∧ a = a ∧ b = b ∧ (↑i : Int) + (1 : Int) = (↑(i + (1 : Nat)) : Int) ∧ (0 : Int) ≤ (↑(i + (1 : Nat)) : Int) ∧ (↑(i + (1 : Nat)) : Int) ≤ (1000000 : Int))))) ∧ (decide ((↑i : Int) < (↑(List.length a) : Int)) = false → Nat.beq (0 : Nat) (0 : Nat) = true ∧ noneQ (neP (RT.dflt RT.i64) a b) (List.length a) = true ∧ True)) := by kernel_rfl
set_option maxHeartbeats 4000000 in
theorem lfI (a b : List Int) {W : World} {R own0 : Nat → Prop} {ρ0 : Nat → Option Value} (hown : HownOk (env gl []) own0 ρ0) : LOk Tryd.prog (env gl []) (ctx ea has) gl W R own0 ρ0 (loopN (bodyOf Tryd.f43) 0) (LfI a b) := by
  refine loop2_ok (env_ok (con := []) trivial) hown (ls := fun i => []) (fun i => noLoops (by kernel_rfl)) (fun hm i hi hj => (bfI gl a b i).mpr ?_) 0 (fun hm => by first | exact Nat.zero_le _ | omega) (fun hm => rfl)
  have hp : neP RT.i64.dflt a b i = !decide (a.getD i RT.i64.dflt = b.getD i RT.i64.dflt) := rfl
  obtain ⟨hm1, hm2⟩ := hm
  skip
  simp only [Int.toNat_natCast, Bool.not_not]
  refine ⟨fun h => ?_, fun h => ?_⟩
  · have h := of_decide_eq_true h
    have hlt : i < a.length := by omega
    refine ⟨by omega, fun _ => ⟨by omega, fun _ => ⟨fun h2 => ⟨noneQ_at (hp.trans h2) hlt, trivial⟩, fun h2 => ?_⟩⟩⟩
    refine ⟨hlt, by rw [noneQ, hj, hp.trans h2]; rfl, ?_⟩
    simp; omega
  · have h := of_decide_eq_false h
    have e : i = a.length := by omega
    subst e
    exact ⟨rfl, hj, trivial⟩
def kfI : List SVal → Nat → Acc ORes := fun a n => match a with | [.ro .i64 a, .ro .i64 b] => .ret ({ v := .bool (.sym (decide (a = b))), vc := some (a.length ≤ 1000000) }) | _ => .fail "fI"
theorem argfI (a b : List Int) : (all (subL 134 none' [] deep [.ro .i64 a, .ro .i64 b] [.ro .i64 a, .ro .i64 b])) = (
  a = a ∧ b = b) := by kernel_rfl
theorem runfI (gl : List (Nat × SVal)) (a b : List Int) : (Tr.sat (plainQ (.bool (.sym (decide (a = b))))) (run (env gl []) [(4, LfI a b)] (bodyOf Tryd.f43) (start [.ro .i64 a, .ro .i64 b] 29) (ends (env gl []) Tryd.f43.results.toList))) = (
  ((!decide ((↑(List.length a) : Int) = (↑(List.length b) : Int))) = true → false = decide (a = b)) ∧ ((!decide ((↑(List.length a) : Int) = (↑(List.length b) : Int))) = false → ((List.length a = List.length b ∧ List.length a ≤ (1000000 : Nat)) ∧ a = a ∧ b = b ∧ (0 : Int) = (↑(0 : Nat) : Int)) ∧ ((List.length a = List.length b ∧ List.length a ≤ (1000000 : Nat)) ∧ a = a ∧ b = b ∧ (0 : Int) = (↑(0 : Nat) : Int) → (noneQ (neP (RT.dflt RT.i64) a b) (List.length a) = true → true = decide (a = b)) ∧ (noneQ (neP (RT.dflt RT.i64) a b) (List.length a) = false → false = decide (a = b))))) := by kernel_rfl
set_option maxHeartbeats 4000000 in
theorem cfI : Con ea has gl 43 kfI := by
  refine plain_mk Tryd.func43 29 (con := []) trivial (fun hA hr hv => ?_) (by kernel_rfl) (by kernel_rfl) Tryd.ntmps43
  unfold kfI at hr; split at hr
  · rename_i a b
    have := ret_ok hr; subst this
    replace hv := hv _ rfl
    refine ⟨_, [(4, LfI a b)], rfl, rfl, (argfI a b).mpr (by simp), rfl, (fun W R ρ0 own0 hown => hl1 (by kernel_rfl) (by kernel_rfl) (lfI a b hown)), (runfI gl a b).mpr ?_⟩
    clear hr
    refine ⟨fun h => ?_, fun h => ?_⟩
    · have h : ¬ (a.length : Int) = b.length := by simpa using h
      exact (decide_eq_false (fun e => h (by rw [e]))).symm
    · have h : (a.length : Int) = b.length := by simpa using h
      have h : a.length = b.length := by omega
      refine ⟨⟨⟨h, hv⟩, rfl, rfl, rfl⟩, fun _ => ⟨fun g => ?_, fun g => ?_⟩⟩
      · rw [← neP_eq (d := RT.i64.dflt) h]; exact g.symm
      · rw [← neP_eq (d := RT.i64.dflt) h]; exact g.symm
  · cases hr
def HfT (a b : List ByteArray) (i : Nat) : SState := { fr := [(0, .ro .str a), (1, .ro .str b), (5, .int .i64 (.sym i 0 1000000))], hp := [], next := 0, sz := 29 }
def XfT (a b : List ByteArray) : SState := { fr := [], hp := [], next := 0, sz := 29 }
def YfT (a b : List ByteArray) : SState := { fr := [(4, .bool (.lit false))], hp := [], next := 0, sz := 29 }
def LfT (a b : List ByteArray) : LSum := ⟨HfT a b 0, fun k => .ite (noneQ (neP RT.str.dflt a b) a.length) (k (.exit 0) (XfT a b)) (k .ret (YfT a b)), a.length = b.length ∧ a.length ≤ 1000000⟩
theorem bfT (gl : List (Nat × SVal)) (a b : List ByteArray) (i : Nat) : (Tr.sat (rnd2 (env gl []) (fun i => noneQ (neP RT.str.dflt a b) i = true) (a.length) (HfT a b) 0 (noneQ (neP RT.str.dflt a b) a.length) (XfT a b) (YfT a b) i) (run (env gl []) [] (loopN (bodyOf Tryd.f52) 0) (HfT a b i) .leaf)) = (
  (decide ((↑i : Int) < (↑(List.length a) : Int)) = true → ((0 : Int) ≤ (↑i : Int) ∧ (↑i : Int) < (↑(List.length a) : Int)) ∧ ((0 : Int) ≤ (↑i : Int) ∧ (↑i : Int) < (↑(List.length a) : Int) → ((0 : Int) ≤ (↑i : Int) ∧ (↑i : Int) < (↑(List.length b) : Int)) ∧ ((0 : Int) ≤ (↑i : Int) ∧ (↑i : Int) < (↑(List.length b) : Int) → ((!decide (List.getD a (Int.toNat (↑i : Int)) (RT.dflt RT.str) = List.getD b (Int.toNat (↑i : Int)) (RT.dflt RT.str))) = true → noneQ (neP (RT.dflt RT.str) a b) (List.length a) = false ∧ false = false) ∧ ((!decide (List.getD a (Int.toNat (↑i : Int)) (RT.dflt RT.str) = List.getD b (Int.toNat (↑i : Int)) (RT.dflt RT.str))) = false → i < List.length a ∧ noneQ (neP (RT.dflt RT.str) a b) (i + (1 : Nat)) = true ∧ a = a ∧ b = b ∧ (↑i : Int) + (1 : Int) = (↑(i + (1 : Nat)) : Int) ∧ (0 : Int) ≤ (↑(i + (1 : Nat)) : Int) ∧ (↑(i + (1 : Nat)) : Int) ≤ (1000000 : Int))))) ∧ (decide ((↑i : Int) < (↑(List.length a) : Int)) = false → Nat.beq (0 : Nat) (0 : Nat) = true ∧ noneQ (neP (RT.dflt RT.str) a b) (List.length a) = true ∧ True)) := by kernel_rfl
set_option maxHeartbeats 4000000 in
theorem lfT (a b : List ByteArray) {W : World} {R own0 : Nat → Prop} {ρ0 : Nat → Option Value} (hown : HownOk (env gl []) own0 ρ0) : LOk Tryd.prog (env gl []) (ctx ea has) gl W R own0 ρ0 (loopN (bodyOf Tryd.f52) 0) (LfT a b) := by
  refine loop2_ok (env_ok (con := []) trivial) hown (ls := fun i => []) (fun i => noLoops (by kernel_rfl)) (fun hm i hi hj => (bfT gl a b i).mpr ?_) 0 (fun hm => by first | exact Nat.zero_le _ | omega) (fun hm => rfl)
  have hp : neP RT.str.dflt a b i = !decide (a.getD i RT.str.dflt = b.getD i RT.str.dflt) := rfl
  obtain ⟨hm1, hm2⟩ := hm
  skip
  simp only [Int.toNat_natCast, Bool.not_not]
  refine ⟨fun h => ?_, fun h => ?_⟩
  · have h := of_decide_eq_true h
    have hlt : i < a.length := by omega
    refine ⟨by omega, fun _ => ⟨by omega, fun _ => ⟨fun h2 => ⟨noneQ_at (hp.trans h2) hlt, trivial⟩, fun h2 => ?_⟩⟩⟩
    refine ⟨hlt, by rw [noneQ, hj, hp.trans h2]; rfl, ?_⟩
    simp; omega
  · have h := of_decide_eq_false h
    have e : i = a.length := by omega
    subst e
    exact ⟨rfl, hj, trivial⟩
def kfT : List SVal → Nat → Acc ORes := fun a n => match a with | [.ro .str a, .ro .str b] => .ret ({ v := .bool (.sym (decide (a = b))), vc := some (a.length ≤ 1000000) }) | _ => .fail "fT"
theorem argfT (a b : List ByteArray) : (all (subL 134 none' [] deep [.ro .str a, .ro .str b] [.ro .str a, .ro .str b])) = (
  a = a ∧ b = b) := by kernel_rfl
theorem runfT (gl : List (Nat × SVal)) (a b : List ByteArray) : (Tr.sat (plainQ (.bool (.sym (decide (a = b))))) (run (env gl []) [(4, LfT a b)] (bodyOf Tryd.f52) (start [.ro .str a, .ro .str b] 29) (ends (env gl []) Tryd.f52.results.toList))) = (
  ((!decide ((↑(List.length a) : Int) = (↑(List.length b) : Int))) = true → false = decide (a = b)) ∧ ((!decide ((↑(List.length a) : Int) = (↑(List.length b) : Int))) = false → ((List.length a = List.length b ∧ List.length a ≤ (1000000 : Nat)) ∧ a = a ∧ b = b ∧ (0 : Int) = (↑(0 : Nat) : Int)) ∧ ((List.length a = List.length b ∧ List.length a ≤ (1000000 : Nat)) ∧ a = a ∧ b = b ∧ (0 : Int) = (↑(0 : Nat) : Int) → (noneQ (neP (RT.dflt RT.str) a b) (List.length a) = true → true = decide (a = b)) ∧ (noneQ (neP (RT.dflt RT.str) a b) (List.length a) = false → false = decide (a = b))))) := by kernel_rfl
set_option maxHeartbeats 4000000 in
theorem cfT : Con ea has gl 52 kfT := by
  refine plain_mk Tryd.func52 29 (con := []) trivial (fun hA hr hv => ?_) (by kernel_rfl) (by kernel_rfl) Tryd.ntmps52
  unfold kfT at hr; split at hr
  · rename_i a b
    have := ret_ok hr; subst this
    replace hv := hv _ rfl
    refine ⟨_, [(4, LfT a b)], rfl, rfl, (argfT a b).mpr (by simp), rfl, (fun W R ρ0 own0 hown => hl1 (by kernel_rfl) (by kernel_rfl) (lfT a b hown)), (runfT gl a b).mpr ?_⟩
    clear hr
    refine ⟨fun h => ?_, fun h => ?_⟩
    · have h : ¬ (a.length : Int) = b.length := by simpa using h
      exact (decide_eq_false (fun e => h (by rw [e]))).symm
    · have h : (a.length : Int) = b.length := by simpa using h
      have h : a.length = b.length := by omega
      refine ⟨⟨⟨h, hv⟩, rfl, rfl, rfl⟩, fun _ => ⟨fun g => ?_, fun g => ?_⟩⟩
      · rw [← neP_eq (d := RT.str.dflt) h]; exact g.symm
      · rw [← neP_eq (d := RT.str.dflt) h]; exact g.symm
  · cases hr
def sameOb (d c m : List Int) (dr cr : List Rel) (sy : List Sm) (d' c' m' : List Int) (dr' cr' : List Rel) (sy' : List Sm) : Bool :=
  decide (d = d') && decide (c = c') && decide (m = m') && decide (dr = dr') && decide (cr = cr') && decide (sy = sy')
def lenOb (d c m : List Int) (dr cr : List Rel) (sy : List Sm) : Prop := d.length ≤ 1000000 ∧ c.length ≤ 1000000 ∧ m.length ≤ 1000000 ∧ dr.length ≤ 1000000 ∧ cr.length ≤ 1000000 ∧ sy.length ≤ 1000000
def shOb : Shp := .agg [.ro .u32, .ro .u32, .ro .u8, .ro .rel, .ro .rel, .ro .sym]
def kSame : List SVal → Nat → Acc ORes := fun a n => match a with | [.agg [.ro .u32 d, .ro .u32 c, .ro .u8 m, .ro .rel dr, .ro .rel cr, .ro .sym sy], .agg [.ro .u32 d', .ro .u32 c', .ro .u8 m', .ro .rel dr', .ro .rel cr', .ro .sym sy']] => .ret ({ v := .bool (.sym (sameOb d c m dr cr sy d' c' m' dr' cr' sy')), vc := some (lenOb d c m dr cr sy) }) | _ => .fail "Same"
theorem argSame (d c m : List Int) (dr cr : List Rel) (sy : List Sm) (d' c' m' : List Int) (dr' cr' : List Rel) (sy' : List Sm) : (all (subL 134 none' [] deep [.agg [.ro .u32 d, .ro .u32 c, .ro .u8 m, .ro .rel dr, .ro .rel cr, .ro .sym sy], .agg [.ro .u32 d', .ro .u32 c', .ro .u8 m', .ro .rel dr', .ro .rel cr', .ro .sym sy']] [.agg [.ro .u32 d, .ro .u32 c, .ro .u8 m, .ro .rel dr, .ro .rel cr, .ro .sym sy], .agg [.ro .u32 d', .ro .u32 c', .ro .u8 m', .ro .rel dr', .ro .rel cr', .ro .sym sy']])) = (
  d = d ∧ c = c ∧ m = m ∧ dr = dr ∧ cr = cr ∧ sy = sy ∧ d' = d' ∧ c' = c' ∧ m' = m' ∧ dr' = dr' ∧ cr' = cr' ∧ sy' = sy') := by kernel_rfl
theorem runSame (gl : List (Nat × SVal)) (d c m : List Int) (dr cr : List Rel) (sy : List Sm) (d' c' m' : List Int) (dr' cr' : List Rel) (sy' : List Sm) : (Tr.sat (plainQ (.bool (.sym (sameOb d c m dr cr sy d' c' m' dr' cr' sy')))) (run (env gl [(72, keW), (73, keB), (74, keR), (75, keS)]) [] (bodyOf Tryd.f30) (start [.agg [.ro .u32 d, .ro .u32 c, .ro .u8 m, .ro .rel dr, .ro .rel cr, .ro .sym sy], .agg [.ro .u32 d', .ro .u32 c', .ro .u8 m', .ro .rel dr', .ro .rel cr', .ro .sym sy']] 45) (ends (env gl [(72, keW), (73, keB), (74, keR), (75, keS)]) Tryd.f30.results.toList))) = (
  List.length d ≤ (1000000 : Nat) ∧ (List.length d ≤ (1000000 : Nat) → (decide (d = d') = true → List.length c ≤ (1000000 : Nat)) ∧ ((decide (d = d') = true → List.length c ≤ (1000000 : Nat)) → ((decide (d = d') && decide (c = c')) = true → List.length m ≤ (1000000 : Nat)) ∧ (((decide (d = d') && decide (c = c')) = true → List.length m ≤ (1000000 : Nat)) → ((decide (d = d') && decide (c = c') && decide (m = m')) = true → List.length dr ≤ (1000000 : Nat)) ∧ (((decide (d = d') && decide (c = c') && decide (m = m')) = true → List.length dr ≤ (1000000 : Nat)) → ((decide (d = d') && decide (c = c') && decide (m = m') && decide (dr = dr')) = true → List.length cr ≤ (1000000 : Nat)) ∧ (((decide (d = d') && decide (c = c') && decide (m = m') && decide (dr = dr')) = true → List.length cr ≤ (1000000 : Nat)) → ((decide (d = d') && decide (c = c') && decide (m = m') && decide (dr = dr') && decide (cr = cr')) = true → List.length sy ≤ (1000000 : Nat)) ∧ (((decide (d = d') && decide (c = c') && decide (m = m') && decide (dr = dr') && decide (cr = cr')) = true → List.length sy ≤ (1000000 : Nat)) → (decide (d = d') && decide (c = c') && decide (m = m') && decide (dr = dr') && decide (cr = cr') && decide (sy = sy')) = sameOb d c m dr cr sy d' c' m' dr' cr' sy'))))))) := by kernel_rfl
set_option maxHeartbeats 4000000 in
theorem cSame : Con ea has gl 30 kSame := by
  refine plain_mk Tryd.func30 45 (con := [(72, keW), (73, keB), (74, keR), (75, keS)]) ⟨ceW, ceB, ceR, ceS, trivial⟩ (fun hA hr hv => ?_) (by kernel_rfl) (by kernel_rfl) Tryd.ntmps30
  unfold kSame at hr; split at hr
  · rename_i d c m dr cr sy d' c' m' dr' cr' sy'
    have := ret_ok hr; subst this
    replace hv := hv _ rfl
    refine ⟨_, [], rfl, rfl, (argSame d c m dr cr sy d' c' m' dr' cr' sy').mpr (by simp), rfl, (fun W R ρ0 own0 hown => noLoops (by kernel_rfl)), (runSame gl d c m dr cr sy d' c' m' dr' cr' sy').mpr ?_⟩
    clear hr
    obtain ⟨h1, h2, h3, h4, h5, h6⟩ := hv
    exact ⟨h1, fun _ => ⟨fun _ => h2, fun _ => ⟨fun _ => h3, fun _ => ⟨fun _ => h4, fun _ => ⟨fun _ => h5, fun _ => ⟨fun _ => h6, fun _ => rfl⟩⟩⟩⟩⟩⟩
  · cases hr
def kSameObject : List SVal → Nat → Acc ORes := fun a n => match a with | [.agg [.ro .u32 d, .ro .u32 c, .ro .u8 m, .ro .rel dr, .ro .rel cr, .ro .sym sy], .agg [.ro .u32 d', .ro .u32 c', .ro .u8 m', .ro .rel dr', .ro .rel cr', .ro .sym sy']] => .ret ({ v := .bool (.sym (sameOb d c m dr cr sy d' c' m' dr' cr' sy')), vc := some (lenOb d c m dr cr sy) }) | _ => .fail "SameObject"
theorem argSameObject (d c m : List Int) (dr cr : List Rel) (sy : List Sm) (d' c' m' : List Int) (dr' cr' : List Rel) (sy' : List Sm) : (all (subL 134 none' [] deep [.agg [.ro .u32 d, .ro .u32 c, .ro .u8 m, .ro .rel dr, .ro .rel cr, .ro .sym sy], .agg [.ro .u32 d', .ro .u32 c', .ro .u8 m', .ro .rel dr', .ro .rel cr', .ro .sym sy']] [.agg [.ro .u32 d, .ro .u32 c, .ro .u8 m, .ro .rel dr, .ro .rel cr, .ro .sym sy], .agg [.ro .u32 d', .ro .u32 c', .ro .u8 m', .ro .rel dr', .ro .rel cr', .ro .sym sy']])) = (
  d = d ∧ c = c ∧ m = m ∧ dr = dr ∧ cr = cr ∧ sy = sy ∧ d' = d' ∧ c' = c' ∧ m' = m' ∧ dr' = dr' ∧ cr' = cr' ∧ sy' = sy') := by kernel_rfl
theorem runSameObject (gl : List (Nat × SVal)) (d c m : List Int) (dr cr : List Rel) (sy : List Sm) (d' c' m' : List Int) (dr' cr' : List Rel) (sy' : List Sm) : (Tr.sat (plainQ (.bool (.sym (sameOb d c m dr cr sy d' c' m' dr' cr' sy')))) (run (env gl [(36, kfW), (46, kfB), (37, kfR), (76, kfS)]) [] (bodyOf Tryd.f31) (start [.agg [.ro .u32 d, .ro .u32 c, .ro .u8 m, .ro .rel dr, .ro .rel cr, .ro .sym sy], .agg [.ro .u32 d', .ro .u32 c', .ro .u8 m', .ro .rel dr', .ro .rel cr', .ro .sym sy']] 45) (ends (env gl [(36, kfW), (46, kfB), (37, kfR), (76, kfS)]) Tryd.f31.results.toList))) = (
  List.length d ≤ (1000000 : Nat) ∧ (List.length d ≤ (1000000 : Nat) → (decide (d = d') = true → List.length c ≤ (1000000 : Nat)) ∧ ((decide (d = d') = true → List.length c ≤ (1000000 : Nat)) → ((decide (d = d') && decide (c = c')) = true → List.length m ≤ (1000000 : Nat)) ∧ (((decide (d = d') && decide (c = c')) = true → List.length m ≤ (1000000 : Nat)) → ((decide (d = d') && decide (c = c') && decide (m = m')) = true → List.length dr ≤ (1000000 : Nat)) ∧ (((decide (d = d') && decide (c = c') && decide (m = m')) = true → List.length dr ≤ (1000000 : Nat)) → ((decide (d = d') && decide (c = c') && decide (m = m') && decide (dr = dr')) = true → List.length cr ≤ (1000000 : Nat)) ∧ (((decide (d = d') && decide (c = c') && decide (m = m') && decide (dr = dr')) = true → List.length cr ≤ (1000000 : Nat)) → ((decide (d = d') && decide (c = c') && decide (m = m') && decide (dr = dr') && decide (cr = cr')) = true → List.length sy ≤ (1000000 : Nat)) ∧ (((decide (d = d') && decide (c = c') && decide (m = m') && decide (dr = dr') && decide (cr = cr')) = true → List.length sy ≤ (1000000 : Nat)) → (decide (d = d') && decide (c = c') && decide (m = m') && decide (dr = dr') && decide (cr = cr') && decide (sy = sy')) = sameOb d c m dr cr sy d' c' m' dr' cr' sy'))))))) := by kernel_rfl
set_option maxHeartbeats 4000000 in
theorem cSameObject : Con ea has gl 31 kSameObject := by
  refine plain_mk Tryd.func31 45 (con := [(36, kfW), (46, kfB), (37, kfR), (76, kfS)]) ⟨cfW, cfB, cfR, cfS, trivial⟩ (fun hA hr hv => ?_) (by kernel_rfl) (by kernel_rfl) Tryd.ntmps31
  unfold kSameObject at hr; split at hr
  · rename_i d c m dr cr sy d' c' m' dr' cr' sy'
    have := ret_ok hr; subst this
    replace hv := hv _ rfl
    refine ⟨_, [], rfl, rfl, (argSameObject d c m dr cr sy d' c' m' dr' cr' sy').mpr (by simp), rfl, (fun W R ρ0 own0 hown => noLoops (by kernel_rfl)), (runSameObject gl d c m dr cr sy d' c' m' dr' cr' sy').mpr ?_⟩
    clear hr
    obtain ⟨h1, h2, h3, h4, h5, h6⟩ := hv
    exact ⟨h1, fun _ => ⟨fun _ => h2, fun _ => ⟨fun _ => h3, fun _ => ⟨fun _ => h4, fun _ => ⟨fun _ => h5, fun _ => ⟨fun _ => h6, fun _ => rfl⟩⟩⟩⟩⟩⟩
  · cases hr
abbrev kCloneW := kClone .u32
theorem runCloneW0 (gl : List (Nat × SVal)) : (Tr.sat (newQ (env gl []) (.own 0) [(0, .recs .u32 [])] 1) (run (env gl []) [] (bodyOf Tryd.f68) (start [.nilslice] 8) (ends (env gl []) Tryd.f68.results.toList))) = (
  @List.nil (RT.ty RT.u32) = @List.nil (RT.ty RT.u32)) := by kernel_rfl
theorem runCloneW1 (gl : List (Nat × SVal)) (l : List Int) : (Tr.sat (newQ (env gl []) (.own 0) [(0, .recs .u32 l)] 1) (run (env gl []) [] (bodyOf Tryd.f68) (start [.roN .u32 l] 8) (ends (env gl []) Tryd.f68.results.toList))) = (
  List.length (@List.nil (RT.ty RT.u32)) + List.length l ≤ (137438953472 : Nat) ∧ (List.length (@List.nil (RT.ty RT.u32)) + List.length l ≤ (137438953472 : Nat) → @List.nil (RT.ty RT.u32) ++ l = l)) := by kernel_rfl
theorem cCloneW : Con ea has gl 68 (kClone .u32) := by
  refine clone_mk Tryd.func68 8 ?_ ?_ (by kernel_rfl) (by kernel_rfl) (by kernel_rfl) Tryd.ntmps68 rfl
  · have := runCloneW0 gl; exact this.mpr rfl
  · intro l hl; exact (runCloneW1 gl l).mpr ⟨by simpa using hl, fun _ => rfl⟩
abbrev kCloneB := kClone .u8
theorem runCloneB0 (gl : List (Nat × SVal)) : (Tr.sat (newQ (env gl []) (.own 0) [(0, .recs .u8 [])] 1) (run (env gl []) [] (bodyOf Tryd.f69) (start [.nilslice] 8) (ends (env gl []) Tryd.f69.results.toList))) = (
  @List.nil (RT.ty RT.u8) = @List.nil (RT.ty RT.u8)) := by kernel_rfl
theorem runCloneB1 (gl : List (Nat × SVal)) (l : List Int) : (Tr.sat (newQ (env gl []) (.own 0) [(0, .recs .u8 l)] 1) (run (env gl []) [] (bodyOf Tryd.f69) (start [.roN .u8 l] 8) (ends (env gl []) Tryd.f69.results.toList))) = (
  List.length (@List.nil (RT.ty RT.u8)) + List.length l ≤ (137438953472 : Nat) ∧ (List.length (@List.nil (RT.ty RT.u8)) + List.length l ≤ (137438953472 : Nat) → @List.nil (RT.ty RT.u8) ++ l = l)) := by kernel_rfl
theorem cCloneB : Con ea has gl 69 (kClone .u8) := by
  refine clone_mk Tryd.func69 8 ?_ ?_ (by kernel_rfl) (by kernel_rfl) (by kernel_rfl) Tryd.ntmps69 rfl
  · have := runCloneB0 gl; exact this.mpr rfl
  · intro l hl; exact (runCloneB1 gl l).mpr ⟨by simpa using hl, fun _ => rfl⟩
abbrev kCloneR := kClone .rel
theorem runCloneR0 (gl : List (Nat × SVal)) : (Tr.sat (newQ (env gl []) (.own 0) [(0, .recs .rel [])] 1) (run (env gl []) [] (bodyOf Tryd.f70) (start [.nilslice] 8) (ends (env gl []) Tryd.f70.results.toList))) = (
  @List.nil (RT.ty RT.rel) = @List.nil (RT.ty RT.rel)) := by kernel_rfl
theorem runCloneR1 (gl : List (Nat × SVal)) (l : List Rel) : (Tr.sat (newQ (env gl []) (.own 0) [(0, .recs .rel l)] 1) (run (env gl []) [] (bodyOf Tryd.f70) (start [.roN .rel l] 8) (ends (env gl []) Tryd.f70.results.toList))) = (
  List.length (@List.nil (RT.ty RT.rel)) + List.length l ≤ (137438953472 : Nat) ∧ (List.length (@List.nil (RT.ty RT.rel)) + List.length l ≤ (137438953472 : Nat) → @List.nil (RT.ty RT.rel) ++ l = l)) := by kernel_rfl
theorem cCloneR : Con ea has gl 70 (kClone .rel) := by
  refine clone_mk Tryd.func70 8 ?_ ?_ (by kernel_rfl) (by kernel_rfl) (by kernel_rfl) Tryd.ntmps70 rfl
  · have := runCloneR0 gl; exact this.mpr rfl
  · intro l hl; exact (runCloneR1 gl l).mpr ⟨by simpa using hl, fun _ => rfl⟩
abbrev kCloneS := kClone .sym
theorem runCloneS0 (gl : List (Nat × SVal)) : (Tr.sat (newQ (env gl []) (.own 0) [(0, .recs .sym [])] 1) (run (env gl []) [] (bodyOf Tryd.f71) (start [.nilslice] 8) (ends (env gl []) Tryd.f71.results.toList))) = (
  @List.nil (RT.ty RT.sym) = @List.nil (RT.ty RT.sym)) := by kernel_rfl
theorem runCloneS1 (gl : List (Nat × SVal)) (l : List Sm) : (Tr.sat (newQ (env gl []) (.own 0) [(0, .recs .sym l)] 1) (run (env gl []) [] (bodyOf Tryd.f71) (start [.roN .sym l] 8) (ends (env gl []) Tryd.f71.results.toList))) = (
  List.length (@List.nil (RT.ty RT.sym)) + List.length l ≤ (137438953472 : Nat) ∧ (List.length (@List.nil (RT.ty RT.sym)) + List.length l ≤ (137438953472 : Nat) → @List.nil (RT.ty RT.sym) ++ l = l)) := by kernel_rfl
theorem cCloneS : Con ea has gl 71 (kClone .sym) := by
  refine clone_mk Tryd.func71 8 ?_ ?_ (by kernel_rfl) (by kernel_rfl) (by kernel_rfl) Tryd.ntmps71 rfl
  · have := runCloneS0 gl; exact this.mpr rfl
  · intro l hl; exact (runCloneS1 gl l).mpr ⟨by simpa using hl, fun _ => rfl⟩
def kCloneO : List SVal → Nat → Acc ORes := fun a n => match a with | [.agg [.ro .u32 d, .ro .u32 c, .ro .u8 m, .ro .rel dr, .ro .rel cr, .ro .sym sy]] => .ret (newR n (.agg [.own 0, .own 1, .own 2, .own 3, .own 4, .own 5]) ([(0, .recs .u32 d), (1, .recs .u32 c), (2, .recs .u8 m), (3, .recs .rel dr), (4, .recs .rel cr), (5, .recs .sym sy)]) 6 (some (lenOb d c m dr cr sy))) | _ => .fail "CloneO"
theorem argCloneO (d c m : List Int) (dr cr : List Rel) (sy : List Sm) : (all (subL 134 none' [] deep [.agg [.ro .u32 d, .ro .u32 c, .ro .u8 m, .ro .rel dr, .ro .rel cr, .ro .sym sy]] [.agg [.ro .u32 d, .ro .u32 c, .ro .u8 m, .ro .rel dr, .ro .rel cr, .ro .sym sy]])) = (
  d = d ∧ c = c ∧ m = m ∧ dr = dr ∧ cr = cr ∧ sy = sy) := by kernel_rfl
theorem runCloneO (gl : List (Nat × SVal)) (d c m : List Int) (dr cr : List Rel) (sy : List Sm) : (Tr.sat (newQ (env gl [(68, kCloneW), (69, kCloneB), (70, kCloneR), (71, kCloneS)]) (.agg [.own 0, .own 1, .own 2, .own 3, .own 4, .own 5]) ([(0, .recs .u32 d), (1, .recs .u32 c), (2, .recs .u8 m), (3, .recs .rel dr), (4, .recs .rel cr), (5, .recs .sym sy)]) 6) (run (env gl [(68, kCloneW), (69, kCloneB), (70, kCloneR), (71, kCloneS)]) [] (bodyOf Tryd.f29) (start [.agg [.ro .u32 d, .ro .u32 c, .ro .u8 m, .ro .rel dr, .ro .rel cr, .ro .sym sy]] 22) (ends (env gl [(68, kCloneW), (69, kCloneB), (70, kCloneR), (71, kCloneS)]) Tryd.f29.results.toList))) = (
  List.length d ≤ (137438953472 : Nat) ∧ (List.length d ≤ (137438953472 : Nat) → List.length c ≤ (137438953472 : Nat) ∧ (List.length c ≤ (137438953472 : Nat) → List.length m ≤ (137438953472 : Nat) ∧ (List.length m ≤ (137438953472 : Nat) → List.length dr ≤ (137438953472 : Nat) ∧ (List.length dr ≤ (137438953472 : Nat) → List.length cr ≤ (137438953472 : Nat) ∧ (List.length cr ≤ (137438953472 : Nat) → List.length sy ≤ (137438953472 : Nat) ∧ (List.length sy ≤ (137438953472 : Nat) → d = d ∧ c = c ∧ m = m ∧ dr = dr ∧ cr = cr ∧ sy = sy))))))) := by kernel_rfl
set_option maxHeartbeats 4000000 in
theorem cCloneO : Con ea has gl 29 kCloneO := by
  refine new_mk Tryd.func29 22 (con := [(68, kCloneW), (69, kCloneB), (70, kCloneR), (71, kCloneS)]) ⟨cCloneW, cCloneB, cCloneR, cCloneS, trivial⟩ (fun hA hr hv => ?_) (by kernel_rfl) (by kernel_rfl) Tryd.ntmps29
  unfold kCloneO at hr; split at hr
  · rename_i d c m dr cr sy
    have := ret_ok hr; subst this
    replace hv := hv _ rfl
    refine ⟨_, [], _, _, _, ⟨rfl, rfl, rfl⟩, (argCloneO d c m dr cr sy).mpr (by simp), rfl, rfl, (fun W R ρ0 own0 hown => noLoops (by kernel_rfl)), (runCloneO gl d c m dr cr sy).mpr ?_⟩
    clear hr
    obtain ⟨h1, h2, h3, h4, h5, h6⟩ := hv
    have up : ∀ n : Nat, n ≤ 1000000 → n ≤ 137438953472 := fun _ h => Nat.le_trans h (by decide)
    exact ⟨up _ h1, fun _ => ⟨up _ h2, fun _ => ⟨up _ h3, fun _ => ⟨up _ h4, fun _ => ⟨up _ h5, fun _ => ⟨up _ h6, fun _ => ⟨rfl, rfl, rfl, rfl, rfl, rfl⟩⟩⟩⟩⟩⟩⟩
  · cases hr
abbrev kSameB := bor [shOb, shOb] kSame
theorem cSameB : Con ea has gl 30 kSameB := bor_ok cSame _
abbrev kSameObB := bor [shOb, shOb] kSameObject
theorem cSameObB : Con ea has gl 31 kSameObB := bor_ok cSameObject _
end
end Go.Proofs.YtbdfibaljoedpaaDoor

set_option linter.unusedVariables false
set_option linter.unusedSimpArgs false
namespace Go.Proofs.YtbdfibaljoedpaaDoor
open Go.RowKit Go.Sy Go.Fac
section
variable {ea : Int → Addr} {has : Int → Prop} {gl : List (Nat × SVal)}
def kNumber : List SVal → Nat → Acc ORes := fun a n => match a with | [.int .i64 n', .int .i64 b] => .ret ({ v := .int .i64 (.full (n'.val % b.val)), vc := some (0 < b.val) }) | _ => .fail "Number"
theorem argNumber (n' b : SI) : (all (subL 134 none' [] deep [.int .i64 n', .int .i64 b] [.int .i64 (.full n'.val), .int .i64 (.full b.val)])) = (
  SI.val n' = SI.val n' ∧ SI.val b = SI.val b) := by kernel_rfl
theorem runNumber (gl : List (Nat × SVal)) (n' b : SI) : (Tr.sat (plainQ (.int .i64 (.full (n'.val % b.val)))) (run (env gl []) [] (bodyOf Tryd.f21) (start [.int .i64 (.full n'.val), .int .i64 (.full b.val)] 15) (ends (env gl []) Tryd.f21.results.toList))) = (
  SI.val b ≠ (0 : Int) ∧ (SI.val b ≠ (0 : Int) → (decide (Int.tmod (SI.val n') (SI.val b) < (0 : Int)) = true → IntKind.wrap IntKind.i64 (Int.tmod (SI.val n') (SI.val b) + SI.val b) = SI.val n' % SI.val b) ∧ (decide (Int.tmod (SI.val n') (SI.val b) < (0 : Int)) = false → Int.tmod (SI.val n') (SI.val b) = SI.val n' % SI.val b))) := by kernel_rfl
set_option maxHeartbeats 4000000 in
theorem cNumber : Con ea has gl 21 kNumber := by
  refine plain_mk Tryd.func21 15 (con := []) trivial (fun hA hr hv => ?_) (by kernel_rfl) (by kernel_rfl) Tryd.ntmps21
  unfold kNumber at hr; split at hr
  · rename_i n' b
    have := ret_ok hr; subst this
    replace hv := hv _ rfl
    refine ⟨_, [], rfl, rfl, (argNumber n' b).mpr (by simp), rfl, (fun W R ρ0 own0 hown => noLoops (by kernel_rfl)), (runNumber gl n' b).mpr ?_⟩
    clear hr
    obtain ⟨us, hB⟩ := DenA.tl hA
    have b1 : b.val ≤ 9223372036854775807 := (DenA.i0 hB).hi
    clear hB
    clear hA
    generalize n'.val = x
    generalize b.val = y at *
    have h0 := Int.emod_nonneg x (show y ≠ 0 by omega)
    have h1 := Int.emod_lt_of_pos x hv
    have ht := Int.tmod_eq_emod (a := x) (b := y)
    have key : x % y = if x.tmod y < 0 then x.tmod y + y else x.tmod y := by
      generalize x % y = m at *
      generalize x.tmod y = t at *
      split at ht <;> split <;> omega
    refine ⟨by omega, fun _ => ⟨fun h => ?_, fun h => ?_⟩⟩
    · rw [if_pos (of_decide_eq_true h)] at key
      rw [IntKind.wrap_i64]; omega
    · rw [if_neg (of_decide_eq_false h)] at key
      exact key.symm
  · cases hr
def kNone : List SVal → Nat → Acc ORes := fun a n => match a with | [] => .ret ({ v := .agg [.int .i64 (.full 0), .bool (.sym false), .int .i64 (.full 0)] }) | _ => .fail "None"
theorem argNone  : (all (subL 134 none' [] deep [] [])) = (
  True) := by kernel_rfl
theorem runNone (gl : List (Nat × SVal)) : (Tr.sat (plainQ (.agg [.int .i64 (.full 0), .bool (.sym false), .int .i64 (.full 0)])) (run (env gl []) [] (bodyOf Tryd.f65) (start [] 2) (ends (env gl []) Tryd.f65.results.toList))) = (
  (0 : Int) = (0 : Int) ∧ false = false ∧ (0 : Int) = (0 : Int)) := by kernel_rfl
set_option maxHeartbeats 4000000 in
theorem cNone : Con ea has gl 65 kNone := by
  refine plain_mk Tryd.func65 2 (con := []) trivial (fun hA hr hv => ?_) (by kernel_rfl) (by kernel_rfl) Tryd.ntmps65
  unfold kNone at hr; split at hr
  · skip
    have := ret_ok hr; subst this
    refine ⟨_, [], rfl, rfl, (argNone ).mpr (by simp), rfl, (fun W R ρ0 own0 hown => noLoops (by kernel_rfl)), (runNone gl ).mpr ?_⟩
    clear hr
    exact ⟨rfl, rfl, rfl⟩
  · cases hr
def kBare : List SVal → Nat → Acc ORes := fun a n => match a with | [.int .i64 c] => .ret ({ v := .agg [.int .i64 (.full c.val), .bool (.sym false), .int .i64 (.full 0)] }) | _ => .fail "Bare"
theorem argBare (c : SI) : (all (subL 134 none' [] deep [.int .i64 c] [.int .i64 (.full c.val)])) = (
  SI.val c = SI.val c) := by kernel_rfl
theorem runBare (gl : List (Nat × SVal)) (c : SI) : (Tr.sat (plainQ (.agg [.int .i64 (.full c.val), .bool (.sym false), .int .i64 (.full 0)])) (run (env gl []) [] (bodyOf Tryd.f26) (start [.int .i64 (.full c.val)] 5) (ends (env gl []) Tryd.f26.results.toList))) = (
  SI.val c = SI.val c ∧ false = false ∧ (0 : Int) = (0 : Int)) := by kernel_rfl
set_option maxHeartbeats 4000000 in
theorem cBare : Con ea has gl 26 kBare := by
  refine plain_mk Tryd.func26 5 (con := []) trivial (fun hA hr hv => ?_) (by kernel_rfl) (by kernel_rfl) Tryd.ntmps26
  unfold kBare at hr; split at hr
  · rename_i c
    have := ret_ok hr; subst this
    refine ⟨_, [], rfl, rfl, (argBare c).mpr (by simp), rfl, (fun W R ρ0 own0 hown => noLoops (by kernel_rfl)), (runBare gl c).mpr ?_⟩
    clear hr
    exact ⟨rfl, rfl, rfl⟩
  · cases hr
def kPlaced : List SVal → Nat → Acc ORes := fun a n => match a with | [.int .i64 c, .int .i64 p] => .ret ({ v := .agg [.int .i64 (.full c.val), .bool (.sym (!decide (c.val = 0))), .int .i64 (.full (if c.val = 0 then 0 else p.val))] }) | _ => .fail "Placed"
theorem argPlaced (c p : SI) : (all (subL 134 none' [] deep [.int .i64 c, .int .i64 p] [.int .i64 (.full c.val), .int .i64 (.full p.val)])) = (
  SI.val c = SI.val c ∧ SI.val p = SI.val p) := by kernel_rfl
theorem runPlaced (gl : List (Nat × SVal)) (c p : SI) : (Tr.sat (plainQ (.agg [.int .i64 (.full c.val), .bool (.sym (!decide (c.val = 0))), .int .i64 (.full (if c.val = 0 then 0 else p.val))])) (run (env gl [(65, kNone)]) [] (bodyOf Tryd.f25) (start [.int .i64 (.full c.val), .int .i64 (.full p.val)] 11) (ends (env gl [(65, kNone)]) Tryd.f25.results.toList))) = (
  (decide (SI.val c = (0 : Int)) = true → (0 : Int) = SI.val c ∧ false = !decide (SI.val c = (0 : Int)) ∧ (0 : Int) = if SI.val c = (0 : Int) then (0 : Int) else SI.val p) ∧ (decide (SI.val c = (0 : Int)) = false → SI.val c = SI.val c ∧ true = !decide (SI.val c = (0 : Int)) ∧ SI.val p = if SI.val c = (0 : Int) then (0 : Int) else SI.val p)) := by kernel_rfl
set_option maxHeartbeats 4000000 in
theorem cPlaced : Con ea has gl 25 kPlaced := by
  refine plain_mk Tryd.func25 11 (con := [(65, kNone)]) ⟨cNone, trivial⟩ (fun hA hr hv => ?_) (by kernel_rfl) (by kernel_rfl) Tryd.ntmps25
  unfold kPlaced at hr; split at hr
  · rename_i c p
    have := ret_ok hr; subst this
    refine ⟨_, [], rfl, rfl, (argPlaced c p).mpr (by simp), rfl, (fun W R ρ0 own0 hown => noLoops (by kernel_rfl)), (runPlaced gl c p).mpr ?_⟩
    clear hr
    refine ⟨fun h => ?_, fun h => ?_⟩
    · have h1 := of_decide_eq_true h
      rw [h, if_pos h1]; exact ⟨h1.symm, rfl, rfl⟩
    · have h1 := of_decide_eq_false h
      rw [h, if_neg h1]; exact ⟨rfl, rfl, rfl⟩
  · cases hr
def kSameFault : List SVal → Nat → Acc ORes := fun a n => match a with | [.agg [.int .i64 a, .bool b, .int .i64 c], .agg [.int .i64 d, .bool e, .int .i64 f]] => .ret ({ v := .bool (.sym (decide (a.val = d.val) && (b.val == e.val) && decide (c.val = f.val))) }) | _ => .fail "SameFault"
theorem argSameFault (a : SI) (b : SB) (c d : SI) (e : SB) (f : SI) : (all (subL 134 none' [] deep [.agg [.int .i64 a, .bool b, .int .i64 c], .agg [.int .i64 d, .bool e, .int .i64 f]] [.agg [.int .i64 (.full a.val), .bool (.sym b.val), .int .i64 (.full c.val)], .agg [.int .i64 (.full d.val), .bool (.sym e.val), .int .i64 (.full f.val)]])) = (
  SI.val a = SI.val a ∧ SB.val b = SB.val b ∧ SI.val c = SI.val c ∧ SI.val d = SI.val d ∧ SB.val e = SB.val e ∧ SI.val f = SI.val f) := by kernel_rfl
theorem runSameFault (gl : List (Nat × SVal)) (a : SI) (b : SB) (c d : SI) (e : SB) (f : SI) : (Tr.sat (plainQ (.bool (.sym (decide (a.val = d.val) && (b.val == e.val) && decide (c.val = f.val))))) (run (env gl []) [] (bodyOf Tryd.f66) (start [.agg [.int .i64 (.full a.val), .bool (.sym b.val), .int .i64 (.full c.val)], .agg [.int .i64 (.full d.val), .bool (.sym e.val), .int .i64 (.full f.val)]] 24) (ends (env gl []) Tryd.f66.results.toList))) = (
  (decide (SI.val a = SI.val d) && SB.val b == SB.val e && decide (SI.val c = SI.val f)) = (decide (SI.val a = SI.val d) && SB.val b == SB.val e && decide (SI.val c = SI.val f))) := by kernel_rfl
set_option maxHeartbeats 4000000 in
theorem cSameFault : Con ea has gl 66 kSameFault := by
  refine plain_mk Tryd.func66 24 (con := []) trivial (fun hA hr hv => ?_) (by kernel_rfl) (by kernel_rfl) Tryd.ntmps66
  unfold kSameFault at hr; split at hr
  · rename_i a b c d e f
    have := ret_ok hr; subst this
    refine ⟨_, [], rfl, rfl, (argSameFault a b c d e f).mpr (by simp), rfl, (fun W R ρ0 own0 hown => noLoops (by kernel_rfl)), (runSameFault gl a b c d e f).mpr ?_⟩
    clear hr
    rfl
  · cases hr
end
end Go.Proofs.YtbdfibaljoedpaaDoor

set_option linter.unusedVariables false
set_option linter.unusedSimpArgs false
namespace Go.Proofs.YtbdfibaljoedpaaDoor
open Go.RowKit Go.Sy Go.Fac
section
variable {ea : Int → Addr} {has : Int → Prop} {rest : List (Nat × SVal)}
def siteOf (c m : List Int) (at_ : Int) : List St :=
  let i := insI c m at_
  if (decide (isaClass i.op = 2) || decide (isaClass i.op = 3)) = true then [⟨at_, isaClass i.op, i⟩] else []
def sitesF (c m : List Int) (l : List Int) : List St := l.flatMap (siteOf c m)
def sitesM (d c m : List Int) (dr cr : List Rel) (sy : List Sm) : List St := if (validE d c m dr cr sy).isErr = true then [] else sitesF c m (startsF c m m.length)
theorem valid_size {d c m : List Int} {dr cr : List Rel} {sy : List Sm} (h : (validE d c m dr cr sy).isErr = false) : c.length ≤ 2048 ∧ m.length = c.length ∧ d.length ≤ 2048 ∧ dr.length ≤ 1024 ∧ cr.length ≤ 1024 ∧ sy.length ≤ 256 ∧
    (firstE (wdE c m) c.length).isErr = false ∧ (firstE (syE d c m sy) sy.length).isErr = false ∧ (relocsE d c m dr cr sy).isErr = false := by
  unfold validE at h
  split at h
  · cases h
  · rename_i h1
    split at h
    · cases h
    · rename_i h2
      split at h
      · rename_i h3; rw [h] at h3; cases h3
      · rename_i h3
        split at h
        · rename_i h4; rw [h] at h4; cases h4
        · rename_i h4
          have h1 : manyB d c dr cr sy = false := by simpa using h1
          unfold manyB at h1
          simp only [Bool.or_eq_false_iff, decide_eq_false_iff_not] at h1
          simp only [Bool.not_eq_true', decide_eq_false_iff_not, Decidable.not_not] at h2
          refine ⟨by omega, by omega, by omega, by omega, by omega, by omega, by simpa using h3, by simpa using h4, h⟩
theorem firstE_all {f : Nat → FErr} (hp : ∀ i, (f i).isPlaced = false) {n : Nat} (h : (firstE f n).isErr = false) : ∀ i, i < n → (f i).isErr = false := by
  intro i hi
  cases hf : (f i).isErr with
  | false => rfl
  | true =>
    cases hi1 : (firstE f i).isErr with
    | true =>
      have := firstE_stay hi1 (Nat.le_of_lt hi)
      rw [this, hi1] at h; cases h
    | false =>
      have := (firstE_at (fine_of hi1) hf (hp i) hi).2
      rw [this] at h; cases h
theorem sitesF_len (c m : List Int) : ∀ l, (sitesF c m l).length ≤ l.length
  | [] => Nat.le_refl _
  | a :: l => by
    have := sitesF_len c m l
    unfold sitesF at *
    rw [List.flatMap_cons, List.length_append]
    have : (siteOf c m a).length ≤ 1 := by unfold siteOf; simp only; split <;> simp
    simp only [List.length_cons]; omega
def HSites (d c m : List Int) (dr cr : List Rel) (sy : List Sm) (st : List Int) (i : Nat) : SState := { fr := [(1, .ptr 0 0), (5, .own 1), (17, .own 2), (18, .int .i64 (.full st.length)), (19, .int .i64 (.sym i 0 1000000))], hp := [(0, some (.cells [.ro .u32 d, .ro .u32 c, .ro .u8 m, .ro .rel dr, .ro .rel cr, .ro .sym sy])), (1, some (.recs .site (sitesF c m (st.take i)))), (2, some (.recs .i64 st))], next := 3, sz := 48 }
def XSites (d c m : List Int) (dr cr : List Rel) (sy : List Sm) (st : List Int) : SState := { fr := [(5, .own 0)], hp := [(0, some (.recs .site (sitesF c m st)))], next := 1, sz := 48 }
def LSites (d c m : List Int) (dr cr : List Rel) (sy : List Sm) (st : List Int) : LSum := ⟨HSites d c m dr cr sy st 0, fun k => k (.exit 0) (XSites d c m dr cr sy st), st.length ≤ 1000000⟩
theorem bSites (rest : List (Nat × SVal)) (d c m : List Int) (dr cr : List Rel) (sy : List Sm) (st : List Int) (i : Nat) : (Tr.sat (rnd1 (env (G7 ++ rest) [(28, kValid), (54, kStarts), (58, kInstr), (59, kTables), (60, kClass)]) (fun _ => True) (st.length) (HSites d c m dr cr sy st) 0 (XSites d c m dr cr sy st) i) (run (env (G7 ++ rest) [(28, kValid), (54, kStarts), (58, kInstr), (59, kTables), (60, kClass)]) [] (loopN (bodyOf Tryd.f18) 0) (HSites d c m dr cr sy st i) .leaf)) = (
  (decide ((↑i : Int) < (↑(List.length st) : Int)) = true → ((0 : Int) ≤ (↑i : Int) ∧ (↑i : Int) < (↑(List.length st) : Int)) ∧ ((0 : Int) ≤ (↑i : Int) ∧ (↑i : Int) < (↑(List.length st) : Int) → ((decide (isaClass (insI c m (List.getD st (Int.toNat (↑i : Int)) (RT.dflt RT.i64))).op = (2 : Int)) || decide (isaClass (insI c m (List.getD st (Int.toNat (↑i : Int)) (RT.dflt RT.i64))).op = (3 : Int))) = true → List.length (sitesF c m (List.take i st)) + List.length [St.mk (List.getD st (Int.toNat (↑i : Int)) (RT.dflt RT.i64)) (isaClass (insI c m (List.getD st (Int.toNat (↑i : Int)) (RT.dflt RT.i64))).op) (In5.mk (insI c m (List.getD st (Int.toNat (↑i : Int)) (RT.dflt RT.i64))).op (insI c m (List.getD st (Int.toNat (↑i : Int)) (RT.dflt RT.i64))).a (insI c m (List.getD st (Int.toNat (↑i : Int)) (RT.dflt RT.i64))).b (insI c m (List.getD st (Int.toNat (↑i : Int)) (RT.dflt RT.i64))).c (insI c m (List.getD st (Int.toNat (↑i : Int)) (RT.dflt RT.i64))).imm)] ≤ (137438953472 : Nat) ∧ (List.length (sitesF c m (List.take i st)) + List.length [St.mk (List.getD st (Int.toNat (↑i : Int)) (RT.dflt RT.i64)) (isaClass (insI c m (List.getD st (Int.toNat (↑i : Int)) (RT.dflt RT.i64))).op) (In5.mk (insI c m (List.getD st (Int.toNat (↑i : Int)) (RT.dflt RT.i64))).op (insI c m (List.getD st (Int.toNat (↑i : Int)) (RT.dflt RT.i64))).a (insI c m (List.getD st (Int.toNat (↑i : Int)) (RT.dflt RT.i64))).b (insI c m (List.getD st (Int.toNat (↑i : Int)) (RT.dflt RT.i64))).c (insI c m (List.getD st (Int.toNat (↑i : Int)) (RT.dflt RT.i64))).imm)] ≤ (137438953472 : Nat) → i < List.length st ∧ True ∧ (↑(List.length st) : Int) = (↑(List.length st) : Int) ∧ (↑i : Int) + (1 : Int) = (↑(i + (1 : Nat)) : Int) ∧ ((0 : Int) ≤ (↑(i + (1 : Nat)) : Int) ∧ (↑(i + (1 : Nat)) : Int) ≤ (1000000 : Int)) ∧ d = d ∧ c = c ∧ m = m ∧ dr = dr ∧ cr = cr ∧ sy = sy ∧ sitesF c m (List.take i st) ++ [St.mk (List.getD st (Int.toNat (↑i : Int)) (RT.dflt RT.i64)) (isaClass (insI c m (List.getD st (Int.toNat (↑i : Int)) (RT.dflt RT.i64))).op) (In5.mk (insI c m (List.getD st (Int.toNat (↑i : Int)) (RT.dflt RT.i64))).op (insI c m (List.getD st (Int.toNat (↑i : Int)) (RT.dflt RT.i64))).a (insI c m (List.getD st (Int.toNat (↑i : Int)) (RT.dflt RT.i64))).b (insI c m (List.getD st (Int.toNat (↑i : Int)) (RT.dflt RT.i64))).c (insI c m (List.getD st (Int.toNat (↑i : Int)) (RT.dflt RT.i64))).imm)] = sitesF c m (List.take (i + (1 : Nat)) st) ∧ st = st)) ∧ ((decide (isaClass (insI c m (List.getD st (Int.toNat (↑i : Int)) (RT.dflt RT.i64))).op = (2 : Int)) || decide (isaClass (insI c m (List.getD st (Int.toNat (↑i : Int)) (RT.dflt RT.i64))).op = (3 : Int))) = false → i < List.length st ∧ True ∧ (↑(List.length st) : Int) = (↑(List.length st) : Int) ∧ (↑i : Int) + (1 : Int) = (↑(i + (1 : Nat)) : Int) ∧ ((0 : Int) ≤ (↑(i + (1 : Nat)) : Int) ∧ (↑(i + (1 : Nat)) : Int) ≤ (1000000 : Int)) ∧ d = d ∧ c = c ∧ m = m ∧ dr = dr ∧ cr = cr ∧ sy = sy ∧ sitesF c m (List.take i st) = sitesF c m (List.take (i + (1 : Nat)) st) ∧ st = st))) ∧ (decide ((↑i : Int) < (↑(List.length st) : Int)) = false → Nat.beq (0 : Nat) (0 : Nat) = true ∧ sitesF c m (List.take i st) = sitesF c m st)) := by kernel_rfl
set_option maxHeartbeats 4000000 in
theorem lSites (d c m : List Int) (dr cr : List Rel) (sy : List Sm) (st : List Int) {W : World} {R own0 : Nat → Prop} {ρ0 : Nat → Option Value} (hown : HownOk (env (G7 ++ rest) [(28, kValid), (54, kStarts), (58, kInstr), (59, kTables), (60, kClass)]) own0 ρ0) : LOk Tryd.prog (env (G7 ++ rest) [(28, kValid), (54, kStarts), (58, kInstr), (59, kTables), (60, kClass)]) (ctx ea has) (G7 ++ rest) W R own0 ρ0 (loopN (bodyOf Tryd.f18) 0) (LSites d c m dr cr sy st) := by
  refine loop1_ok (env_ok (con := [(28, kValid), (54, kStarts), (58, kInstr), (59, kTables), (60, kClass)]) ⟨cValid, cStarts, cInstr, cTables, cClass, trivial⟩) hown (ls := fun i => []) (fun i => noLoops (by kernel_rfl)) (fun hm i hi hj => (bSites rest d c m dr cr sy st i).mpr ?_) 0 (fun hm => by first | exact Nat.zero_le _ | omega) (fun hm => trivial)
  have d0 : RT.i64.dflt = (0 : Int) := rfl
  have hl := sitesF_len c m (st.take i)
  have hl2 : (st.take i).length ≤ i := by simp; omega
  simp only [d0, Int.toNat_natCast, List.length_singleton]
  refine ⟨fun h => ?_, fun h => ?_⟩
  · have h := of_decide_eq_true h
    have hlt : i < st.length := by omega
    have e : sitesF c m (st.take (i + 1)) = sitesF c m (st.take i) ++ siteOf c m (st.getD i 0) := by
      rw [List.take_add_one, List.getElem?_eq_getElem hlt]
      simp only [sitesF, List.flatMap_append, Option.toList_some, List.flatMap_cons, List.flatMap_nil, List.append_nil, List.getD_eq_getElem?_getD, List.getElem?_eq_getElem hlt, Option.getD_some]
    refine ⟨by omega, fun _ => ⟨fun h2 => ⟨by omega, fun _ => ?_⟩, fun h2 => ?_⟩⟩
    · have e2 : siteOf c m (st.getD i 0) = [⟨st.getD i 0, isaClass (insI c m (st.getD i 0)).op, insI c m (st.getD i 0)⟩] := by rw [siteOf]; simp only [h2, if_true]
      rw [e, e2]
      refine ⟨hlt, trivial, ?_⟩
      simp; omega
    · have e2 : siteOf c m (st.getD i 0) = [] := by rw [siteOf]; simp only [h2, Bool.false_eq_true, if_false]
      rw [e, e2]
      refine ⟨hlt, trivial, ?_⟩
      simp; omega
  · have h := of_decide_eq_false h
    exact ⟨rfl, by rw [List.take_of_length_le (by omega)]⟩
def kSites : List SVal → Nat → Acc ORes := fun a n => match a with | [.agg [.ro .u32 d, .ro .u32 c, .ro .u8 m, .ro .rel dr, .ro .rel cr, .ro .sym sy]] => .ret ({ v := .tuple [.ro .site (sitesM d c m dr cr sy), .err (validE d c m dr cr sy)] }) | _ => .fail "Sites"
theorem argSites (d c m : List Int) (dr cr : List Rel) (sy : List Sm) : (all (subL 134 none' [] deep [.agg [.ro .u32 d, .ro .u32 c, .ro .u8 m, .ro .rel dr, .ro .rel cr, .ro .sym sy]] [.agg [.ro .u32 d, .ro .u32 c, .ro .u8 m, .ro .rel dr, .ro .rel cr, .ro .sym sy]])) = (
  d = d ∧ c = c ∧ m = m ∧ dr = dr ∧ cr = cr ∧ sy = sy) := by kernel_rfl
theorem runSites (rest : List (Nat × SVal)) (d c m : List Int) (dr cr : List Rel) (sy : List Sm) : (Tr.sat (plainQ (.tuple [.ro .site (sitesM d c m dr cr sy), .err (validE d c m dr cr sy)])) (run (env (G7 ++ rest) [(28, kValid), (54, kStarts), (58, kInstr), (59, kTables), (60, kClass)]) [(6, LSites d c m dr cr sy (startsF c m m.length))] (bodyOf Tryd.f18) (start [.agg [.ro .u32 d, .ro .u32 c, .ro .u8 m, .ro .rel dr, .ro .rel cr, .ro .sym sy]] 48) (ends (env (G7 ++ rest) [(28, kValid), (54, kStarts), (58, kInstr), (59, kTables), (60, kClass)]) Tryd.f18.results.toList))) = (
  ((!!FErr.isErr (validE d c m dr cr sy)) = true → [] = sitesM d c m dr cr sy ∧ validE d c m dr cr sy = validE d c m dr cr sy) ∧ ((!!FErr.isErr (validE d c m dr cr sy)) = false → List.length m ≤ (1000000 : Nat) ∧ (List.length m ≤ (1000000 : Nat) → (List.length (startsF c m (List.length m)) ≤ (1000000 : Nat) ∧ (↑(List.length (startsF c m (List.length m))) : Int) = (↑(List.length (startsF c m (List.length m))) : Int) ∧ (0 : Int) = (↑(0 : Nat) : Int) ∧ d = d ∧ c = c ∧ m = m ∧ dr = dr ∧ cr = cr ∧ sy = sy ∧ [] = sitesF c m (List.take (0 : Nat) (startsF c m (List.length m))) ∧ startsF c m (List.length m) = startsF c m (List.length m)) ∧ (List.length (startsF c m (List.length m)) ≤ (1000000 : Nat) ∧ (↑(List.length (startsF c m (List.length m))) : Int) = (↑(List.length (startsF c m (List.length m))) : Int) ∧ (0 : Int) = (↑(0 : Nat) : Int) ∧ d = d ∧ c = c ∧ m = m ∧ dr = dr ∧ cr = cr ∧ sy = sy ∧ [] = sitesF c m (List.take (0 : Nat) (startsF c m (List.length m))) ∧ startsF c m (List.length m) = startsF c m (List.length m) → sitesF c m (startsF c m (List.length m)) = sitesM d c m dr cr sy ∧ FErr.fine = validE d c m dr cr sy)))) := by kernel_rfl
set_option maxHeartbeats 4000000 in
theorem cSites : Con ea has (G7 ++ rest) 18 kSites := by
  refine plain_mk Tryd.func18 48 (con := [(28, kValid), (54, kStarts), (58, kInstr), (59, kTables), (60, kClass)]) ⟨cValid, cStarts, cInstr, cTables, cClass, trivial⟩ (fun hA hr hv => ?_) (by kernel_rfl) (by kernel_rfl) Tryd.ntmps18
  unfold kSites at hr; split at hr
  · rename_i d c m dr cr sy
    have := ret_ok hr; subst this
    refine ⟨_, [(6, LSites d c m dr cr sy (startsF c m m.length))], rfl, rfl, (argSites d c m dr cr sy).mpr (by simp), rfl, (fun W R ρ0 own0 hown => hl1 (by kernel_rfl) (by kernel_rfl) (lSites d c m dr cr sy (startsF c m m.length) hown)), (runSites rest d c m dr cr sy).mpr ?_⟩
    clear hr
    refine ⟨fun h => ?_, fun h => ?_⟩
    · have h : (validE d c m dr cr sy).isErr = true := by simpa using h
      rw [sitesM, if_pos h]; exact ⟨rfl, rfl⟩
    · have h : (validE d c m dr cr sy).isErr = false := by simpa using h
      obtain ⟨v1, v2, _⟩ := valid_size h
      have hs := startsF_len c m m.length
      rw [sitesM, if_neg (by rw [h]; simp)]
      refine ⟨by omega, fun _ => ⟨?_, fun _ => ⟨rfl, (fine_of h).symm⟩⟩⟩
      simp [sitesF]; omega
  · cases hr
def lightB (d c m : List Int) (dr cr : List Rel) (sy : List Sm) (w : Int) : Bool :=
  decide (w < d.length) || decide (w < c.length) || decide (w + 20 < m.length) || decide ((40 : Int) < dr.length) || decide ((80 : Int) < cr.length) || decide ((40 : Int) < sy.length)
def longP (sy : List Sm) (i : Nat) : Bool := decide ((60 : Int) < (sy.getD i RT.sym.dflt).name.size)
def noneP (p : Nat → Bool) : Nat → Bool
  | 0 => true
  | n + 1 => noneP p n && !p n
theorem noneP_at {p : Nat → Bool} {i n : Nat} (hp : p i = true) (hn : i < n) : noneP p n = false := by
  induction n with
  | zero => omega
  | succ n ih =>
    rw [noneP]
    by_cases e : i = n
    · subst e; rw [hp]; simp
    · rw [ih (by omega)]; rfl
def HLight (d c m : List Int) (dr cr : List Rel) (sy : List Sm) (i : Nat) : SState := { fr := [(2, .ptr 0 0), (5, .int .i64 (.sym i 0 1000000))], hp := [(0, some (.cells [.ro .u32 d, .ro .u32 c, .ro .u8 m, .ro .rel dr, .ro .rel cr, .ro .sym sy]))], next := 1, sz := 59 }
def XLight (d c m : List Int) (dr cr : List Rel) (sy : List Sm) : SState := { fr := [], hp := [], next := 0, sz := 59 }
def YLight (d c m : List Int) (dr cr : List Rel) (sy : List Sm) : SState := { fr := [(4, .bool (.lit false))], hp := [], next := 0, sz := 59 }
def LLight (d c m : List Int) (dr cr : List Rel) (sy : List Sm) : LSum := ⟨HLight d c m dr cr sy 0, fun k => .ite (noneP (longP sy) sy.length) (k (.exit 0) (XLight d c m dr cr sy)) (k .ret (YLight d c m dr cr sy)), sy.length ≤ 1000000⟩
theorem bLight (rest : List (Nat × SVal)) (d c m : List Int) (dr cr : List Rel) (sy : List Sm) (i : Nat) : (Tr.sat (rnd2 (env (G7 ++ rest) []) (fun i => noneP (longP sy) i = true) (sy.length) (HLight d c m dr cr sy) 0 (noneP (longP sy) sy.length) (XLight d c m dr cr sy) (YLight d c m dr cr sy) i) (run (env (G7 ++ rest) []) [] (loopN (bodyOf Tryd.f17) 0) (HLight d c m dr cr sy i) .leaf)) = (
  (decide ((↑i : Int) < (↑(List.length sy) : Int)) = true → ((0 : Int) ≤ (↑i : Int) ∧ (↑i : Int) < (↑(List.length sy) : Int)) ∧ ((0 : Int) ≤ (↑i : Int) ∧ (↑i : Int) < (↑(List.length sy) : Int) → (decide ((60 : Int) < (↑(ByteArray.size (List.getD sy (Int.toNat (↑i : Int)) (RT.dflt RT.sym)).name) : Int)) = true → noneP (longP sy) (List.length sy) = false ∧ false = false) ∧ (decide ((60 : Int) < (↑(ByteArray.size (List.getD sy (Int.toNat (↑i : Int)) (RT.dflt RT.sym)).name) : Int)) = false → i < List.length sy ∧ noneP (longP sy) (i + (1 : Nat)) = true ∧ (↑i : Int) + (1 : Int) = (↑(i + (1 : Nat)) : Int) ∧ ((0 : Int) ≤ (↑(i + (1 : Nat)) : Int) ∧ (↑(i + (1 : Nat)) : Int) ≤ (1000000 : Int)) ∧ d = d ∧ c = c ∧ m = m ∧ dr = dr ∧ cr = cr ∧ sy = sy))) ∧ (decide ((↑i : Int) < (↑(List.length sy) : Int)) = false → Nat.beq (0 : Nat) (0 : Nat) = true ∧ noneP (longP sy) (List.length sy) = true ∧ True)) := by kernel_rfl
set_option maxHeartbeats 4000000 in
theorem lLight (d c m : List Int) (dr cr : List Rel) (sy : List Sm) {W : World} {R own0 : Nat → Prop} {ρ0 : Nat → Option Value} (hown : HownOk (env (G7 ++ rest) []) own0 ρ0) : LOk Tryd.prog (env (G7 ++ rest) []) (ctx ea has) (G7 ++ rest) W R own0 ρ0 (loopN (bodyOf Tryd.f17) 0) (LLight d c m dr cr sy) := by
  refine loop2_ok (env_ok (con := []) trivial) hown (ls := fun i => []) (fun i => noLoops (by kernel_rfl)) (fun hm i hi hj => (bLight rest d c m dr cr sy i).mpr ?_) 0 (fun hm => by first | exact Nat.zero_le _ | omega) (fun hm => rfl)
  have hp : longP sy i = decide ((60 : Int) < (sy.getD i RT.sym.dflt).name.size) := rfl
  simp only [Int.toNat_natCast]
  refine ⟨fun h => ?_, fun h => ?_⟩
  · have h := of_decide_eq_true h
    have hlt : i < sy.length := by omega
    refine ⟨by omega, fun _ => ⟨fun h2 => ⟨noneP_at (hp.trans h2) hlt, trivial⟩, fun h2 => ?_⟩⟩
    refine ⟨hlt, by rw [noneP, hj, hp.trans h2]; rfl, ?_⟩
    simp; omega
  · have h := of_decide_eq_false h
    have e : i = sy.length := by omega
    subst e
    exact ⟨rfl, hj, trivial⟩
def kLight : List SVal → Nat → Acc ORes := fun a n => match a with | [.agg [.ro .u32 d, .ro .u32 c, .ro .u8 m, .ro .rel dr, .ro .rel cr, .ro .sym sy], .int .i64 w] => .ret ({ v := .bool (.sym (!lightB d c m dr cr sy w.val && noneP (longP sy) sy.length)), vc := some (0 ≤ w.val ∧ w.val ≤ 1000000) }) | _ => .fail "Light"
theorem argLight (d c m : List Int) (dr cr : List Rel) (sy : List Sm) (w : SI) : (all (subL 134 none' [] deep [.agg [.ro .u32 d, .ro .u32 c, .ro .u8 m, .ro .rel dr, .ro .rel cr, .ro .sym sy], .int .i64 w] [.agg [.ro .u32 d, .ro .u32 c, .ro .u8 m, .ro .rel dr, .ro .rel cr, .ro .sym sy], .int .i64 (.full w.val)])) = (
  d = d ∧ c = c ∧ m = m ∧ dr = dr ∧ cr = cr ∧ sy = sy ∧ SI.val w = SI.val w) := by kernel_rfl
theorem runLight (rest : List (Nat × SVal)) (d c m : List Int) (dr cr : List Rel) (sy : List Sm) (w : SI) : (Tr.sat (plainQ (.bool (.sym (!lightB d c m dr cr sy w.val && noneP (longP sy) sy.length)))) (run (env (G7 ++ rest) []) [(4, LLight d c m dr cr sy)] (bodyOf Tryd.f17) (start [.agg [.ro .u32 d, .ro .u32 c, .ro .u8 m, .ro .rel dr, .ro .rel cr, .ro .sym sy], .int .i64 (.full w.val)] 59) (ends (env (G7 ++ rest) []) Tryd.f17.results.toList))) = (
  ((decide (SI.val w < (↑(List.length d) : Int)) || decide (SI.val w < (↑(List.length c) : Int)) || decide (IntKind.wrap IntKind.i64 (SI.val w + (20 : Int)) < (↑(List.length m) : Int)) || decide ((40 : Int) < (↑(List.length dr) : Int)) || decide ((80 : Int) < (↑(List.length cr) : Int)) || decide ((40 : Int) < (↑(List.length sy) : Int))) = true → false = (!lightB d c m dr cr sy (SI.val w) && noneP (longP sy) (List.length sy))) ∧ ((decide (SI.val w < (↑(List.length d) : Int)) || decide (SI.val w < (↑(List.length c) : Int)) || decide (IntKind.wrap IntKind.i64 (SI.val w + (20 : Int)) < (↑(List.length m) : Int)) || decide ((40 : Int) < (↑(List.length dr) : Int)) || decide ((80 : Int) < (↑(List.length cr) : Int)) || decide ((40 : Int) < (↑(List.length sy) : Int))) = false → (List.length sy ≤ (1000000 : Nat) ∧ (0 : Int) = (↑(0 : Nat) : Int) ∧ d = d ∧ c = c ∧ m = m ∧ dr = dr ∧ cr = cr ∧ sy = sy) ∧ (List.length sy ≤ (1000000 : Nat) ∧ (0 : Int) = (↑(0 : Nat) : Int) ∧ d = d ∧ c = c ∧ m = m ∧ dr = dr ∧ cr = cr ∧ sy = sy → (noneP (longP sy) (List.length sy) = true → true = (!lightB d c m dr cr sy (SI.val w) && noneP (longP sy) (List.length sy))) ∧ (noneP (longP sy) (List.length sy) = false → false = (!lightB d c m dr cr sy (SI.val w) && noneP (longP sy) (List.length sy)))))) := by kernel_rfl
set_option maxHeartbeats 4000000 in
theorem cLight : Con ea has (G7 ++ rest) 17 kLight := by
  refine plain_mk Tryd.func17 59 (con := []) trivial (fun hA hr hv => ?_) (by kernel_rfl) (by kernel_rfl) Tryd.ntmps17
  unfold kLight at hr; split at hr
  · rename_i d c m dr cr sy w
    have := ret_ok hr; subst this
    replace hv := hv _ rfl
    refine ⟨_, [(4, LLight d c m dr cr sy)], rfl, rfl, (argLight d c m dr cr sy w).mpr (by simp), rfl, (fun W R ρ0 own0 hown => hl1 (by kernel_rfl) (by kernel_rfl) (lLight d c m dr cr sy hown)), (runLight rest d c m dr cr sy w).mpr ?_⟩
    clear hr
    have w1 : IntKind.i64.wrap (w.val + 20) = w.val + 20 := by rw [IntKind.wrap_i64]; omega
    rw [w1]
    clear hA
    generalize w.val = w at *
    refine ⟨fun h => ?_, fun h => ?_⟩
    · rw [show lightB d c m dr cr sy w = true from h]; rfl
    · rw [show lightB d c m dr cr sy w = false from h]
      simp only [Bool.or_eq_false_iff, decide_eq_false_iff_not] at h
      refine ⟨⟨by omega, rfl, rfl, rfl, rfl, rfl, rfl, rfl⟩, fun _ => ⟨fun h => by rw [h]; rfl, fun h => by rw [h]; rfl⟩⟩
  · cases hr
end
end Go.Proofs.YtbdfibaljoedpaaDoor

set_option linter.unusedVariables false
set_option linter.unusedSimpArgs false
namespace Go.Proofs.YtbdfibaljoedpaaDoor
open Go.RowKit Go.Sy Go.Fac
section
variable {ea : Int → Addr} {has : Int → Prop} {rest : List (Nat × SVal)}
def wordB (w : Int) : List Int := [IntKind.u8.wrap w, IntKind.u8.wrap (w / 256), IntKind.u8.wrap (w / 65536), w / 16777216]
def wordsB (l : List Int) : List Int := l.flatMap wordB
theorem wordsB_len (l : List Int) : (wordsB l).length = 4 * l.length := by
  unfold wordsB
  induction l with
  | nil => rfl
  | cons a l ih => rw [List.flatMap_cons, List.length_append, ih]; simp [wordB]; omega
def Hputs (b l : List Int) (i : Nat) : SState := { fr := [(0, .own 0), (1, .ro .u32 l), (7, .ro .u32 l), (8, .int .i64 (.full l.length)), (9, .int .i64 (.sym i 0 1000000))], hp := [(0, some (.recs .u8 (b ++ wordsB (l.take i))))], next := 1, sz := 29 }
def Xputs (b l : List Int) : SState := { fr := [(0, .own 0)], hp := [(0, some (.recs .u8 (b ++ wordsB l)))], next := 1, sz := 29 }
def Lputs (b l : List Int) : LSum := ⟨Hputs b l 0, fun k => k (.exit 0) (Xputs b l), b.length ≤ 1000000 ∧ l.length ≤ 1000000⟩
theorem bputs (rest : List (Nat × SVal)) (b l : List Int) (i : Nat) : (Tr.sat (rnd1 (env (G7 ++ rest) []) (fun _ => True) (l.length) (Hputs b l) 0 (Xputs b l) i) (run (env (G7 ++ rest) []) [] (loopN (bodyOf Tryd.f90) 0) (Hputs b l i) .leaf)) = (
  (decide ((↑i : Int) < (↑(List.length l) : Int)) = true → ((0 : Int) ≤ (↑i : Int) ∧ (↑i : Int) < (↑(List.length l) : Int)) ∧ ((0 : Int) ≤ (↑i : Int) ∧ (↑i : Int) < (↑(List.length l) : Int) → List.length (b ++ wordsB (List.take i l)) + List.length [IntKind.wrap IntKind.u8 (List.getD l (Int.toNat (↑i : Int)) (RT.dflt RT.u32)), IntKind.wrap IntKind.u8 (List.getD l (Int.toNat (↑i : Int)) (RT.dflt RT.u32) / (256 : Int)), IntKind.wrap IntKind.u8 (List.getD l (Int.toNat (↑i : Int)) (RT.dflt RT.u32) / (65536 : Int)), List.getD l (Int.toNat (↑i : Int)) (RT.dflt RT.u32) / (16777216 : Int)] ≤ (137438953472 : Nat) ∧ (List.length (b ++ wordsB (List.take i l)) + List.length [IntKind.wrap IntKind.u8 (List.getD l (Int.toNat (↑i : Int)) (RT.dflt RT.u32)), IntKind.wrap IntKind.u8 (List.getD l (Int.toNat (↑i : Int)) (RT.dflt RT.u32) / (256 : Int)), IntKind.wrap IntKind.u8 (List.getD l (Int.toNat (↑i : Int)) (RT.dflt RT.u32) / (65536 : Int)), List.getD l (Int.toNat (↑i : Int)) (RT.dflt RT.u32) / (16777216 : Int)] ≤ (137438953472 : Nat) → i < List.length l ∧ True ∧ l = l ∧ l = l ∧ (↑(List.length l) : Int) = (↑(List.length l) : Int) ∧ (↑i : Int) + (1 : Int) = (↑(i + (1 : Nat)) : Int) ∧ ((0 : Int) ≤ (↑(i + (1 : Nat)) : Int) ∧ (↑(i + (1 : Nat)) : Int) ≤ (1000000 : Int)) ∧ b ++ wordsB (List.take i l) ++ [IntKind.wrap IntKind.u8 (List.getD l (Int.toNat (↑i : Int)) (RT.dflt RT.u32)), IntKind.wrap IntKind.u8 (List.getD l (Int.toNat (↑i : Int)) (RT.dflt RT.u32) / (256 : Int)), IntKind.wrap IntKind.u8 (List.getD l (Int.toNat (↑i : Int)) (RT.dflt RT.u32) / (65536 : Int)), List.getD l (Int.toNat (↑i : Int)) (RT.dflt RT.u32) / (16777216 : Int)] = b ++ wordsB (List.take (i + (1 : Nat)) l)))) ∧ (decide ((↑i : Int) < (↑(List.length l) : Int)) = false → Nat.beq (0 : Nat) (0 : Nat) = true ∧ b ++ wordsB (List.take i l) = b ++ wordsB l)) := by kernel_rfl
set_option maxHeartbeats 4000000 in
theorem lputs (b l : List Int) {W : World} {R own0 : Nat → Prop} {ρ0 : Nat → Option Value} (hown : HownOk (env (G7 ++ rest) []) own0 ρ0) : LOk Tryd.prog (env (G7 ++ rest) []) (ctx ea has) (G7 ++ rest) W R own0 ρ0 (loopN (bodyOf Tryd.f90) 0) (Lputs b l) := by
  refine loop1_ok (env_ok (con := []) trivial) hown (ls := fun i => []) (fun i => noLoops (by kernel_rfl)) (fun hm i hi hj => (bputs rest b l i).mpr ?_) 0 (fun hm => by first | exact Nat.zero_le _ | omega) (fun hm => trivial)
  have d0 : RT.u32.dflt = (0 : Int) := rfl
  have hl := wordsB_len (l.take i)
  have hl2 : (l.take i).length ≤ i := by simp; omega
  simp only [d0, Int.toNat_natCast]
  refine ⟨fun h => ?_, fun h => ?_⟩
  · have h := of_decide_eq_true h
    have hlt : i < l.length := by omega
    have e : wordsB (l.take (i + 1)) = wordsB (l.take i) ++ wordB (l.getD i 0) := by
      have e1 : l.take (i + 1) = l.take i ++ [l.getD i 0] := by rw [List.take_add_one, List.getElem?_eq_getElem hlt]; simp [hlt]
      unfold wordsB
      rw [e1, List.flatMap_append]; simp
    refine ⟨by omega, fun _ => ⟨?_, fun _ => ⟨hlt, trivial, trivial, trivial, trivial, by omega, by omega, ?_⟩⟩⟩
    · rw [List.length_append, hl]; simp only [List.length_cons, List.length_nil]; omega
    · rw [e, ← List.append_assoc]; rfl
  · have h := of_decide_eq_false h
    exact ⟨rfl, by rw [List.take_of_length_le (by omega)]⟩
def kputs : List SVal → Nat → Acc ORes := fun a n => match a with
  | [.own q0, .ro .u32 l] => .look q0 fun cc => match cc with | some (.recs .u8 b) => .ret (genR [] (gone [q0]) n (.own 0) ([(0, .recs .u8 (b ++ wordsB l))]) 1 (some (b.length ≤ 1000000 ∧ l.length ≤ 1000000))) | _ => .fail "puts"
  | [.nilslice, .ro .u32 l] => .ret (genR [] (gone []) n (.own 0) ([(0, .recs .u8 ((nilR .u8) ++ wordsB l))]) 1 (some ((nilR .u8).length ≤ 1000000 ∧ l.length ≤ 1000000)))
  | _ => .fail "puts"
theorem fitputs (rest : List (Nat × SVal)) (b l : List Int) : (fits (envK (G7 ++ rest) [] 0) (S1 [.own 0, .ro .u32 l] (numC 0 [.recs .u8 b]) 1 29) (S1 [.own 0, .ro .u32 l] [(0, some (.recs .u8 b))] 1 29)) = (
  l = l ∧ b = b) := by kernel_rfl
theorem fitputs0 (rest : List (Nat × SVal)) (b l : List Int) : (fits (envK (G7 ++ rest) [] 0) (S1 [.nilslice, .ro .u32 l] [] 0 29) (S1 [.own 0, .ro .u32 l] [(0, some (.recs .u8 (nilR .u8)))] 1 29)) = (
  l = l ∧ nilR RT.u8 = @List.nil (RT.ty RT.u8)) := by kernel_rfl
theorem runputs (rest : List (Nat × SVal)) (b l : List Int) : (Tr.sat (newQ (envK (G7 ++ rest) [] 0) (.own 0) ([(0, .recs .u8 (b ++ wordsB l))]) (0 + 1)) (run (envK (G7 ++ rest) [] 0) [(2, Lputs b l)] (bodyOf Tryd.f90) (S1 [.own 0, .ro .u32 l] [(0, some (.recs .u8 b))] 1 29) (ends (envK (G7 ++ rest) [] 0) Tryd.f90.results.toList))) = (
  ((List.length b ≤ (1000000 : Nat) ∧ List.length l ≤ (1000000 : Nat)) ∧ l = l ∧ l = l ∧ (↑(List.length l) : Int) = (↑(List.length l) : Int) ∧ (0 : Int) = (↑(0 : Nat) : Int) ∧ b = b ++ wordsB (List.take (0 : Nat) l)) ∧ ((List.length b ≤ (1000000 : Nat) ∧ List.length l ≤ (1000000 : Nat)) ∧ l = l ∧ l = l ∧ (↑(List.length l) : Int) = (↑(List.length l) : Int) ∧ (0 : Int) = (↑(0 : Nat) : Int) ∧ b = b ++ wordsB (List.take (0 : Nat) l) → b ++ wordsB l = b ++ wordsB l)) := by kernel_rfl
set_option maxHeartbeats 4000000 in
theorem gputs (b l : List Int) (hv : b.length ≤ 1000000 ∧ l.length ≤ 1000000) : Tr.sat (newQ (envK (G7 ++ rest) [] 0) (.own 0) ([(0, .recs .u8 (b ++ wordsB l))]) (0 + 1)) (run (envK (G7 ++ rest) [] 0) [(2, Lputs b l)] (bodyOf Tryd.f90) (S1 [.own 0, .ro .u32 l] [(0, some (.recs .u8 b))] 1 29) (ends (envK (G7 ++ rest) [] 0) Tryd.f90.results.toList)) := by
  refine (runputs rest b l).mpr ?_
  exact ⟨⟨hv, rfl, rfl, rfl, rfl, by simp [wordsB]⟩, fun _ => rfl⟩
set_option maxHeartbeats 4000000 in
theorem cputs : Con ea has (G7 ++ rest) 90 kputs := by
  refine gen_mk Tryd.func90 29 0 (con := []) trivial (fun hA hr hv => ?_) (by kernel_rfl) (by kernel_rfl) Tryd.ntmps90
  unfold kputs at hr; split at hr
  · rename_i q0 l
    simp only [Acc.run] at hr
    split at hr
    · rename_i b hq0
      have := ret_ok hr; subst this
      refine ⟨[], [q0], [.recs .u8 b], [.own 0, .ro .u32 l], _, [(2, Lputs b l)], _, _, _, rfl, rfl, ⟨rfl, rfl, rfl⟩, rfl, ⟨hq0, trivial⟩, rfl, rfl, (fitputs rest b l).mpr (by simp [nilR]), rfl, (fun W R ρ0 own0 hown => hl1 (by kernel_rfl) (by kernel_rfl) (lputs b l hown)), gputs b l (hv _ rfl)⟩
    · cases hr
  · rename_i l
    have := ret_ok hr; subst this
    refine ⟨[], [], [], [.nilslice, .ro .u32 l], _, [(2, Lputs (nilR .u8) l)], _, _, _, rfl, rfl, ⟨rfl, rfl, rfl⟩, rfl, trivial, rfl, rfl, (fitputs0 rest (nilR .u8) l).mpr (by simp [nilR]), rfl, (fun W R ρ0 own0 hown => hl1 (by kernel_rfl) (by kernel_rfl) (lputs (nilR .u8) l hown)), gputs (nilR .u8) l (hv _ rfl)⟩
  · cases hr
abbrev kputsF := frz [.any, .ro .u32] kputs
theorem cputsF : Con ea has (G7 ++ rest) 90 kputsF := frz_ok cputs _
def relB (r : Rel) : List Int := wordsB [IntKind.u32.wrap r.at_, IntKind.u32.wrap r.kind, IntKind.u32.wrap r.sym, IntKind.u32.wrap r.add]
def symB (s : Sm) : List Int := wordsB [IntKind.u32.wrap s.in_, IntKind.u32.wrap s.value, if s.global = true then 1 else 0, IntKind.u32.wrap (s.name.size : Nat)] ++ bytesL s.name
def lensL (d c : List Int) (dr cr : List Rel) (sy : List Sm) : List Int := [(d.length : Nat), (c.length : Nat), (dr.length : Nat), (cr.length : Nat), (sy.length : Nat)]
def headB (L : List Int) : List Int := wordsB [842225232] ++ wordsB (L.map IntKind.u32.wrap)
def bodyB (d c m : List Int) (dr cr : List Rel) (sy : List Sm) : List Int := headB (lensL d c dr cr sy) ++ wordsB d ++ wordsB c ++ m
def relsB (l : List Rel) : List Int := l.flatMap relB
def symsB (l : List Sm) : List Int := l.flatMap symB
def bytesO (d c m : List Int) (dr cr : List Rel) (sy : List Sm) : List Int := bodyB d c m dr cr sy ++ relsB dr ++ relsB cr ++ symsB sy
theorem relB_len (r : Rel) : (relB r).length = 16 := by unfold relB; rw [wordsB_len]; rfl
theorem relsB_len (l : List Rel) : (relsB l).length = 16 * l.length := by
  unfold relsB
  induction l with
  | nil => rfl
  | cons a l ih => rw [List.flatMap_cons, List.length_append, ih, relB_len]; simp; omega
theorem symB_len (s : Sm) : (symB s).length = 16 + s.name.size := by
  unfold symB; rw [List.length_append, wordsB_len]; simp [bytesL]
theorem symsB_len (l : List Sm) (h : ∀ s ∈ l, s.name.size ≤ 32) : (symsB l).length ≤ 48 * l.length := by
  unfold symsB
  induction l with
  | nil => simp
  | cons a l ih =>
    have := ih fun s hs => h s (List.mem_cons_of_mem _ hs)
    have := h a (List.mem_cons_self ..)
    rw [List.flatMap_cons, List.length_append, symB_len, List.length_cons]; omega
def okSer (d c m : List Int) (dr cr : List Rel) (sy : List Sm) : Prop := d.length ≤ 2048 ∧ c.length ≤ 2048 ∧ m.length ≤ 2048 ∧ dr.length ≤ 1024 ∧ cr.length ≤ 1024 ∧ sy.length ≤ 256 ∧ ∀ s ∈ sy, s.name.size ≤ 32
theorem headB_len (L : List Int) : (headB L).length = 4 + 4 * L.length := by unfold headB; rw [List.length_append, wordsB_len, wordsB_len]; simp
theorem bodyB_len (d c m : List Int) (dr cr : List Rel) (sy : List Sm) : (bodyB d c m dr cr sy).length = 24 + 4 * d.length + 4 * c.length + m.length := by
  unfold bodyB; simp only [List.length_append, headB_len, wordsB_len]; simp [lensL]
abbrev obBox (d c m : List Int) (dr cr : List Rel) (sy : List Sm) : Option Cont := some (.cells [.ro .u32 d, .ro .u32 c, .ro .u8 m, .ro .rel dr, .ro .rel cr, .ro .sym sy])
theorem take_getD {α : Type} (l : List α) (d : α) {i : Nat} (h : i < l.length) : l.take (i + 1) = l.take i ++ [l.getD i d] := by rw [List.take_add_one, List.getElem?_eq_getElem h]; simp [h]
def HbytA (d c m : List Int) (dr cr : List Rel) (sy : List Sm) (i : Nat) : SState := { fr := [(1, .ptr 0 0), (5, .own 1), (37, .ro .i64 (lensL d c dr cr sy)), (38, .int .i64 (.lit 5)), (39, .int .i64 (.sym i 0 5))], hp := [(0, obBox d c m dr cr sy), (1, some (.recs .u8 (headB ((lensL d c dr cr sy).take i))))], next := 2, sz := 122 }
def XbytA (d c m : List Int) (dr cr : List Rel) (sy : List Sm) : SState := { fr := [(1, .ptr 0 0), (5, .own 1)], hp := [(0, obBox d c m dr cr sy), (1, some (.recs .u8 (headB (lensL d c dr cr sy))))], next := 2, sz := 122 }
def LbytA (d c m : List Int) (dr cr : List Rel) (sy : List Sm) : LSum := ⟨HbytA d c m dr cr sy 0, fun k => k (.exit 0) (XbytA d c m dr cr sy), okSer d c m dr cr sy⟩
theorem bbytA (rest : List (Nat × SVal)) (d c m : List Int) (dr cr : List Rel) (sy : List Sm) (i : Nat) : (Tr.sat (rnd1 (env (G7 ++ rest) [(28, kValid), (90, kputsF)]) (fun _ => True) (5) (HbytA d c m dr cr sy) 0 (XbytA d c m dr cr sy) i) (run (env (G7 ++ rest) [(28, kValid), (90, kputsF)]) [] (loopN (bodyOf Tryd.f45) 0) (HbytA d c m dr cr sy i) .leaf)) = (
  (decide ((↑i : Int) < (5 : Int)) = true → ((0 : Int) ≤ (↑i : Int) ∧ (↑i : Int) < (↑(List.length (lensL d c dr cr sy)) : Int)) ∧ ((0 : Int) ≤ (↑i : Int) ∧ (↑i : Int) < (↑(List.length (lensL d c dr cr sy)) : Int) → (List.length (headB (List.take i (lensL d c dr cr sy))) ≤ (1000000 : Nat) ∧ List.length [IntKind.wrap IntKind.u32 (List.getD (lensL d c dr cr sy) (Int.toNat (↑i : Int)) (RT.dflt RT.i64))] ≤ (1000000 : Nat)) ∧ (List.length (headB (List.take i (lensL d c dr cr sy))) ≤ (1000000 : Nat) ∧ List.length [IntKind.wrap IntKind.u32 (List.getD (lensL d c dr cr sy) (Int.toNat (↑i : Int)) (RT.dflt RT.i64))] ≤ (1000000 : Nat) → i < (5 : Nat) ∧ True ∧ lensL d c dr cr sy = lensL d c dr cr sy ∧ (5 : Int) = (5 : Int) ∧ (↑i : Int) + (1 : Int) = (↑(i + (1 : Nat)) : Int) ∧ ((0 : Int) ≤ (↑(i + (1 : Nat)) : Int) ∧ (↑(i + (1 : Nat)) : Int) ≤ (5 : Int)) ∧ d = d ∧ c = c ∧ m = m ∧ dr = dr ∧ cr = cr ∧ sy = sy ∧ headB (List.take i (lensL d c dr cr sy)) ++ wordsB [IntKind.wrap IntKind.u32 (List.getD (lensL d c dr cr sy) (Int.toNat (↑i : Int)) (RT.dflt RT.i64))] = headB (List.take (i + (1 : Nat)) (lensL d c dr cr sy))))) ∧ (decide ((↑i : Int) < (5 : Int)) = false → Nat.beq (0 : Nat) (0 : Nat) = true ∧ d = d ∧ c = c ∧ m = m ∧ dr = dr ∧ cr = cr ∧ sy = sy ∧ headB (List.take i (lensL d c dr cr sy)) = headB (lensL d c dr cr sy))) := by kernel_rfl
set_option maxHeartbeats 4000000 in
theorem lbytA (d c m : List Int) (dr cr : List Rel) (sy : List Sm) {W : World} {R own0 : Nat → Prop} {ρ0 : Nat → Option Value} (hown : HownOk (env (G7 ++ rest) [(28, kValid), (90, kputsF)]) own0 ρ0) : LOk Tryd.prog (env (G7 ++ rest) [(28, kValid), (90, kputsF)]) (ctx ea has) (G7 ++ rest) W R own0 ρ0 (loopN (bodyOf Tryd.f45) 0) (LbytA d c m dr cr sy) := by
  refine loop1_ok (env_ok (con := [(28, kValid), (90, kputsF)]) ⟨cValid, cputsF, trivial⟩) hown (ls := fun i => []) (fun i => noLoops (by kernel_rfl)) (fun hm i hi hj => (bbytA rest d c m dr cr sy i).mpr ?_) 0 (fun hm => by first | exact Nat.zero_le _ | omega) (fun hm => trivial)
  have d0 : RT.i64.dflt = (0 : Int) := rfl
  have hL : (lensL d c dr cr sy).length = 5 := rfl
  have h1 := headB_len ((lensL d c dr cr sy).take i)
  have h2 : ((lensL d c dr cr sy).take i).length ≤ i := by simp; omega
  simp only [d0, Int.toNat_natCast, hL, eq_self, true_and, and_true]
  refine ⟨fun h => ?_, fun h => ?_⟩
  · have h := of_decide_eq_true h
    have hlt : i < 5 := by omega
    have e := take_getD (lensL d c dr cr sy) 0 (i := i) (by omega)
    refine ⟨by omega, fun _ => ⟨⟨by omega, by simp⟩, fun _ => ⟨hlt, by omega, by omega, ?_⟩⟩⟩
    rw [e]
    unfold headB
    rw [List.map_append, List.append_assoc]
    unfold wordsB
    simp
  · have h := of_decide_eq_false h
    exact ⟨rfl, by rw [List.take_of_length_le (by omega)]⟩
def HbytC (d c m : List Int) (dr cr : List Rel) (sy : List Sm) (b : List Int) (l : List Rel) (o : Nat) (i : Nat) : SState := { fr := [(1, .ptr 0 0), (5, .own 1), (64, .own 2), (65, .int .i64 (.lit 2)), (66, .int .i64 (.lit o)), (70, .ro .rel l), (71, .int .i64 (.full l.length)), (72, .int .i64 (.sym i 0 1024))], hp := [(0, obBox d c m dr cr sy), (1, some (.recs .u8 (b ++ relsB (l.take i)))), (2, some (.row 1 [.ro .rel dr, .ro .rel cr]))], next := 3, sz := 122 }
def XbytC (d c m : List Int) (dr cr : List Rel) (sy : List Sm) (b : List Int) (l : List Rel) (o : Nat) : SState := { fr := [(1, .ptr 0 0), (5, .own 1), (64, .own 2), (65, .int .i64 (.lit 2)), (66, .int .i64 (.lit o))], hp := [(0, obBox d c m dr cr sy), (1, some (.recs .u8 (b ++ relsB l))), (2, some (.row 1 [.ro .rel dr, .ro .rel cr]))], next := 3, sz := 122 }
def LbytC (d c m : List Int) (dr cr : List Rel) (sy : List Sm) (b : List Int) (l : List Rel) (o : Nat) : LSum := ⟨HbytC d c m dr cr sy b l o 0, fun k => k (.exit 4) (XbytC d c m dr cr sy b l o), b.length ≤ 100000 ∧ l.length ≤ 1024⟩
theorem bbytC (rest : List (Nat × SVal)) (d c m : List Int) (dr cr : List Rel) (sy : List Sm) (b : List Int) (l : List Rel) (o : Nat) (i : Nat) : (Tr.sat (rnd1 (env (G7 ++ rest) [(28, kValid), (90, kputsF)]) (fun _ => True) (l.length) (HbytC d c m dr cr sy b l o) 4 (XbytC d c m dr cr sy b l o) i) (run (env (G7 ++ rest) [(28, kValid), (90, kputsF)]) [] (loopN (loopN (bodyOf Tryd.f45) 1) 0) (HbytC d c m dr cr sy b l o i) .leaf)) = (
  (decide ((↑i : Int) < (↑(List.length l) : Int)) = true → ((0 : Int) ≤ (↑i : Int) ∧ (↑i : Int) < (↑(List.length l) : Int)) ∧ ((0 : Int) ≤ (↑i : Int) ∧ (↑i : Int) < (↑(List.length l) : Int) → (List.length (b ++ relsB (List.take i l)) ≤ (1000000 : Nat) ∧ List.length [IntKind.wrap IntKind.u32 (List.getD l (Int.toNat (↑i : Int)) (RT.dflt RT.rel)).at_, IntKind.wrap IntKind.u32 (List.getD l (Int.toNat (↑i : Int)) (RT.dflt RT.rel)).kind, IntKind.wrap IntKind.u32 (List.getD l (Int.toNat (↑i : Int)) (RT.dflt RT.rel)).sym, IntKind.wrap IntKind.u32 (List.getD l (Int.toNat (↑i : Int)) (RT.dflt RT.rel)).add] ≤ (1000000 : Nat)) ∧ (List.length (b ++ relsB (List.take i l)) ≤ (1000000 : Nat) ∧ List.length [IntKind.wrap IntKind.u32 (List.getD l (Int.toNat (↑i : Int)) (RT.dflt RT.rel)).at_, IntKind.wrap IntKind.u32 (List.getD l (Int.toNat (↑i : Int)) (RT.dflt RT.rel)).kind, IntKind.wrap IntKind.u32 (List.getD l (Int.toNat (↑i : Int)) (RT.dflt RT.rel)).sym, IntKind.wrap IntKind.u32 (List.getD l (Int.toNat (↑i : Int)) (RT.dflt RT.rel)).add] ≤ (1000000 : Nat) → i < List.length l ∧ True ∧ (2 : Int) = (2 : Int) ∧ (↑o : Int) = (↑o : Int) ∧ l = l ∧ (↑(List.length l) : Int) = (↑(List.length l) : Int) ∧ (↑i : Int) + (1 : Int) = (↑(i + (1 : Nat)) : Int) ∧ ((0 : Int) ≤ (↑(i + (1 : Nat)) : Int) ∧ (↑(i + (1 : Nat)) : Int) ≤ (1024 : Int)) ∧ d = d ∧ c = c ∧ m = m ∧ dr = dr ∧ cr = cr ∧ sy = sy ∧ b ++ relsB (List.take i l) ++ wordsB [IntKind.wrap IntKind.u32 (List.getD l (Int.toNat (↑i : Int)) (RT.dflt RT.rel)).at_, IntKind.wrap IntKind.u32 (List.getD l (Int.toNat (↑i : Int)) (RT.dflt RT.rel)).kind, IntKind.wrap IntKind.u32 (List.getD l (Int.toNat (↑i : Int)) (RT.dflt RT.rel)).sym, IntKind.wrap IntKind.u32 (List.getD l (Int.toNat (↑i : Int)) (RT.dflt RT.rel)).add] = b ++ relsB (List.take (i + (1 : Nat)) l) ∧ dr = dr ∧ cr = cr))) ∧ (decide ((↑i : Int) < (↑(List.length l) : Int)) = false → Nat.beq (4 : Nat) (4 : Nat) = true ∧ (2 : Int) = (2 : Int) ∧ (↑o : Int) = (↑o : Int) ∧ d = d ∧ c = c ∧ m = m ∧ dr = dr ∧ cr = cr ∧ sy = sy ∧ b ++ relsB (List.take i l) = b ++ relsB l ∧ dr = dr ∧ cr = cr)) := by kernel_rfl
set_option maxHeartbeats 4000000 in
theorem lbytC (d c m : List Int) (dr cr : List Rel) (sy : List Sm) (b : List Int) (l : List Rel) (o : Nat) {W : World} {R own0 : Nat → Prop} {ρ0 : Nat → Option Value} (hown : HownOk (env (G7 ++ rest) [(28, kValid), (90, kputsF)]) own0 ρ0) : LOk Tryd.prog (env (G7 ++ rest) [(28, kValid), (90, kputsF)]) (ctx ea has) (G7 ++ rest) W R own0 ρ0 (loopN (loopN (bodyOf Tryd.f45) 1) 0) (LbytC d c m dr cr sy b l o) := by
  refine loop1_ok (env_ok (con := [(28, kValid), (90, kputsF)]) ⟨cValid, cputsF, trivial⟩) hown (ls := fun i => []) (fun i => noLoops (by kernel_rfl)) (fun hm i hi hj => (bbytC rest d c m dr cr sy b l o i).mpr ?_) 0 (fun hm => by first | exact Nat.zero_le _ | omega) (fun hm => trivial)
  have h1 := relsB_len (l.take i)
  have h2 : (l.take i).length ≤ i := by simp; omega
  simp only [Int.toNat_natCast, eq_self, true_and, and_true]
  refine ⟨fun h => ?_, fun h => ?_⟩
  · have h := of_decide_eq_true h
    have hlt : i < l.length := by omega
    have e := take_getD l RT.rel.dflt hlt
    refine ⟨by omega, fun _ => ⟨⟨by rw [List.length_append, h1]; omega, by simp⟩, fun _ => ⟨hlt, by omega, by omega, ?_⟩⟩⟩
    rw [e]
    unfold relsB
    rw [List.flatMap_append, List.append_assoc]
    simp [relB]
  · have h := of_decide_eq_false h
    exact ⟨rfl, by rw [List.take_of_length_le (by omega)]⟩
def HbytD (b : List Int) (sy : List Sm) (i : Nat) : SState := { fr := [(5, .own 0), (94, .ro .sym sy), (95, .int .i64 (.full sy.length)), (96, .int .i64 (.sym i 0 256))], hp := [(0, some (.recs .u8 (b ++ symsB (sy.take i))))], next := 1, sz := 122 }
def XbytD (b : List Int) (sy : List Sm) : SState := { fr := [(5, .own 0)], hp := [(0, some (.recs .u8 (b ++ symsB sy)))], next := 1, sz := 122 }
def LbytD (b : List Int) (sy : List Sm) : LSum := ⟨HbytD b sy 0, fun k => k (.exit 6) (XbytD b sy), b.length ≤ 100000 ∧ sy.length ≤ 256 ∧ ∀ s ∈ sy, s.name.size ≤ 32⟩
theorem bbytD (rest : List (Nat × SVal)) (b : List Int) (sy : List Sm) (i : Nat) : (Tr.sat (rnd1 (env (G7 ++ rest) [(28, kValid), (90, kputsF)]) (fun _ => True) (sy.length) (HbytD b sy) 6 (XbytD b sy) i) (run (env (G7 ++ rest) [(28, kValid), (90, kputsF)]) [] (loopN (bodyOf Tryd.f45) 2) (HbytD b sy i) .leaf)) = (
  (decide ((↑i : Int) < (↑(List.length sy) : Int)) = true → ((0 : Int) ≤ (↑i : Int) ∧ (↑i : Int) < (↑(List.length sy) : Int)) ∧ ((0 : Int) ≤ (↑i : Int) ∧ (↑i : Int) < (↑(List.length sy) : Int) → ((List.getD sy (Int.toNat (↑i : Int)) (RT.dflt RT.sym)).global = true → (List.length (b ++ symsB (List.take i sy)) ≤ (1000000 : Nat) ∧ List.length [IntKind.wrap IntKind.u32 (List.getD sy (Int.toNat (↑i : Int)) (RT.dflt RT.sym)).in_, IntKind.wrap IntKind.u32 (List.getD sy (Int.toNat (↑i : Int)) (RT.dflt RT.sym)).value, (1 : Int), IntKind.wrap IntKind.u32 (↑(ByteArray.size (List.getD sy (Int.toNat (↑i : Int)) (RT.dflt RT.sym)).name) : Int)] ≤ (1000000 : Nat)) ∧ (List.length (b ++ symsB (List.take i sy)) ≤ (1000000 : Nat) ∧ List.length [IntKind.wrap IntKind.u32 (List.getD sy (Int.toNat (↑i : Int)) (RT.dflt RT.sym)).in_, IntKind.wrap IntKind.u32 (List.getD sy (Int.toNat (↑i : Int)) (RT.dflt RT.sym)).value, (1 : Int), IntKind.wrap IntKind.u32 (↑(ByteArray.size (List.getD sy (Int.toNat (↑i : Int)) (RT.dflt RT.sym)).name) : Int)] ≤ (1000000 : Nat) → List.length (b ++ symsB (List.take i sy) ++ wordsB [IntKind.wrap IntKind.u32 (List.getD sy (Int.toNat (↑i : Int)) (RT.dflt RT.sym)).in_, IntKind.wrap IntKind.u32 (List.getD sy (Int.toNat (↑i : Int)) (RT.dflt RT.sym)).value, (1 : Int), IntKind.wrap IntKind.u32 (↑(ByteArray.size (List.getD sy (Int.toNat (↑i : Int)) (RT.dflt RT.sym)).name) : Int)]) + ByteArray.size (List.getD sy (Int.toNat (↑i : Int)) (RT.dflt RT.sym)).name ≤ (137438953472 : Nat) ∧ (List.length (b ++ symsB (List.take i sy) ++ wordsB [IntKind.wrap IntKind.u32 (List.getD sy (Int.toNat (↑i : Int)) (RT.dflt RT.sym)).in_, IntKind.wrap IntKind.u32 (List.getD sy (Int.toNat (↑i : Int)) (RT.dflt RT.sym)).value, (1 : Int), IntKind.wrap IntKind.u32 (↑(ByteArray.size (List.getD sy (Int.toNat (↑i : Int)) (RT.dflt RT.sym)).name) : Int)]) + ByteArray.size (List.getD sy (Int.toNat (↑i : Int)) (RT.dflt RT.sym)).name ≤ (137438953472 : Nat) → i < List.length sy ∧ True ∧ sy = sy ∧ (↑(List.length sy) : Int) = (↑(List.length sy) : Int) ∧ (↑i : Int) + (1 : Int) = (↑(i + (1 : Nat)) : Int) ∧ ((0 : Int) ≤ (↑(i + (1 : Nat)) : Int) ∧ (↑(i + (1 : Nat)) : Int) ≤ (256 : Int)) ∧ b ++ symsB (List.take i sy) ++ wordsB [IntKind.wrap IntKind.u32 (List.getD sy (Int.toNat (↑i : Int)) (RT.dflt RT.sym)).in_, IntKind.wrap IntKind.u32 (List.getD sy (Int.toNat (↑i : Int)) (RT.dflt RT.sym)).value, (1 : Int), IntKind.wrap IntKind.u32 (↑(ByteArray.size (List.getD sy (Int.toNat (↑i : Int)) (RT.dflt RT.sym)).name) : Int)] ++ bytesL (List.getD sy (Int.toNat (↑i : Int)) (RT.dflt RT.sym)).name = b ++ symsB (List.take (i + (1 : Nat)) sy)))) ∧ ((List.getD sy (Int.toNat (↑i : Int)) (RT.dflt RT.sym)).global = false → (List.length (b ++ symsB (List.take i sy)) ≤ (1000000 : Nat) ∧ List.length [IntKind.wrap IntKind.u32 (List.getD sy (Int.toNat (↑i : Int)) (RT.dflt RT.sym)).in_, IntKind.wrap IntKind.u32 (List.getD sy (Int.toNat (↑i : Int)) (RT.dflt RT.sym)).value, (0 : Int), IntKind.wrap IntKind.u32 (↑(ByteArray.size (List.getD sy (Int.toNat (↑i : Int)) (RT.dflt RT.sym)).name) : Int)] ≤ (1000000 : Nat)) ∧ (List.length (b ++ symsB (List.take i sy)) ≤ (1000000 : Nat) ∧ List.length [IntKind.wrap IntKind.u32 (List.getD sy (Int.toNat (↑i : Int)) (RT.dflt RT.sym)).in_, IntKind.wrap IntKind.u32 (List.getD sy (Int.toNat (↑i : Int)) (RT.dflt RT.sym)).value, (0 : Int), IntKind.wrap IntKind.u32 (↑(ByteArray.size (List.getD sy (Int.toNat (↑i : Int)) (RT.dflt RT.sym)).name) : Int)] ≤ (1000000 : Nat) → List.length (b ++ symsB (List.take i sy) ++ wordsB [IntKind.wrap IntKind.u32 (List.getD sy (Int.toNat (↑i : Int)) (RT.dflt RT.sym)).in_, IntKind.wrap IntKind.u32 (List.getD sy (Int.toNat (↑i : Int)) (RT.dflt RT.sym)).value, (0 : Int), IntKind.wrap IntKind.u32 (↑(ByteArray.size (List.getD sy (Int.toNat (↑i : Int)) (RT.dflt RT.sym)).name) : Int)]) + ByteArray.size (List.getD sy (Int.toNat (↑i : Int)) (RT.dflt RT.sym)).name ≤ (137438953472 : Nat) ∧ (List.length (b ++ symsB (List.take i sy) ++ wordsB [IntKind.wrap IntKind.u32 (List.getD sy (Int.toNat (↑i : Int)) (RT.dflt RT.sym)).in_, IntKind.wrap IntKind.u32 (List.getD sy (Int.toNat (↑i : Int)) (RT.dflt RT.sym)).value, (0 : Int), IntKind.wrap IntKind.u32 (↑(ByteArray.size (List.getD sy (Int.toNat (↑i : Int)) (RT.dflt RT.sym)).name) : Int)]) + ByteArray.size (List.getD sy (Int.toNat (↑i : Int)) (RT.dflt RT.sym)).name ≤ (137438953472 : Nat) → i < List.length sy ∧ True ∧ sy = sy ∧ (↑(List.length sy) : Int) = (↑(List.length sy) : Int) ∧ (↑i : Int) + (1 : Int) = (↑(i + (1 : Nat)) : Int) ∧ ((0 : Int) ≤ (↑(i + (1 : Nat)) : Int) ∧ (↑(i + (1 : Nat)) : Int) ≤ (256 : Int)) ∧ b ++ symsB (List.take i sy) ++ wordsB [IntKind.wrap IntKind.u32 (List.getD sy (Int.toNat (↑i : Int)) (RT.dflt RT.sym)).in_, IntKind.wrap IntKind.u32 (List.getD sy (Int.toNat (↑i : Int)) (RT.dflt RT.sym)).value, (0 : Int), IntKind.wrap IntKind.u32 (↑(ByteArray.size (List.getD sy (Int.toNat (↑i : Int)) (RT.dflt RT.sym)).name) : Int)] ++ bytesL (List.getD sy (Int.toNat (↑i : Int)) (RT.dflt RT.sym)).name = b ++ symsB (List.take (i + (1 : Nat)) sy)))))) ∧ (decide ((↑i : Int) < (↑(List.length sy) : Int)) = false → Nat.beq (6 : Nat) (6 : Nat) = true ∧ b ++ symsB (List.take i sy) = b ++ symsB sy)) := by kernel_rfl
set_option maxHeartbeats 4000000 in
theorem lbytD (b : List Int) (sy : List Sm) {W : World} {R own0 : Nat → Prop} {ρ0 : Nat → Option Value} (hown : HownOk (env (G7 ++ rest) [(28, kValid), (90, kputsF)]) own0 ρ0) : LOk Tryd.prog (env (G7 ++ rest) [(28, kValid), (90, kputsF)]) (ctx ea has) (G7 ++ rest) W R own0 ρ0 (loopN (bodyOf Tryd.f45) 2) (LbytD b sy) := by
  refine loop1_ok (env_ok (con := [(28, kValid), (90, kputsF)]) ⟨cValid, cputsF, trivial⟩) hown (ls := fun i => []) (fun i => noLoops (by kernel_rfl)) (fun hm i hi hj => (bbytD rest b sy i).mpr ?_) 0 (fun hm => by first | exact Nat.zero_le _ | omega) (fun hm => trivial)
  obtain ⟨m1, m2, m3⟩ := hm
  have h1 := symsB_len (sy.take i) fun s hs => m3 s (List.mem_of_mem_take hs)
  have h2 : (sy.take i).length ≤ i := by simp; omega
  simp only [Int.toNat_natCast]
  refine ⟨fun h => ?_, fun h => ?_⟩
  · have h := of_decide_eq_true h
    have hlt : i < sy.length := by omega
    have e := take_getD sy RT.sym.dflt hlt
    have hs : (sy.getD i RT.sym.dflt).name.size ≤ 32 := by
      rw [List.getD_eq_getElem?_getD, List.getElem?_eq_getElem hlt]; exact m3 _ (List.getElem_mem hlt)
    have e2 : symsB (sy.take (i + 1)) = symsB (sy.take i) ++ symB (sy.getD i RT.sym.dflt) := by
      rw [e]; unfold symsB; rw [List.flatMap_append]; simp
    rw [e2]
    generalize sy.getD i RT.sym.dflt = x at *
    refine ⟨by omega, fun _ => ⟨fun g => ?_, fun g => ?_⟩⟩
    · have e3 : symB x = wordsB [IntKind.u32.wrap x.in_, IntKind.u32.wrap x.value, 1, IntKind.u32.wrap (x.name.size : Nat)] ++ bytesL x.name := by unfold symB; rw [if_pos g]
      refine ⟨⟨by rw [List.length_append]; omega, by simp⟩, fun _ => ⟨by simp only [List.length_append, wordsB_len, List.length_cons, List.length_nil]; omega, fun _ => ⟨hlt, trivial, trivial, trivial, by omega, by omega, ?_⟩⟩⟩
      rw [e3]; simp only [List.append_assoc]
    · have e3 : symB x = wordsB [IntKind.u32.wrap x.in_, IntKind.u32.wrap x.value, 0, IntKind.u32.wrap (x.name.size : Nat)] ++ bytesL x.name := by unfold symB; rw [g]; rfl
      refine ⟨⟨by rw [List.length_append]; omega, by simp⟩, fun _ => ⟨by simp only [List.length_append, wordsB_len, List.length_cons, List.length_nil]; omega, fun _ => ⟨hlt, trivial, trivial, trivial, by omega, by omega, ?_⟩⟩⟩
      rw [e3]; simp only [List.append_assoc]
  · have h := of_decide_eq_false h
    exact ⟨rfl, by rw [List.take_of_length_le (by omega)]⟩
def relI (dr cr : List Rel) : Nat → List Rel
  | 0 => dr
  | _ => cr
def preI (d c m : List Int) (dr cr : List Rel) (sy : List Sm) : Nat → List Int
  | 0 => bodyB d c m dr cr sy
  | 1 => bodyB d c m dr cr sy ++ relsB dr
  | _ => bodyB d c m dr cr sy ++ relsB dr ++ relsB cr
theorem preI_len {d c m : List Int} {dr cr : List Rel} {sy : List Sm} (h : okSer d c m dr cr sy) : ∀ i, (preI d c m dr cr sy i).length ≤ 100000 := by
  obtain ⟨h1, h2, h3, h4, h5, h6, h7⟩ := h
  have := bodyB_len d c m dr cr sy
  have e1 := relsB_len dr
  have e2 := relsB_len cr
  intro i
  unfold preI
  split <;> (try simp only [List.length_append]) <;> omega
theorem relI_len {d c m : List Int} {dr cr : List Rel} {sy : List Sm} (h : okSer d c m dr cr sy) : ∀ i, (relI dr cr i).length ≤ 1024 := by
  obtain ⟨h1, h2, h3, h4, h5, h6, h7⟩ := h
  intro i
  unfold relI
  split <;> omega
def HbytB (d c m : List Int) (dr cr : List Rel) (sy : List Sm) (i : Nat) : SState := { fr := [(1, .ptr 0 0), (5, .own 1), (64, .own 2), (65, .int .i64 (.lit 2)), (66, .int .i64 (.lit i))], hp := [(0, obBox d c m dr cr sy), (1, some (.recs .u8 (preI d c m dr cr sy i))), (2, some (.row 1 [.ro .rel dr, .ro .rel cr]))], next := 3, sz := 122 }
def XbytB (d c m : List Int) (dr cr : List Rel) (sy : List Sm) : SState := { fr := [(1, .ptr 0 0), (5, .own 1)], hp := [(0, obBox d c m dr cr sy), (1, some (.recs .u8 (preI d c m dr cr sy 2)))], next := 2, sz := 122 }
def LbytB (d c m : List Int) (dr cr : List Rel) (sy : List Sm) : LSum := ⟨HbytB d c m dr cr sy 0, fun k => k (.exit 2) (XbytB d c m dr cr sy), okSer d c m dr cr sy⟩
theorem bbytB_0 (rest : List (Nat × SVal)) (d c m : List Int) (dr cr : List Rel) (sy : List Sm) : (Tr.sat (rnd1 (env (G7 ++ rest) [(28, kValid), (90, kputsF)]) (fun _ => True) (2) (HbytB d c m dr cr sy) 2 (XbytB d c m dr cr sy) 0) (run (env (G7 ++ rest) [(28, kValid), (90, kputsF)]) ((fun i : Nat => [(16, LbytC d c m dr cr sy (preI d c m dr cr sy i) (relI dr cr i) i)]) 0) (loopN (bodyOf Tryd.f45) 1) (HbytB d c m dr cr sy 0) .leaf)) = (
  (0 : Nat) * (1 : Nat) + (1 : Nat) ≤ sumW [SVal.ro RT.rel dr, SVal.ro RT.rel cr] ∧ ((0 : Nat) * (1 : Nat) + (1 : Nat) ≤ sumW [SVal.ro RT.rel dr, SVal.ro RT.rel cr] → ((List.length (preI d c m dr cr sy (0 : Nat)) ≤ (100000 : Nat) ∧ List.length (relI dr cr (0 : Nat)) ≤ (1024 : Nat)) ∧ (2 : Int) = (2 : Int) ∧ (0 : Int) = (↑(0 : Nat) : Int) ∧ dr = relI dr cr (0 : Nat) ∧ (↑(List.length dr) : Int) = (↑(List.length (relI dr cr (0 : Nat))) : Int) ∧ (0 : Int) = (↑(0 : Nat) : Int) ∧ d = d ∧ c = c ∧ m = m ∧ dr = dr ∧ cr = cr ∧ sy = sy ∧ preI d c m dr cr sy (0 : Nat) = preI d c m dr cr sy (0 : Nat) ++ relsB (List.take (0 : Nat) (relI dr cr (0 : Nat))) ∧ dr = dr ∧ cr = cr) ∧ ((List.length (preI d c m dr cr sy (0 : Nat)) ≤ (100000 : Nat) ∧ List.length (relI dr cr (0 : Nat)) ≤ (1024 : Nat)) ∧ (2 : Int) = (2 : Int) ∧ (0 : Int) = (↑(0 : Nat) : Int) ∧ dr = relI dr cr (0 : Nat) ∧ (↑(List.length dr) : Int) = (↑(List.length (relI dr cr (0 : Nat))) : Int) ∧ (0 : Int) = (↑(0 : Nat) : Int) ∧ d = d ∧ c = c ∧ m = m ∧ dr = dr ∧ cr = cr ∧ sy = sy ∧ preI d c m dr cr sy (0 : Nat) = preI d c m dr cr sy (0 : Nat) ++ relsB (List.take (0 : Nat) (relI dr cr (0 : Nat))) ∧ dr = dr ∧ cr = cr → (0 : Nat) < (2 : Nat) ∧ True ∧ (2 : Int) = (2 : Int) ∧ (1 : Int) = (↑((0 : Nat) + (1 : Nat)) : Int) ∧ d = d ∧ c = c ∧ m = m ∧ dr = dr ∧ cr = cr ∧ sy = sy ∧ preI d c m dr cr sy (0 : Nat) ++ relsB (relI dr cr (0 : Nat)) = preI d c m dr cr sy ((0 : Nat) + (1 : Nat)) ∧ dr = dr ∧ cr = cr))) := by kernel_rfl
theorem bbytB_1 (rest : List (Nat × SVal)) (d c m : List Int) (dr cr : List Rel) (sy : List Sm) : (Tr.sat (rnd1 (env (G7 ++ rest) [(28, kValid), (90, kputsF)]) (fun _ => True) (2) (HbytB d c m dr cr sy) 2 (XbytB d c m dr cr sy) 1) (run (env (G7 ++ rest) [(28, kValid), (90, kputsF)]) ((fun i : Nat => [(16, LbytC d c m dr cr sy (preI d c m dr cr sy i) (relI dr cr i) i)]) 1) (loopN (bodyOf Tryd.f45) 1) (HbytB d c m dr cr sy 1) .leaf)) = (
  (1 : Nat) * (1 : Nat) + (1 : Nat) ≤ sumW [SVal.ro RT.rel dr, SVal.ro RT.rel cr] ∧ ((1 : Nat) * (1 : Nat) + (1 : Nat) ≤ sumW [SVal.ro RT.rel dr, SVal.ro RT.rel cr] → ((List.length (preI d c m dr cr sy (1 : Nat)) ≤ (100000 : Nat) ∧ List.length (relI dr cr (1 : Nat)) ≤ (1024 : Nat)) ∧ (2 : Int) = (2 : Int) ∧ (1 : Int) = (↑(1 : Nat) : Int) ∧ cr = relI dr cr (1 : Nat) ∧ (↑(List.length cr) : Int) = (↑(List.length (relI dr cr (1 : Nat))) : Int) ∧ (0 : Int) = (↑(0 : Nat) : Int) ∧ d = d ∧ c = c ∧ m = m ∧ dr = dr ∧ cr = cr ∧ sy = sy ∧ preI d c m dr cr sy (1 : Nat) = preI d c m dr cr sy (1 : Nat) ++ relsB (List.take (0 : Nat) (relI dr cr (1 : Nat))) ∧ dr = dr ∧ cr = cr) ∧ ((List.length (preI d c m dr cr sy (1 : Nat)) ≤ (100000 : Nat) ∧ List.length (relI dr cr (1 : Nat)) ≤ (1024 : Nat)) ∧ (2 : Int) = (2 : Int) ∧ (1 : Int) = (↑(1 : Nat) : Int) ∧ cr = relI dr cr (1 : Nat) ∧ (↑(List.length cr) : Int) = (↑(List.length (relI dr cr (1 : Nat))) : Int) ∧ (0 : Int) = (↑(0 : Nat) : Int) ∧ d = d ∧ c = c ∧ m = m ∧ dr = dr ∧ cr = cr ∧ sy = sy ∧ preI d c m dr cr sy (1 : Nat) = preI d c m dr cr sy (1 : Nat) ++ relsB (List.take (0 : Nat) (relI dr cr (1 : Nat))) ∧ dr = dr ∧ cr = cr → (1 : Nat) < (2 : Nat) ∧ True ∧ (2 : Int) = (2 : Int) ∧ (2 : Int) = (↑((1 : Nat) + (1 : Nat)) : Int) ∧ d = d ∧ c = c ∧ m = m ∧ dr = dr ∧ cr = cr ∧ sy = sy ∧ preI d c m dr cr sy (1 : Nat) ++ relsB (relI dr cr (1 : Nat)) = preI d c m dr cr sy ((1 : Nat) + (1 : Nat)) ∧ dr = dr ∧ cr = cr))) := by kernel_rfl
theorem bbytB_2 (rest : List (Nat × SVal)) (d c m : List Int) (dr cr : List Rel) (sy : List Sm) : (Tr.sat (rnd1 (env (G7 ++ rest) [(28, kValid), (90, kputsF)]) (fun _ => True) (2) (HbytB d c m dr cr sy) 2 (XbytB d c m dr cr sy) 2) (run (env (G7 ++ rest) [(28, kValid), (90, kputsF)]) ((fun i : Nat => [(16, LbytC d c m dr cr sy (preI d c m dr cr sy i) (relI dr cr i) i)]) 2) (loopN (bodyOf Tryd.f45) 1) (HbytB d c m dr cr sy 2) .leaf)) = (
  Nat.beq (2 : Nat) (2 : Nat) = true ∧ d = d ∧ c = c ∧ m = m ∧ dr = dr ∧ cr = cr ∧ sy = sy ∧ preI d c m dr cr sy (2 : Nat) = preI d c m dr cr sy (2 : Nat)) := by kernel_rfl
set_option maxHeartbeats 4000000 in
theorem lbytB (d c m : List Int) (dr cr : List Rel) (sy : List Sm) {W : World} {R own0 : Nat → Prop} {ρ0 : Nat → Option Value} (hown : HownOk (env (G7 ++ rest) [(28, kValid), (90, kputsF)]) own0 ρ0) : LOk Tryd.prog (env (G7 ++ rest) [(28, kValid), (90, kputsF)]) (ctx ea has) (G7 ++ rest) W R own0 ρ0 (loopN (bodyOf Tryd.f45) 1) (LbytB d c m dr cr sy) := by
  refine loop1_ok (J := fun _ => True) (N := 2) (env_ok (con := [(28, kValid), (90, kputsF)]) ⟨cValid, cputsF, trivial⟩) hown (ls := fun i => [(16, LbytC d c m dr cr sy (preI d c m dr cr sy i) (relI dr cr i) i)]) (fun i => hl1 (by kernel_rfl) (by kernel_rfl) (lbytC d c m dr cr sy (preI d c m dr cr sy i) (relI dr cr i) i hown)) (fun hm i hi hj => ?_) 0 (fun hm => by first | exact Nat.zero_le _ | omega) (fun hm => trivial)
  have hp := preI_len hm
  have hr := relI_len hm
  match i, hi with
  | 0, _ =>
    refine (bbytB_0 rest d c m dr cr sy).mpr ?_
    simp only [eq_self, true_and, and_true]
    exact ⟨by simp [sumW, SVal.width], fun _ => ⟨⟨⟨hp 0, hr 0⟩, rfl, rfl, rfl, rfl, by simp [relsB]⟩, fun _ => ⟨by omega, rfl, rfl⟩⟩⟩
  | 1, _ =>
    refine (bbytB_1 rest d c m dr cr sy).mpr ?_
    simp only [eq_self, true_and, and_true]
    exact ⟨by simp [sumW, SVal.width], fun _ => ⟨⟨⟨hp 1, hr 1⟩, rfl, rfl, rfl, rfl, by simp [relsB]⟩, fun _ => ⟨by omega, rfl, rfl⟩⟩⟩
  | 2, _ =>
    refine (bbytB_2 rest d c m dr cr sy).mpr ?_
    exact ⟨rfl, rfl, rfl, rfl, rfl, rfl, rfl, rfl⟩
def bytesM (d c m : List Int) (dr cr : List Rel) (sy : List Sm) : List Int := if (validE d c m dr cr sy).isErr = true then [] else bytesO d c m dr cr sy
theorem valid_ser {d c m : List Int} {dr cr : List Rel} {sy : List Sm} (h : (validE d c m dr cr sy).isErr = false) : okSer d c m dr cr sy := by
  obtain ⟨v1, v2, v3, v4, v5, v6, v7, v8, v9⟩ := valid_size h
  refine ⟨v3, v1, by omega, v4, v5, v6, fun s hs => ?_⟩
  obtain ⟨i, hi, he⟩ := List.mem_iff_getElem.1 hs
  have h1 := firstE_all (fun i => symE_np d c m _ _ _ _ _) v8 i hi
  have hg : sy.getD i RT.sym.dflt = s := by rw [List.getD_eq_getElem?_getD, List.getElem?_eq_getElem hi, Option.getD_some, he]
  unfold syE symE at h1
  rw [hg] at h1
  split at h1
  · cases h1
  · rename_i hk
    unfold symOk at hk
    simp at hk
    omega
def kBytes : List SVal → Nat → Acc ORes := fun a n => match a with | [.agg [.ro .u32 d, .ro .u32 c, .ro .u8 m, .ro .rel dr, .ro .rel cr, .ro .sym sy]] => .ret (newR n (.tuple [.own 0, .err (validE d c m dr cr sy)]) ([(0, .recs .u8 (bytesM d c m dr cr sy))]) 1) | _ => .fail "Bytes"
theorem argBytes (d c m : List Int) (dr cr : List Rel) (sy : List Sm) : (all (subL 134 none' [] deep [.agg [.ro .u32 d, .ro .u32 c, .ro .u8 m, .ro .rel dr, .ro .rel cr, .ro .sym sy]] [.agg [.ro .u32 d, .ro .u32 c, .ro .u8 m, .ro .rel dr, .ro .rel cr, .ro .sym sy]])) = (
  d = d ∧ c = c ∧ m = m ∧ dr = dr ∧ cr = cr ∧ sy = sy) := by kernel_rfl
theorem runBytes (rest : List (Nat × SVal)) (d c m : List Int) (dr cr : List Rel) (sy : List Sm) : (Tr.sat (newQ (env (G7 ++ rest) [(28, kValid), (90, kputsF)]) (.tuple [.own 0, .err (validE d c m dr cr sy)]) ([(0, .recs .u8 (bytesM d c m dr cr sy))]) 1) (run (env (G7 ++ rest) [(28, kValid), (90, kputsF)]) [(6, LbytA d c m dr cr sy), (13, LbytB d c m dr cr sy), (22, LbytD (preI d c m dr cr sy 2) sy)] (bodyOf Tryd.f45) (start [.agg [.ro .u32 d, .ro .u32 c, .ro .u8 m, .ro .rel dr, .ro .rel cr, .ro .sym sy]] 122) (ends (env (G7 ++ rest) [(28, kValid), (90, kputsF)]) Tryd.f45.results.toList))) = (
  ((!!FErr.isErr (validE d c m dr cr sy)) = true → validE d c m dr cr sy = validE d c m dr cr sy ∧ @List.nil (RT.ty RT.u8) = bytesM d c m dr cr sy) ∧ ((!!FErr.isErr (validE d c m dr cr sy)) = false → (List.length (nilR RT.u8) ≤ (1000000 : Nat) ∧ List.length [(842225232 : Int)] ≤ (1000000 : Nat)) ∧ (List.length (nilR RT.u8) ≤ (1000000 : Nat) ∧ List.length [(842225232 : Int)] ≤ (1000000 : Nat) → (okSer d c m dr cr sy ∧ [(↑(List.length d) : Int), (↑(List.length c) : Int), (↑(List.length dr) : Int), (↑(List.length cr) : Int), (↑(List.length sy) : Int)] = lensL d c dr cr sy ∧ (↑(List.length [(↑(List.length d) : Int), (↑(List.length c) : Int), (↑(List.length dr) : Int), (↑(List.length cr) : Int), (↑(List.length sy) : Int)]) : Int) = (5 : Int) ∧ (0 : Int) = (↑(0 : Nat) : Int) ∧ d = d ∧ c = c ∧ m = m ∧ dr = dr ∧ cr = cr ∧ sy = sy ∧ nilR RT.u8 ++ wordsB [(842225232 : Int)] = headB (List.take (0 : Nat) (lensL d c dr cr sy))) ∧ (okSer d c m dr cr sy ∧ [(↑(List.length d) : Int), (↑(List.length c) : Int), (↑(List.length dr) : Int), (↑(List.length cr) : Int), (↑(List.length sy) : Int)] = lensL d c dr cr sy ∧ (↑(List.length [(↑(List.length d) : Int), (↑(List.length c) : Int), (↑(List.length dr) : Int), (↑(List.length cr) : Int), (↑(List.length sy) : Int)]) : Int) = (5 : Int) ∧ (0 : Int) = (↑(0 : Nat) : Int) ∧ d = d ∧ c = c ∧ m = m ∧ dr = dr ∧ cr = cr ∧ sy = sy ∧ nilR RT.u8 ++ wordsB [(842225232 : Int)] = headB (List.take (0 : Nat) (lensL d c dr cr sy)) → (List.length (headB (lensL d c dr cr sy)) ≤ (1000000 : Nat) ∧ List.length d ≤ (1000000 : Nat)) ∧ (List.length (headB (lensL d c dr cr sy)) ≤ (1000000 : Nat) ∧ List.length d ≤ (1000000 : Nat) → (List.length (headB (lensL d c dr cr sy) ++ wordsB d) ≤ (1000000 : Nat) ∧ List.length c ≤ (1000000 : Nat)) ∧ (List.length (headB (lensL d c dr cr sy) ++ wordsB d) ≤ (1000000 : Nat) ∧ List.length c ≤ (1000000 : Nat) → List.length (headB (lensL d c dr cr sy) ++ wordsB d ++ wordsB c) + List.length m ≤ (137438953472 : Nat) ∧ (List.length (headB (lensL d c dr cr sy) ++ wordsB d ++ wordsB c) + List.length m ≤ (137438953472 : Nat) → (okSer d c m dr cr sy ∧ (2 : Int) = (2 : Int) ∧ (0 : Int) = (↑(0 : Nat) : Int) ∧ d = d ∧ c = c ∧ m = m ∧ dr = dr ∧ cr = cr ∧ sy = sy ∧ headB (lensL d c dr cr sy) ++ wordsB d ++ wordsB c ++ m = preI d c m dr cr sy (0 : Nat) ∧ dr = dr ∧ cr = cr) ∧ (okSer d c m dr cr sy ∧ (2 : Int) = (2 : Int) ∧ (0 : Int) = (↑(0 : Nat) : Int) ∧ d = d ∧ c = c ∧ m = m ∧ dr = dr ∧ cr = cr ∧ sy = sy ∧ headB (lensL d c dr cr sy) ++ wordsB d ++ wordsB c ++ m = preI d c m dr cr sy (0 : Nat) ∧ dr = dr ∧ cr = cr → ((List.length (preI d c m dr cr sy (2 : Nat)) ≤ (100000 : Nat) ∧ List.length sy ≤ (256 : Nat) ∧ ∀ (s : Sm), s ∈ sy → ByteArray.size s.name ≤ (32 : Nat)) ∧ sy = sy ∧ (↑(List.length sy) : Int) = (↑(List.length sy) : Int) ∧ (0 : Int) = (↑(0 : Nat) : Int) ∧ preI d c m dr cr sy (2 : Nat) = preI d c m dr cr sy (2 : Nat) ++ symsB (List.take (0 : Nat) sy)) ∧ ((List.length (preI d c m dr cr sy (2 : Nat)) ≤ (100000 : Nat) ∧ List.length sy ≤ (256 : Nat) ∧ ∀ (s : Sm), s ∈ sy → ByteArray.size s.name ≤ (32 : Nat)) ∧ sy = sy ∧ (↑(List.length sy) : Int) = (↑(List.length sy) : Int) ∧ (0 : Int) = (↑(0 : Nat) : Int) ∧ preI d c m dr cr sy (2 : Nat) = preI d c m dr cr sy (2 : Nat) ++ symsB (List.take (0 : Nat) sy) → FErr.fine = validE d c m dr cr sy ∧ preI d c m dr cr sy (2 : Nat) ++ symsB sy = bytesM d c m dr cr sy))))))))) := by kernel_rfl
set_option maxHeartbeats 4000000 in
theorem cBytes : Con ea has (G7 ++ rest) 45 kBytes := by
  refine new_mk Tryd.func45 122 (con := [(28, kValid), (90, kputsF)]) ⟨cValid, cputsF, trivial⟩ (fun hA hr hv => ?_) (by kernel_rfl) (by kernel_rfl) Tryd.ntmps45
  unfold kBytes at hr; split at hr
  · rename_i d c m dr cr sy
    have := ret_ok hr; subst this
    refine ⟨_, [(6, LbytA d c m dr cr sy), (13, LbytB d c m dr cr sy), (22, LbytD (preI d c m dr cr sy 2) sy)], _, _, _, ⟨rfl, rfl, rfl⟩, (argBytes d c m dr cr sy).mpr (by simp), rfl, rfl, (fun W R ρ0 own0 hown => hl3 (by kernel_rfl) (by kernel_rfl) (lbytA d c m dr cr sy hown) (by kernel_rfl) (lbytB d c m dr cr sy hown) (by kernel_rfl) (lbytD (preI d c m dr cr sy 2) sy hown)), (runBytes rest d c m dr cr sy).mpr ?_⟩
    clear hr
    simp only [eq_self, true_and, and_true]
    refine ⟨fun h => ?_, fun h => ?_⟩
    · have h : (validE d c m dr cr sy).isErr = true := by simpa using h
      rw [bytesM, if_pos h]
    · have h : (validE d c m dr cr sy).isErr = false := by simpa using h
      have hs := valid_ser h
      obtain ⟨h1, h2, h3, h4, h5, h6, h7⟩ := id hs
      have e1 := headB_len (lensL d c dr cr sy)
      have e2 : (lensL d c dr cr sy).length = 5 := rfl
      have e3 := wordsB_len d
      have e4 := wordsB_len c
      have e5 := preI_len hs 2
      refine ⟨⟨Nat.zero_le _, by simp⟩, fun _ => ⟨⟨hs, rfl, rfl, rfl, rfl⟩, fun _ => ⟨⟨by omega, by omega⟩, fun _ => ⟨⟨by rw [List.length_append]; omega, by omega⟩, fun _ => ⟨by simp only [List.length_append]; omega, fun _ => ⟨⟨hs, rfl, rfl⟩, fun _ => ⟨⟨⟨e5, h6, h7⟩, rfl, by simp [symsB]⟩, fun _ => ⟨(fine_of h).symm, ?_⟩⟩⟩⟩⟩⟩⟩⟩
      rw [bytesM, h]
      rfl
  · cases hr
end
end Go.Proofs.YtbdfibaljoedpaaDoor

set_option linter.unusedVariables false
set_option linter.unusedSimpArgs false
namespace Go.Proofs.YtbdfibaljoedpaaDoor
open Go.RowKit Go.Sy Go.Fac
section
variable {ea : Int → Addr} {has : Int → Prop} {rest : List (Nat × SVal)}
abbrev kBytesF := frz [shOb] kBytes
theorem cBytesF : Con ea has (G7 ++ rest) 45 kBytesF := frz_ok cBytes _
abbrev kValidF := frz [shOb] kValid
theorem cValidF : Con ea has (G7 ++ rest) 28 kValidF := frz_ok cValid _
def kfirst9 : List SVal → Nat → Acc ORes := fun a n => match a with | [] => .ret ({ v := .bool (.lit true) }) | _ => .fail "first9"
theorem argfirst9  : (all (subL 134 none' [] deep [] [])) = (
  True) := by kernel_rfl
theorem runfirst9 (rest : List (Nat × SVal)) : (Tr.sat (plainQ (.bool (.lit true))) (run (env (G7 ++ rest) [(45, kBytesF)]) [] (bodyOf Tryd.f20) (start [] 15) (ends (env (G7 ++ rest) [(45, kBytesF)]) Tryd.f20.results.toList))) = (
  true = true) := by kernel_rfl
set_option maxHeartbeats 4000000 in
theorem cfirst9 : Con ea has (G7 ++ rest) 20 kfirst9 := by
  refine plain_mk Tryd.func20 15 (con := [(45, kBytesF)]) ⟨cBytesF, trivial⟩ (fun hA hr hv => ?_) (by kernel_rfl) (by kernel_rfl) Tryd.ntmps20
  unfold kfirst9 at hr; split at hr
  · skip
    have := ret_ok hr; subst this
    refine ⟨_, [], rfl, rfl, (argfirst9 ).mpr (by simp), rfl, (fun W R ρ0 own0 hown => noLoops (by kernel_rfl)), (runfirst9 rest ).mpr ?_⟩
    clear hr
    rfl
  · cases hr
def owD (k : Int) (l : List Int) : List Int := if k = 0 then l ++ [1] else l
def owC (k : Int) (l : List Int) : List Int := if k = 1 then l ++ [1] else l
def owM (k : Int) (l : List Int) : List Int := if k = 2 then l ++ [1] else l
def owR (k : Int) (l : List Rel) : List Rel := if k = 3 then l ++ [⟨0, 0, 0, 0⟩] else l
def owQ (k : Int) (l : List Rel) : List Rel := if k = 4 then l ++ [⟨0, 0, 0, 0⟩] else l
def owS (k : Int) (l : List Sm) : List Sm := if k < 5 then l else l ++ [⟨ByteArray.empty, 0, 0, false⟩]
def jOwn (d c m : List Int) (dr cr : List Rel) (sy : List Sm) (k : Int) : LSum := cutL { fr := [(2, .ptr 0 0), (5, .bool (.lit true)), (6, .ptr 1 0)], hp := [(0, obBox d c m dr cr sy), (1, obBox (owD k d) (owC k c) (owM k m) (owR k dr) (owQ k cr) (owS k sy))], next := 2, sz := 109 }
theorem app_ne {α : Type} (l : List α) (x : α) : l ++ [x] ≠ l := fun h => by have := congrArg List.length h; simp at this
theorem own_ne {d c m : List Int} {dr cr : List Rel} {sy : List Sm} {k : Int} (h0 : 0 ≤ k) (h1 : k < 6) : sameOb (owD k d) (owC k c) (owM k m) (owR k dr) (owQ k cr) (owS k sy) d c m dr cr sy = false ∧ sameOb d c m dr cr sy (owD k d) (owC k c) (owM k m) (owR k dr) (owQ k cr) (owS k sy) = false := by
  rcases (show k = 0 ∨ k = 1 ∨ k = 2 ∨ k = 3 ∨ k = 4 ∨ k = 5 by omega) with h | h | h | h | h | h <;> subst h <;> simp [sameOb, owD, owC, owM, owR, owQ, owS]
theorem same_self (d c m : List Int) (dr cr : List Rel) (sy : List Sm) : sameOb d c m dr cr sy d c m dr cr sy = true := by simp [sameOb]
theorem set_ne (d c m : List Int) (dr cr : List Rel) (sy : List Sm) (h : 0 < c.length) : sameOb d (c.set (Int.toNat 0) (IntKind.u32.wrap (c.getD (Int.toNat 0) RT.u32.dflt + 1))) m dr cr sy d c m dr cr sy = false := by
  have : c.set (Int.toNat 0) (IntKind.u32.wrap (c.getD (Int.toNat 0) RT.u32.dflt + 1)) ≠ c := fun e => by
    cases c with
    | nil => simp at h
    | cons x l =>
      simp at e
      rw [IntKind.wrap_u32] at e
      omega
  unfold sameOb
  rw [decide_eq_false this]
  simp
def kObjOwn : List SVal → Nat → Acc ORes := fun a n => match a with | [.agg [.ro .u32 d, .ro .u32 c, .ro .u8 m, .ro .rel dr, .ro .rel cr, .ro .sym sy], .int .i64 k] => .ret ({ v := .bool (.lit true) }) | _ => .fail "ObjOwn"
theorem argObjOwn (d c m : List Int) (dr cr : List Rel) (sy : List Sm) (k : SI) : (all (subL 134 none' [] deep [.agg [.ro .u32 d, .ro .u32 c, .ro .u8 m, .ro .rel dr, .ro .rel cr, .ro .sym sy], .int .i64 k] [.agg [.ro .u32 d, .ro .u32 c, .ro .u8 m, .ro .rel dr, .ro .rel cr, .ro .sym sy], .int .i64 (.full k.val)])) = (
  d = d ∧ c = c ∧ m = m ∧ dr = dr ∧ cr = cr ∧ sy = sy ∧ SI.val k = SI.val k) := by kernel_rfl
theorem runObjOwn (rest : List (Nat × SVal)) (d c m : List Int) (dr cr : List Rel) (sy : List Sm) (k : SI) : (Tr.sat (plainQ (.bool (.lit true))) (run (env (G7 ++ rest) [(20, kfirst9), (17, kLight), (29, kCloneO), (30, kSameB), (21, kNumber), (31, kSameObB)]) [(2000021, jOwn d c m dr cr sy (k.val % 6))] (bodyOf Tryd.f5) (start [.agg [.ro .u32 d, .ro .u32 c, .ro .u8 m, .ro .rel dr, .ro .rel cr, .ro .sym sy], .int .i64 (.full k.val)] 109) (ends (env (G7 ++ rest) [(20, kfirst9), (17, kLight), (29, kCloneO), (30, kSameB), (21, kNumber), (31, kSameObB)]) Tryd.f5.results.toList))) = (
  ((0 : Int) ≤ (100 : Int) ∧ (100 : Int) ≤ (1000000 : Int)) ∧ ((0 : Int) ≤ (100 : Int) ∧ (100 : Int) ≤ (1000000 : Int) → ((!(!lightB d c m dr cr sy (100 : Int) && noneP (longP sy) (List.length sy))) = true → true = true) ∧ ((!(!lightB d c m dr cr sy (100 : Int) && noneP (longP sy) (List.length sy))) = false → lenOb d c m dr cr sy ∧ (lenOb d c m dr cr sy → lenOb d c m dr cr sy ∧ (lenOb d c m dr cr sy → ((!sameOb d c m dr cr sy d c m dr cr sy) = true → false = true) ∧ ((!sameOb d c m dr cr sy d c m dr cr sy) = false → ((0 : Int) < (6 : Int) ∧ ((0 : Int) < (6 : Int) → (decide (SI.val k % (6 : Int) = (0 : Int)) = true → List.length d + List.length [(1 : Int)] ≤ (137438953472 : Nat) ∧ (List.length d + List.length [(1 : Int)] ≤ (137438953472 : Nat) → true = true ∧ d = d ∧ c = c ∧ m = m ∧ dr = dr ∧ cr = cr ∧ sy = sy ∧ d ++ [(1 : Int)] = owD (SI.val k % (6 : Int)) d ∧ c = owC (SI.val k % (6 : Int)) c ∧ m = owM (SI.val k % (6 : Int)) m ∧ dr = owR (SI.val k % (6 : Int)) dr ∧ cr = owQ (SI.val k % (6 : Int)) cr ∧ sy = owS (SI.val k % (6 : Int)) sy)) ∧ (decide (SI.val k % (6 : Int) = (0 : Int)) = false → (decide (SI.val k % (6 : Int) = (1 : Int)) = true → List.length c + List.length [(1 : Int)] ≤ (137438953472 : Nat) ∧ (List.length c + List.length [(1 : Int)] ≤ (137438953472 : Nat) → true = true ∧ d = d ∧ c = c ∧ m = m ∧ dr = dr ∧ cr = cr ∧ sy = sy ∧ d = owD (SI.val k % (6 : Int)) d ∧ c ++ [(1 : Int)] = owC (SI.val k % (6 : Int)) c ∧ m = owM (SI.val k % (6 : Int)) m ∧ dr = owR (SI.val k % (6 : Int)) dr ∧ cr = owQ (SI.val k % (6 : Int)) cr ∧ sy = owS (SI.val k % (6 : Int)) sy)) ∧ (decide (SI.val k % (6 : Int) = (1 : Int)) = false → (decide (SI.val k % (6 : Int) = (2 : Int)) = true → List.length m + List.length [(1 : Int)] ≤ (137438953472 : Nat) ∧ (List.length m + List.length [(1 : Int)] ≤ (137438953472 : Nat) → true = true ∧ d = d ∧ c = c ∧ m = m ∧ dr = dr ∧ cr = cr ∧ sy = sy ∧ d = owD (SI.val k % (6 : Int)) d ∧ c = owC (SI.val k % (6 : Int)) c ∧ m ++ [(1 : Int)] = owM (SI.val k % (6 : Int)) m ∧ dr = owR (SI.val k % (6 : Int)) dr ∧ cr = owQ (SI.val k % (6 : Int)) cr ∧ sy = owS (SI.val k % (6 : Int)) sy)) ∧ (decide (SI.val k % (6 : Int) = (2 : Int)) = false → (decide (SI.val k % (6 : Int) = (3 : Int)) = true → List.length dr + List.length [Rel.mk (0 : Int) (0 : Int) (0 : Int) (0 : Int)] ≤ (137438953472 : Nat) ∧ (List.length dr + List.length [Rel.mk (0 : Int) (0 : Int) (0 : Int) (0 : Int)] ≤ (137438953472 : Nat) → true = true ∧ d = d ∧ c = c ∧ m = m ∧ dr = dr ∧ cr = cr ∧ sy = sy ∧ d = owD (SI.val k % (6 : Int)) d ∧ c = owC (SI.val k % (6 : Int)) c ∧ m = owM (SI.val k % (6 : Int)) m ∧ dr ++ [Rel.mk (0 : Int) (0 : Int) (0 : Int) (0 : Int)] = owR (SI.val k % (6 : Int)) dr ∧ cr = owQ (SI.val k % (6 : Int)) cr ∧ sy = owS (SI.val k % (6 : Int)) sy)) ∧ (decide (SI.val k % (6 : Int) = (3 : Int)) = false → (decide (SI.val k % (6 : Int) = (4 : Int)) = true → List.length cr + List.length [Rel.mk (0 : Int) (0 : Int) (0 : Int) (0 : Int)] ≤ (137438953472 : Nat) ∧ (List.length cr + List.length [Rel.mk (0 : Int) (0 : Int) (0 : Int) (0 : Int)] ≤ (137438953472 : Nat) → true = true ∧ d = d ∧ c = c ∧ m = m ∧ dr = dr ∧ cr = cr ∧ sy = sy ∧ d = owD (SI.val k % (6 : Int)) d ∧ c = owC (SI.val k % (6 : Int)) c ∧ m = owM (SI.val k % (6 : Int)) m ∧ dr = owR (SI.val k % (6 : Int)) dr ∧ cr ++ [Rel.mk (0 : Int) (0 : Int) (0 : Int) (0 : Int)] = owQ (SI.val k % (6 : Int)) cr ∧ sy = owS (SI.val k % (6 : Int)) sy)) ∧ (decide (SI.val k % (6 : Int) = (4 : Int)) = false → List.length sy + List.length [Sm.mk ByteArray.empty (0 : Int) (0 : Int) false] ≤ (137438953472 : Nat) ∧ (List.length sy + List.length [Sm.mk ByteArray.empty (0 : Int) (0 : Int) false] ≤ (137438953472 : Nat) → true = true ∧ d = d ∧ c = c ∧ m = m ∧ dr = dr ∧ cr = cr ∧ sy = sy ∧ d = owD (SI.val k % (6 : Int)) d ∧ c = owC (SI.val k % (6 : Int)) c ∧ m = owM (SI.val k % (6 : Int)) m ∧ dr = owR (SI.val k % (6 : Int)) dr ∧ cr = owQ (SI.val k % (6 : Int)) cr ∧ sy ++ [Sm.mk ByteArray.empty (0 : Int) (0 : Int) false] = owS (SI.val k % (6 : Int)) sy)))))))) ∧ lenOb d c m dr cr sy ∧ (lenOb d c m dr cr sy → (decide ((0 : Int) < (↑(List.length c) : Int)) = true → ((0 : Int) ≤ (0 : Int) ∧ (0 : Int) < (↑(List.length c) : Int)) ∧ ((0 : Int) ≤ (0 : Int) ∧ (0 : Int) < (↑(List.length c) : Int) → ((0 : Int) ≤ (0 : Int) ∧ (0 : Int) < (↑(List.length c) : Int)) ∧ ((0 : Int) ≤ (0 : Int) ∧ (0 : Int) < (↑(List.length c) : Int) → lenOb (owD (SI.val k % (6 : Int)) d) (owC (SI.val k % (6 : Int)) c) (owM (SI.val k % (6 : Int)) m) (owR (SI.val k % (6 : Int)) dr) (owQ (SI.val k % (6 : Int)) cr) (owS (SI.val k % (6 : Int)) sy) ∧ (lenOb (owD (SI.val k % (6 : Int)) d) (owC (SI.val k % (6 : Int)) c) (owM (SI.val k % (6 : Int)) m) (owR (SI.val k % (6 : Int)) dr) (owQ (SI.val k % (6 : Int)) cr) (owS (SI.val k % (6 : Int)) sy) → ((!sameOb (owD (SI.val k % (6 : Int)) d) (owC (SI.val k % (6 : Int)) c) (owM (SI.val k % (6 : Int)) m) (owR (SI.val k % (6 : Int)) dr) (owQ (SI.val k % (6 : Int)) cr) (owS (SI.val k % (6 : Int)) sy) d c m dr cr sy) = true → lenOb d c m dr cr sy) ∧ (((!sameOb (owD (SI.val k % (6 : Int)) d) (owC (SI.val k % (6 : Int)) c) (owM (SI.val k % (6 : Int)) m) (owR (SI.val k % (6 : Int)) dr) (owQ (SI.val k % (6 : Int)) cr) (owS (SI.val k % (6 : Int)) sy) d c m dr cr sy) = true → lenOb d c m dr cr sy) → ((!sameOb (owD (SI.val k % (6 : Int)) d) (owC (SI.val k % (6 : Int)) c) (owM (SI.val k % (6 : Int)) m) (owR (SI.val k % (6 : Int)) dr) (owQ (SI.val k % (6 : Int)) cr) (owS (SI.val k % (6 : Int)) sy) d c m dr cr sy && !sameOb d c m dr cr sy (owD (SI.val k % (6 : Int)) d) (owC (SI.val k % (6 : Int)) c) (owM (SI.val k % (6 : Int)) m) (owR (SI.val k % (6 : Int)) dr) (owQ (SI.val k % (6 : Int)) cr) (owS (SI.val k % (6 : Int)) sy) && !decide ((↑(List.length c) : Int) = (0 : Int))) = true → lenOb d (List.set c (Int.toNat (0 : Int)) (IntKind.wrap IntKind.u32 (List.getD c (Int.toNat (0 : Int)) (RT.dflt RT.u32) + (1 : Int)))) m dr cr sy) ∧ (((!sameOb (owD (SI.val k % (6 : Int)) d) (owC (SI.val k % (6 : Int)) c) (owM (SI.val k % (6 : Int)) m) (owR (SI.val k % (6 : Int)) dr) (owQ (SI.val k % (6 : Int)) cr) (owS (SI.val k % (6 : Int)) sy) d c m dr cr sy && !sameOb d c m dr cr sy (owD (SI.val k % (6 : Int)) d) (owC (SI.val k % (6 : Int)) c) (owM (SI.val k % (6 : Int)) m) (owR (SI.val k % (6 : Int)) dr) (owQ (SI.val k % (6 : Int)) cr) (owS (SI.val k % (6 : Int)) sy) && !decide ((↑(List.length c) : Int) = (0 : Int))) = true → lenOb d (List.set c (Int.toNat (0 : Int)) (IntKind.wrap IntKind.u32 (List.getD c (Int.toNat (0 : Int)) (RT.dflt RT.u32) + (1 : Int)))) m dr cr sy) → ((!sameOb (owD (SI.val k % (6 : Int)) d) (owC (SI.val k % (6 : Int)) c) (owM (SI.val k % (6 : Int)) m) (owR (SI.val k % (6 : Int)) dr) (owQ (SI.val k % (6 : Int)) cr) (owS (SI.val k % (6 : Int)) sy) d c m dr cr sy && !sameOb d c m dr cr sy (owD (SI.val k % (6 : Int)) d) (owC (SI.val k % (6 : Int)) c) (owM (SI.val k % (6 : Int)) m) (owR (SI.val k % (6 : Int)) dr) (owQ (SI.val k % (6 : Int)) cr) (owS (SI.val k % (6 : Int)) sy) && (decide ((↑(List.length c) : Int) = (0 : Int)) || !sameOb d (List.set c (Int.toNat (0 : Int)) (IntKind.wrap IntKind.u32 (List.getD c (Int.toNat (0 : Int)) (RT.dflt RT.u32) + (1 : Int)))) m dr cr sy d c m dr cr sy)) = true → lenOb d c m dr cr sy) ∧ (((!sameOb (owD (SI.val k % (6 : Int)) d) (owC (SI.val k % (6 : Int)) c) (owM (SI.val k % (6 : Int)) m) (owR (SI.val k % (6 : Int)) dr) (owQ (SI.val k % (6 : Int)) cr) (owS (SI.val k % (6 : Int)) sy) d c m dr cr sy && !sameOb d c m dr cr sy (owD (SI.val k % (6 : Int)) d) (owC (SI.val k % (6 : Int)) c) (owM (SI.val k % (6 : Int)) m) (owR (SI.val k % (6 : Int)) dr) (owQ (SI.val k % (6 : Int)) cr) (owS (SI.val k % (6 : Int)) sy) && (decide ((↑(List.length c) : Int) = (0 : Int)) || !sameOb d (List.set c (Int.toNat (0 : Int)) (IntKind.wrap IntKind.u32 (List.getD c (Int.toNat (0 : Int)) (RT.dflt RT.u32) + (1 : Int)))) m dr cr sy d c m dr cr sy)) = true → lenOb d c m dr cr sy) → ((!sameOb (owD (SI.val k % (6 : Int)) d) (owC (SI.val k % (6 : Int)) c) (owM (SI.val k % (6 : Int)) m) (owR (SI.val k % (6 : Int)) dr) (owQ (SI.val k % (6 : Int)) cr) (owS (SI.val k % (6 : Int)) sy) d c m dr cr sy && !sameOb d c m dr cr sy (owD (SI.val k % (6 : Int)) d) (owC (SI.val k % (6 : Int)) c) (owM (SI.val k % (6 : Int)) m) (owR (SI.val k % (6 : Int)) dr) (owQ (SI.val k % (6 : Int)) cr) (owS (SI.val k % (6 : Int)) sy) && (decide ((↑(List.length c) : Int) = (0 : Int)) || !sameOb d (List.set c (Int.toNat (0 : Int)) (IntKind.wrap IntKind.u32 (List.getD c (Int.toNat (0 : Int)) (RT.dflt RT.u32) + (1 : Int)))) m dr cr sy d c m dr cr sy)) = true → lenOb d c m dr cr sy) ∧ (((!sameOb (owD (SI.val k % (6 : Int)) d) (owC (SI.val k % (6 : Int)) c) (owM (SI.val k % (6 : Int)) m) (owR (SI.val k % (6 : Int)) dr) (owQ (SI.val k % (6 : Int)) cr) (owS (SI.val k % (6 : Int)) sy) d c m dr cr sy && !sameOb d c m dr cr sy (owD (SI.val k % (6 : Int)) d) (owC (SI.val k % (6 : Int)) c) (owM (SI.val k % (6 : Int)) m) (owR (SI.val k % (6 : Int)) dr) (owQ (SI.val k % (6 : Int)) cr) (owS (SI.val k % (6 : Int)) sy) && (decide ((↑(List.length c) : Int) = (0 : Int)) || !sameOb d (List.set c (Int.toNat (0 : Int)) (IntKind.wrap IntKind.u32 (List.getD c (Int.toNat (0 : Int)) (RT.dflt RT.u32) + (1 : Int)))) m dr cr sy d c m dr cr sy)) = true → lenOb d c m dr cr sy) → (!sameOb (owD (SI.val k % (6 : Int)) d) (owC (SI.val k % (6 : Int)) c) (owM (SI.val k % (6 : Int)) m) (owR (SI.val k % (6 : Int)) dr) (owQ (SI.val k % (6 : Int)) cr) (owS (SI.val k % (6 : Int)) sy) d c m dr cr sy && !sameOb d c m dr cr sy (owD (SI.val k % (6 : Int)) d) (owC (SI.val k % (6 : Int)) c) (owM (SI.val k % (6 : Int)) m) (owR (SI.val k % (6 : Int)) dr) (owQ (SI.val k % (6 : Int)) cr) (owS (SI.val k % (6 : Int)) sy) && (decide ((↑(List.length c) : Int) = (0 : Int)) || !sameOb d (List.set c (Int.toNat (0 : Int)) (IntKind.wrap IntKind.u32 (List.getD c (Int.toNat (0 : Int)) (RT.dflt RT.u32) + (1 : Int)))) m dr cr sy d c m dr cr sy) && sameOb d c m dr cr sy d c m dr cr sy) = true)))))))) ∧ (decide ((0 : Int) < (↑(List.length c) : Int)) = false → lenOb (owD (SI.val k % (6 : Int)) d) (owC (SI.val k % (6 : Int)) c) (owM (SI.val k % (6 : Int)) m) (owR (SI.val k % (6 : Int)) dr) (owQ (SI.val k % (6 : Int)) cr) (owS (SI.val k % (6 : Int)) sy) ∧ (lenOb (owD (SI.val k % (6 : Int)) d) (owC (SI.val k % (6 : Int)) c) (owM (SI.val k % (6 : Int)) m) (owR (SI.val k % (6 : Int)) dr) (owQ (SI.val k % (6 : Int)) cr) (owS (SI.val k % (6 : Int)) sy) → ((!sameOb (owD (SI.val k % (6 : Int)) d) (owC (SI.val k % (6 : Int)) c) (owM (SI.val k % (6 : Int)) m) (owR (SI.val k % (6 : Int)) dr) (owQ (SI.val k % (6 : Int)) cr) (owS (SI.val k % (6 : Int)) sy) d c m dr cr sy) = true → lenOb d c m dr cr sy) ∧ (((!sameOb (owD (SI.val k % (6 : Int)) d) (owC (SI.val k % (6 : Int)) c) (owM (SI.val k % (6 : Int)) m) (owR (SI.val k % (6 : Int)) dr) (owQ (SI.val k % (6 : Int)) cr) (owS (SI.val k % (6 : Int)) sy) d c m dr cr sy) = true → lenOb d c m dr cr sy) → ((!sameOb (owD (SI.val k % (6 : Int)) d) (owC (SI.val k % (6 : Int)) c) (owM (SI.val k % (6 : Int)) m) (owR (SI.val k % (6 : Int)) dr) (owQ (SI.val k % (6 : Int)) cr) (owS (SI.val k % (6 : Int)) sy) d c m dr cr sy && !sameOb d c m dr cr sy (owD (SI.val k % (6 : Int)) d) (owC (SI.val k % (6 : Int)) c) (owM (SI.val k % (6 : Int)) m) (owR (SI.val k % (6 : Int)) dr) (owQ (SI.val k % (6 : Int)) cr) (owS (SI.val k % (6 : Int)) sy) && !decide ((↑(List.length c) : Int) = (0 : Int))) = true → lenOb d c m dr cr sy) ∧ (((!sameOb (owD (SI.val k % (6 : Int)) d) (owC (SI.val k % (6 : Int)) c) (owM (SI.val k % (6 : Int)) m) (owR (SI.val k % (6 : Int)) dr) (owQ (SI.val k % (6 : Int)) cr) (owS (SI.val k % (6 : Int)) sy) d c m dr cr sy && !sameOb d c m dr cr sy (owD (SI.val k % (6 : Int)) d) (owC (SI.val k % (6 : Int)) c) (owM (SI.val k % (6 : Int)) m) (owR (SI.val k % (6 : Int)) dr) (owQ (SI.val k % (6 : Int)) cr) (owS (SI.val k % (6 : Int)) sy) && !decide ((↑(List.length c) : Int) = (0 : Int))) = true → lenOb d c m dr cr sy) → ((!sameOb (owD (SI.val k % (6 : Int)) d) (owC (SI.val k % (6 : Int)) c) (owM (SI.val k % (6 : Int)) m) (owR (SI.val k % (6 : Int)) dr) (owQ (SI.val k % (6 : Int)) cr) (owS (SI.val k % (6 : Int)) sy) d c m dr cr sy && !sameOb d c m dr cr sy (owD (SI.val k % (6 : Int)) d) (owC (SI.val k % (6 : Int)) c) (owM (SI.val k % (6 : Int)) m) (owR (SI.val k % (6 : Int)) dr) (owQ (SI.val k % (6 : Int)) cr) (owS (SI.val k % (6 : Int)) sy) && (decide ((↑(List.length c) : Int) = (0 : Int)) || !sameOb d c m dr cr sy d c m dr cr sy)) = true → lenOb d c m dr cr sy) ∧ (((!sameOb (owD (SI.val k % (6 : Int)) d) (owC (SI.val k % (6 : Int)) c) (owM (SI.val k % (6 : Int)) m) (owR (SI.val k % (6 : Int)) dr) (owQ (SI.val k % (6 : Int)) cr) (owS (SI.val k % (6 : Int)) sy) d c m dr cr sy && !sameOb d c m dr cr sy (owD (SI.val k % (6 : Int)) d) (owC (SI.val k % (6 : Int)) c) (owM (SI.val k % (6 : Int)) m) (owR (SI.val k % (6 : Int)) dr) (owQ (SI.val k % (6 : Int)) cr) (owS (SI.val k % (6 : Int)) sy) && (decide ((↑(List.length c) : Int) = (0 : Int)) || !sameOb d c m dr cr sy d c m dr cr sy)) = true → lenOb d c m dr cr sy) → ((!sameOb (owD (SI.val k % (6 : Int)) d) (owC (SI.val k % (6 : Int)) c) (owM (SI.val k % (6 : Int)) m) (owR (SI.val k % (6 : Int)) dr) (owQ (SI.val k % (6 : Int)) cr) (owS (SI.val k % (6 : Int)) sy) d c m dr cr sy && !sameOb d c m dr cr sy (owD (SI.val k % (6 : Int)) d) (owC (SI.val k % (6 : Int)) c) (owM (SI.val k % (6 : Int)) m) (owR (SI.val k % (6 : Int)) dr) (owQ (SI.val k % (6 : Int)) cr) (owS (SI.val k % (6 : Int)) sy) && (decide ((↑(List.length c) : Int) = (0 : Int)) || !sameOb d c m dr cr sy d c m dr cr sy)) = true → lenOb d c m dr cr sy) ∧ (((!sameOb (owD (SI.val k % (6 : Int)) d) (owC (SI.val k % (6 : Int)) c) (owM (SI.val k % (6 : Int)) m) (owR (SI.val k % (6 : Int)) dr) (owQ (SI.val k % (6 : Int)) cr) (owS (SI.val k % (6 : Int)) sy) d c m dr cr sy && !sameOb d c m dr cr sy (owD (SI.val k % (6 : Int)) d) (owC (SI.val k % (6 : Int)) c) (owM (SI.val k % (6 : Int)) m) (owR (SI.val k % (6 : Int)) dr) (owQ (SI.val k % (6 : Int)) cr) (owS (SI.val k % (6 : Int)) sy) && (decide ((↑(List.length c) : Int) = (0 : Int)) || !sameOb d c m dr cr sy d c m dr cr sy)) = true → lenOb d c m dr cr sy) → (!sameOb (owD (SI.val k % (6 : Int)) d) (owC (SI.val k % (6 : Int)) c) (owM (SI.val k % (6 : Int)) m) (owR (SI.val k % (6 : Int)) dr) (owQ (SI.val k % (6 : Int)) cr) (owS (SI.val k % (6 : Int)) sy) d c m dr cr sy && !sameOb d c m dr cr sy (owD (SI.val k % (6 : Int)) d) (owC (SI.val k % (6 : Int)) c) (owM (SI.val k % (6 : Int)) m) (owR (SI.val k % (6 : Int)) dr) (owQ (SI.val k % (6 : Int)) cr) (owS (SI.val k % (6 : Int)) sy) && (decide ((↑(List.length c) : Int) = (0 : Int)) || !sameOb d c m dr cr sy d c m dr cr sy) && sameOb d c m dr cr sy d c m dr cr sy) = true))))))))))))) := by kernel_rfl
set_option maxHeartbeats 4000000 in
theorem cObjOwn : Con ea has (G7 ++ rest) 5 kObjOwn := by
  refine plain_mk Tryd.func5 109 (con := [(20, kfirst9), (17, kLight), (29, kCloneO), (30, kSameB), (21, kNumber), (31, kSameObB)]) ⟨cfirst9, cLight, cCloneO, cSameB, cNumber, cSameObB, trivial⟩ (fun hA hr hv => ?_) (by kernel_rfl) (by kernel_rfl) Tryd.ntmps5
  unfold kObjOwn at hr; split at hr
  · rename_i d c m dr cr sy k
    have := ret_ok hr; subst this
    refine ⟨_, [(2000021, jOwn d c m dr cr sy (k.val % 6))], rfl, rfl, (argObjOwn d c m dr cr sy k).mpr (by simp), rfl, (fun W R ρ0 own0 hown => noLoops (by kernel_rfl)), (runObjOwn rest d c m dr cr sy k).mpr ?_⟩
    clear hr
    have k1 := Int.emod_nonneg k.val (show (6 : Int) ≠ 0 by decide)
    have k2 := Int.emod_lt_of_pos k.val (show (0 : Int) < 6 by decide)
    refine ⟨by decide, fun _ => ⟨fun _ => rfl, fun h => ?_⟩⟩
    have h : lightB d c m dr cr sy 100 = false := by
      cases hl : lightB d c m dr cr sy 100 with
      | false => rfl
      | true => rw [hl] at h; cases h
    simp only [lightB, Bool.or_eq_false_iff, decide_eq_false_iff_not] at h
    have hL : lenOb d c m dr cr sy := ⟨by omega, by omega, by omega, by omega, by omega, by omega⟩
    have hL3 : lenOb d (c.set (Int.toNat 0) (IntKind.u32.wrap (c.getD (Int.toNat 0) RT.u32.dflt + 1))) m dr cr sy := ⟨by omega, by rw [List.length_set]; omega, by omega, by omega, by omega, by omega⟩
    have hset := set_ne d c m dr cr sy
    generalize k.val % 6 = q at *
    have hL2 : lenOb (owD q d) (owC q c) (owM q m) (owR q dr) (owQ q cr) (owS q sy) := by
      unfold owD owC owM owR owQ owS
      refine ⟨?_, ?_, ?_, ?_, ?_, ?_⟩ <;> split <;> (try simp only [List.length_append, List.length_singleton]) <;> omega
    obtain ⟨o1, o2⟩ := own_ne (d := d) (c := c) (m := m) (dr := dr) (cr := cr) (sy := sy) k1 k2
    have hs := same_self d c m dr cr sy
    simp only [hL, hL2, hL3, o1, o2, hs, true_and]
    refine fun _ _ => ⟨fun h => (by cases h), fun _ => ⟨⟨by decide, fun _ => ?_⟩, fun _ => ?_⟩⟩
    · rcases (show q = 0 ∨ q = 1 ∨ q = 2 ∨ q = 3 ∨ q = 4 ∨ q = 5 by omega) with h | h | h | h | h | h <;> subst h <;> simp [owD, owC, owM, owR, owQ, owS] <;> omega
    · refine ⟨fun hc => ?_, fun hc => ?_⟩
      · have hc := of_decide_eq_true hc
        have hne : ¬ (c.length : Int) = 0 := by omega
        have h5 := hset (by omega)
        simp at h5
        simp [hne]
        exact ⟨by omega, fun _ => ⟨by omega, fun _ => .inr h5⟩⟩
      · have hc := of_decide_eq_false hc
        have hne : (c.length : Int) = 0 := by omega
        simp [hne, hs]
  · cases hr
end
end Go.Proofs.YtbdfibaljoedpaaDoor

