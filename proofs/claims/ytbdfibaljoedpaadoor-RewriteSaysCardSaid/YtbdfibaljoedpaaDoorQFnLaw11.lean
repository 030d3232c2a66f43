/- Contracts that the proofs use. -/
import Derived.Test.YtbdfibaljoedpaaDoorQFnRw
import Derived.Test.YtbdfibaljoedpaaDoorQFnMk2
set_option linter.unusedVariables false
set_option linter.unusedSimpArgs false
namespace Go.Proofs.YtbdfibaljoedpaaDoor
open Go.RowKit Go.Sy Go.Fac
section
variable {ea : Int → Addr} {has : Int → Prop} {rest : List (Nat × SVal)}
theorem mark_and {w : Int} (h : 0 ≤ w ∧ w < 4294967296) : bits .and .u32 w 2147483648 = if w < 2147483648 then 0 else 2147483648 := by
  obtain ⟨n, rfl⟩ := Int.eq_ofNat_of_zero_le h.1
  have hn : n < 4294967296 := by omega
  have e : bits .and .u32 (n : Int) 2147483648 = IntKind.u32.wrap ((BitVec.ofInt 32 (n : Int) &&& BitVec.ofInt 32 2147483648).toNat : Nat) := rfl
  have e1 : BitVec.ofInt 32 2147483648 = BitVec.ofNat 32 (2 ^ 31) := by decide
  rw [e, BitVec.toNat_and, BitVec.ofInt_natCast, e1, BitVec.toNat_ofNat, BitVec.toNat_ofNat, Nat.mod_eq_of_lt (show n < 2 ^ 32 by omega), Nat.mod_eq_of_lt (show 2 ^ 31 < 2 ^ 32 by decide), Nat.and_comm]
  have e2 : 2 ^ 31 &&& n = if n < 2147483648 then 0 else 2147483648 := by
    have tb : n.testBit 31 = decide (¬ n < 2147483648) := by
      rw [Nat.testBit_eq_decide_div_mod_eq]
      congr 1
      simp only [eq_iff_iff]
      omega
    apply Nat.eq_of_testBit_eq
    intro i
    rw [Nat.testBit_and, Nat.testBit_two_pow]
    by_cases hi : 31 = i
    · subst hi
      rw [tb]
      by_cases hl : n < 2147483648
      · simp [hl]
      · rw [if_neg hl]; simp [hl]; decide
    · by_cases hl : n < 2147483648
      · simp [hl, hi]
      · rw [if_neg hl, decide_eq_false hi, show (2147483648 : Nat) = 2 ^ 31 by decide, Nat.testBit_two_pow, decide_eq_false hi]; rfl
  rw [e2]
  by_cases hl : n < 2147483648
  · rw [if_pos hl, if_pos (by omega)]; rfl
  · rw [if_neg hl, if_neg (by omega)]; rfl
theorem mark_andNot {w : Int} : bits .andNot .u32 w 2147483648 = w % 2147483648 := by
  have e : bits .andNot .u32 w 2147483648 = bits .and .u32 w 2147483647 := by
    have e1 : ~~~ BitVec.ofInt 32 2147483648 = BitVec.ofInt 32 2147483647 := by decide
    have a : bits .andNot .u32 w 2147483648 = IntKind.u32.wrap ((BitVec.ofInt 32 w &&& ~~~ BitVec.ofInt 32 2147483648).toNat : Nat) := rfl
    have b : bits .and .u32 w 2147483647 = IntKind.u32.wrap ((BitVec.ofInt 32 w &&& BitVec.ofInt 32 2147483647).toNat : Nat) := rfl
    rw [a, b, e1]
  rw [e]
  exact and_pow2 .u32 w 31 (by simp) (by decide)
theorem mark_or {x : Int} (h : 0 ≤ x ∧ x < 2147483648) : bits .or .u32 2147483648 x = 2147483648 + x :=
  u32_or_hi 31 2147483648 x (by decide) (by decide) (by decide) h.1 h.2 (by omega)
theorem backB_eq {w : Int} (h : 0 ≤ w ∧ w < 4294967296) : backB w = (!decide (w < 2147483648) && ofOk (w % 2147483648) && (decide (isaClass (ofF (w % 2147483648) 0).op = 2) || decide (isaClass (ofF (w % 2147483648) 0).op = 3))) := by
  unfold backB unmark
  rw [mark_and h, mark_andNot]
  have : decide ((if w < 2147483648 then (0 : Int) else 2147483648) = 0) = decide (w < 2147483648) := by
    by_cases hl : w < 2147483648
    · rw [if_pos hl]; simp [hl]
    · rw [if_neg hl]; simp [hl]
  rw [this]
def krOf : List SVal → Nat → Acc ORes := fun a n => match a with | [.int .u32 w, .int .u32 imm] => .ret ({ v := .tuple [.agg (ofF w.val imm.val).enc, .bool (.sym (ofOk w.val))] }) | _ => .fail "rOf"
theorem argrOf (w imm : SI) : (all (subL 134 none' [] deep [.int .u32 w, .int .u32 imm] [.int .u32 (.full w.val), .int .u32 (.full imm.val)])) = (
  SI.val w = SI.val w ∧ SI.val imm = SI.val imm) := by kernel_rfl
theorem runrOf (rest : List (Nat × SVal)) (w imm : SI) : (Tr.sat (plainQ (.tuple [.agg (ofF w.val imm.val).enc, .bool (.sym (ofOk w.val))])) (run (env (G7 ++ rest) [(64, krTwo), (63, krWord)]) [] (bodyOf Tryd.f80) (start [.int .u32 (.full w.val), .int .u32 (.full imm.val)] 38) (ends (env (G7 ++ rest) [(64, krTwo), (63, krWord)]) Tryd.f80.results.toList))) = (
  (isaTwo (SI.val w / (16777216 : Int)) = true → ((!wordOk (SI.val w / (16777216 : Int)) (SI.val w / (65536 : Int) % (256 : Int)) (SI.val w / (256 : Int) % (256 : Int)) (SI.val w % (256 : Int)) (SI.val imm)) = true → (0 : Int) = (ofF (SI.val w) (SI.val imm)).op ∧ (0 : Int) = (ofF (SI.val w) (SI.val imm)).a ∧ (0 : Int) = (ofF (SI.val w) (SI.val imm)).b ∧ (0 : Int) = (ofF (SI.val w) (SI.val imm)).c ∧ (0 : Int) = (ofF (SI.val w) (SI.val imm)).imm ∧ false = ofOk (SI.val w)) ∧ ((!wordOk (SI.val w / (16777216 : Int)) (SI.val w / (65536 : Int) % (256 : Int)) (SI.val w / (256 : Int) % (256 : Int)) (SI.val w % (256 : Int)) (SI.val imm)) = false → SI.val w / (16777216 : Int) = (ofF (SI.val w) (SI.val imm)).op ∧ SI.val w / (65536 : Int) % (256 : Int) = (ofF (SI.val w) (SI.val imm)).a ∧ SI.val w / (256 : Int) % (256 : Int) = (ofF (SI.val w) (SI.val imm)).b ∧ SI.val w % (256 : Int) = (ofF (SI.val w) (SI.val imm)).c ∧ SI.val imm = (ofF (SI.val w) (SI.val imm)).imm ∧ true = ofOk (SI.val w))) ∧ (isaTwo (SI.val w / (16777216 : Int)) = false → ((!wordOk (SI.val w / (16777216 : Int)) (SI.val w / (65536 : Int) % (256 : Int)) (SI.val w / (256 : Int) % (256 : Int)) (SI.val w % (256 : Int)) (0 : Int)) = true → (0 : Int) = (ofF (SI.val w) (SI.val imm)).op ∧ (0 : Int) = (ofF (SI.val w) (SI.val imm)).a ∧ (0 : Int) = (ofF (SI.val w) (SI.val imm)).b ∧ (0 : Int) = (ofF (SI.val w) (SI.val imm)).c ∧ (0 : Int) = (ofF (SI.val w) (SI.val imm)).imm ∧ false = ofOk (SI.val w)) ∧ ((!wordOk (SI.val w / (16777216 : Int)) (SI.val w / (65536 : Int) % (256 : Int)) (SI.val w / (256 : Int) % (256 : Int)) (SI.val w % (256 : Int)) (0 : Int)) = false → SI.val w / (16777216 : Int) = (ofF (SI.val w) (SI.val imm)).op ∧ SI.val w / (65536 : Int) % (256 : Int) = (ofF (SI.val w) (SI.val imm)).a ∧ SI.val w / (256 : Int) % (256 : Int) = (ofF (SI.val w) (SI.val imm)).b ∧ SI.val w % (256 : Int) = (ofF (SI.val w) (SI.val imm)).c ∧ (0 : Int) = (ofF (SI.val w) (SI.val imm)).imm ∧ true = ofOk (SI.val w)))) := by kernel_rfl
set_option maxHeartbeats 4000000 in
theorem crOf : Con ea has (G7 ++ rest) 80 krOf := by
  refine plain_mk Tryd.func80 38 (con := [(64, krTwo), (63, krWord)]) ⟨crTwo, crWord, trivial⟩ (fun hA hr hv => ?_) (by kernel_rfl) (by kernel_rfl) Tryd.ntmps80
  unfold krOf at hr; split at hr
  · rename_i w imm
    have := ret_ok hr; subst this
    refine ⟨_, [], rfl, rfl, (argrOf w imm).mpr (by simp), rfl, (fun W R ρ0 own0 hown => noLoops (by kernel_rfl)), (runrOf rest w imm).mpr ?_⟩
    clear hr
    clear hA hv
    generalize w.val = w
    generalize imm.val = imm
    have e : wordOk (w / 16777216) (w / 65536 % 256) (w / 256 % 256) (w % 256) 0 = ofOk w := rfl
    refine ⟨fun h => ?_, fun h => ?_⟩
    · rw [ofOk_imm h, e]; cases hk : ofOk w <;> simp [ofF, hk, ofImm, h]
    · rw [e]; cases hk : ofOk w <;> simp [ofF, hk, ofImm, h]
  · cases hr
def krBack : List SVal → Nat → Acc ORes := fun a n => match a with | [.int .u32 w] => .ret ({ v := .tuple [.agg (backI w.val).enc, .bool (.sym (backB w.val))] }) | _ => .fail "rBack"
theorem argrBack (w : SI) : (all (subL 134 none' [] deep [.int .u32 w] [.int .u32 (.full w.val)])) = (
  SI.val w = SI.val w) := by kernel_rfl
theorem runrBack (rest : List (Nat × SVal)) (w : SI) : (Tr.sat (plainQ (.tuple [.agg (backI w.val).enc, .bool (.sym (backB w.val))])) (run (env (G7 ++ rest) [(80, krOf), (19, krClass)]) [] (bodyOf Tryd.f39) (start [.int .u32 (.full w.val)] 31) (ends (env (G7 ++ rest) [(80, krOf), (19, krClass)]) Tryd.f39.results.toList))) = (
  (decide (SI.val w < (2147483648 : Int)) = true → (0 : Int) = (backI (SI.val w)).op ∧ (0 : Int) = (backI (SI.val w)).a ∧ (0 : Int) = (backI (SI.val w)).b ∧ (0 : Int) = (backI (SI.val w)).c ∧ (0 : Int) = (backI (SI.val w)).imm ∧ false = backB (SI.val w)) ∧ (decide (SI.val w < (2147483648 : Int)) = false → ((!ofOk (IntKind.wrap IntKind.u32 (SI.val w - (2147483648 : Int))) || !decide (isaClass (ofF (IntKind.wrap IntKind.u32 (SI.val w - (2147483648 : Int))) (0 : Int)).op = (2 : Int)) && !decide (isaClass (ofF (IntKind.wrap IntKind.u32 (SI.val w - (2147483648 : Int))) (0 : Int)).op = (3 : Int))) = true → (0 : Int) = (backI (SI.val w)).op ∧ (0 : Int) = (backI (SI.val w)).a ∧ (0 : Int) = (backI (SI.val w)).b ∧ (0 : Int) = (backI (SI.val w)).c ∧ (0 : Int) = (backI (SI.val w)).imm ∧ false = backB (SI.val w)) ∧ ((!ofOk (IntKind.wrap IntKind.u32 (SI.val w - (2147483648 : Int))) || !decide (isaClass (ofF (IntKind.wrap IntKind.u32 (SI.val w - (2147483648 : Int))) (0 : Int)).op = (2 : Int)) && !decide (isaClass (ofF (IntKind.wrap IntKind.u32 (SI.val w - (2147483648 : Int))) (0 : Int)).op = (3 : Int))) = false → (ofF (IntKind.wrap IntKind.u32 (SI.val w - (2147483648 : Int))) (0 : Int)).op = (backI (SI.val w)).op ∧ (ofF (IntKind.wrap IntKind.u32 (SI.val w - (2147483648 : Int))) (0 : Int)).a = (backI (SI.val w)).a ∧ (ofF (IntKind.wrap IntKind.u32 (SI.val w - (2147483648 : Int))) (0 : Int)).b = (backI (SI.val w)).b ∧ (ofF (IntKind.wrap IntKind.u32 (SI.val w - (2147483648 : Int))) (0 : Int)).c = (backI (SI.val w)).c ∧ (ofF (IntKind.wrap IntKind.u32 (SI.val w - (2147483648 : Int))) (0 : Int)).imm = (backI (SI.val w)).imm ∧ true = backB (SI.val w)))) := by kernel_rfl
set_option maxHeartbeats 4000000 in
theorem crBack : Con ea has (G7 ++ rest) 39 krBack := by
  refine plain_mk Tryd.func39 31 (con := [(80, krOf), (19, krClass)]) ⟨crOf, crClass, trivial⟩ (fun hA hr hv => ?_) (by kernel_rfl) (by kernel_rfl) Tryd.ntmps39
  unfold krBack at hr; split at hr
  · rename_i w
    have := ret_ok hr; subst this
    refine ⟨_, [], rfl, rfl, (argrBack w).mpr (by simp), rfl, (fun W R ρ0 own0 hown => noLoops (by kernel_rfl)), (runrBack rest w).mpr ?_⟩
    clear hr
    have hw := DenA.i0 hA
    have h1 := hw.lo; have h2 := hw.hi
    simp only [kmin, kmax] at h1 h2
    clear hA hv hw
    generalize w.val = w at *
    have hb := backB_eq (w := w) ⟨h1, by omega⟩
    have hu : unmark w = w % 2147483648 := mark_andNot
    refine ⟨fun h => ?_, fun h => ?_⟩
    · rw [h] at hb
      simp at hb
      unfold backI; rw [hb]; exact ⟨rfl, rfl, rfl, rfl, rfl, rfl⟩
    · have hl := of_decide_eq_false h
      have hw : IntKind.u32.wrap (w - 2147483648) = w % 2147483648 := by rw [IntKind.wrap_u32]; omega
      rw [hw]
      rw [h] at hb
      unfold backI
      rw [hu]
      refine ⟨fun g => ?_, fun g => ?_⟩
      · have : backB w = false := by
          rw [hb]
          cases h3 : ofOk (w % 2147483648) <;> rw [h3] at g <;> simp at g ⊢
          exact g
        rw [this]; exact ⟨rfl, rfl, rfl, rfl, rfl, rfl⟩
      · have : backB w = true := by
          rw [hb]
          cases h3 : ofOk (w % 2147483648) <;> rw [h3] at g <;> simp at g ⊢
          by_cases h4 : isaClass (ofF (w % 2147483648) 0).op = 2
          · exact .inl h4
          · exact .inr (g h4)
        rw [this]; exact ⟨rfl, rfl, rfl, rfl, rfl, rfl⟩
  · cases hr
def kSameInstr : List SVal → Nat → Acc ORes := fun l n => match l with
  | [x, y] => match x with
    | .agg [.int .i64 a, .int .i64 b, .int .i64 c, .int .i64 d, .int .u32 e] => match y with
      | .agg [.int .i64 a', .int .i64 b', .int .i64 c', .int .i64 d', .int .u32 e'] => .ret ({ v := .bool (.sym (decide ((⟨a.val, b.val, c.val, d.val, e.val⟩ : In5) = ⟨a'.val, b'.val, c'.val, d'.val, e'.val⟩))) })
      | _ => .fail "SameInstr"
    | _ => .fail "SameInstr"
  | _ => .fail "SameInstr"
theorem argSameInstr (a b c d e a' b' c' d' e' : SI) : (all (subL 134 none' [] deep [.agg [.int .i64 a, .int .i64 b, .int .i64 c, .int .i64 d, .int .u32 e], .agg [.int .i64 a', .int .i64 b', .int .i64 c', .int .i64 d', .int .u32 e']] [.agg [.int .i64 (.full a.val), .int .i64 (.full b.val), .int .i64 (.full c.val), .int .i64 (.full d.val), .int .u32 (.full e.val)], .agg [.int .i64 (.full a'.val), .int .i64 (.full b'.val), .int .i64 (.full c'.val), .int .i64 (.full d'.val), .int .u32 (.full e'.val)]])) = (
  SI.val a = SI.val a ∧ SI.val b = SI.val b ∧ SI.val c = SI.val c ∧ SI.val d = SI.val d ∧ SI.val e = SI.val e ∧ SI.val a' = SI.val a' ∧ SI.val b' = SI.val b' ∧ SI.val c' = SI.val c' ∧ SI.val d' = SI.val d' ∧ SI.val e' = SI.val e') := by kernel_rfl
theorem runSameInstr (rest : List (Nat × SVal)) (a b c d e a' b' c' d' e' : SI) : (Tr.sat (plainQ (.bool (.sym (decide ((⟨a.val, b.val, c.val, d.val, e.val⟩ : In5) = ⟨a'.val, b'.val, c'.val, d'.val, e'.val⟩))))) (run (env (G7 ++ rest) []) [] (bodyOf Tryd.f40) (start [.agg [.int .i64 (.full a.val), .int .i64 (.full b.val), .int .i64 (.full c.val), .int .i64 (.full d.val), .int .u32 (.full e.val)], .agg [.int .i64 (.full a'.val), .int .i64 (.full b'.val), .int .i64 (.full c'.val), .int .i64 (.full d'.val), .int .u32 (.full e'.val)]] 38) (ends (env (G7 ++ rest) []) Tryd.f40.results.toList))) = (
  (decide (SI.val a = SI.val a') && decide (SI.val b = SI.val b') && decide (SI.val c = SI.val c') && decide (SI.val d = SI.val d') && decide (SI.val e = SI.val e')) = decide (In5.mk (SI.val a) (SI.val b) (SI.val c) (SI.val d) (SI.val e) = In5.mk (SI.val a') (SI.val b') (SI.val c') (SI.val d') (SI.val e'))) := by kernel_rfl
theorem cSameInstr : Con ea has (G7 ++ rest) 40 kSameInstr := by
  refine plain_mk Tryd.func40 38 (con := []) trivial (fun hA hr hv => ?_) (by kernel_rfl) (by kernel_rfl) Tryd.ntmps40
  unfold kSameInstr at hr
  split at hr
  · split at hr
    · rename_i a b c d e
      split at hr
      · rename_i a' b' c' d' e'
        have := ret_ok hr; subst this
        refine ⟨_, [], rfl, rfl, (argSameInstr a b c d e a' b' c' d' e').mpr (by simp), rfl, (fun W R ρ0 own0 hown => noLoops (by kernel_rfl)), (runSameInstr rest a b c d e a' b' c' d' e').mpr ?_⟩
        rw [Bool.eq_iff_iff]
        simp [In5.mk.injEq, and_assoc]
      · cases hr
    · cases hr
  · cases hr
def roArgs : List SVal → Bool
  | [.agg [.ro _ _, .ro _ _, .ro _ _, .ro _ _, .ro _ _, .ro _ _]] => true
  | _ => false
def pickRo (k1 k2 : List SVal → Nat → Acc ORes) : List SVal → Nat → Acc ORes := fun a n => match roArgs a with
  | true => k1 a n
  | false => k2 a n
theorem pickRo_ok {f : Nat} {gl : List (Nat × SVal)} {k1 k2 : List SVal → Nat → Acc ORes} (h1 : Con ea has gl f k1) (h2 : Con ea has gl f k2) : Con ea has gl f (pickRo k1 k2) where
  call := h1.call
  does {W R ρ h args vs next r l l'} M hA hr hv hn := by
    unfold pickRo at hr
    cases ha : roArgs args with
    | true => rw [ha] at hr; exact h1.does M hA hr hv hn
    | false => rw [ha] at hr; exact h2.does M hA hr hv hn
abbrev kDoF := pickRo kDo (frz [shOb] kDo)
theorem cDoF : Con ea has (G7 ++ rest) 33 kDoF := pickRo_ok cDo (frz_ok cDo _)
abbrev kNeedsF := pickRo kNeeds (frz [shOb] kNeeds)
theorem cNeedsF : Con ea has (G7 ++ rest) 34 kNeedsF := pickRo_ok cNeeds (frz_ok cNeeds _)
def kfirst11 : List SVal → Nat → Acc ORes := fun a n => match a with | [] => .ret ({ v := .bool (.lit true) }) | _ => .fail "first11"
def e0 : FErr := doE (nilR .u32) (nilR .u32) (nilR .u8) (nilR .rel) (nilR .rel) (nilR .sym)
def e5 : FErr := doE noW (saysA [5]).code (saysA [5]).map (nilR .rel) (saysA [5]).cr (saysA [5]).sy
def cut11 (c1 l1 : List Int) (e1 : FErr) (c2 : List Int) (e2 : FErr) : LSum := cutL { fr := [(1, .ptr 0 0), (2, .ro .i64 l1), (3, .err e1), (4, .ptr 1 0), (6, .err e2)], hp := [(0, some (.cells [.any, .ro .u32 c1, .any, .any, .any, .any])), (1, some (.cells [.any, .ro .u32 c2, .any, .any, .any, .any]))], next := 2, sz := 43 }
theorem runfirst11 (rest : List (Nat × SVal)) (c1 l1 : List Int) (e1 : FErr) (c2 : List Int) (e2 : FErr) : (Tr.sat (plainQ (.bool (.lit true))) (run (env (G7 ++ rest) [(33, kDoF), (57, kSays)]) [(1000002, cut11 c1 l1 e1 c2 e2)] (bodyOf Tryd.f32) (start [] 43) (ends (env (G7 ++ rest) [(33, kDoF), (57, kSays)]) Tryd.f32.results.toList))) = (
  List.length [(5 : Int)] ≤ (10000 : Nat) ∧ (List.length [(5 : Int)] ≤ (10000 : Nat) → (doT (doE (@List.nil (RT.ty RT.u32)) (@List.nil (RT.ty RT.u32)) (@List.nil (RT.ty RT.u8)) (@List.nil (RT.ty RT.rel)) (@List.nil (RT.ty RT.rel)) (@List.nil (RT.ty RT.sym))) (@List.nil (RT.ty RT.u32)) (@List.nil (RT.ty RT.u8)) = l1 ∧ doE (@List.nil (RT.ty RT.u32)) (@List.nil (RT.ty RT.u32)) (@List.nil (RT.ty RT.u8)) (@List.nil (RT.ty RT.rel)) (@List.nil (RT.ty RT.rel)) (@List.nil (RT.ty RT.sym)) = e1 ∧ doE noW (saysA [(5 : Int)]).code (saysA [(5 : Int)]).map (nilR RT.rel) (saysA [(5 : Int)]).cr (saysA [(5 : Int)]).sy = e2 ∧ doC (doE (@List.nil (RT.ty RT.u32)) (@List.nil (RT.ty RT.u32)) (@List.nil (RT.ty RT.u8)) (@List.nil (RT.ty RT.rel)) (@List.nil (RT.ty RT.rel)) (@List.nil (RT.ty RT.sym))) (@List.nil (RT.ty RT.u32)) (@List.nil (RT.ty RT.u8)) = c1 ∧ doC (doE noW (saysA [(5 : Int)]).code (saysA [(5 : Int)]).map (nilR RT.rel) (saysA [(5 : Int)]).cr (saysA [(5 : Int)]).sy) (saysA [(5 : Int)]).code (saysA [(5 : Int)]).map = c2) ∧ (doT (doE (@List.nil (RT.ty RT.u32)) (@List.nil (RT.ty RT.u32)) (@List.nil (RT.ty RT.u8)) (@List.nil (RT.ty RT.rel)) (@List.nil (RT.ty RT.rel)) (@List.nil (RT.ty RT.sym))) (@List.nil (RT.ty RT.u32)) (@List.nil (RT.ty RT.u8)) = l1 ∧ doE (@List.nil (RT.ty RT.u32)) (@List.nil (RT.ty RT.u32)) (@List.nil (RT.ty RT.u8)) (@List.nil (RT.ty RT.rel)) (@List.nil (RT.ty RT.rel)) (@List.nil (RT.ty RT.sym)) = e1 ∧ doE noW (saysA [(5 : Int)]).code (saysA [(5 : Int)]).map (nilR RT.rel) (saysA [(5 : Int)]).cr (saysA [(5 : Int)]).sy = e2 ∧ doC (doE (@List.nil (RT.ty RT.u32)) (@List.nil (RT.ty RT.u32)) (@List.nil (RT.ty RT.u8)) (@List.nil (RT.ty RT.rel)) (@List.nil (RT.ty RT.rel)) (@List.nil (RT.ty RT.sym))) (@List.nil (RT.ty RT.u32)) (@List.nil (RT.ty RT.u8)) = c1 ∧ doC (doE noW (saysA [(5 : Int)]).code (saysA [(5 : Int)]).map (nilR RT.rel) (saysA [(5 : Int)]).cr (saysA [(5 : Int)]).sy) (saysA [(5 : Int)]).code (saysA [(5 : Int)]).map = c2 → (!FErr.isErr e1 && !FErr.isErr e2 && decide ((↑(List.length c1) : Int) = (0 : Int)) && decide ((↑(List.length l1) : Int) = (1 : Int)) && decide ((↑(List.length c2) : Int) = (6 : Int))) = true))) := by kernel_rfl
theorem cfirst11 : Con ea has (G7 ++ rest) 32 kfirst11 := by
  refine plain_mk Tryd.func32 43 (con := [(33, kDoF), (57, kSays)]) ⟨cDoF, cSays, trivial⟩ (fun hA hr hv => ?_) (by kernel_rfl) (by kernel_rfl) Tryd.ntmps32
  unfold kfirst11 at hr
  split at hr
  · have := ret_ok hr; subst this
    refine ⟨[], [(1000002, cut11 (doC e0 [] []) (doT e0 [] []) e0 (doC e5 (saysA [5]).code (saysA [5]).map) e5)], rfl, rfl, (show all (subL 134 none' [] deep [] []) from trivial), rfl, (fun W R ρ0 own0 hown => noLoops (by kernel_rfl)), (runfirst11 rest _ _ _ _ _).mpr ?_⟩
    have g1 : doE [] [] [] [] [] [] = e0 := rfl
    have g2 : doE noW (saysA [5]).code (saysA [5]).map (nilR .rel) (saysA [5]).cr (saysA [5]).sy = e5 := rfl
    have g3 : (!e0.isErr && !e5.isErr && decide (((doC e0 [] []).length : Int) = 0) && decide (((doT e0 [] []).length : Int) = 1) && decide (((doC e5 (saysA [5]).code (saysA [5]).map).length : Int) = 6)) = true := by decide +kernel
    rw [g1, g2]
    exact ⟨by decide, fun _ => ⟨⟨rfl, rfl, rfl, rfl, rfl⟩, fun _ => g3⟩⟩
  · cases hr
theorem word_marked {o a b : Int} (ho : 0 ≤ o ∧ o < 128) (ha : 0 ≤ a ∧ a < 16) (hb : 0 ≤ b ∧ b < 16) : bits .or .u32 (bits .or .u32 (bits .or .u32 2147483648 (o * 16777216)) (a * 65536)) (b * 256) = 2147483648 + (o * 16777216 + a * 65536 + b * 256) := by
  rw [mark_or ⟨by omega, by omega⟩, u32_or_hi 24 (2147483648 + o * 16777216) (a * 65536) (by omega) (by show _ % 16777216 = 0; omega) (by show _ < 4294967296; omega) (by omega) (by show _ < 16777216; omega) (by show _ < 4294967296; omega),
    u32_or_hi 16 (2147483648 + o * 16777216 + a * 65536) (b * 256) (by omega) (by show _ % 65536 = 0; omega) (by show _ < 4294967296; omega) (by omega) (by show _ < 65536; omega) (by show _ < 4294967296; omega)]
  omega
theorem class_2 {o : Int} (h : isaClass o = 2) : 32 ≤ o ∧ o ≤ 44 := by
  unfold isaClass at h; split at h
  · cases h
  · split at h
    · assumption
    · split at h
      · cases h
      · split at h <;> cases h
theorem class_3 {o : Int} (h : isaClass o = 3) : 64 ≤ o ∧ o ≤ 67 := by
  unfold isaClass at h; split at h
  · cases h
  · split at h
    · cases h
    · split at h
      · assumption
      · split at h <;> cases h
theorem marked_none {w : Int} : backB (w % 2147483648) = false := by
  rw [backB_eq ⟨by omega, by omega⟩, decide_eq_true (by omega : w % 2147483648 < 2147483648)]; rfl
theorem marked_is {o a b : Int} (ho : 0 ≤ o ∧ o < 128) (ha : 0 ≤ a ∧ a < 16) (hb : 0 ≤ b ∧ b < 16) (h : backB (2147483648 + (o * 16777216 + a * 65536 + b * 256)) = true) :
    backI (2147483648 + (o * 16777216 + a * 65536 + b * 256)) = ⟨o, a, b, 0, 0⟩ ∧ ((32 ≤ o ∧ o ≤ 44) ∨ (64 ≤ o ∧ o ≤ 67)) := by
  have hu : unmark (2147483648 + (o * 16777216 + a * 65536 + b * 256)) = o * 16777216 + a * 65536 + b * 256 := by
    have : unmark (2147483648 + (o * 16777216 + a * 65536 + b * 256)) = _ := mark_andNot
    rw [this]; omega
  have e := h
  unfold backB at e
  rw [hu, Bool.and_eq_true, Bool.and_eq_true] at e
  have hk := e.1.2
  have hc := e.2
  have e1 : (o * 16777216 + a * 65536 + b * 256) / 16777216 = o := by omega
  have e2 : (o * 16777216 + a * 65536 + b * 256) / 65536 % 256 = a := by omega
  have e3 : (o * 16777216 + a * 65536 + b * 256) / 256 % 256 = b := by omega
  have e4 : (o * 16777216 + a * 65536 + b * 256) % 256 = 0 := by omega
  have hi : ofF (o * 16777216 + a * 65536 + b * 256) 0 = ⟨o, a, b, 0, 0⟩ := by
    unfold ofF
    rw [if_pos hk, e1, e2, e3, e4]
    have : ofImm (o * 16777216 + a * 65536 + b * 256) 0 = 0 := by unfold ofImm; split <;> rfl
    rw [this]
  refine ⟨by unfold backI; rw [if_pos h, hu, hi], ?_⟩
  rw [hi, Bool.or_eq_true, decide_eq_true_eq, decide_eq_true_eq] at hc
  exact hc.imp class_2 class_3
def kRewriteMarks : List SVal → Nat → Acc ORes := fun a n => match a with | [.int .i64 op, .int .i64 a, .int .i64 b, .int .u32 w] => .ret ({ v := .bool (.lit true) }) | _ => .fail "RewriteMarks"
theorem argRewriteMarks (op a b w : SI) : (all (subL 134 none' [] deep [.int .i64 op, .int .i64 a, .int .i64 b, .int .u32 w] [.int .i64 (.full op.val), .int .i64 (.full a.val), .int .i64 (.full b.val), .int .u32 (.full w.val)])) = (
  SI.val op = SI.val op ∧ SI.val a = SI.val a ∧ SI.val b = SI.val b ∧ SI.val w = SI.val w) := by kernel_rfl
theorem runRewriteMarks (rest : List (Nat × SVal)) (op a b w : SI) : (Tr.sat (plainQ (.bool (.lit true))) (run (env (G7 ++ rest) [(32, kfirst11), (22, kOp), (39, krBack), (38, kBack), (40, kSameInstr)]) [] (bodyOf Tryd.f8) (start [.int .i64 (.full op.val), .int .i64 (.full a.val), .int .i64 (.full b.val), .int .u32 (.full w.val)] 117) (ends (env (G7 ++ rest) [(32, kfirst11), (22, kOp), (39, krBack), (38, kBack), (40, kSameInstr)]) Tryd.f8.results.toList))) = (
  (backB (bits BinOp.or IntKind.u32 (bits BinOp.or IntKind.u32 (bits BinOp.or IntKind.u32 (2147483648 : Int) (SI.val op % (128 : Int) * (16777216 : Int))) (SI.val a % (16 : Int) * (65536 : Int))) (SI.val b % (16 : Int) * (256 : Int))) == backB (bits BinOp.or IntKind.u32 (bits BinOp.or IntKind.u32 (bits BinOp.or IntKind.u32 (2147483648 : Int) (SI.val op % (128 : Int) * (16777216 : Int))) (SI.val a % (16 : Int) * (65536 : Int))) (SI.val b % (16 : Int) * (256 : Int))) && !backB (SI.val w % (2147483648 : Int)) && (!backB (bits BinOp.or IntKind.u32 (bits BinOp.or IntKind.u32 (bits BinOp.or IntKind.u32 (2147483648 : Int) (SI.val op % (128 : Int) * (16777216 : Int))) (SI.val a % (16 : Int) * (65536 : Int))) (SI.val b % (16 : Int) * (256 : Int))) || decide (In5.mk (backI (bits BinOp.or IntKind.u32 (bits BinOp.or IntKind.u32 (bits BinOp.or IntKind.u32 (2147483648 : Int) (SI.val op % (128 : Int) * (16777216 : Int))) (SI.val a % (16 : Int) * (65536 : Int))) (SI.val b % (16 : Int) * (256 : Int)))).op (backI (bits BinOp.or IntKind.u32 (bits BinOp.or IntKind.u32 (bits BinOp.or IntKind.u32 (2147483648 : Int) (SI.val op % (128 : Int) * (16777216 : Int))) (SI.val a % (16 : Int) * (65536 : Int))) (SI.val b % (16 : Int) * (256 : Int)))).a (backI (bits BinOp.or IntKind.u32 (bits BinOp.or IntKind.u32 (bits BinOp.or IntKind.u32 (2147483648 : Int) (SI.val op % (128 : Int) * (16777216 : Int))) (SI.val a % (16 : Int) * (65536 : Int))) (SI.val b % (16 : Int) * (256 : Int)))).b (backI (bits BinOp.or IntKind.u32 (bits BinOp.or IntKind.u32 (bits BinOp.or IntKind.u32 (2147483648 : Int) (SI.val op % (128 : Int) * (16777216 : Int))) (SI.val a % (16 : Int) * (65536 : Int))) (SI.val b % (16 : Int) * (256 : Int)))).c (backI (bits BinOp.or IntKind.u32 (bits BinOp.or IntKind.u32 (bits BinOp.or IntKind.u32 (2147483648 : Int) (SI.val op % (128 : Int) * (16777216 : Int))) (SI.val a % (16 : Int) * (65536 : Int))) (SI.val b % (16 : Int) * (256 : Int)))).imm = In5.mk (backI (bits BinOp.or IntKind.u32 (bits BinOp.or IntKind.u32 (bits BinOp.or IntKind.u32 (2147483648 : Int) (SI.val op % (128 : Int) * (16777216 : Int))) (SI.val a % (16 : Int) * (65536 : Int))) (SI.val b % (16 : Int) * (256 : Int)))).op (backI (bits BinOp.or IntKind.u32 (bits BinOp.or IntKind.u32 (bits BinOp.or IntKind.u32 (2147483648 : Int) (SI.val op % (128 : Int) * (16777216 : Int))) (SI.val a % (16 : Int) * (65536 : Int))) (SI.val b % (16 : Int) * (256 : Int)))).a (backI (bits BinOp.or IntKind.u32 (bits BinOp.or IntKind.u32 (bits BinOp.or IntKind.u32 (2147483648 : Int) (SI.val op % (128 : Int) * (16777216 : Int))) (SI.val a % (16 : Int) * (65536 : Int))) (SI.val b % (16 : Int) * (256 : Int)))).b (backI (bits BinOp.or IntKind.u32 (bits BinOp.or IntKind.u32 (bits BinOp.or IntKind.u32 (2147483648 : Int) (SI.val op % (128 : Int) * (16777216 : Int))) (SI.val a % (16 : Int) * (65536 : Int))) (SI.val b % (16 : Int) * (256 : Int)))).c (backI (bits BinOp.or IntKind.u32 (bits BinOp.or IntKind.u32 (bits BinOp.or IntKind.u32 (2147483648 : Int) (SI.val op % (128 : Int) * (16777216 : Int))) (SI.val a % (16 : Int) * (65536 : Int))) (SI.val b % (16 : Int) * (256 : Int)))).imm) && decide (In5.mk (backI (bits BinOp.or IntKind.u32 (bits BinOp.or IntKind.u32 (bits BinOp.or IntKind.u32 (2147483648 : Int) (SI.val op % (128 : Int) * (16777216 : Int))) (SI.val a % (16 : Int) * (65536 : Int))) (SI.val b % (16 : Int) * (256 : Int)))).op (backI (bits BinOp.or IntKind.u32 (bits BinOp.or IntKind.u32 (bits BinOp.or IntKind.u32 (2147483648 : Int) (SI.val op % (128 : Int) * (16777216 : Int))) (SI.val a % (16 : Int) * (65536 : Int))) (SI.val b % (16 : Int) * (256 : Int)))).a (backI (bits BinOp.or IntKind.u32 (bits BinOp.or IntKind.u32 (bits BinOp.or IntKind.u32 (2147483648 : Int) (SI.val op % (128 : Int) * (16777216 : Int))) (SI.val a % (16 : Int) * (65536 : Int))) (SI.val b % (16 : Int) * (256 : Int)))).b (backI (bits BinOp.or IntKind.u32 (bits BinOp.or IntKind.u32 (bits BinOp.or IntKind.u32 (2147483648 : Int) (SI.val op % (128 : Int) * (16777216 : Int))) (SI.val a % (16 : Int) * (65536 : Int))) (SI.val b % (16 : Int) * (256 : Int)))).c (backI (bits BinOp.or IntKind.u32 (bits BinOp.or IntKind.u32 (bits BinOp.or IntKind.u32 (2147483648 : Int) (SI.val op % (128 : Int) * (16777216 : Int))) (SI.val a % (16 : Int) * (65536 : Int))) (SI.val b % (16 : Int) * (256 : Int)))).imm = In5.mk (opL (SI.val op % (128 : Int)) [SI.val a % (16 : Int), SI.val b % (16 : Int)]).i.op (opL (SI.val op % (128 : Int)) [SI.val a % (16 : Int), SI.val b % (16 : Int)]).i.a (opL (SI.val op % (128 : Int)) [SI.val a % (16 : Int), SI.val b % (16 : Int)]).i.b (opL (SI.val op % (128 : Int)) [SI.val a % (16 : Int), SI.val b % (16 : Int)]).i.c (opL (SI.val op % (128 : Int)) [SI.val a % (16 : Int), SI.val b % (16 : Int)]).i.imm) && (decide ((32 : Int) ≤ SI.val op % (128 : Int)) && decide (SI.val op % (128 : Int) ≤ (44 : Int)) || decide ((64 : Int) ≤ SI.val op % (128 : Int)) && decide (SI.val op % (128 : Int) ≤ (67 : Int))))) = true) := by kernel_rfl
set_option maxHeartbeats 4000000 in
theorem cRewriteMarks : Con ea has (G7 ++ rest) 8 kRewriteMarks := by
  refine plain_mk Tryd.func8 117 (con := [(32, kfirst11), (22, kOp), (39, krBack), (38, kBack), (40, kSameInstr)]) ⟨cfirst11, cOp, crBack, cBack, cSameInstr, trivial⟩ (fun hA hr hv => ?_) (by kernel_rfl) (by kernel_rfl) Tryd.ntmps8
  unfold kRewriteMarks at hr; split at hr
  · rename_i op a b w
    have := ret_ok hr; subst this
    refine ⟨_, [], rfl, rfl, (argRewriteMarks op a b w).mpr (by simp), rfl, (fun W R ρ0 own0 hown => noLoops (by kernel_rfl)), (runRewriteMarks rest op a b w).mpr ?_⟩
    clear hr
    have hw := DenA.i0 hA
    clear hA hv
    generalize op.val = op
    generalize a.val = a
    generalize b.val = b
    generalize w.val = w
    have ho : 0 ≤ op % 128 ∧ op % 128 < 128 := by omega
    have ha : 0 ≤ a % 16 ∧ a % 16 < 16 := by omega
    have hb : 0 ≤ b % 16 ∧ b % 16 < 16 := by omega
    have hn := marked_none (w := w)
    have hm := marked_is ho ha hb
    rw [word_marked ho ha hb, hn]
    generalize 2147483648 + (op % 128 * 16777216 + a % 16 * 65536 + b % 16 * 256) = W at hm ⊢
    cases hW : backB W with
    | false => rfl
    | true =>
      obtain ⟨hi, hr⟩ := hm hW
      rw [hi]
      have : ((decide (32 ≤ op % 128) && decide (op % 128 ≤ 44)) || (decide (64 ≤ op % 128) && decide (op % 128 ≤ 67))) = true := by
        rw [Bool.or_eq_true, Bool.and_eq_true, Bool.and_eq_true, decide_eq_true_eq, decide_eq_true_eq, decide_eq_true_eq, decide_eq_true_eq]; exact hr
      rw [this]
      simp [opL]
  · cases hr
end
end Go.Proofs.YtbdfibaljoedpaaDoor

