/- Contracts that the proofs use. -/
import Derived.Test.YtceebkojjmmjmaaDoorQFnIsa
set_option linter.unusedVariables false
set_option linter.unusedSimpArgs false
namespace Go.Proofs.YtceebkojjmmjmaaDoor
open Go.RowKit Go.Sy Go.Fac
section
variable {ea : Ear} {has : Int → Prop} {gl : List (Nat × SVal)}
abbrev obV (d c m : List Int) (dr cr : List Rel) (sy : List Sm) : SVal := .agg [.ro .u32 d, .ro .u32 c, .ro .u8 m, .ro .rel dr, .ro .rel cr, .ro .sym sy]
def begM (c m : List Int) (i : Int) : Bool := !(decide (i < 0) || decide ((c.length : Int) ≤ i) || decide ((m.length : Int) ≤ i) || !decide (m.getD i.toNat 0 = 1))
def nextW (c : List Int) (i : Int) : Int := if i + 1 < c.length then c.getD (i + 1).toNat 0 else 0
def insI (c m : List Int) (i : Int) : In5 := if begM c m i = true then ofF (c.getD i.toNat 0) (nextW c i) else ⟨0, 0, 0, 0, 0⟩
def insB (c m : List Int) (i : Int) : Bool := begM c m i && ofOk (c.getD i.toNat 0)
theorem ro_len {C : Ctx} {W : World} {R : Nat → Prop} {ρ : Nat → Option Value} {t : RT} {l : List t.ty} {v : Value} (h : Den C W R ρ (.ro t l) v) : l.length ≤ 9223372036854775807 := by
  cases h with
  | ro _ _ A cap vs h1 h2 => unfold maxLen at h2; omega
theorem ob_len {C : Ctx} {W : World} {R : Nat → Prop} {ρ : Nat → Option Value} {d c m : List Int} {dr cr : List Rel} {sy : List Sm} {l : List SVal} {vs : List Value} (h : DenA C W R ρ (obV d c m dr cr sy :: l) vs) :
    d.length ≤ 9223372036854775807 ∧ c.length ≤ 9223372036854775807 ∧ m.length ≤ 9223372036854775807 ∧ dr.length ≤ 9223372036854775807 ∧ cr.length ≤ 9223372036854775807 ∧ sy.length ≤ 9223372036854775807 := by
  cases h with
  | cons _ v _ us h _ =>
    cases h with
    | agg _ vs h =>
      obtain ⟨_, _, rfl, _, h1, h⟩ := h.inv_one rfl
      obtain ⟨_, _, rfl, _, h2, h⟩ := h.inv_one rfl
      obtain ⟨_, _, rfl, _, h3, h⟩ := h.inv_one rfl
      obtain ⟨_, _, rfl, _, h4, h⟩ := h.inv_one rfl
      obtain ⟨_, _, rfl, _, h5, h⟩ := h.inv_one rfl
      obtain ⟨_, _, rfl, _, h6, h⟩ := h.inv_one rfl
      exact ⟨ro_len h1, ro_len h2, ro_len h3, ro_len h4, ro_len h5, ro_len h6⟩
theorem wrapS {n : Int} (h : 0 ≤ n) (h' : n ≤ 9223372036854775806) : IntKind.i64.wrap (n + 1) = n + 1 := by rw [IntKind.wrap_i64]; omega
def kInstr : List SVal → Nat → Acc ORes := fun a n => match a with | [.agg [.ro .u32 d, .ro .u32 c, .ro .u8 m, .ro .rel dr, .ro .rel cr, .ro .sym sy], .int .i64 i] => .ret ({ v := .tuple [.agg (insI c m i.val).enc, .bool (.sym (insB c m i.val))] }) | _ => .fail "Instr"
theorem argInstr (d c m : List Int) (dr cr : List Rel) (sy : List Sm) (i : SI) : (all (subL tAtN none' [] deep [.agg [.ro .u32 d, .ro .u32 c, .ro .u8 m, .ro .rel dr, .ro .rel cr, .ro .sym sy], .int .i64 i] [.agg [.ro .u32 d, .ro .u32 c, .ro .u8 m, .ro .rel dr, .ro .rel cr, .ro .sym sy], .int .i64 (.full i.val)])) = (
  d = d ∧ c = c ∧ m = m ∧ dr = dr ∧ cr = cr ∧ sy = sy ∧ SI.val i = SI.val i) := by kernel_rfl
theorem runInstr (gl : List (Nat × SVal)) (d : List Int) (c : List Int) (m : List Int) (dr : List Rel) (cr : List Rel) (sy : List Sm) (i : Int) : (Tr.sat (plainQ (.tuple [.agg (insI c m i).enc, .bool (.sym (insB c m i))])) (run (env gl [(12, kOf)]) [] (bodyOf Tryd.f82) (start [.agg [.ro .u32 d, .ro .u32 c, .ro .u8 m, .ro .rel dr, .ro .rel cr, .ro .sym sy], .int .i64 (.full i)] 53) (ends (env gl [(12, kOf)]) Tryd.f82.results.toList))) = (
  ((!(decide (i < (0 : Int)) || decide ((↑(List.length c) : Int) ≤ i) || decide ((↑(List.length m) : Int) ≤ i))) = true → (0 : Int) ≤ i ∧ i < (↑(List.length m) : Int)) ∧ (((!(decide (i < (0 : Int)) || decide ((↑(List.length c) : Int) ≤ i) || decide ((↑(List.length m) : Int) ≤ i))) = true → (0 : Int) ≤ i ∧ i < (↑(List.length m) : Int)) → ((decide (i < (0 : Int)) || decide ((↑(List.length c) : Int) ≤ i) || decide ((↑(List.length m) : Int) ≤ i) || !decide (List.getD m (Int.toNat i) (RT.dflt RT.u8) = (1 : Int))) = true → (0 : Int) = (insI c m i).op ∧ (0 : Int) = (insI c m i).a ∧ (0 : Int) = (insI c m i).b ∧ (0 : Int) = (insI c m i).c ∧ (0 : Int) = (insI c m i).imm ∧ false = insB c m i) ∧ ((decide (i < (0 : Int)) || decide ((↑(List.length c) : Int) ≤ i) || decide ((↑(List.length m) : Int) ≤ i) || !decide (List.getD m (Int.toNat i) (RT.dflt RT.u8) = (1 : Int))) = false → (decide (IntKind.wrap IntKind.i64 (i + (1 : Int)) < (↑(List.length c) : Int)) = true → ((0 : Int) ≤ IntKind.wrap IntKind.i64 (i + (1 : Int)) ∧ IntKind.wrap IntKind.i64 (i + (1 : Int)) < (↑(List.length c) : Int)) ∧ ((0 : Int) ≤ IntKind.wrap IntKind.i64 (i + (1 : Int)) ∧ IntKind.wrap IntKind.i64 (i + (1 : Int)) < (↑(List.length c) : Int) → ((0 : Int) ≤ i ∧ i < (↑(List.length c) : Int)) ∧ ((0 : Int) ≤ i ∧ i < (↑(List.length c) : Int) → (ofF (List.getD c (Int.toNat i) (RT.dflt RT.u32)) (List.getD c (Int.toNat (IntKind.wrap IntKind.i64 (i + (1 : Int)))) (RT.dflt RT.u32))).op = (insI c m i).op ∧ (ofF (List.getD c (Int.toNat i) (RT.dflt RT.u32)) (List.getD c (Int.toNat (IntKind.wrap IntKind.i64 (i + (1 : Int)))) (RT.dflt RT.u32))).a = (insI c m i).a ∧ (ofF (List.getD c (Int.toNat i) (RT.dflt RT.u32)) (List.getD c (Int.toNat (IntKind.wrap IntKind.i64 (i + (1 : Int)))) (RT.dflt RT.u32))).b = (insI c m i).b ∧ (ofF (List.getD c (Int.toNat i) (RT.dflt RT.u32)) (List.getD c (Int.toNat (IntKind.wrap IntKind.i64 (i + (1 : Int)))) (RT.dflt RT.u32))).c = (insI c m i).c ∧ (ofF (List.getD c (Int.toNat i) (RT.dflt RT.u32)) (List.getD c (Int.toNat (IntKind.wrap IntKind.i64 (i + (1 : Int)))) (RT.dflt RT.u32))).imm = (insI c m i).imm ∧ ofOk (List.getD c (Int.toNat i) (RT.dflt RT.u32)) = insB c m i))) ∧ (decide (IntKind.wrap IntKind.i64 (i + (1 : Int)) < (↑(List.length c) : Int)) = false → ((0 : Int) ≤ i ∧ i < (↑(List.length c) : Int)) ∧ ((0 : Int) ≤ i ∧ i < (↑(List.length c) : Int) → (ofF (List.getD c (Int.toNat i) (RT.dflt RT.u32)) (0 : Int)).op = (insI c m i).op ∧ (ofF (List.getD c (Int.toNat i) (RT.dflt RT.u32)) (0 : Int)).a = (insI c m i).a ∧ (ofF (List.getD c (Int.toNat i) (RT.dflt RT.u32)) (0 : Int)).b = (insI c m i).b ∧ (ofF (List.getD c (Int.toNat i) (RT.dflt RT.u32)) (0 : Int)).c = (insI c m i).c ∧ (ofF (List.getD c (Int.toNat i) (RT.dflt RT.u32)) (0 : Int)).imm = (insI c m i).imm ∧ ofOk (List.getD c (Int.toNat i) (RT.dflt RT.u32)) = insB c m i))))) := by kernel_rfl
set_option maxHeartbeats 4000000 in
theorem cInstr : Con ea has gl 82 kInstr := by
  refine plain_mkB Tryd.func82 53 (con := [(12, kOf)]) ⟨cOf, trivial⟩ (fun hA hr hv => ?_) (by kernel_rfl) (by kernel_rfl) Tryd.ntmps82
  unfold kInstr at hr; split at hr
  · rename_i d c m dr cr sy i
    have := ret_ok hr; subst this
    refine ⟨_, [], rfl, rfl, .of (argInstr d c m dr cr sy i) (by simp), rfl, (fun W R ρ0 own0 hown => noSums (by kernel_rfl)), .of (runInstr gl d c m dr cr sy i.val) ?_⟩
    clear hr
    have hl := (ob_len hA).2.1
    clear hA hv
    generalize i.val = i
    have d1 : RT.u8.dflt = (0 : Int) := rfl
    have d2 : RT.u32.dflt = (0 : Int) := rfl
    simp only [d1, d2]
    refine ⟨fun h => by simp at h; omega, fun _ => ⟨fun h => ?_, fun h => ?_⟩⟩
    · have h : begM c m i = false := by unfold begM; rw [h]; rfl
      simp [insI, insB, h]
    · have hb : begM c m i = true := by unfold begM; rw [h]; rfl
      simp only [Bool.or_eq_false_iff, decide_eq_false_iff_not] at h
      rw [wrapS (by omega) (by omega)]
      refine ⟨fun h2 => ⟨by have := of_decide_eq_true h2; omega, fun _ => ⟨by omega, fun _ => ?_⟩⟩, fun h2 => ⟨by omega, fun _ => ?_⟩⟩
      · have h2 := of_decide_eq_true h2
        simp [insI, insB, hb, nextW, h2]
      · have h2 := of_decide_eq_false h2
        simp [insI, insB, hb, nextW, h2]
  · cases hr
def startsF (c m : List Int) : Nat → List Int
  | 0 => []
  | n + 1 => if m.getD n 0 = 1 ∧ n < c.length then startsF c m n ++ [(n : Int)] else startsF c m n
theorem startsF_len (c m : List Int) : ∀ n, (startsF c m n).length ≤ n
  | 0 => Nat.le_refl _
  | n + 1 => by
    have := startsF_len c m n
    unfold startsF
    split <;> simp <;> omega
def HStarts (d c m : List Int) (dr cr : List Rel) (sy : List Sm) (i : Nat) : SState := { fr := [(1, .ptr 0 0), (3, .own 1), (7, .ro .u8 m), (8, .int .i64 (.full m.length)), (9, .int .i64 (.sym i 0 1000000))], hp := [(0, some (.cells [.ro .u32 d, .ro .u32 c, .ro .u8 m, .ro .rel dr, .ro .rel cr, .ro .sym sy])), (1, some (.recs .i64 (startsF c m i)))], next := 2, sz := 29 }
def XStarts (d c m : List Int) (dr cr : List Rel) (sy : List Sm) : SState := { fr := [(3, .own 0)], hp := [(0, some (.recs .i64 (startsF c m m.length)))], next := 1, sz := 29 }
def LStarts (d c m : List Int) (dr cr : List Rel) (sy : List Sm) : LSum := ⟨HStarts d c m dr cr sy 0, fun k => k (.exit 0) (XStarts d c m dr cr sy), m.length ≤ 1000000⟩
theorem bStarts (gl : List (Nat × SVal)) (d c m : List Int) (dr cr : List Rel) (sy : List Sm) (i : Nat) : (Tr.sat (rnd1 (env gl []) (fun _ => True) (m.length) (HStarts d c m dr cr sy) 0 (XStarts d c m dr cr sy) i) (run (env gl []) [] (loopN (bodyOf Tryd.f49) 0) (HStarts d c m dr cr sy i) .leaf)) = (
  (decide ((↑i : Int) < (↑(List.length m) : Int)) = true → ((0 : Int) ≤ (↑i : Int) ∧ (↑i : Int) < (↑(List.length m) : Int)) ∧ ((0 : Int) ≤ (↑i : Int) ∧ (↑i : Int) < (↑(List.length m) : Int) → ((decide (List.getD m (Int.toNat (↑i : Int)) (RT.dflt RT.u8) = (1 : Int)) && decide ((↑i : Int) < (↑(List.length c) : Int))) = true → List.length (startsF c m i) + List.length [(↑i : Int)] ≤ (137438953472 : Nat) ∧ (List.length (startsF c m i) + List.length [(↑i : Int)] ≤ (137438953472 : Nat) → i < List.length m ∧ True ∧ m = m ∧ (↑(List.length m) : Int) = (↑(List.length m) : Int) ∧ (↑i : Int) + (1 : Int) = (↑(i + (1 : Nat)) : Int) ∧ ((0 : Int) ≤ (↑(i + (1 : Nat)) : Int) ∧ (↑(i + (1 : Nat)) : Int) ≤ (1000000 : Int)) ∧ d = d ∧ c = c ∧ m = m ∧ dr = dr ∧ cr = cr ∧ sy = sy ∧ startsF c m i ++ [(↑i : Int)] = startsF c m (i + (1 : Nat)))) ∧ ((decide (List.getD m (Int.toNat (↑i : Int)) (RT.dflt RT.u8) = (1 : Int)) && decide ((↑i : Int) < (↑(List.length c) : Int))) = false → i < List.length m ∧ True ∧ m = m ∧ (↑(List.length m) : Int) = (↑(List.length m) : Int) ∧ (↑i : Int) + (1 : Int) = (↑(i + (1 : Nat)) : Int) ∧ ((0 : Int) ≤ (↑(i + (1 : Nat)) : Int) ∧ (↑(i + (1 : Nat)) : Int) ≤ (1000000 : Int)) ∧ d = d ∧ c = c ∧ m = m ∧ dr = dr ∧ cr = cr ∧ sy = sy ∧ startsF c m i = startsF c m (i + (1 : Nat))))) ∧ (decide ((↑i : Int) < (↑(List.length m) : Int)) = false → Nat.beq (0 : Nat) (0 : Nat) = true ∧ startsF c m i = startsF c m (List.length m))) := by kernel_rfl
set_option maxHeartbeats 4000000 in
theorem lStarts (d c m : List Int) (dr cr : List Rel) (sy : List Sm) {W : World} {R own0 : Nat → Prop} {ρ0 : Nat → Option Value} (hown : HownOk (env gl []) own0 ρ0) : LOk Tryd.prog (env gl []) (ctx ea has) gl W R own0 ρ0 (loopN (bodyOf Tryd.f49) 0) (LStarts d c m dr cr sy) := by
  refine loop1_ok (env_ok (con := []) trivial) hown (ls := fun i => []) (fun i => noSums (by kernel_rfl)) (fun hm i hi hj => (bStarts gl d c m dr cr sy i).mpr ?_) 0 (fun hm => by first | exact Nat.zero_le _ | omega) (fun hm => trivial)
  have d1 : RT.u8.dflt = (0 : Int) := rfl
  have hs := startsF_len c m i
  simp only [d1, Int.toNat_natCast, decide_eq_true_eq, decide_eq_false_iff_not, Bool.and_eq_true, Nat.beq_refl, List.length_singleton]
  refine ⟨fun h => ⟨by omega, fun _ => ⟨fun h2 => ⟨by omega, fun _ => ?_⟩, fun h2 => ?_⟩⟩, fun h => ?_⟩
  · have : startsF c m (i + 1) = startsF c m i ++ [(i : Int)] := by rw [startsF, if_pos ⟨h2.1, by omega⟩]
    simp [this]; omega
  · have : startsF c m (i + 1) = startsF c m i := by
      rw [startsF, if_neg fun hh => ?_]
      have : (decide (m.getD i 0 = 1) && decide ((i : Int) < c.length)) = true := by simp only [Bool.and_eq_true, decide_eq_true_eq]; omega
      rw [this] at h2; cases h2
    simp [this]; omega
  · have : i = m.length := by omega
    simp [this]
def kStarts : List SVal → Nat → Acc ORes := fun a n => match a with | [.agg [.ro .u32 d, .ro .u32 c, .ro .u8 m, .ro .rel dr, .ro .rel cr, .ro .sym sy]] => .ret (newR n (.own 0) ([(0, .recs .i64 (startsF c m m.length))]) 1 (some (m.length ≤ 1000000))) | _ => .fail "Starts"
theorem argStarts (d c m : List Int) (dr cr : List Rel) (sy : List Sm) : (all (subL tAtN none' [] deep [.agg [.ro .u32 d, .ro .u32 c, .ro .u8 m, .ro .rel dr, .ro .rel cr, .ro .sym sy]] [.agg [.ro .u32 d, .ro .u32 c, .ro .u8 m, .ro .rel dr, .ro .rel cr, .ro .sym sy]])) = (
  d = d ∧ c = c ∧ m = m ∧ dr = dr ∧ cr = cr ∧ sy = sy) := by kernel_rfl
theorem runStarts (gl : List (Nat × SVal)) (d : List Int) (c : List Int) (m : List Int) (dr : List Rel) (cr : List Rel) (sy : List Sm) : (Tr.sat (newQ (env gl []) (.own 0) ([(0, .recs .i64 (startsF c m m.length))]) 1) (run (env gl []) [(3, LStarts d c m dr cr sy)] (bodyOf Tryd.f49) (start [.agg [.ro .u32 d, .ro .u32 c, .ro .u8 m, .ro .rel dr, .ro .rel cr, .ro .sym sy]] 29) (ends (env gl []) Tryd.f49.results.toList))) = (
  (List.length m ≤ (1000000 : Nat) ∧ m = m ∧ (↑(List.length m) : Int) = (↑(List.length m) : Int) ∧ (0 : Int) = (↑(0 : Nat) : Int) ∧ d = d ∧ c = c ∧ m = m ∧ dr = dr ∧ cr = cr ∧ sy = sy ∧ @List.nil (RT.ty RT.i64) = startsF c m (0 : Nat)) ∧ (List.length m ≤ (1000000 : Nat) ∧ m = m ∧ (↑(List.length m) : Int) = (↑(List.length m) : Int) ∧ (0 : Int) = (↑(0 : Nat) : Int) ∧ d = d ∧ c = c ∧ m = m ∧ dr = dr ∧ cr = cr ∧ sy = sy ∧ @List.nil (RT.ty RT.i64) = startsF c m (0 : Nat) → startsF c m (List.length m) = startsF c m (List.length m))) := by kernel_rfl
set_option maxHeartbeats 4000000 in
theorem cStarts : Con ea has gl 49 kStarts := by
  refine new_mkB Tryd.func49 29 (con := []) trivial (fun hA hr hv => ?_) (by kernel_rfl) (by kernel_rfl) Tryd.ntmps49
  unfold kStarts at hr; split at hr
  · rename_i d c m dr cr sy
    have := ret_ok hr; subst this
    replace hv := hv _ rfl
    refine ⟨_, [(3, LStarts d c m dr cr sy)], _, _, _, ⟨rfl, rfl, rfl⟩, .of (argStarts d c m dr cr sy) (by simp), rfl, rfl, (fun W R ρ0 own0 hown => hl1 (by kernel_rfl) (by kernel_rfl) (lStarts d c m dr cr sy hown)), .of (runStarts gl d c m dr cr sy) ?_⟩
    clear hr
    simp [startsF, hv]
  · cases hr
end
end Go.Proofs.YtceebkojjmmjmaaDoor

