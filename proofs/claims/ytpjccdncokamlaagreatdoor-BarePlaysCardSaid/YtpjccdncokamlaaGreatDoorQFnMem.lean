/- Contracts. -/
import Derived.Test.YtpjccdncokamlaaGreatDoorQFnMk
import Derived.Test.YtpjccdncokamlaaGreatDoorQMemM
set_option maxHeartbeats 4000000
set_option linter.unusedVariables false
set_option linter.unusedSimpArgs false
namespace Go.Proofs.YtpjccdncokamlaaGreatDoor
open Go.RowKit Go.Sy Go.Fac
section
variable {ea : Ear} {has : Int → Prop} {gl : List (Nat × SVal)}
abbrev enV (w : Int) : SVal := .agg [.int .i64 (.sym (enF w) 0 1023), .bool (.sym (enT w)), .bool (.sym (enW w)), .bool (.sym (enU w))]
theorem ro_words {C : Ctx} {W : World} {R : Nat → Prop} {ρ : Nat → Option Value} : ∀ {l : List Int} {vs : List Value}, DenL C W R ρ (l.flatMap (RT.enc .u32)) vs → wordsIn l
  | [], _, _ => fun x hx => by cases hx
  | y :: l, vs, h => by
    rw [List.flatMap_cons] at h
    obtain ⟨a, b, rfl, ha, hb⟩ := h.split
    intro x hx
    rcases List.mem_cons.1 hx with rfl | hx
    · have ha : DenL C W R ρ [.int .u32 (.full x)] a := ha
      obtain ⟨v, us, rfl, _, h2, _⟩ := ha.inv_one rfl
      have := h2.int_inv.2
      have h1 := this.lo; have h2 := this.hi
      simp only [SI.val, kmin, kmax] at h1 h2
      omega
    · exact ro_words hb x hx
theorem ro_fact {C : Ctx} {W : World} {R : Nat → Prop} {ρ : Nat → Option Value} {l : List Int} {v : Value} (h : Den C W R ρ (.ro .u32 l) v) : l.length ≤ maxLen ∧ wordsIn l := by
  cases h with
  | ro _ _ A cap vs h1 h2 h3 h4 h5 => exact ⟨by omega, ro_words h3⟩
theorem mem_fact {C : Ctx} {W : World} {R : Nat → Prop} {ρ : Nat → Option Value} {l : List Int} {more : List SVal} {vs : List Value} (h : DenA C W R ρ (.rop [.ro .u32 l] :: more) vs) : l.length ≤ maxLen ∧ wordsIn l := by
  cases h with
  | cons _ v _ us h1 h2 =>
    cases h1 with
    | rop _ vs b off h1 h2 h3 =>
      obtain ⟨v, us, rfl, _, h2, _⟩ := h2.inv_one rfl
      exact ro_fact h2
def kmFrames : List SVal → Nat → Acc ORes := fun a n => match a with | [.rop [.ro .u32 l]] => .ret ({ v := .int .i64 (.sym (frN l) 0 576460752303423487) }) | _ => .fail "mFrames"
theorem argmFrames (l : List Int) : (all (subL tAtN none' [] deep [.rop [.ro .u32 l]] [.rop [.ro .u32 l]])) = (
  l = l) := by kernel_rfl
theorem runmFrames (gl : List (Nat × SVal)) (l : List Int) : (Tr.sat (plainQ (.int .i64 (.sym (frN l) 0 576460752303423487))) (run (env gl []) [] (bodyOf Tryz.f56) (start [.rop [.ro .u32 l]] 9) (ends (env gl []) Tryz.f56.results.toList))) = (
  ((List.length l) : Int) / Int.ofNat (nat_lit 15 + (1 : Nat)) = frN l ∧ 0 ≤ frN l ∧ frN l ≤ 576460752303423487) := by kernel_rfl
theorem cmFrames : Con ea has gl 56 kmFrames := by
  refine plain_mkB Tryz.func56 9 (con := []) trivial (fun hA hr hv => ?_) (by kernel_rfl) (by kernel_rfl) Tryz.ntmps56
  unfold kmFrames at hr; split at hr
  · rename_i l
    have := ret_ok hr; subst this
    refine ⟨_, [], rfl, rfl, .of (argmFrames l) (by simp), rfl, (fun W R ρ0 own0 hown => noSums (by kernel_rfl)), .of (runmFrames gl l) ?_⟩
    clear hr
    obtain ⟨h1, _⟩ := mem_fact hA
    unfold maxLen at h1
    unfold frN
    exact ⟨rfl, by omega, by omega⟩
  · cases hr
def kmRead : List SVal → Nat → Acc ORes := fun a n => match a with | [.rop [.ro .u32 l], .int .i64 a] => .ret ({ v := .tuple [.int .u32 (.full (rd l a.val)), .bool (.sym (inM l a.val))] }) | _ => .fail "mRead"
theorem argmRead (l : List Int) (a : SI) : (all (subL tAtN none' [] deep [.rop [.ro .u32 l], .int .i64 a] [.rop [.ro .u32 l], .int .i64 (.full a.val)])) = (
  l = l ∧ SI.val a = SI.val a) := by kernel_rfl
theorem runmRead (gl : List (Nat × SVal)) (l : List Int) (a : Int) : (Tr.sat (plainQ (.tuple [.int .u32 (.full (rd l a)), .bool (.sym (inM l a))])) (run (env gl []) [] (bodyOf Tryz.f102) (start [.rop [.ro .u32 l], .int .i64 (.full a)] 24) (ends (env gl []) Tryz.f102.results.toList))) = (
  IT (decide (a < 0) || decide (((List.length l) : Int) ≤ a)) ((0 : Int) = rd l a ∧ false = inM l a) (RQ (0 ≤ a ∧ a < ((List.length l) : Int)) (List.getD l (Int.toNat a) (RT.dflt RT.u32) = rd l a ∧ true = inM l a))) := by kernel_rfl
theorem cmRead : Con ea has gl 102 kmRead := by
  refine plain_mkB Tryz.func102 24 (con := []) trivial (fun hA hr hv => ?_) (by kernel_rfl) (by kernel_rfl) Tryz.ntmps102
  unfold kmRead at hr; split at hr
  · rename_i l a
    have := ret_ok hr; subst this
    refine ⟨_, [], rfl, rfl, .of (argmRead l a) (by simp), rfl, (fun W R ρ0 own0 hown => noSums (by kernel_rfl)), .of (runmRead gl l a.val) ?_⟩
    delta RQ IT
    clear hr
    clear hA hv
    generalize a.val = a
    refine ⟨fun h => ?_, fun h => ?_⟩
    · have : inM l a = false := by
        cases hi : inM l a with
        | false => rfl
        | true => rw [inM_iff] at hi; simp at h; omega
      rw [rd, this]; exact ⟨rfl, rfl⟩
    · simp at h
      have : inM l a = true := inM_iff.2 (by omega)
      rw [rd, if_pos this, this]
      exact ⟨by omega, fun _ => ⟨rfl, rfl⟩⟩
  · cases hr
def krFrames : List SVal → Nat → Acc ORes := fun a n => match a with | [.rop [.ro .u32 l]] => .ret ({ v := .int .i64 (.sym (frN l) 0 576460752303423487) }) | _ => .fail "rFrames"
theorem argrFrames (l : List Int) : (all (subL tAtN none' [] deep [.rop [.ro .u32 l]] [.rop [.ro .u32 l]])) = (
  l = l) := by kernel_rfl
theorem runrFrames (gl : List (Nat × SVal)) (l : List Int) : (Tr.sat (plainQ (.int .i64 (.sym (frN l) 0 576460752303423487))) (run (env gl []) [] (bodyOf Tryz.f52) (start [.rop [.ro .u32 l]] 9) (ends (env gl []) Tryz.f52.results.toList))) = (
  ((List.length l) : Int) / Int.ofNat (nat_lit 15 + (1 : Nat)) = frN l ∧ 0 ≤ frN l ∧ frN l ≤ 576460752303423487) := by kernel_rfl
theorem crFrames : Con ea has gl 52 krFrames := by
  refine plain_mkB Tryz.func52 9 (con := []) trivial (fun hA hr hv => ?_) (by kernel_rfl) (by kernel_rfl) Tryz.ntmps52
  unfold krFrames at hr; split at hr
  · rename_i l
    have := ret_ok hr; subst this
    refine ⟨_, [], rfl, rfl, .of (argrFrames l) (by simp), rfl, (fun W R ρ0 own0 hown => noSums (by kernel_rfl)), .of (runrFrames gl l) ?_⟩
    clear hr
    obtain ⟨h1, _⟩ := mem_fact hA
    unfold maxLen at h1
    unfold frN
    exact ⟨rfl, by omega, by omega⟩
  · cases hr
def krRead : List SVal → Nat → Acc ORes := fun a n => match a with | [.rop [.ro .u32 l], .int .i64 a] => .ret ({ v := .tuple [.int .u32 (.full (rd l a.val)), .bool (.sym (inM l a.val))] }) | _ => .fail "rRead"
theorem argrRead (l : List Int) (a : SI) : (all (subL tAtN none' [] deep [.rop [.ro .u32 l], .int .i64 a] [.rop [.ro .u32 l], .int .i64 (.full a.val)])) = (
  l = l ∧ SI.val a = SI.val a) := by kernel_rfl
theorem runrRead (gl : List (Nat × SVal)) (l : List Int) (a : Int) : (Tr.sat (plainQ (.tuple [.int .u32 (.full (rd l a)), .bool (.sym (inM l a))])) (run (env gl []) [] (bodyOf Tryz.f77) (start [.rop [.ro .u32 l], .int .i64 (.full a)] 24) (ends (env gl []) Tryz.f77.results.toList))) = (
  IT (decide (a < 0) || decide (((List.length l) : Int) ≤ a)) ((0 : Int) = rd l a ∧ false = inM l a) (RQ (0 ≤ a ∧ a < ((List.length l) : Int)) (List.getD l (Int.toNat a) (RT.dflt RT.u32) = rd l a ∧ true = inM l a))) := by kernel_rfl
theorem crRead : Con ea has gl 77 krRead := by
  refine plain_mkB Tryz.func77 24 (con := []) trivial (fun hA hr hv => ?_) (by kernel_rfl) (by kernel_rfl) Tryz.ntmps77
  unfold krRead at hr; split at hr
  · rename_i l a
    have := ret_ok hr; subst this
    refine ⟨_, [], rfl, rfl, .of (argrRead l a) (by simp), rfl, (fun W R ρ0 own0 hown => noSums (by kernel_rfl)), .of (runrRead gl l a.val) ?_⟩
    delta RQ IT
    clear hr
    clear hA hv
    generalize a.val = a
    refine ⟨fun h => ?_, fun h => ?_⟩
    · have : inM l a = false := by
        cases hi : inM l a with
        | false => rfl
        | true => rw [inM_iff] at hi; simp at h; omega
      rw [rd, this]; exact ⟨rfl, rfl⟩
    · simp at h
      have : inM l a = true := inM_iff.2 (by omega)
      rw [rd, if_pos this, this]
      exact ⟨by omega, fun _ => ⟨rfl, rfl⟩⟩
  · cases hr
def jBits (f : Int) (t w u : Bool) : LSum := cutL { fr := [(4, .int .u32 (.full (f * 256))), (35, .own 0), (36, .int .i64 (.lit 3)), (37, .int .i64 (.lit 0))], hp := [(0, some (.recs .bool [t, w, u]))], next := 1, sz := 49 }
def kmBits : List SVal → Nat → Acc ORes := fun a n => match a with | [.agg [.int .i64 f, .bool t, .bool w, .bool u]] => .ret ({ v := .tuple [.int .u32 (.full (bitsW f.val t.val w.val u.val)), .bool (.sym (bitsOk f.val t.val w.val u.val))] }) | _ => .fail "mBits"
theorem argmBits (f : SI) (t w u : SB) : (all (subL tAtN none' [] deep [.agg [.int .i64 f, .bool t, .bool w, .bool u]] [.agg [.int .i64 (.full f.val), .bool (.sym t.val), .bool (.sym w.val), .bool (.sym u.val)]])) = (
  SI.val f = SI.val f ∧ SB.val t = SB.val t ∧ SB.val w = SB.val w ∧ SB.val u = SB.val u) := by kernel_rfl
theorem runmBits (gl : List (Nat × SVal)) (f : Int) (t : Bool) (w : Bool) (u : Bool) : (Tr.sat (plainQ (.tuple [.int .u32 (.full (bitsW f t w u)), .bool (.sym (bitsOk f t w u))])) (run (env gl []) [(1000004, jBits f t w u)] (bodyOf Tryz.f120) (start [.agg [.int .i64 (.full f), .bool (.sym t), .bool (.sym w), .bool (.sym u)]] 49) (ends (env gl []) Tryz.f120.results.toList))) = (
  IT (decide (f < 0) || decide ((1024 : Int) ≤ f) || !t && !(decide (f = 0) && (t == false && (w == false && (u == false && true))))) ((0 : Int) = bitsW f t w u ∧ false = bitsOk f t w u) (RQ (IntKind.wrap IntKind.u32 (IntKind.wrap IntKind.u32 f * 256) = f * 256 ∧ ((List.length [t, w, u]) : Int) = 3 ∧ (0 : Int) = (0 : Int) ∧ [t, w, u] = [t, w, u]) (RQ ((0 : Int) ≤ (0 : Int) ∧ 0 < ((List.length [t, w, u]) : Int)) (IT (List.getD [t, w, u] (Int.toNat (0 : Int)) (RT.dflt RT.bool)) (RQ ((0 : Int) ≤ (1 : Int) ∧ (1 : Int) < ((List.length [t, w, u]) : Int)) (IT (List.getD [t, w, u] (Int.toNat (1 : Int)) (RT.dflt RT.bool)) (RQ ((0 : Int) ≤ (2 : Int) ∧ (2 : Int) < ((List.length [t, w, u]) : Int)) (IT (List.getD [t, w, u] (Int.toNat (2 : Int)) (RT.dflt RT.bool)) (bits BinOp.or IntKind.u32 (bits BinOp.or IntKind.u32 (bits BinOp.or IntKind.u32 (f * 256) ((1 : Int) * (1 : Int))) ((1 : Int) * (2 : Int))) ((1 : Int) * (4 : Int)) = bitsW f t w u ∧ true = bitsOk f t w u) (bits BinOp.or IntKind.u32 (bits BinOp.or IntKind.u32 (f * 256) ((1 : Int) * (1 : Int))) ((1 : Int) * (2 : Int)) = bitsW f t w u ∧ true = bitsOk f t w u))) (RQ ((0 : Int) ≤ (2 : Int) ∧ (2 : Int) < ((List.length [t, w, u]) : Int)) (IT (List.getD [t, w, u] (Int.toNat (2 : Int)) (RT.dflt RT.bool)) (bits BinOp.or IntKind.u32 (bits BinOp.or IntKind.u32 (f * 256) ((1 : Int) * (1 : Int))) ((1 : Int) * (4 : Int)) = bitsW f t w u ∧ true = bitsOk f t w u) (bits BinOp.or IntKind.u32 (f * 256) ((1 : Int) * (1 : Int)) = bitsW f t w u ∧ true = bitsOk f t w u))))) (RQ ((0 : Int) ≤ (1 : Int) ∧ (1 : Int) < ((List.length [t, w, u]) : Int)) (IT (List.getD [t, w, u] (Int.toNat (1 : Int)) (RT.dflt RT.bool)) (RQ ((0 : Int) ≤ (2 : Int) ∧ (2 : Int) < ((List.length [t, w, u]) : Int)) (IT (List.getD [t, w, u] (Int.toNat (2 : Int)) (RT.dflt RT.bool)) (bits BinOp.or IntKind.u32 (bits BinOp.or IntKind.u32 (f * 256) ((1 : Int) * (2 : Int))) ((1 : Int) * (4 : Int)) = bitsW f t w u ∧ true = bitsOk f t w u) (bits BinOp.or IntKind.u32 (f * 256) ((1 : Int) * (2 : Int)) = bitsW f t w u ∧ true = bitsOk f t w u))) (RQ ((0 : Int) ≤ (2 : Int) ∧ (2 : Int) < ((List.length [t, w, u]) : Int)) (IT (List.getD [t, w, u] (Int.toNat (2 : Int)) (RT.dflt RT.bool)) (bits BinOp.or IntKind.u32 (f * 256) ((1 : Int) * (4 : Int)) = bitsW f t w u ∧ true = bitsOk f t w u) (f * 256 = bitsW f t w u ∧ true = bitsOk f t w u))))))))) := by kernel_rfl
theorem cmBits : Con ea has gl 120 kmBits := by
  refine plain_mkB Tryz.func120 49 (con := []) trivial (fun hA hr hv => ?_) (by kernel_rfl) (by kernel_rfl) Tryz.ntmps120
  unfold kmBits at hr; split at hr
  · rename_i f t w u
    have := ret_ok hr; subst this
    refine ⟨_, [(1000004, jBits f.val t.val w.val u.val)], rfl, rfl, .of (argmBits f t w u) (by simp), rfl, (fun W R ρ0 own0 hown => noSums (by kernel_rfl)), .of (runmBits gl f.val t.val w.val u.val) ?_⟩
    delta RQ IT
    clear hr
    clear hA hv
    generalize f.val = f at *
    generalize t.val = t
    generalize w.val = w
    generalize u.val = u
    refine ⟨fun h => ?_, fun h => ?_⟩
    · have : bitsOk f t w u = false := by
        unfold bitsOk
        cases t <;> cases w <;> cases u <;> simp at h ⊢ <;> omega
      rw [bitsW, this]; exact ⟨rfl, rfl⟩
    · have hk : bitsOk f t w u = true := by
        unfold bitsOk
        cases t <;> cases w <;> cases u <;> simp at h ⊢ <;> omega
      have hr : 0 ≤ f ∧ f < 1024 := by
        unfold bitsOk at hk
        simp only [Bool.and_eq_true, decide_eq_true_eq] at hk
        exact hk.1
      have e1 : IntKind.u32.wrap (IntKind.u32.wrap f * 256) = f * 256 := by simp only [IntKind.wrap_u32]; omega
      obtain ⟨o1, o2, o3, o4, o5, o6, o7⟩ := or_lows (f := f) ⟨hr.1, by omega⟩
      have m1 : (1 : Int) * 1 = 1 := rfl
      have m2 : (1 : Int) * 2 = 2 := rfl
      have m4 : (1 : Int) * 4 = 4 := rfl
      rw [e1, bitsW, if_pos hk, hk]
      simp only [m1, m2, m4, o1, o2, o3, o4, o5, o6, o7]
      cases t <;> cases w <;> cases u <;> simp [b2i, RT.dflt] <;> omega
  · cases hr
def krBits : List SVal → Nat → Acc ORes := fun a n => match a with | [.agg [.int .i64 f, .bool t, .bool w, .bool u]] => .ret ({ v := .tuple [.int .u32 (.full (bitsW f.val t.val w.val u.val)), .bool (.sym (bitsOk f.val t.val w.val u.val))] }) | _ => .fail "rBits"
theorem argrBits (f : SI) (t w u : SB) : (all (subL tAtN none' [] deep [.agg [.int .i64 f, .bool t, .bool w, .bool u]] [.agg [.int .i64 (.full f.val), .bool (.sym t.val), .bool (.sym w.val), .bool (.sym u.val)]])) = (
  SI.val f = SI.val f ∧ SB.val t = SB.val t ∧ SB.val w = SB.val w ∧ SB.val u = SB.val u) := by kernel_rfl
theorem runrBits (gl : List (Nat × SVal)) (f : Int) (t : Bool) (w : Bool) (u : Bool) : (Tr.sat (plainQ (.tuple [.int .u32 (.full (bitsW f t w u)), .bool (.sym (bitsOk f t w u))])) (run (env gl []) [] (bodyOf Tryz.f23) (start [.agg [.int .i64 (.full f), .bool (.sym t), .bool (.sym w), .bool (.sym u)]] 43) (ends (env gl []) Tryz.f23.results.toList))) = (
  IT (decide (f < 0) || decide ((1024 : Int) ≤ f)) ((0 : Int) = bitsW f t w u ∧ false = bitsOk f t w u) (IT (!t) ((0 : Int) = bitsW f t w u ∧ (decide (f = 0) && !w && !u) = bitsOk f t w u) (IT w (IT u (bits BinOp.or IntKind.u32 (bits BinOp.or IntKind.u32 (bits BinOp.or IntKind.u32 (IntKind.wrap IntKind.u32 (IntKind.wrap IntKind.u32 f * 256)) (1 : Int)) (2 : Int)) (4 : Int) = bitsW f t w u ∧ true = bitsOk f t w u) (bits BinOp.or IntKind.u32 (bits BinOp.or IntKind.u32 (IntKind.wrap IntKind.u32 (IntKind.wrap IntKind.u32 f * 256)) (1 : Int)) (2 : Int) = bitsW f t w u ∧ true = bitsOk f t w u)) (IT u (bits BinOp.or IntKind.u32 (bits BinOp.or IntKind.u32 (IntKind.wrap IntKind.u32 (IntKind.wrap IntKind.u32 f * 256)) (1 : Int)) (4 : Int) = bitsW f t w u ∧ true = bitsOk f t w u) (bits BinOp.or IntKind.u32 (IntKind.wrap IntKind.u32 (IntKind.wrap IntKind.u32 f * 256)) (1 : Int) = bitsW f t w u ∧ true = bitsOk f t w u))))) := by kernel_rfl
theorem crBits : Con ea has gl 23 krBits := by
  refine plain_mkB Tryz.func23 43 (con := []) trivial (fun hA hr hv => ?_) (by kernel_rfl) (by kernel_rfl) Tryz.ntmps23
  unfold krBits at hr; split at hr
  · rename_i f t w u
    have := ret_ok hr; subst this
    refine ⟨_, [], rfl, rfl, .of (argrBits f t w u) (by simp), rfl, (fun W R ρ0 own0 hown => noSums (by kernel_rfl)), .of (runrBits gl f.val t.val w.val u.val) ?_⟩
    delta IT
    clear hr
    clear hA hv
    generalize f.val = f at *
    generalize t.val = t
    generalize w.val = w
    generalize u.val = u
    have hz : ∀ w, bitsOk f t w u = false → bitsW f t w u = 0 := fun w h => by rw [bitsW, if_neg (by rw [h]; simp)]
    refine ⟨fun h => ?_, fun h => ?_⟩
    · have : bitsOk f t w u = false := by
        unfold bitsOk
        simp at h ⊢; omega
      rw [hz _ this, this]; exact ⟨rfl, rfl⟩
    · simp at h
      have e1 : IntKind.u32.wrap (IntKind.u32.wrap f * 256) = f * 256 := by simp only [IntKind.wrap_u32]; omega
      obtain ⟨o1, o2, o3, o4, o5, o6, o7⟩ := or_lows (f := f) ⟨by omega, by omega⟩
      have h1 : 0 ≤ f := by omega
      have h2 : f < 1024 := by omega
      simp only [e1, o1, o2, o3, o4, o5, o6, o7]
      cases t <;> cases w <;> cases u <;> simp [bitsW, bitsOk, b2i, h1, h2] <;> omega
  · cases hr
def kmOf : List SVal → Nat → Acc ORes := fun a n => match a with | [.int .u32 w] => .ret ({ v := .tuple [enV w.val, .bool (.sym (enOk w.val))] }) | _ => .fail "mOf"
theorem argmOf (w : SI) : (all (subL tAtN none' [] deep [.int .u32 w] [.int .u32 (.full w.val)])) = (
  SI.val w = SI.val w) := by kernel_rfl
theorem runmOf (gl : List (Nat × SVal)) (w : Int) : (Tr.sat (plainQ (.tuple [enV w, .bool (.sym (enOk w))])) (run (env gl [(120, kmBits)]) [] (bodyOf Tryz.f107) (start [.int .u32 (.full w)] 34) (ends (env gl [(120, kmBits)]) Tryz.f107.results.toList))) = (
  IT (!bitsOk (w / Int.ofNat (nat_lit 255 + (1 : Nat))) (decide (0 < w % 2)) (decide (0 < bits BinOp.and IntKind.u32 w (2 : Int))) (decide (0 < bits BinOp.and IntKind.u32 w (4 : Int))) || !decide (bitsW (w / Int.ofNat (nat_lit 255 + (1 : Nat))) (decide (0 < w % 2)) (decide (0 < bits BinOp.and IntKind.u32 w (2 : Int))) (decide (0 < bits BinOp.and IntKind.u32 w (4 : Int))) = w)) ((0 : Int) = enF w ∧ false = enT w ∧ false = enW w ∧ false = enU w ∧ false = enOk w) (w / Int.ofNat (nat_lit 255 + (1 : Nat)) = enF w ∧ (0 ≤ enF w ∧ enF w ≤ 1023) ∧ decide (0 < w % 2) = enT w ∧ decide (0 < bits BinOp.and IntKind.u32 w (2 : Int)) = enW w ∧ decide (0 < bits BinOp.and IntKind.u32 w (4 : Int)) = enU w ∧ true = enOk w)) := by kernel_rfl
theorem cmOf : Con ea has gl 107 kmOf := by
  refine plain_mkB Tryz.func107 34 (con := [(120, kmBits)]) ⟨cmBits, trivial⟩ (fun hA hr hv => ?_) (by kernel_rfl) (by kernel_rfl) Tryz.ntmps107
  unfold kmOf at hr; split at hr
  · rename_i w
    have := ret_ok hr; subst this
    refine ⟨_, [], rfl, rfl, .of (argmOf w) (by simp), rfl, (fun W R ρ0 own0 hown => noSums (by kernel_rfl)), .of (runmOf gl w.val) ?_⟩
    delta IT
    clear hr
    have hw := DenA.i0 hA
    have h0 : 0 ≤ w.val ∧ w.val < 4294967296 := by have h1 := hw.lo; have h2 := hw.hi; simp only [kmin, kmax] at h1 h2; omega
    clear hA hv hw
    generalize w.val = w at *
    rw [show Int.ofNat (255 + 1) = 256 from rfl, and2 h0, and4 h0]
    have e1 : decide (0 < w % 2) = decide (w % 2 = 1) := decide_eq_decide.2 (by omega)
    have e2 : decide (0 < w / 2 % 2 * 2) = decide (w / 2 % 2 = 1) := decide_eq_decide.2 (by omega)
    have e3 : decide (0 < w / 4 % 2 * 4) = decide (w / 4 % 2 = 1) := decide_eq_decide.2 (by omega)
    rw [e1, e2, e3, ← Bool.not_and, bits_back h0.1]
    have hF := enF_in h0.1
    unfold enF enT enW enU at *
    cases hk : enOk w <;> simp [hk] at hF ⊢ <;> omega
  · cases hr
def krOfBits : List SVal → Nat → Acc ORes := fun a n => match a with | [.int .u32 w] => .ret ({ v := .tuple [enV w.val, .bool (.sym (enOk w.val))] }) | _ => .fail "rOfBits"
theorem argrOfBits (w : SI) : (all (subL tAtN none' [] deep [.int .u32 w] [.int .u32 (.full w.val)])) = (
  SI.val w = SI.val w) := by kernel_rfl
theorem runrOfBits (gl : List (Nat × SVal)) (w : Int) : (Tr.sat (plainQ (.tuple [enV w, .bool (.sym (enOk w))])) (run (env gl [(23, krBits)]) [] (bodyOf Tryz.f88) (start [.int .u32 (.full w)] 37) (ends (env gl [(23, krBits)]) Tryz.f88.results.toList))) = (
  IT (decide (w = 0)) ((0 : Int) = enF w ∧ false = enT w ∧ false = enW w ∧ false = enU w ∧ true = enOk w) (IT (!bitsOk (w / 256) (!decide (w % 2 = (0 : Int))) (!decide (bits BinOp.and IntKind.u32 w (2 : Int) = (0 : Int))) !decide (bits BinOp.and IntKind.u32 w (4 : Int) = (0 : Int)) || !decide ((bitsW (w / 256) (!decide (w % 2 = (0 : Int))) (!decide (bits BinOp.and IntKind.u32 w (2 : Int) = (0 : Int))) !decide (bits BinOp.and IntKind.u32 w (4 : Int) = (0 : Int))) = w)) ((0 : Int) = enF w ∧ false = enT w ∧ false = enW w ∧ false = enU w ∧ false = enOk w) (w / 256 = enF w ∧ (0 ≤ enF w ∧ enF w ≤ 1023) ∧ (!decide (w % 2 = (0 : Int))) = enT w ∧ (!decide (bits BinOp.and IntKind.u32 w (2 : Int) = (0 : Int))) = enW w ∧ (!decide (bits BinOp.and IntKind.u32 w (4 : Int) = (0 : Int))) = enU w ∧ true = enOk w))) := by kernel_rfl
theorem crOfBits : Con ea has gl 88 krOfBits := by
  refine plain_mkB Tryz.func88 37 (con := [(23, krBits)]) ⟨crBits, trivial⟩ (fun hA hr hv => ?_) (by kernel_rfl) (by kernel_rfl) Tryz.ntmps88
  unfold krOfBits at hr; split at hr
  · rename_i w
    have := ret_ok hr; subst this
    refine ⟨_, [], rfl, rfl, .of (argrOfBits w) (by simp), rfl, (fun W R ρ0 own0 hown => noSums (by kernel_rfl)), .of (runrOfBits gl w.val) ?_⟩
    delta IT
    clear hr
    have hw := DenA.i0 hA
    have h0 : 0 ≤ w.val ∧ w.val < 4294967296 := by have h1 := hw.lo; have h2 := hw.hi; simp only [kmin, kmax] at h1 h2; omega
    clear hA hv hw
    generalize w.val = w at *
    rw [and2 h0, and4 h0]
    have e1 : (!decide (w % 2 = 0)) = decide (w % 2 = 1) := by rw [Bool.eq_iff_iff]; simp; omega
    have e2 : (!decide (w / 2 % 2 * 2 = 0)) = decide (w / 2 % 2 = 1) := by rw [Bool.eq_iff_iff]; simp; omega
    have e3 : (!decide (w / 4 % 2 * 4 = 0)) = decide (w / 4 % 2 = 1) := by rw [Bool.eq_iff_iff]; simp; omega
    rw [e1, e2, e3, ← Bool.not_and, bits_back h0.1]
    have hF := enF_in h0.1
    refine ⟨fun h => ?_, fun _ => ?_⟩
    · have := of_decide_eq_true h; subst this; decide
    · unfold enF enT enW enU at *
      cases hk : enOk w <;> simp [hk] at hF ⊢ <;> omega
  · cases hr
def kmentry : List SVal → Nat → Acc ORes := fun a n => match a with | [.rop [.ro .u32 l], .int .i64 f, .int .i64 i] => .ret ({ v := .tuple [enV (entW l f.val i.val), .bool (.sym (entOk l f.val i.val))], vc := some (0 ≤ i.val ∧ i.val < 16) }) | _ => .fail "mentry"
theorem argmentry (l : List Int) (f i : SI) : (all (subL tAtN none' [] deep [.rop [.ro .u32 l], .int .i64 f, .int .i64 i] [.rop [.ro .u32 l], .int .i64 (.full f.val), .int .i64 (.full i.val)])) = (
  l = l ∧ SI.val f = SI.val f ∧ SI.val i = SI.val i) := by kernel_rfl
theorem runmentry (gl : List (Nat × SVal)) (l : List Int) (f : Int) (i : Int) : (Tr.sat (plainQ (.tuple [enV (entW l f i), .bool (.sym (entOk l f i))])) (run (env gl [(56, kmFrames), (102, kmRead), (107, kmOf)]) [] (bodyOf Tryz.f130) (start [.rop [.ro .u32 l], .int .i64 (.full f), .int .i64 (.full i)] 44) (ends (env gl [(56, kmFrames), (102, kmRead), (107, kmOf)]) Tryz.f130.results.toList))) = (
  IT (decide (f < 0) || decide (frN l ≤ f)) ((0 : Int) = enF (entW l f i) ∧ false = enT (entW l f i) ∧ false = enW (entW l f i) ∧ false = enU (entW l f i) ∧ false = entOk l f i) (IT (!enOk (rd l (IntKind.wrap IntKind.i64 (IntKind.wrap IntKind.i64 (f * 16) + i))) || !enT (rd l (IntKind.wrap IntKind.i64 (IntKind.wrap IntKind.i64 (f * 16) + i)))) ((0 : Int) = enF (entW l f i) ∧ false = enT (entW l f i) ∧ false = enW (entW l f i) ∧ false = enU (entW l f i) ∧ false = entOk l f i) (enF (rd l (IntKind.wrap IntKind.i64 (IntKind.wrap IntKind.i64 (f * 16) + i))) = enF (entW l f i) ∧ enT (rd l (IntKind.wrap IntKind.i64 (IntKind.wrap IntKind.i64 (f * 16) + i))) = enT (entW l f i) ∧ enW (rd l (IntKind.wrap IntKind.i64 (IntKind.wrap IntKind.i64 (f * 16) + i))) = enW (entW l f i) ∧ enU (rd l (IntKind.wrap IntKind.i64 (IntKind.wrap IntKind.i64 (f * 16) + i))) = enU (entW l f i) ∧ true = entOk l f i))) := by kernel_rfl
theorem cmentry : Con ea has gl 130 kmentry := by
  refine plain_mkB Tryz.func130 44 (con := [(56, kmFrames), (102, kmRead), (107, kmOf)]) ⟨cmFrames, cmRead, cmOf, trivial⟩ (fun hA hr hv => ?_) (by kernel_rfl) (by kernel_rfl) Tryz.ntmps130
  unfold kmentry at hr; split at hr
  · rename_i l f i
    have := ret_ok hr; subst this
    replace hv := hv _ rfl
    refine ⟨_, [], rfl, rfl, .of (argmentry l f i) (by simp), rfl, (fun W R ρ0 own0 hown => noSums (by kernel_rfl)), .of (runmentry gl l f.val i.val) ?_⟩
    delta IT
    clear hr
    obtain ⟨hl, hW⟩ := mem_fact hA
    have hl : l.length ≤ 9223372036854775807 := hl
    clear hA
    generalize f.val = f at *
    generalize i.val = i at *
    have hn := frN_in l
    refine ⟨fun h => ?_, fun h => ?_⟩
    · have hk : entOk l f i = false := by unfold entOk; simp at h ⊢; omega
      rw [entW, hk]; exact ⟨rfl, rfl, rfl, rfl, rfl⟩
    · simp at h
      have e : IntKind.i64.wrap (IntKind.i64.wrap (f * 16) + i) = f * 16 + i := by simp only [IntKind.wrap_i64]; omega
      have e2 : entOk l f i = enT (rd l (f * 16 + i)) := by unfold entOk; simp; omega
      have e3 : (!enOk (rd l (f * 16 + i)) || !enT (rd l (f * 16 + i))) = !entOk l f i := by
        rw [e2]; unfold enT; cases enOk (rd l (f * 16 + i)) <;> simp
      rw [e, e3]
      unfold entW
      cases hk : entOk l f i <;> simp [hk, en_zero]
  · cases hr
def kmPage : List SVal → Nat → Acc ORes := fun a n => match a with | [.rop [.ro .u32 l], .int .i64 r, .int .i64 p] => .ret ({ v := .tuple [enV (pgW l r.val p.val), .bool (.sym (pgOk l r.val p.val))] }) | _ => .fail "mPage"
theorem argmPage (l : List Int) (r p : SI) : (all (subL tAtN none' [] deep [.rop [.ro .u32 l], .int .i64 r, .int .i64 p] [.rop [.ro .u32 l], .int .i64 (.full r.val), .int .i64 (.full p.val)])) = (
  l = l ∧ SI.val r = SI.val r ∧ SI.val p = SI.val p) := by kernel_rfl
theorem runmPage (gl : List (Nat × SVal)) (l : List Int) (r : Int) (p : Int) : (Tr.sat (plainQ (.tuple [enV (pgW l r p), .bool (.sym (pgOk l r p))])) (run (env gl [(130, kmentry)]) [] (bodyOf Tryz.f116) (start [.rop [.ro .u32 l], .int .i64 (.full r), .int .i64 (.full p)] 36) (ends (env gl [(130, kmentry)]) Tryz.f116.results.toList))) = (
  IT (decide (p < 0) || decide ((256 : Int) ≤ p)) ((0 : Int) = enF (pgW l r p) ∧ false = enT (pgW l r p) ∧ false = enW (pgW l r p) ∧ false = enU (pgW l r p) ∧ false = pgOk l r p) (RQ ((16 : Int) ≠ (0 : Int)) (RQ (0 ≤ IntKind.wrap IntKind.i64 (Int.tdiv p (16 : Int)) ∧ IntKind.wrap IntKind.i64 (Int.tdiv p (16 : Int)) < 16) (IT (!entOk l r (IntKind.wrap IntKind.i64 (Int.tdiv p (16 : Int)))) ((0 : Int) = enF (pgW l r p) ∧ false = enT (pgW l r p) ∧ false = enW (pgW l r p) ∧ false = enU (pgW l r p) ∧ false = pgOk l r p) (RQ ((16 : Int) ≠ (0 : Int)) (RQ (0 ≤ Int.tmod p (16 : Int) ∧ Int.tmod p (16 : Int) < (16 : Int)) (enF (entW l (enF (entW l r (IntKind.wrap IntKind.i64 (Int.tdiv p (16 : Int))))) (Int.tmod p (16 : Int))) = enF (pgW l r p) ∧ enT (entW l (enF (entW l r (IntKind.wrap IntKind.i64 (Int.tdiv p (16 : Int))))) (Int.tmod p (16 : Int))) = enT (pgW l r p) ∧ enW (entW l (enF (entW l r (IntKind.wrap IntKind.i64 (Int.tdiv p (16 : Int))))) (Int.tmod p (16 : Int))) = enW (pgW l r p) ∧ enU (entW l (enF (entW l r (IntKind.wrap IntKind.i64 (Int.tdiv p (16 : Int))))) (Int.tmod p (16 : Int))) = enU (pgW l r p) ∧ entOk l (enF (entW l r (IntKind.wrap IntKind.i64 (Int.tdiv p (16 : Int))))) (Int.tmod p (16 : Int)) = pgOk l r p))))))) := by kernel_rfl
theorem cmPage : Con ea has gl 116 kmPage := by
  refine plain_mkB Tryz.func116 36 (con := [(130, kmentry)]) ⟨cmentry, trivial⟩ (fun hA hr hv => ?_) (by kernel_rfl) (by kernel_rfl) Tryz.ntmps116
  unfold kmPage at hr; split at hr
  · rename_i l r p
    have := ret_ok hr; subst this
    refine ⟨_, [], rfl, rfl, .of (argmPage l r p) (by simp), rfl, (fun W R ρ0 own0 hown => noSums (by kernel_rfl)), .of (runmPage gl l r.val p.val) ?_⟩
    delta RQ IT
    clear hr
    clear hA hv
    generalize r.val = r
    generalize p.val = p
    refine ⟨fun h => ?_, fun h => ?_⟩
    · have hk : pgOk l r p = false := by unfold pgOk; simp at h ⊢; omega
      rw [pgW, hk]; exact ⟨rfl, rfl, rfl, rfl, rfl⟩
    · simp at h
      have e : IntKind.i64.wrap (p.tdiv 16) = p / 16 := by rw [Int.tdiv_eq_ediv_of_nonneg (by omega), IntKind.wrap_i64]; omega
      have e' : p.tmod 16 = p % 16 := Int.tmod_eq_emod_of_nonneg (by omega)
      have e2 : pgOk l r p = (entOk l r (p / 16) && entOk l (enF (entW l r (p / 16))) (p % 16)) := by unfold pgOk; simp; omega
      rw [e, e']
      refine ⟨by decide, fun _ => ⟨by omega, fun _ => ⟨fun h1 => ?_, fun h1 => ⟨by decide, fun _ => ⟨by omega, fun _ => ?_⟩⟩⟩⟩⟩
      · have hk : pgOk l r p = false := by rw [e2]; simp at h1; rw [h1]; rfl
        rw [pgW, hk]; exact ⟨rfl, rfl, rfl, rfl, rfl⟩
      · simp at h1
        rw [pgW, e2, h1, Bool.true_and]
        cases hk : entOk l (enF (entW l r (p / 16))) (p % 16) with
        | false =>
          have h5 : entW l (enF (entW l r (p / 16))) (p % 16) = 0 := by rw [entW, hk]; rfl
          rw [h5]; simp
        | true => simp
  · cases hr
def kmWalk : List SVal → Nat → Acc ORes := fun a n => match a with | [.rop [.ro .u32 l], .int .i64 r, .int .u32 a, .bool w, .bool u] => .ret ({ v := .tuple [.int .i64 (.sym (wkA l r.val a.val w.val u.val) 0 16383), .bool (.sym (wkOk l r.val a.val w.val u.val))] }) | _ => .fail "mWalk"
theorem argmWalk (l : List Int) (r a : SI) (w u : SB) : (all (subL tAtN none' [] deep [.rop [.ro .u32 l], .int .i64 r, .int .u32 a, .bool w, .bool u] [.rop [.ro .u32 l], .int .i64 (.full r.val), .int .u32 (.full a.val), .bool (.sym w.val), .bool (.sym u.val)])) = (
  l = l ∧ SI.val r = SI.val r ∧ SI.val a = SI.val a ∧ SB.val w = SB.val w ∧ SB.val u = SB.val u) := by kernel_rfl
theorem runmWalk (gl : List (Nat × SVal)) (l : List Int) (r : Int) (a : Int) (w : Bool) (u : Bool) : (Tr.sat (plainQ (.tuple [.int .i64 (.sym (wkA l r a w u) 0 16383), .bool (.sym (wkOk l r a w u))])) (run (env gl [(116, kmPage), (56, kmFrames)]) [] (bodyOf Tryz.f101) (start [.rop [.ro .u32 l], .int .i64 (.full r), .int .u32 (.full a), .bool (.sym w), .bool (.sym u)] 57) (ends (env gl [(116, kmPage), (56, kmFrames)]) Tryz.f101.results.toList))) = (
  IT (decide ((4096 : Int) ≤ a)) ((0 : Int) = wkA l r a w u ∧ false = wkOk l r a w u) (IT (!pgOk l r (a / Int.ofNat (nat_lit 15 + (1 : Nat))) || w && !enW (pgW l r (a / Int.ofNat (nat_lit 15 + (1 : Nat)))) || u && !enU (pgW l r (a / Int.ofNat (nat_lit 15 + (1 : Nat)))) || decide (frN l ≤ enF (pgW l r (a / Int.ofNat (nat_lit 15 + (1 : Nat)))))) ((0 : Int) = wkA l r a w u ∧ false = wkOk l r a w u) (enF (pgW l r (a / Int.ofNat (nat_lit 15 + (1 : Nat)))) * 16 + a % Int.ofNat (nat_lit 15 + (1 : Nat)) = wkA l r a w u ∧ true = wkOk l r a w u))) := by kernel_rfl
theorem cmWalk : Con ea has gl 101 kmWalk := by
  refine plain_mkB Tryz.func101 57 (con := [(116, kmPage), (56, kmFrames)]) ⟨cmPage, cmFrames, trivial⟩ (fun hA hr hv => ?_) (by kernel_rfl) (by kernel_rfl) Tryz.ntmps101
  unfold kmWalk at hr; split at hr
  · rename_i l r a w u
    have := ret_ok hr; subst this
    refine ⟨_, [], rfl, rfl, .of (argmWalk l r a w u) (by simp), rfl, (fun W R ρ0 own0 hown => noSums (by kernel_rfl)), .of (runmWalk gl l r.val a.val w.val u.val) ?_⟩
    delta IT
    clear hr
    obtain ⟨hl, hW⟩ := mem_fact hA
    obtain ⟨us, hB⟩ := DenA.tl hA
    obtain ⟨us, hB⟩ := DenA.tl hB
    have ha := DenA.i0 hB
    have h0 : 0 ≤ a.val := ha.lo
    clear hA hv hB ha
    generalize r.val = r
    generalize a.val = a at *
    generalize w.val = w
    generalize u.val = u
    rw [show Int.ofNat (15 + 1) = 16 from rfl]
    refine ⟨fun h => ?_, fun h => ?_⟩
    · have hk : wkOk l r a w u = false := by unfold wkOk; simp at h ⊢; omega
      rw [wkA, hk]; exact ⟨rfl, rfl⟩
    · simp at h
      have e : (!pgOk l r (a / 16) || w && !enW (pgW l r (a / 16)) || u && !enU (pgW l r (a / 16)) || decide (frN l ≤ enF (pgW l r (a / 16)))) = !wkOk l r a w u := by
        unfold wkOk
        rw [decide_eq_true (by omega : a < 4096)]
        have : decide (frN l ≤ enF (pgW l r (a / 16))) = !decide (enF (pgW l r (a / 16)) < frN l) := by rw [Bool.eq_iff_iff]; simp
        rw [this]
        cases pgOk l r (a / 16) <;> cases w <;> cases u <;> simp
      rw [e, wkA]
      cases hk : wkOk l r a w u <;> simp
  · cases hr
def krPage : List SVal → Nat → Acc ORes := fun a n => match a with | [.rop [.ro .u32 l], .int .i64 r, .int .i64 p] => .ret ({ v := .tuple [enV (pgW l r.val p.val), .bool (.sym (pgOk l r.val p.val))] }) | _ => .fail "rPage"
theorem argrPage (l : List Int) (r p : SI) : (all (subL tAtN none' [] deep [.rop [.ro .u32 l], .int .i64 r, .int .i64 p] [.rop [.ro .u32 l], .int .i64 (.full r.val), .int .i64 (.full p.val)])) = (
  l = l ∧ SI.val r = SI.val r ∧ SI.val p = SI.val p) := by kernel_rfl
theorem runrPage (gl : List (Nat × SVal)) (l : List Int) (r : Int) (p : Int) : (Tr.sat (plainQ (.tuple [enV (pgW l r p), .bool (.sym (pgOk l r p))])) (run (env gl [(52, krFrames), (77, krRead), (88, krOfBits)]) [] (bodyOf Tryz.f110) (start [.rop [.ro .u32 l], .int .i64 (.full r), .int .i64 (.full p)] 88) (ends (env gl [(52, krFrames), (77, krRead), (88, krOfBits)]) Tryz.f110.results.toList))) = (
  IT (decide (p < 0) || decide ((256 : Int) ≤ p) || decide (r < 0) || decide (frN l ≤ r)) ((0 : Int) = enF (pgW l r p) ∧ false = enT (pgW l r p) ∧ false = enW (pgW l r p) ∧ false = enU (pgW l r p) ∧ false = pgOk l r p) (RQ ((16 : Int) ≠ (0 : Int)) (IT (!enOk (rd l (IntKind.wrap IntKind.i64 (IntKind.wrap IntKind.i64 (r * 16) + IntKind.wrap IntKind.i64 (Int.tdiv p (16 : Int))))) || !enT (rd l (IntKind.wrap IntKind.i64 (IntKind.wrap IntKind.i64 (r * 16) + IntKind.wrap IntKind.i64 (Int.tdiv p (16 : Int))))) || decide (frN l ≤ enF (rd l (IntKind.wrap IntKind.i64 (IntKind.wrap IntKind.i64 (r * 16) + IntKind.wrap IntKind.i64 (Int.tdiv p (16 : Int))))))) ((0 : Int) = enF (pgW l r p) ∧ false = enT (pgW l r p) ∧ false = enW (pgW l r p) ∧ false = enU (pgW l r p) ∧ false = pgOk l r p) (RQ ((16 : Int) ≠ (0 : Int)) (IT (!enOk (rd l (IntKind.wrap IntKind.i64 (enF (rd l (IntKind.wrap IntKind.i64 (IntKind.wrap IntKind.i64 (r * 16) + IntKind.wrap IntKind.i64 (Int.tdiv p (16 : Int))))) * 16 + Int.tmod p (16 : Int)))) || !enT (rd l (IntKind.wrap IntKind.i64 (enF (rd l (IntKind.wrap IntKind.i64 (IntKind.wrap IntKind.i64 (r * 16) + IntKind.wrap IntKind.i64 (Int.tdiv p (16 : Int))))) * 16 + Int.tmod p (16 : Int))))) ((0 : Int) = enF (pgW l r p) ∧ false = enT (pgW l r p) ∧ false = enW (pgW l r p) ∧ false = enU (pgW l r p) ∧ false = pgOk l r p) (enF (rd l (IntKind.wrap IntKind.i64 (enF (rd l (IntKind.wrap IntKind.i64 (IntKind.wrap IntKind.i64 (r * 16) + IntKind.wrap IntKind.i64 (Int.tdiv p (16 : Int))))) * 16 + Int.tmod p (16 : Int)))) = enF (pgW l r p) ∧ enT (rd l (IntKind.wrap IntKind.i64 (enF (rd l (IntKind.wrap IntKind.i64 (IntKind.wrap IntKind.i64 (r * 16) + IntKind.wrap IntKind.i64 (Int.tdiv p (16 : Int))))) * 16 + Int.tmod p (16 : Int)))) = enT (pgW l r p) ∧ enW (rd l (IntKind.wrap IntKind.i64 (enF (rd l (IntKind.wrap IntKind.i64 (IntKind.wrap IntKind.i64 (r * 16) + IntKind.wrap IntKind.i64 (Int.tdiv p (16 : Int))))) * 16 + Int.tmod p (16 : Int)))) = enW (pgW l r p) ∧ enU (rd l (IntKind.wrap IntKind.i64 (enF (rd l (IntKind.wrap IntKind.i64 (IntKind.wrap IntKind.i64 (r * 16) + IntKind.wrap IntKind.i64 (Int.tdiv p (16 : Int))))) * 16 + Int.tmod p (16 : Int)))) = enU (pgW l r p) ∧ true = pgOk l r p)))))) := by kernel_rfl
theorem crPage : Con ea has gl 110 krPage := by
  refine plain_mkB Tryz.func110 88 (con := [(52, krFrames), (77, krRead), (88, krOfBits)]) ⟨crFrames, crRead, crOfBits, trivial⟩ (fun hA hr hv => ?_) (by kernel_rfl) (by kernel_rfl) Tryz.ntmps110
  unfold krPage at hr; split at hr
  · rename_i l r p
    have := ret_ok hr; subst this
    refine ⟨_, [], rfl, rfl, .of (argrPage l r p) (by simp), rfl, (fun W R ρ0 own0 hown => noSums (by kernel_rfl)), .of (runrPage gl l r.val p.val) ?_⟩
    delta RQ IT
    clear hr
    obtain ⟨hl, hW⟩ := mem_fact hA
    have hl : l.length ≤ 9223372036854775807 := hl
    clear hA hv
    generalize r.val = r
    generalize p.val = p
    have hn := frN_in l
    refine ⟨fun h => ?_, fun h => ?_⟩
    · have hk : pgOk l r p = false := by unfold pgOk entOk; simp at h ⊢; omega
      rw [pgW, hk]; exact ⟨rfl, rfl, rfl, rfl, rfl⟩
    · simp at h
      have e : IntKind.i64.wrap (p.tdiv 16) = p / 16 := by rw [Int.tdiv_eq_ediv_of_nonneg (by omega), IntKind.wrap_i64]; omega
      have e' : p.tmod 16 = p % 16 := Int.tmod_eq_emod_of_nonneg (by omega)
      have e1 : IntKind.i64.wrap (IntKind.i64.wrap (r * 16) + p / 16) = r * 16 + p / 16 := by simp only [IntKind.wrap_i64]; omega
      have k1 : entOk l r (p / 16) = enT (rd l (r * 16 + p / 16)) := by unfold entOk; simp; omega
      have hx := enF_in (rd_in hW (r * 16 + p / 16)).1
      rw [e, e', e1]
      have hr1 : decide (0 ≤ p) = true := decide_eq_true (by omega)
      have hr2 : decide (p < 256) = true := decide_eq_true (by omega)
      have hT : ∀ w, (!enOk w || !enT w) = !enT w := fun w => by unfold enT; cases enOk w <;> simp
      rw [hT]
      cases h1 : enT (rd l (r * 16 + p / 16)) with
      | false =>
        have hk : pgOk l r p = false := by unfold pgOk; rw [k1, h1]; simp
        rw [pgW, hk]; simp [en_zero]
      | true =>
        have w1 : entW l r (p / 16) = rd l (r * 16 + p / 16) := by rw [entW, k1, h1, if_pos rfl]
        have e3 : IntKind.i64.wrap (enF (rd l (r * 16 + p / 16)) * 16 + p % 16) = enF (rd l (r * 16 + p / 16)) * 16 + p % 16 := by simp only [IntKind.wrap_i64]; omega
        have k2 : pgOk l r p = entOk l (enF (rd l (r * 16 + p / 16))) (p % 16) := by unfold pgOk; rw [k1, h1, w1, hr1, hr2]; simp
        rw [e3, hT, pgW, k2, w1]
        generalize hf : enF (rd l (r * 16 + p / 16)) = f at *
        have k3 : decide (frN l ≤ f) = true → entOk l f (p % 16) = false := fun h => by unfold entOk; simp at h ⊢; omega
        have k4 : decide (frN l ≤ f) = false → entOk l f (p % 16) = enT (rd l (f * 16 + p % 16)) := fun h => by unfold entOk; simp at h ⊢; omega
        cases h2 : decide (frN l ≤ f) with
        | true => rw [k3 h2]; simp [en_zero]
        | false =>
          have k4 := k4 h2
          cases h3 : enT (rd l (f * 16 + p % 16)) with
          | false => rw [k4, h3]; simp [en_zero]
          | true => rw [h3] at k4; simp [entW, k4, h3]
  · cases hr
def krWalk : List SVal → Nat → Acc ORes := fun a n => match a with | [.rop [.ro .u32 l], .int .i64 r, .int .u32 a, .bool w, .bool u] => .ret ({ v := .tuple [.int .i64 (.sym (wkA l r.val a.val w.val u.val) 0 16383), .bool (.sym (wkOk l r.val a.val w.val u.val))] }) | _ => .fail "rWalk"
theorem argrWalk (l : List Int) (r a : SI) (w u : SB) : (all (subL tAtN none' [] deep [.rop [.ro .u32 l], .int .i64 r, .int .u32 a, .bool w, .bool u] [.rop [.ro .u32 l], .int .i64 (.full r.val), .int .u32 (.full a.val), .bool (.sym w.val), .bool (.sym u.val)])) = (
  l = l ∧ SI.val r = SI.val r ∧ SI.val a = SI.val a ∧ SB.val w = SB.val w ∧ SB.val u = SB.val u) := by kernel_rfl
theorem runrWalk (gl : List (Nat × SVal)) (l : List Int) (r : Int) (a : Int) (w : Bool) (u : Bool) : (Tr.sat (plainQ (.tuple [.int .i64 (.sym (wkA l r a w u) 0 16383), .bool (.sym (wkOk l r a w u))])) (run (env gl [(110, krPage), (52, krFrames)]) [] (bodyOf Tryz.f76) (start [.rop [.ro .u32 l], .int .i64 (.full r), .int .u32 (.full a), .bool (.sym w), .bool (.sym u)] 57) (ends (env gl [(110, krPage), (52, krFrames)]) Tryz.f76.results.toList))) = (
  IT (decide ((4096 : Int) ≤ a)) ((0 : Int) = wkA l r a w u ∧ false = wkOk l r a w u) (IT (!pgOk l r (a / Int.ofNat (nat_lit 15 + (1 : Nat))) || w && !enW (pgW l r (a / Int.ofNat (nat_lit 15 + (1 : Nat)))) || u && !enU (pgW l r (a / Int.ofNat (nat_lit 15 + (1 : Nat)))) || decide (frN l ≤ enF (pgW l r (a / Int.ofNat (nat_lit 15 + (1 : Nat)))))) ((0 : Int) = wkA l r a w u ∧ false = wkOk l r a w u) (enF (pgW l r (a / Int.ofNat (nat_lit 15 + (1 : Nat)))) * 16 + a % Int.ofNat (nat_lit 15 + (1 : Nat)) = wkA l r a w u ∧ true = wkOk l r a w u))) := by kernel_rfl
theorem crWalk : Con ea has gl 76 krWalk := by
  refine plain_mkB Tryz.func76 57 (con := [(110, krPage), (52, krFrames)]) ⟨crPage, crFrames, trivial⟩ (fun hA hr hv => ?_) (by kernel_rfl) (by kernel_rfl) Tryz.ntmps76
  unfold krWalk at hr; split at hr
  · rename_i l r a w u
    have := ret_ok hr; subst this
    refine ⟨_, [], rfl, rfl, .of (argrWalk l r a w u) (by simp), rfl, (fun W R ρ0 own0 hown => noSums (by kernel_rfl)), .of (runrWalk gl l r.val a.val w.val u.val) ?_⟩
    delta IT
    clear hr
    obtain ⟨hl, hW⟩ := mem_fact hA
    obtain ⟨us, hB⟩ := DenA.tl hA
    obtain ⟨us, hB⟩ := DenA.tl hB
    have ha := DenA.i0 hB
    have h0 : 0 ≤ a.val := ha.lo
    clear hA hv hB ha
    generalize r.val = r
    generalize a.val = a at *
    generalize w.val = w
    generalize u.val = u
    rw [show Int.ofNat (15 + 1) = 16 from rfl]
    refine ⟨fun h => ?_, fun h => ?_⟩
    · have hk : wkOk l r a w u = false := by unfold wkOk; simp at h ⊢; omega
      rw [wkA, hk]; exact ⟨rfl, rfl⟩
    · simp at h
      have e : (!pgOk l r (a / 16) || w && !enW (pgW l r (a / 16)) || u && !enU (pgW l r (a / 16)) || decide (frN l ≤ enF (pgW l r (a / 16)))) = !wkOk l r a w u := by
        unfold wkOk
        rw [decide_eq_true (by omega : a < 4096)]
        have : decide (frN l ≤ enF (pgW l r (a / 16))) = !decide (enF (pgW l r (a / 16)) < frN l) := by rw [Bool.eq_iff_iff]; simp
        rw [this]
        cases pgOk l r (a / 16) <;> cases w <;> cases u <;> simp
      rw [e, wkA]
      cases hk : wkOk l r a w u <;> simp
  · cases hr
end
end Go.Proofs.YtpjccdncokamlaaGreatDoor

